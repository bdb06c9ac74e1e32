import Derived.Test.YtihmegmambmljaaWi
set_option linter.unusedSimpArgs false
set_option linter.unusedVariables false
set_option maxRecDepth 100000
namespace Go.Kn
open Go.Proofs
theorem cc_new (b : Nat) (v : Value) (w : World) (hv : oneB v = true) (hB_b : w.heap[b]? = some (.cells #[.pointer none, v] 91 (0, 0))) :
    Fn Try.prog 59 #[.pointer (some ⟨b, 0, none⟩)] w (fun x w' => x = .tuple #[] ∧ Fr [b] w w' ∧ w'.heap[b]? = some (.cells #[.pointer (some ⟨b, 0, none⟩), v] 91 (0, 0))) := by
  have hx : Fr [b] w w := Fr.rfl' _ w
  refine enter (N := 20) (args := [.pointer (some ⟨b, 0, none⟩)]) Try.func59 rfl rfl rfl ?_
  intro a ha
  simp only [argEnv, Nat.zero_add, Nat.reduceAdd] at ha
  refine wseq ?_
  refine regp (ρ' := [(0, .pointer (some ⟨b, 0, none⟩)), (6, .bool true)]) (C := [RunOk Try.prog w (Instr.loadAt 89 (.pointer (some ⟨b, 0, none⟩))) (.pointer none)]) ha [(3, .val (.pointer none)), (4, .raw)] (by kernel_rfl) (.cons (ld1 hB_b (by kernel_rfl) rfl) .nil) ?_
  clear ha a; intro a ha
  refine tn ?_
  refine wif ha rfl (fun h6 => ?_) (fun h6 => ?_)
  ·
    refine reg_list ?_
    refine seg (ρ' := [(11, .pointer (some ⟨b, 0, none⟩)), (13, .pointer (some ⟨b, 0, none⟩))]) (C := [RunOk Try.prog w (convert 89 104 (.pointer (some ⟨b, 0, none⟩))) (.pointer (some ⟨b, 0, none⟩)), RunOk Try.prog w (convert 104 89 (.pointer (some ⟨b, 0, none⟩))) (.pointer (some ⟨b, 0, none⟩))]) ha 7 [(2, .val (.pointer (some ⟨b, 0, none⟩))), (3, .raw), (4, .val (.pointer (some ⟨b, 0, none⟩)))] (by kernel_rfl) (.cons (toUnsafe (t := 91) hB_b (by kernel_rfl) (by kernel_rfl) (by kernel_rfl) (by simp)) (.cons (fromUnsafe (u := 91) hB_b (by kernel_rfl) (by kernel_rfl) (by kernel_rfl) (by kernel_rfl)) .nil)) ?_
    clear ha a; intro a w1 ha he
    replace hx := hx.ext he
    replace hB_b := keepB he hB_b
    clear he
    refine lstore (off := 0) ha rfl rfl (by kernel_rfl) hB_b #[.pointer (some ⟨b, 0, none⟩), v] rfl (by kernel_rfl) (by kernel_rfl) ?_
    clear ha a; intro w2 hc a ha
    replace hx := hx.chg hc (.inl (by simp))
    replace hB_b := hc.at_; clear hc
    refine lnil ?_
    replace ha := ha.sub (ρ' := []) (by kernel_rfl)
    refine finN ha .nil ?_
    exact ⟨rfl, hx, hB_b⟩
  · cases h6
theorem cc_used (b : Nat) (v : Value) (w : World) (hB_b : w.heap[b]? = some (.cells #[.pointer (some ⟨b, 0, none⟩), v] 91 (0, 0))) :
    Fn Try.prog 59 #[.pointer (some ⟨b, 0, none⟩)] w (fun x w' => x = .tuple #[] ∧ Fr [b] w w' ∧ w'.heap[b]? = some (.cells #[.pointer (some ⟨b, 0, none⟩), v] 91 (0, 0))) := by
  have hx : Fr [b] w w := Fr.rfl' _ w
  refine enter (N := 20) (args := [.pointer (some ⟨b, 0, none⟩)]) Try.func59 rfl rfl rfl ?_
  intro a ha
  simp only [argEnv, Nat.zero_add, Nat.reduceAdd] at ha
  refine wseq ?_
  refine regp (ρ' := [(0, .pointer (some ⟨b, 0, none⟩)), (6, .bool false)]) (C := [RunOk Try.prog w (Instr.loadAt 89 (.pointer (some ⟨b, 0, none⟩))) (.pointer (some ⟨b, 0, none⟩))]) ha [(3, .val (.pointer (some ⟨b, 0, none⟩))), (4, .raw)] (by kernel_rfl) (.cons (ld1 hB_b (by kernel_rfl) rfl) .nil) ?_
  clear ha a; intro a ha
  refine tn ?_
  refine wif ha rfl (fun h6 => ?_) (fun h6 => ?_)
  · cases h6
  ·
    refine wseq ?_
    refine regp (ρ' := [(19, .bool false)]) (C := [RunOk Try.prog w (Instr.loadAt 89 (.pointer (some ⟨b, 0, none⟩))) (.pointer (some ⟨b, 0, none⟩)), BinOk Try.prog .neq 89 (.pointer (some ⟨b, 0, none⟩)) (.pointer (some ⟨b, 0, none⟩)) (.bool false)]) ha [(3, .val (.pointer (some ⟨b, 0, none⟩))), (5, .val (.bool false))] (by kernel_rfl) (.cons (ld1 hB_b (by kernel_rfl) rfl) (.cons (neqPtr (te := 91) _ (by kernel_rfl) (by kernel_rfl)) .nil)) ?_
    clear ha a; intro a ha
    refine tn ?_
    refine wif ha rfl (fun h19 => ?_) (fun h19 => ?_)
    · cases h19
    ·
      refine wskip ?_
      refine finN ha .nil ?_
      exact ⟨rfl, hx, hB_b⟩
end Go.Kn
