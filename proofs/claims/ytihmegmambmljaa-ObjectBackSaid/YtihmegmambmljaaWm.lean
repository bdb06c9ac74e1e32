import Derived.Test.YtihmegmambmljaaPlainI
import Derived.Test.YtihmegmambmljaaWl
import Derived.Test.YtihmegmambmljaaEngO
set_option linter.unusedSimpArgs false
set_option linter.unusedVariables false
set_option maxRecDepth 100000
namespace Go.Kn
open Go.Proofs
theorem oenc_ok (o : ObjL) (Ae Ap : Option Addr) (ce cp : Nat) (w : World) (hoe : Rd w 34 Ae o.Entries.length (o.Entries.flatMap encEnt)) (hop : Rd w 32 Ap o.Parents.length (o.Parents.flatMap idc)) (hok : ObjOk o) (hfw : FewOk o) :
    Fn Try.prog 15 #[.agg ⟨objC o Ae ce Ap cp⟩] w (fun x w' => x = .tuple #[.string (S (oEnc o).1), .int .i64 (oEnc o).2] ∧ Ext w w') := by
  have hx : Ext w w := Ext.rfl' w
  refine enter (N := 33) (args := [.agg ⟨objC o Ae ce Ap cp⟩]) Try.func15 rfl rfl rfl ?_
  intro a ha
  simp only [argEnv, Nat.zero_add, Nat.reduceAdd] at ha
  refine wseq ?_
  refine reg_list ?_
  refine lnew ha rfl (by kernel_rfl) ⟨objC o Ae ce Ap cp⟩ 44 (by kernel_rfl) ?_
  clear ha a; intro bo w1 he hb_bo hB_bo a ha
  replace hb_bo := Nat.le_trans hx.size hb_bo
  replace hx := hx.tr he
  clear he
  refine segp (ρ' := [(1, .pointer (some ⟨bo, 0, none⟩))]) (C := []) ha 2 [] rfl (by kernel_rfl) .nil ?_
  clear ha a; intro a ha
  refine lnil ?_
  replace ha := ha.sub (ρ' := [(1, .pointer (some ⟨bo, 0, none⟩))]) (by kernel_rfl)
  refine tn ?_
  refine wseq ?_
  refine wseq ?_
  refine reg hmix (ρ' := [(1, .pointer (some ⟨bo, 0, none⟩)), (19, .bool (((decide ((4096 : Int) < ((o.Data.length : Nat) : Int))) || (decide ((4096 : Int) < ((o.Text.length : Nat) : Int)))) || (!(oMay o))))]) (C := [RunOk Try.prog w1 (Instr.loadAt 9 (.pointer (some ⟨bo, 1, none⟩))) (.string (S o.Data)), (decide ((4096 : Int) < ((o.Data.length : Nat) : Int))) = false → All [RunOk Try.prog w1 (Instr.loadAt 9 (.pointer (some ⟨bo, 37, none⟩))) (.string (S o.Text))], ((decide ((4096 : Int) < ((o.Data.length : Nat) : Int))) || (decide ((4096 : Int) < ((o.Text.length : Nat) : Int)))) = false → All [RunOk Try.prog w1 (Instr.loadAt 44 (.pointer (some ⟨bo, 0, none⟩))) (.agg ⟨objC o Ae ce Ap cp⟩), CallOk Try.prog w1 31 #[.agg ⟨objC o Ae ce Ap cp⟩] (.bool (oMay o))]]) ha [(1, .val (.string (S o.Data))), (6, .val (.string (S o.Text))), (11, .val (.agg ⟨objC o Ae ce Ap cp⟩)), (12, .val (.bool (oMay o)))] (by kernel_rfl) (.cons (ld1 hB_bo (by kernel_rfl) (by kernel_rfl)) (.cons (fun hg5 => by replace hg5 := of_decide_eq_false hg5; exact (.cons (ld1 hB_bo (by kernel_rfl) (by kernel_rfl)) .nil)) (.cons (fun hg11 => by simp only [Bool.not_eq_true', Bool.not_eq_false', Bool.and_eq_true, Bool.or_eq_true, Bool.and_eq_false_iff, Bool.or_eq_false_iff, decide_eq_true_eq, decide_eq_false_iff_not, Bool.not_eq_true, Decidable.not_not] at hg11; exact (.cons (ldN (n := 72) hB_bo (by kernel_rfl) (by kernel_rfl) ⟨Nat.le_of_ble_eq_true (by kernel_rfl), (by kernel_rfl)⟩) (.cons (fun w2 h2 => may_ok o _ _ _ _ w2 (rdE h2 (rdE hx hoe)) (rdE h2 (rdE hx hop)) hok) .nil))) .nil))) ?_
  clear ha a; intro a w2 ha he
  replace hx := hx.tr he
  replace hB_bo := keepB he hB_bo
  clear he
  refine tn ?_
  refine wif ha rfl (fun h19 => ?_) (fun h19 => ?_)
  · simp only [Bool.not_eq_true', Bool.not_eq_false', Bool.and_eq_true, Bool.or_eq_true, Bool.and_eq_false_iff, Bool.or_eq_false_iff, decide_eq_true_eq, decide_eq_false_iff_not, Bool.not_eq_true, Decidable.not_not] at h19
    have hres : oEnc o = ([], 1) := by unfold oEnc; rw [if_pos (by rcases h19 with (h | h) | h; exact .inl (by omega); exact .inr (.inl (by omega)); exact .inr (.inr h))]
    refine wseq ?_
    refine regp (ρ' := [(2, .string (S [])), (3, .int .i64 1)]) (C := []) ha [] (by kernel_rfl) .nil ?_
    clear ha a; intro a ha
    refine tn ?_
    refine wret ?_
    refine (tr ?_)
    refine fin ha (.tmp rfl (.tmp rfl .nil)) ?_
    exact ⟨by rw [hres]; rfl, hx⟩
  · simp only [Bool.not_eq_true', Bool.not_eq_false', Bool.and_eq_true, Bool.or_eq_true, Bool.and_eq_false_iff, Bool.or_eq_false_iff, decide_eq_true_eq, decide_eq_false_iff_not, Bool.not_eq_true, Decidable.not_not] at h19
    have hbl := oBody_len hfw
    have htl := vtext_len (oBody o)
    have hl5 : (oneB8 o.Kind).length = 1 := rfl
    have hce : ¬ (4096 < o.Data.length ∨ 4096 < o.Text.length ∨ oMay o = false) := by rintro (h | h | h); exact absurd h19.1.1 (by omega); exact absurd h19.1.2 (by omega); exact absurd h19.2 (by simp [h])
    refine wskip ?_
    refine tn ?_
    refine wseq ?_
    refine regM hmix ha [(1, .val (.int .i64 o.Kind)), (2, .mod), (5, .val (.agg ⟨objC o Ae ce Ap cp⟩)), (6, .val (.string (S (oBody o)))), (7, .val (.string (S (vtext (oBody o)))))] [⟨3, .des, [0], []⟩, ⟨4, .val (.string (S [UInt8.ofNat ((o.Kind % 256) : Int).toNat])), [0], [(23, 3)]⟩] [] [] (ρ' := [(4, .string (S ([UInt8.ofNat ((o.Kind % 256) : Int).toNat] ++ (vtext (oBody o)))))]) [(3, fun u w' => ∃ (b3 : Nat), u = .slice (some ⟨b3, 0, none⟩) 1 1 ∧ w2.heap.size ≤ b3 ∧ w'.heap[b3]? = some (.cells #[.int .u8 (o.Kind % 256)] 5 (0, 0)))] [fun w' => Ext w2 w'] [(1, [0], fun w' => [RunOk Try.prog w' (Instr.loadAt 3 (.pointer (some ⟨bo, 0, none⟩))) (.int .i64 o.Kind)]), (5, [0], fun w' => [RunOk Try.prog w' (Instr.loadAt 44 (.pointer (some ⟨bo, 0, none⟩))) (.agg ⟨objC o Ae ce Ap cp⟩)]), (6, [0], fun w' => [CallOk Try.prog w' 33 #[.agg ⟨objC o Ae ce Ap cp⟩] (.string (S (oBody o)))]), (7, [0], fun w' => [CallOk Try.prog w' 32 #[.string (S (oBody o))] (.string (S (vtext (oBody o))))]), (8, [0], fun w' => [([UInt8.ofNat ((o.Kind % 256) : Int).toNat] : List UInt8).length + ((vtext (oBody o)) : List UInt8).length ≤ 9223372036854775807])] (by kernel_rfl) (fun w' => by kernel_rfl) (fun w' => by kernel_rfl) (by kernel_rfl) (fun w' h => h) ?_ ?_ ?_ ?_ ?_ ?_
    · exact ⟨fun w1 w2 h e => Ext.tr h e, trivial⟩
    · refine ⟨?_, trivial⟩
      · rintro _ w1 w2 ⟨b3, rfl, hb_b3, hB_b3⟩ he
        exact ⟨b3, rfl, hb_b3, keepB he hB_b3⟩
    · refine ⟨⟨?_, trivial⟩, ⟨?_, trivial⟩, ⟨?_, trivial⟩, ⟨?_, trivial⟩, ⟨?_, trivial⟩, trivial⟩
      · intro w' hJ
        have he : Ext w2 w' := hJ
        have hsz := he.size
        replace hx := hx.tr he
        replace hB_bo := keepB he hB_bo
        clear he
        exact (.cons (ld1 hB_bo (by kernel_rfl) (by kernel_rfl)) .nil)
      · intro w' hJ
        have he : Ext w2 w' := hJ
        have hsz := he.size
        replace hx := hx.tr he
        replace hB_bo := keepB he hB_bo
        clear he
        exact (.cons (ldN (n := 72) hB_bo (by kernel_rfl) (by kernel_rfl) ⟨Nat.le_of_ble_eq_true (by kernel_rfl), (by kernel_rfl)⟩) .nil)
      · intro w' hJ
        have he : Ext w2 w' := hJ
        have hsz := he.size
        replace hx := hx.tr he
        replace hB_bo := keepB he hB_bo
        clear he
        exact (.cons (fun w2 h2 => obody_ok o _ _ _ _ w2 (rdE h2 (rdE hx hoe)) (rdE h2 (rdE hx hop)) hok hfw) .nil)
      · intro w' hJ
        have he : Ext w2 w' := hJ
        have hsz := he.size
        replace hx := hx.tr he
        replace hB_bo := keepB he hB_bo
        clear he
        exact (.cons (fun w _ => text_ok _ w (by omega)) .nil)
      · intro w' hJ
        have he : Ext w2 w' := hJ
        have hsz := he.size
        replace hx := hx.tr he
        replace hB_bo := keepB he hB_bo
        clear he
        exact (.cons (by first | omega | (simp only [List.length_cons, List.length_nil, List.length_append, List.length_take, List.length_drop]; omega)) .nil)
    · refine ⟨⟨?_, trivial⟩, ⟨?_, trivial⟩, trivial⟩
      · intro w' hJ
        have he : Ext w2 w' := hJ
        have hsz := he.size
        replace hx := hx.tr he
        replace hB_bo := keepB he hB_bo
        clear he
        refine onewS #[.int .u8 (o.Kind % 256)] 5 1 (by kernel_rfl) ?_
        intro b3 w'' he hb_b3 hB_b3
        exact ⟨⟨b3, rfl, Nat.le_trans hsz hb_b3, hB_b3⟩, he⟩
      · intro w' hJ u0 hu0
        obtain ⟨b3, rfl, hb_b3, hB_b3⟩ := hu0
        have he : Ext w2 w' := hJ
        have hsz := he.size
        replace hx := hx.tr he
        replace hB_bo := keepB he hB_bo
        clear he
        refine ox (m := (some (.val (.string (S [UInt8.ofNat ((o.Kind % 256) : Int).toNat]))))) (v := .string (S [UInt8.ofNat ((o.Kind % 256) : Int).toNat])) (C := [RunOk Try.prog w' (convert 36 9 (.slice (some ⟨b3, 0, none⟩) 1 1)) (.string (S [UInt8.ofNat ((o.Kind % 256) : Int).toNat]))]) (by kernel_rfl) (.cons (cvBlk (e := 5) (zs := [((o.Kind % 256) : Int)]) (by kernel_rfl) (by kernel_rfl) (by kernel_rfl) hB_b3 rfl rfl) .nil) ?_
        intro w'' he
        exact ⟨rfl, he⟩
    · trivial
    · clear ha a; intro a w4 hJ ha
      have he : Ext w2 w4 := hJ
      have hsz := he.size
      replace hx := hx.tr he
      replace hB_bo := keepB he hB_bo
      clear he
      clear hsz
      rw [show (([UInt8.ofNat ((o.Kind % 256) : Int).toNat] ++ (vtext (oBody o))) : List UInt8) = (oEncS o) from rfl] at ha
      refine tn ?_
      refine wseq ?_
      refine wseq ?_
      refine regp (ρ' := [(4, .string (S (oEncS o))), (31, .bool (decide ((4096 : Int) < (((oEncS o).length : Nat) : Int))))]) (C := []) ha [] (by kernel_rfl) .nil ?_
      clear ha a; intro a ha
      refine tn ?_
      refine wif ha rfl (fun h31 => ?_) (fun h31 => ?_)
      · replace h31 := of_decide_eq_true h31
        have hres : oEnc o = ([], 1) := by unfold oEnc; rw [if_neg hce, if_pos (by omega)]
        refine wseq ?_
        refine regp (ρ' := [(2, .string (S [])), (3, .int .i64 1)]) (C := []) ha [] (by kernel_rfl) .nil ?_
        clear ha a; intro a ha
        refine tn ?_
        refine wret ?_
        refine (tr ?_)
        refine fin ha (.tmp rfl (.tmp rfl .nil)) ?_
        exact ⟨by rw [hres]; rfl, hx⟩
      · replace h31 := of_decide_eq_false h31
        have hres : oEnc o = (oEncS o, 0) := by unfold oEnc; rw [if_neg hce, if_neg (by omega)]
        refine wskip ?_
        refine tn ?_
        refine wseq ?_
        refine regp (ρ' := [(2, .string (S (oEncS o))), (3, .int .i64 0)]) (C := []) ha [] (by kernel_rfl) .nil ?_
        clear ha a; intro a ha
        refine tn ?_
        refine wret ?_
        refine fin ha (.tmp rfl (.tmp rfl .nil)) ?_
        exact ⟨by rw [hres]; rfl, hx⟩
end Go.Kn
