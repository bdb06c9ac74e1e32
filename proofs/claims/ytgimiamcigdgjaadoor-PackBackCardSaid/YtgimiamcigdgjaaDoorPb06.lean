import Derived.Test.YtgimiamcigdgjaaDoorPb05
import Derived.Test.YtgimiamcigdgjaaDoorPb02
import Derived.Shelf.Strings.Builder1
import Derived.Test.YtgimiamcigdgjaaDoorChecked
section
set_option linter.unusedSimpArgs false
set_option linter.unusedVariables false
set_option maxRecDepth 100000
namespace Go.Kn
open Go.Proofs
theorem cc_new (b : Nat) (v : Value) (w : World) (hv : oneB v = true) (hB_b : w.heap[b]? = some (.cells #[.pointer none, v] 87 (0, 0))) :
    Fn Tryd.prog 65 #[.pointer (some ⟨b, 0, none⟩)] w (fun x w' => x = .tuple #[] ∧ Fr [b] w w' ∧ w'.heap[b]? = some (.cells #[.pointer (some ⟨b, 0, none⟩), v] 87 (0, 0))) := by
  have hx : Fr [b] w w := Fr.rfl' _ w
  refine enter (N := 20) (args := [.pointer (some ⟨b, 0, none⟩)]) Tryd.func65 rfl rfl rfl ?_
  intro a ha
  simp only [argEnv, Nat.zero_add, Nat.reduceAdd] at ha
  refine wseq ?_
  refine regp (ρ' := [(0, .pointer (some ⟨b, 0, none⟩)), (6, .bool true)]) (C := [RunOk Tryd.prog w (Instr.loadAt 85 (.pointer (some ⟨b, 0, none⟩))) (.pointer none)]) ha [(3, .val (.pointer none)), (4, .raw)] (by kernel_rfl) (.cons (ld1 hB_b (by kernel_rfl) rfl) .nil) ?_
  clear ha a; intro a ha
  refine tn ?_
  refine wif ha rfl (fun h6 => ?_) (fun h6 => ?_)
  ·
    refine reg_list ?_
    refine seg (ρ' := [(11, .pointer (some ⟨b, 0, none⟩)), (13, .pointer (some ⟨b, 0, none⟩))]) (C := [RunOk Tryd.prog w (convert 85 127 (.pointer (some ⟨b, 0, none⟩))) (.pointer (some ⟨b, 0, none⟩)), RunOk Tryd.prog w (convert 127 85 (.pointer (some ⟨b, 0, none⟩))) (.pointer (some ⟨b, 0, none⟩))]) ha 7 [(2, .val (.pointer (some ⟨b, 0, none⟩))), (3, .raw), (4, .val (.pointer (some ⟨b, 0, none⟩)))] (by kernel_rfl) (.cons (toUnsafe (t := 87) hB_b (by kernel_rfl) (by kernel_rfl) (by kernel_rfl) (by simp)) (.cons (fromUnsafe (u := 87) hB_b (by kernel_rfl) (by kernel_rfl) (by kernel_rfl) (by kernel_rfl)) .nil)) ?_
    clear ha a; intro a w1 ha he
    replace hx := hx.ext he
    replace hB_b := keepB he hB_b
    clear he
    refine lstore (off := 0) ha rfl rfl (by kernel_rfl) hB_b #[.pointer (some ⟨b, 0, none⟩), v] rfl (by kernel_rfl) (by kernel_rfl) ?_
    clear ha a; intro w2 hc a ha
    replace hx := hx.chg hc (.inl (by simp))
    replace hB_b := hc.at_; clear hc
    refine lnil ?_
    replace ha := ha.sub (ρ' := []) (by kernel_rfl)
    refine finN ha .nil ?_
    exact ⟨rfl, hx, hB_b⟩
  · cases h6
theorem cc_used (b : Nat) (v : Value) (w : World) (hB_b : w.heap[b]? = some (.cells #[.pointer (some ⟨b, 0, none⟩), v] 87 (0, 0))) :
    Fn Tryd.prog 65 #[.pointer (some ⟨b, 0, none⟩)] w (fun x w' => x = .tuple #[] ∧ Fr [b] w w' ∧ w'.heap[b]? = some (.cells #[.pointer (some ⟨b, 0, none⟩), v] 87 (0, 0))) := by
  have hx : Fr [b] w w := Fr.rfl' _ w
  refine enter (N := 20) (args := [.pointer (some ⟨b, 0, none⟩)]) Tryd.func65 rfl rfl rfl ?_
  intro a ha
  simp only [argEnv, Nat.zero_add, Nat.reduceAdd] at ha
  refine wseq ?_
  refine regp (ρ' := [(0, .pointer (some ⟨b, 0, none⟩)), (6, .bool false)]) (C := [RunOk Tryd.prog w (Instr.loadAt 85 (.pointer (some ⟨b, 0, none⟩))) (.pointer (some ⟨b, 0, none⟩))]) ha [(3, .val (.pointer (some ⟨b, 0, none⟩))), (4, .raw)] (by kernel_rfl) (.cons (ld1 hB_b (by kernel_rfl) rfl) .nil) ?_
  clear ha a; intro a ha
  refine tn ?_
  refine wif ha rfl (fun h6 => ?_) (fun h6 => ?_)
  · cases h6
  ·
    refine wseq ?_
    refine regp (ρ' := [(19, .bool false)]) (C := [RunOk Tryd.prog w (Instr.loadAt 85 (.pointer (some ⟨b, 0, none⟩))) (.pointer (some ⟨b, 0, none⟩)), BinOk Tryd.prog .neq 85 (.pointer (some ⟨b, 0, none⟩)) (.pointer (some ⟨b, 0, none⟩)) (.bool false)]) ha [(3, .val (.pointer (some ⟨b, 0, none⟩))), (5, .val (.bool false))] (by kernel_rfl) (.cons (ld1 hB_b (by kernel_rfl) rfl) (.cons (neqPtr (te := 87) _ (by kernel_rfl) (by kernel_rfl)) .nil)) ?_
    clear ha a; intro a ha
    refine tn ?_
    refine wif ha rfl (fun h19 => ?_) (fun h19 => ?_)
    · cases h19
    ·
      refine wskip ?_
      refine finN ha .nil ?_
      exact ⟨rfl, hx, hB_b⟩
end Go.Kn
end
section
set_option linter.unusedSimpArgs false
set_option linter.unusedVariables false
set_option maxRecDepth 100000
namespace Go.Kn
open Go.Proofs
theorem ws_new (B b : Nat) (l : List UInt8) (A : Option Addr) (c : Nat) (q : List UInt8) (hq : l.length + q.length ≤ 140737488355328) (w : World) (hB0 : B ≤ w.heap.size) (hBb : B ≤ b) (hl : l.length + 1 ≤ 140737488355328) (hB_b : w.heap[b]? = some (.cells #[.pointer none, .slice A l.length c] 87 (0, 0))) (ho : Own w B 5 1 A l.length c (bys l)) :
    Fn Tryd.prog 45 #[.pointer (some ⟨b, 0, none⟩), .string (S q)] w (fun x w' => x = .tuple #[.int .i64 ((q.length : Nat) : Int), .nilIface] ∧ Bd 87 w' B b (l ++ q) ∧ Oth B b w w') := by
  have hx : Oth B b w w := Oth.rfl' _ _ w
  refine enter (N := 19) (args := [.pointer (some ⟨b, 0, none⟩), .string (S q)]) Tryd.func45 rfl rfl rfl ?_
  intro a ha
  simp only [argEnv, Nat.zero_add, Nat.reduceAdd] at ha
  refine wseq ?_
  refine regp (ρ' := [(0, .pointer (some ⟨b, 0, none⟩)), (1, .string (S q))]) (C := []) ha [] (by kernel_rfl) .nil ?_
  clear ha a; intro a ha
  refine tn ?_
  refine wseq ?_
  refine reg_list ?_
  refine segp (ρ' := [(0, .pointer (some ⟨b, 0, none⟩)), (1, .string (S q)), (6, .pointer (some ⟨b, 0, none⟩))]) (C := []) ha 1 [] rfl (by kernel_rfl) .nil ?_
  clear ha a; intro a ha
  refine lcall (vs := #[.pointer (some ⟨b, 0, none⟩)]) ha rfl (by kernel_rfl) rfl rfl (by kernel_rfl) (by kernel_rfl) (cc_new b _ w rfl hB_b) ?_
  clear ha a; rintro _ w1 ⟨rfl, hfr, hB'⟩ a ha
  replace ho := ownFr1 hfr hB_b rfl ho
  replace hx := hx.fr hfr hBb (Nat.le_trans hB0 hx.below.size)
  replace hB_b := hB'; clear hB' hfr
  refine lnil ?_
  replace ha := ha.sub (ρ' := [(0, .pointer (some ⟨b, 0, none⟩)), (1, .string (S q))]) (by kernel_rfl)
  refine tn ?_
  refine wseq ?_
  refine reg_list ?_
  refine segp (ρ' := [(1, .string (S q)), (8, .pointer (some ⟨b, 0, none⟩)), (12, .slice A l.length c), (13, .string (S q))]) (C := [RunOk Tryd.prog w1 (Instr.loadAt 50 (.pointer (some ⟨b, 1, none⟩))) (.slice A l.length c)]) ha 6 [(4, .val (.slice A l.length c))] rfl (by kernel_rfl) (.cons (ld1 hB_b (by kernel_rfl) rfl) .nil) ?_
  clear ha a; intro a ha
  refine lappS (q := q) ha rfl (by kernel_rfl) rfl (by kernel_rfl) (by kernel_rfl) (by kernel_rfl) rfl ho rfl (by omega) (Nat.le_trans hB0 hx.below.size) ?_
  clear ha a; intro A2 c3 w4 ho2 hg a ha
  replace hB_b := keepG hg ho rfl hB_b
  replace hx := hx.grown hg ho (Nat.le_trans hB0 hx.below.size)
  clear hg ho
  rw [show ((bys l ++ bys q) : List Value) = bys (l ++ q) from by first | exact bys_pushN _ _ hk | simp] at ho2
  rw [show ((l.length + q.length) : Nat) = (l ++ q).length from by simp] at ha ho2
  refine segp (ρ' := [(1, .string (S q)), (14, .slice A2 ((l ++ q).length) c3), (16, .pointer (some ⟨b, 1, none⟩))]) (C := []) ha 2 [] rfl (by kernel_rfl) .nil ?_
  clear ha a; intro a ha
  refine lstore (off := 1) ha rfl rfl (by kernel_rfl) hB_b #[.pointer (some ⟨b, 0, none⟩), .slice A2 ((l ++ q).length) c3] rfl (by kernel_rfl) (by kernel_rfl) ?_
  clear ha a; intro w5 hc a ha
  replace ho2 := ownC hc hB_b rfl ho2
  replace hx := hx.chg hc hBb (Nat.le_trans hB0 hx.below.size)
  replace hB_b := hc.at_; clear hc
  refine lnil ?_
  replace ha := ha.sub (ρ' := [(1, .string (S q))]) (by kernel_rfl)
  refine tn ?_
  refine wseq ?_
  refine regp (ρ' := [(4, .int .i64 ((q.length : Nat) : Int)), (5, .nilIface)]) (C := []) ha [] (by kernel_rfl) .nil ?_
  clear ha a; intro a ha
  refine tn ?_
  refine wret ?_
  refine fin ha (.tmp rfl (.tmp rfl .nil)) ?_
  exact ⟨rfl, ⟨_, _, _, .inr rfl, hBb, hB_b, ho2⟩, hx⟩
theorem ws_used (B b : Nat) (l : List UInt8) (A : Option Addr) (c : Nat) (q : List UInt8) (hq : l.length + q.length ≤ 140737488355328) (w : World) (hB0 : B ≤ w.heap.size) (hBb : B ≤ b) (hl : l.length + 1 ≤ 140737488355328) (hB_b : w.heap[b]? = some (.cells #[.pointer (some ⟨b, 0, none⟩), .slice A l.length c] 87 (0, 0))) (ho : Own w B 5 1 A l.length c (bys l)) :
    Fn Tryd.prog 45 #[.pointer (some ⟨b, 0, none⟩), .string (S q)] w (fun x w' => x = .tuple #[.int .i64 ((q.length : Nat) : Int), .nilIface] ∧ Bd 87 w' B b (l ++ q) ∧ Oth B b w w') := by
  have hx : Oth B b w w := Oth.rfl' _ _ w
  refine enter (N := 19) (args := [.pointer (some ⟨b, 0, none⟩), .string (S q)]) Tryd.func45 rfl rfl rfl ?_
  intro a ha
  simp only [argEnv, Nat.zero_add, Nat.reduceAdd] at ha
  refine wseq ?_
  refine regp (ρ' := [(0, .pointer (some ⟨b, 0, none⟩)), (1, .string (S q))]) (C := []) ha [] (by kernel_rfl) .nil ?_
  clear ha a; intro a ha
  refine tn ?_
  refine wseq ?_
  refine reg_list ?_
  refine segp (ρ' := [(0, .pointer (some ⟨b, 0, none⟩)), (1, .string (S q)), (6, .pointer (some ⟨b, 0, none⟩))]) (C := []) ha 1 [] rfl (by kernel_rfl) .nil ?_
  clear ha a; intro a ha
  refine lcall (vs := #[.pointer (some ⟨b, 0, none⟩)]) ha rfl (by kernel_rfl) rfl rfl (by kernel_rfl) (by kernel_rfl) (cc_used b _ w hB_b) ?_
  clear ha a; rintro _ w1 ⟨rfl, hfr, hB'⟩ a ha
  replace ho := ownFr1 hfr hB_b rfl ho
  replace hx := hx.fr hfr hBb (Nat.le_trans hB0 hx.below.size)
  replace hB_b := hB'; clear hB' hfr
  refine lnil ?_
  replace ha := ha.sub (ρ' := [(0, .pointer (some ⟨b, 0, none⟩)), (1, .string (S q))]) (by kernel_rfl)
  refine tn ?_
  refine wseq ?_
  refine reg_list ?_
  refine segp (ρ' := [(1, .string (S q)), (8, .pointer (some ⟨b, 0, none⟩)), (12, .slice A l.length c), (13, .string (S q))]) (C := [RunOk Tryd.prog w1 (Instr.loadAt 50 (.pointer (some ⟨b, 1, none⟩))) (.slice A l.length c)]) ha 6 [(4, .val (.slice A l.length c))] rfl (by kernel_rfl) (.cons (ld1 hB_b (by kernel_rfl) rfl) .nil) ?_
  clear ha a; intro a ha
  refine lappS (q := q) ha rfl (by kernel_rfl) rfl (by kernel_rfl) (by kernel_rfl) (by kernel_rfl) rfl ho rfl (by omega) (Nat.le_trans hB0 hx.below.size) ?_
  clear ha a; intro A2 c3 w4 ho2 hg a ha
  replace hB_b := keepG hg ho rfl hB_b
  replace hx := hx.grown hg ho (Nat.le_trans hB0 hx.below.size)
  clear hg ho
  rw [show ((bys l ++ bys q) : List Value) = bys (l ++ q) from by first | exact bys_pushN _ _ hk | simp] at ho2
  rw [show ((l.length + q.length) : Nat) = (l ++ q).length from by simp] at ha ho2
  refine segp (ρ' := [(1, .string (S q)), (14, .slice A2 ((l ++ q).length) c3), (16, .pointer (some ⟨b, 1, none⟩))]) (C := []) ha 2 [] rfl (by kernel_rfl) .nil ?_
  clear ha a; intro a ha
  refine lstore (off := 1) ha rfl rfl (by kernel_rfl) hB_b #[.pointer (some ⟨b, 0, none⟩), .slice A2 ((l ++ q).length) c3] rfl (by kernel_rfl) (by kernel_rfl) ?_
  clear ha a; intro w5 hc a ha
  replace ho2 := ownC hc hB_b rfl ho2
  replace hx := hx.chg hc hBb (Nat.le_trans hB0 hx.below.size)
  replace hB_b := hc.at_; clear hc
  refine lnil ?_
  replace ha := ha.sub (ρ' := [(1, .string (S q))]) (by kernel_rfl)
  refine tn ?_
  refine wseq ?_
  refine regp (ρ' := [(4, .int .i64 ((q.length : Nat) : Int)), (5, .nilIface)]) (C := []) ha [] (by kernel_rfl) .nil ?_
  clear ha a; intro a ha
  refine tn ?_
  refine wret ?_
  refine fin ha (.tmp rfl (.tmp rfl .nil)) ?_
  exact ⟨rfl, ⟨_, _, _, .inr rfl, hBb, hB_b, ho2⟩, hx⟩
theorem wr_new (B b : Nat) (l : List UInt8) (A : Option Addr) (c g off c2 T : Nat) (cs : Array Value) (fz : Nat × Nat) (q : List UInt8) (hq : l.length + q.length ≤ 140737488355328) (w : World) (hBg : w.heap[g]? = some (.cells cs T fz)) (hgb : g ≠ b) (hT : Nat.beq T 5 = false) (hcs : (cs.toList.drop off).take q.length = bys q) (hB0 : B ≤ w.heap.size) (hBb : B ≤ b) (hB_b : w.heap[b]? = some (.cells #[.pointer none, .slice A l.length c] 87 (0, 0))) (ho : Own w B 5 1 A l.length c (bys l)) :
    Fn Tryd.prog 51 #[.pointer (some ⟨b, 0, none⟩), .slice (some ⟨g, off, none⟩) q.length c2] w (fun x w' => x = .tuple #[.int .i64 ((q.length : Nat) : Int), .nilIface] ∧ Bd 87 w' B b (l ++ q) ∧ Oth B b w w') := by
  have hx : Oth B b w w := Oth.rfl' _ _ w
  refine enter (N := 19) (args := [.pointer (some ⟨b, 0, none⟩), .slice (some ⟨g, off, none⟩) q.length c2]) Tryd.func51 rfl rfl rfl ?_
  intro a ha
  simp only [argEnv, Nat.zero_add, Nat.reduceAdd] at ha
  refine wseq ?_
  refine regp (ρ' := [(0, .pointer (some ⟨b, 0, none⟩)), (1, .slice (some ⟨g, off, none⟩) q.length c2)]) (C := []) ha [] (by kernel_rfl) .nil ?_
  clear ha a; intro a ha
  refine tn ?_
  refine wseq ?_
  refine reg_list ?_
  refine segp (ρ' := [(0, .pointer (some ⟨b, 0, none⟩)), (1, .slice (some ⟨g, off, none⟩) q.length c2), (6, .pointer (some ⟨b, 0, none⟩))]) (C := []) ha 1 [] rfl (by kernel_rfl) .nil ?_
  clear ha a; intro a ha
  refine lcall (vs := #[.pointer (some ⟨b, 0, none⟩)]) ha rfl (by kernel_rfl) rfl rfl (by kernel_rfl) (by kernel_rfl) (cc_new b _ w rfl hB_b) ?_
  clear ha a; rintro _ w1 ⟨rfl, hfr, hB'⟩ a ha
  replace ho := ownFr1 hfr hB_b rfl ho
  replace hx := hx.fr hfr hBb (Nat.le_trans hB0 hx.below.size)
  replace hB_b := hB'; clear hB' hfr
  refine lnil ?_
  replace ha := ha.sub (ρ' := [(0, .pointer (some ⟨b, 0, none⟩)), (1, .slice (some ⟨g, off, none⟩) q.length c2)]) (by kernel_rfl)
  refine tn ?_
  refine wseq ?_
  refine reg_list ?_
  refine segp (ρ' := [(1, .slice (some ⟨g, off, none⟩) q.length c2), (8, .pointer (some ⟨b, 0, none⟩)), (12, .slice A l.length c), (13, .slice (some ⟨g, off, none⟩) q.length c2)]) (C := [RunOk Tryd.prog w1 (Instr.loadAt 50 (.pointer (some ⟨b, 1, none⟩))) (.slice A l.length c)]) ha 6 [(4, .val (.slice A l.length c))] rfl (by kernel_rfl) (.cons (ld1 hB_b (by kernel_rfl) rfl) .nil) ?_
  clear ha a; intro a ha
  refine lapp (by_ := 1) ha rfl (by kernel_rfl) rfl (by kernel_rfl) rfl ho rfl (bys q) (by simp) (news_rd (rd_bytes (hx.cells hBg hgb hT) hcs)) (bys_one _) (by omega) (by omega) (Nat.le_trans hB0 hx.below.size) ?_
  clear ha a; intro A2 c3 w4 ho2 hg a ha
  replace hB_b := keepG hg ho rfl hB_b
  replace hx := hx.grown hg ho (Nat.le_trans hB0 hx.below.size)
  clear hg ho
  rw [show ((bys l ++ bys q) : List Value) = bys (l ++ q) from by simp] at ho2
  rw [show ((l.length + q.length) : Nat) = (l ++ q).length from by simp] at ha ho2
  refine segp (ρ' := [(1, .slice (some ⟨g, off, none⟩) q.length c2), (14, .slice A2 ((l ++ q).length) c3), (16, .pointer (some ⟨b, 1, none⟩))]) (C := []) ha 2 [] rfl (by kernel_rfl) .nil ?_
  clear ha a; intro a ha
  refine lstore (off := 1) ha rfl rfl (by kernel_rfl) hB_b #[.pointer (some ⟨b, 0, none⟩), .slice A2 ((l ++ q).length) c3] rfl (by kernel_rfl) (by kernel_rfl) ?_
  clear ha a; intro w5 hc a ha
  replace ho2 := ownC hc hB_b rfl ho2
  replace hx := hx.chg hc hBb (Nat.le_trans hB0 hx.below.size)
  replace hB_b := hc.at_; clear hc
  refine lnil ?_
  replace ha := ha.sub (ρ' := [(1, .slice (some ⟨g, off, none⟩) q.length c2)]) (by kernel_rfl)
  refine tn ?_
  refine wseq ?_
  refine regp (ρ' := [(4, .int .i64 ((q.length : Nat) : Int)), (5, .nilIface)]) (C := []) ha [] (by kernel_rfl) .nil ?_
  clear ha a; intro a ha
  refine tn ?_
  refine wret ?_
  refine fin ha (.tmp rfl (.tmp rfl .nil)) ?_
  exact ⟨rfl, ⟨_, _, _, .inr rfl, hBb, hB_b, ho2⟩, hx⟩
theorem wr_used (B b : Nat) (l : List UInt8) (A : Option Addr) (c g off c2 T : Nat) (cs : Array Value) (fz : Nat × Nat) (q : List UInt8) (hq : l.length + q.length ≤ 140737488355328) (w : World) (hBg : w.heap[g]? = some (.cells cs T fz)) (hgb : g ≠ b) (hT : Nat.beq T 5 = false) (hcs : (cs.toList.drop off).take q.length = bys q) (hB0 : B ≤ w.heap.size) (hBb : B ≤ b) (hB_b : w.heap[b]? = some (.cells #[.pointer (some ⟨b, 0, none⟩), .slice A l.length c] 87 (0, 0))) (ho : Own w B 5 1 A l.length c (bys l)) :
    Fn Tryd.prog 51 #[.pointer (some ⟨b, 0, none⟩), .slice (some ⟨g, off, none⟩) q.length c2] w (fun x w' => x = .tuple #[.int .i64 ((q.length : Nat) : Int), .nilIface] ∧ Bd 87 w' B b (l ++ q) ∧ Oth B b w w') := by
  have hx : Oth B b w w := Oth.rfl' _ _ w
  refine enter (N := 19) (args := [.pointer (some ⟨b, 0, none⟩), .slice (some ⟨g, off, none⟩) q.length c2]) Tryd.func51 rfl rfl rfl ?_
  intro a ha
  simp only [argEnv, Nat.zero_add, Nat.reduceAdd] at ha
  refine wseq ?_
  refine regp (ρ' := [(0, .pointer (some ⟨b, 0, none⟩)), (1, .slice (some ⟨g, off, none⟩) q.length c2)]) (C := []) ha [] (by kernel_rfl) .nil ?_
  clear ha a; intro a ha
  refine tn ?_
  refine wseq ?_
  refine reg_list ?_
  refine segp (ρ' := [(0, .pointer (some ⟨b, 0, none⟩)), (1, .slice (some ⟨g, off, none⟩) q.length c2), (6, .pointer (some ⟨b, 0, none⟩))]) (C := []) ha 1 [] rfl (by kernel_rfl) .nil ?_
  clear ha a; intro a ha
  refine lcall (vs := #[.pointer (some ⟨b, 0, none⟩)]) ha rfl (by kernel_rfl) rfl rfl (by kernel_rfl) (by kernel_rfl) (cc_used b _ w hB_b) ?_
  clear ha a; rintro _ w1 ⟨rfl, hfr, hB'⟩ a ha
  replace ho := ownFr1 hfr hB_b rfl ho
  replace hx := hx.fr hfr hBb (Nat.le_trans hB0 hx.below.size)
  replace hB_b := hB'; clear hB' hfr
  refine lnil ?_
  replace ha := ha.sub (ρ' := [(0, .pointer (some ⟨b, 0, none⟩)), (1, .slice (some ⟨g, off, none⟩) q.length c2)]) (by kernel_rfl)
  refine tn ?_
  refine wseq ?_
  refine reg_list ?_
  refine segp (ρ' := [(1, .slice (some ⟨g, off, none⟩) q.length c2), (8, .pointer (some ⟨b, 0, none⟩)), (12, .slice A l.length c), (13, .slice (some ⟨g, off, none⟩) q.length c2)]) (C := [RunOk Tryd.prog w1 (Instr.loadAt 50 (.pointer (some ⟨b, 1, none⟩))) (.slice A l.length c)]) ha 6 [(4, .val (.slice A l.length c))] rfl (by kernel_rfl) (.cons (ld1 hB_b (by kernel_rfl) rfl) .nil) ?_
  clear ha a; intro a ha
  refine lapp (by_ := 1) ha rfl (by kernel_rfl) rfl (by kernel_rfl) rfl ho rfl (bys q) (by simp) (news_rd (rd_bytes (hx.cells hBg hgb hT) hcs)) (bys_one _) (by omega) (by omega) (Nat.le_trans hB0 hx.below.size) ?_
  clear ha a; intro A2 c3 w4 ho2 hg a ha
  replace hB_b := keepG hg ho rfl hB_b
  replace hx := hx.grown hg ho (Nat.le_trans hB0 hx.below.size)
  clear hg ho
  rw [show ((bys l ++ bys q) : List Value) = bys (l ++ q) from by simp] at ho2
  rw [show ((l.length + q.length) : Nat) = (l ++ q).length from by simp] at ha ho2
  refine segp (ρ' := [(1, .slice (some ⟨g, off, none⟩) q.length c2), (14, .slice A2 ((l ++ q).length) c3), (16, .pointer (some ⟨b, 1, none⟩))]) (C := []) ha 2 [] rfl (by kernel_rfl) .nil ?_
  clear ha a; intro a ha
  refine lstore (off := 1) ha rfl rfl (by kernel_rfl) hB_b #[.pointer (some ⟨b, 0, none⟩), .slice A2 ((l ++ q).length) c3] rfl (by kernel_rfl) (by kernel_rfl) ?_
  clear ha a; intro w5 hc a ha
  replace ho2 := ownC hc hB_b rfl ho2
  replace hx := hx.chg hc hBb (Nat.le_trans hB0 hx.below.size)
  replace hB_b := hc.at_; clear hc
  refine lnil ?_
  replace ha := ha.sub (ρ' := [(1, .slice (some ⟨g, off, none⟩) q.length c2)]) (by kernel_rfl)
  refine tn ?_
  refine wseq ?_
  refine regp (ρ' := [(4, .int .i64 ((q.length : Nat) : Int)), (5, .nilIface)]) (C := []) ha [] (by kernel_rfl) .nil ?_
  clear ha a; intro a ha
  refine tn ?_
  refine wret ?_
  refine fin ha (.tmp rfl (.tmp rfl .nil)) ?_
  exact ⟨rfl, ⟨_, _, _, .inr rfl, hBb, hB_b, ho2⟩, hx⟩
theorem ws_ok (B b : Nat) (l : List UInt8) (q : List UInt8) (hq : l.length + q.length ≤ 140737488355328) (w : World) (hB0 : B ≤ w.heap.size) (hl : l.length + 1 ≤ 140737488355328) (h : Bd 87 w B b l) :
    Fn Tryd.prog 45 #[.pointer (some ⟨b, 0, none⟩), .string (S q)] w (fun x w' => x = .tuple #[.int .i64 ((q.length : Nat) : Int), .nilIface] ∧ Bd 87 w' B b (l ++ q) ∧ Oth B b w w') := by
  obtain ⟨p, A, c, hp, hBb, hB, ho⟩ := h
  rcases hp with rfl | rfl
  · exact ws_new B b l A c q hq w hB0 hBb hl hB ho
  · exact ws_used B b l A c q hq w hB0 hBb hl hB ho
theorem wr_ok (B b : Nat) (l : List UInt8) (g off c2 T : Nat) (cs : Array Value) (fz : Nat × Nat) (q : List UInt8) (hq : l.length + q.length ≤ 140737488355328) (w : World) (hBg : w.heap[g]? = some (.cells cs T fz)) (hgb : g ≠ b) (hT : Nat.beq T 5 = false) (hcs : (cs.toList.drop off).take q.length = bys q) (hB0 : B ≤ w.heap.size) (h : Bd 87 w B b l) :
    Fn Tryd.prog 51 #[.pointer (some ⟨b, 0, none⟩), .slice (some ⟨g, off, none⟩) q.length c2] w (fun x w' => x = .tuple #[.int .i64 ((q.length : Nat) : Int), .nilIface] ∧ Bd 87 w' B b (l ++ q) ∧ Oth B b w w') := by
  obtain ⟨p, A, c, hp, hBb, hB, ho⟩ := h
  rcases hp with rfl | rfl
  · exact wr_new B b l A c g off c2 T cs fz q hq w hBg hgb hT hcs hB0 hBb hB ho
  · exact wr_used B b l A c g off c2 T cs fz q hq w hBg hgb hT hcs hB0 hBb hB ho
theorem wrId_ok (B b : Nat) (l : List UInt8) (g off c2 T : Nat) (cs : Array Value) (fz : Nat × Nat) (x : Id) (hq : l.length + 32 ≤ 140737488355328) (w : World) (hBg : w.heap[g]? = some (.cells cs T fz)) (hgb : g ≠ b) (hT : Nat.beq T 5 = false) (hcs : (cs.toList.drop off).take 32 = idc x) (hB0 : B ≤ w.heap.size) (h : Bd 87 w B b l) :
    Fn Tryd.prog 51 #[.pointer (some ⟨b, 0, none⟩), .slice (some ⟨g, off, none⟩) 32 c2] w (fun v w' => v = .tuple #[.int .i64 32, .nilIface] ∧ Bd 87 w' B b (l ++ x.l) ∧ Oth B b w w') := by
  have := wr_ok B b l g off c2 T cs fz x.l (by rw [x.h]; exact hq) w hBg hgb hT (by rw [x.h, hcs, idc_eq]) hB0 h
  rw [x.h] at this
  exact this
end Go.Kn
end
section
set_option linter.unusedVariables false
namespace Go.Kn
open Go.Proofs Go.Shelf
def ren169 : Ren := ⟨fun | 169 => 50 | n => n, fun | 70 => 85 | 72 => 87 | 37 => 50 | 127 => 114 | n => n, fun n => n⟩
theorem lays169 : Lays.n169 Tryd.prog ren169 := {
  mixed := by kernel_rfl,
  f169 := by kernel_rfl,
  t0 := by kernel_rfl,
  a0 := fun w => by kernel_rfl,
  z0 := fun w => by kernel_rfl,
  v0 := fun w => by kernel_rfl,
  t3 := by kernel_rfl,
  a3 := fun w => by kernel_rfl,
  z3 := fun w => by kernel_rfl,
  v3 := fun w => by kernel_rfl,
  t9 := by kernel_rfl,
  a9 := fun w => by kernel_rfl,
  z9 := fun w => by kernel_rfl,
  v9 := fun w => by kernel_rfl,
  t37 := by kernel_rfl,
  a37 := fun w => by kernel_rfl,
  z37 := fun w => by kernel_rfl,
  v37 := fun w => by kernel_rfl,
  t70 := by kernel_rfl,
  a70 := fun w => by kernel_rfl,
  z70 := fun w => by kernel_rfl,
  v70 := fun w => by kernel_rfl,
  t72 := by kernel_rfl,
  a72 := fun w => by kernel_rfl,
  z72 := fun w => by kernel_rfl,
  v72 := fun w => by kernel_rfl,
  t127 := by kernel_rfl,
  a127 := fun w => by kernel_rfl,
  z127 := fun w => by kernel_rfl,
  v127 := fun w => by kernel_rfl }
theorem x72_169 : Builder.X72 Tryd.prog ren169 := {
  sizeBuilder := by kernel_rfl,
  liesBuilder := by kernel_rfl }
theorem extra169 : Builder.Extra Tryd.prog ren169 := {
  toX72 := x72_169, t5 := by kernel_rfl, a5 := fun w => by kernel_rfl, z5 := fun w => by kernel_rfl, v5 := fun w => by kernel_rfl, infoByte := by kernel_rfl, cellsByte := by kernel_rfl, sizeByte := by kernel_rfl, neB5 := by decide }
theorem bd_is {T B b : Nat} {w : World} {l : List UInt8} (hT : Nat.beq T 5 = false) (h : Bd T w B b l) : Lib.IsBuilder T 5 B b (Lib.byteCells l) w := by
  obtain ⟨p, A, c, hp, hBb, hB, ho⟩ := h
  have hat : Lib.BuilderAt T 5 B b (.pointer p) (Lib.byteCells l) w := by
    refine ⟨hBb, .slice A l.length c, hB, ?_, ?_⟩
    · have : (Lib.byteCells l).length = l.length := by simp [Lib.byteCells]
      rw [this]; exact ho
    · intro e
      rcases ho.2 with ⟨h0, h1⟩ | ⟨g, cap, cur, hv, _, hg, _⟩
      · rw [h0] at e; simp [Value.ownBlock] at e
      · rw [hv] at e
        simp only [Value.ownBlock, Option.some.injEq] at e
        subst e
        rw [hB] at hg
        cases hg
        exact beqN_ne hT rfl
  rcases hp with rfl | rfl
  · exact .inl hat
  · exact .inr hat
theorem bstr_ok (B b : Nat) (l : List UInt8) (w : World) (hB0 : B ≤ w.heap.size) (h : Bd 87 w B b l) : Fn Tryd.prog 50 #[.pointer (some ⟨b, 0, none⟩)] w (fun x w' => x = .string (S l) ∧ Go.RowKit.Below B w w') :=
  Calls.mono (Any.Builder_String_any lays169 extra169 B b l w (bd_is (T := 87) rfl h) hB0) fun e w' ⟨h1, h2⟩ => ⟨_, h1, rfl, h2⟩
end Go.Kn
end
section
set_option linter.unusedSimpArgs false
set_option linter.unusedVariables false
set_option maxRecDepth 100000
namespace Go.Kn
open Go.Proofs
end Go.Kn
end
section
set_option linter.unusedSimpArgs false
set_option linter.unusedVariables false
set_option maxRecDepth 100000
namespace Go.Kn
open Go.Proofs
end Go.Kn
end
section
set_option linter.unusedSimpArgs false
set_option linter.unusedVariables false
set_option maxRecDepth 100000
namespace Go.Kn
open Go.Proofs
theorem take_snoc {α : Type} [Inhabited α] (l : List α) (i : Nat) (h : i < l.length) : l.take (i + 1) = l.take i ++ [l.getD i default] := by
  have := map_take_succ id l i h
  simpa using this
theorem take_ok (l : List UInt8) (w : World) (hl : l.length ≤ 9223372036854775807) :
    Fn Tryd.prog 79 #[.string (S l)] w (fun x w' => x = .tuple #[.string (S (vtake l).1), .string (S (vtake l).2.1), .int .i64 (((vtake l).2.2 : Nat) : Int)] ∧ Ext w w') := by
  have hx : Ext w w := Ext.rfl' w
  refine enter (N := 29) (args := [.string (S l)]) Tryd.func79 rfl rfl rfl ?_
  intro a ha
  simp only [argEnv, Nat.zero_add, Nat.reduceAdd] at ha
  refine wseq ?_
  refine regp (ρ' := [(0, .string (S l))]) (C := []) ha [] (by kernel_rfl) .nil ?_
  clear ha a; intro a ha
  refine tn ?_
  refine wseq ?_
  refine reg hmix (ρ' := [(5, .int .u64 (((vget l).1 : Nat) : Int)), (6, .string (S ((vget l).2.1))), (7, .int .i64 (((vget l).2.2 : Nat) : Int))]) (C := [CallOk Tryd.prog w 77 #[.string (S l)] (.tuple #[.int .u64 (((vget l).1 : Nat) : Int), .string (S ((vget l).2.1)), .int .i64 (((vget l).2.2 : Nat) : Int)])]) ha [(1, .val (.tuple #[.int .u64 (((vget l).1 : Nat) : Int), .string (S ((vget l).2.1)), .int .i64 (((vget l).2.2 : Nat) : Int)]))] (by kernel_rfl) (.cons (fun w _ => get_ok _ w (by omega)) .nil) ?_
  clear ha a; intro a w1 ha he
  replace hx := hx.tr he
  clear he
  have hgl := vget_len l
  have hg64 := vget_lt l
  refine tn ?_
  refine wseq ?_
  refine wseq ?_
  refine regp (ρ' := [(5, .int .u64 (((vget l).1 : Nat) : Int)), (6, .string (S ((vget l).2.1))), (22, .bool ((!decide ((((vget l).2.2 : Nat) : Int) = 0)) || (decide (((((vget l).2.1).length : Nat) : Int) < (((vget l).1 : Nat) : Int)))))]) (C := [(!decide ((((vget l).2.2 : Nat) : Int) = 0)) = false → All [InR .u64 ((((vget l).2.1).length : Nat) : Int)]]) ha [] (by kernel_rfl) (.cons (fun hg3 => by simp only [Bool.not_eq_true', Bool.not_eq_false', Bool.and_eq_true, Bool.or_eq_true, Bool.and_eq_false_iff, Bool.or_eq_false_iff, decide_eq_true_eq, decide_eq_false_iff_not, Bool.not_eq_true, Decidable.not_not] at hg3; exact (.cons (by unfold InR; omega) .nil)) .nil) ?_
  clear ha a; intro a ha
  refine tn ?_
  refine wif ha rfl (fun h22 => ?_) (fun h22 => ?_)
  · simp only [Bool.not_eq_true', Bool.not_eq_false', Bool.and_eq_true, Bool.or_eq_true, Bool.and_eq_false_iff, Bool.or_eq_false_iff, decide_eq_true_eq, decide_eq_false_iff_not, Bool.not_eq_true, Decidable.not_not] at h22
    have hres : vtake l = ([], [], 2) := by unfold vtake; rw [if_pos (by omega)]
    refine wseq ?_
    refine regp (ρ' := [(2, .string (S [])), (3, .string (S [])), (4, .int .i64 2)]) (C := []) ha [] (by kernel_rfl) .nil ?_
    clear ha a; intro a ha
    refine tn ?_
    refine wret ?_
    refine (tr ?_)
    refine fin ha (.tmp rfl (.tmp rfl (.tmp rfl .nil))) ?_
    exact ⟨by rw [hres]; rfl, hx⟩
  · simp only [Bool.not_eq_true', Bool.not_eq_false', Bool.and_eq_true, Bool.or_eq_true, Bool.and_eq_false_iff, Bool.or_eq_false_iff, decide_eq_true_eq, decide_eq_false_iff_not, Bool.not_eq_true, Decidable.not_not] at h22
    have hres : vtake l = ((vget l).2.1.take (vget l).1, (vget l).2.1.drop (vget l).1, 0) := by unfold vtake; rw [if_neg (by omega)]
    refine wskip ?_
    refine tn ?_
    refine wseq ?_
    refine reg hmix (ρ' := [(2, .string (S (((vget l).2.1).take ((vget l).1)))), (3, .string (S (((vget l).2.1).drop ((vget l).1)))), (4, .int .i64 0)]) (C := [0 ≤ (((vget l).1 : Nat) : Int) ∧ (((vget l).1 : Nat) : Int) ≤ (((vget l).2.1).length : Int), 0 ≤ (((vget l).1 : Nat) : Int) ∧ (((vget l).1 : Nat) : Int) ≤ (((vget l).2.1).length : Int)]) ha [] (by kernel_rfl) (.cons ⟨by omega, by omega⟩ (.cons ⟨by omega, by omega⟩ .nil)) ?_
    clear ha a; intro a w2 ha he
    replace hx := hx.tr he
    clear he
    refine tn ?_
    refine wret ?_
    refine fin ha (.tmp rfl (.tmp rfl (.tmp rfl .nil))) ?_
    exact ⟨by rw [hres]; rfl, hx⟩
end Go.Kn
end
section
/- The engine: copy of a longer text; arrays inside a struct. -/
set_option linter.unusedSimpArgs false
set_option linter.unusedVariables false
namespace Go.Kn
open Go.RowKit (Below)
section
variable {P : Program} {w : World}
theorem run_copy_long (dT sT ty elem : TypeId) (g o dLen dCap : Nat) (s : ByteArray) (cur : Array Value) (t : TypeId)
    (hu : P.underlying dT = some (.slice elem)) (hs : (P.info? elem).map (·.size) = some 1) (hg : w.heap[g]? = some (.cells cur t (0, 0))) (hle : dLen ≤ s.size) (hfit : o + dLen ≤ cur.size) :
    (Builtin.copy_ #[dT, sT] ty #[.slice (some ⟨g, o, none⟩) dLen dCap, .string s]).run P w =
      .ok (goInt dLen) (w.setRow g (cur.toList.take o ++ (Go.Lib.byteCells s.data.toList).take dLen ++ cur.toList.drop (o + dLen)).toArray) := by
  have hsz : s.data.toList.length = s.size := by rw [← Go.Lib.size_eq]
  have hlen : ((Go.Lib.byteCells s.data.toList).take dLen).length = dLen := by rw [List.length_take, Go.Lib.byteCells_length, hsz]; omega
  have hst := run_storeCells_at P g o t ((Go.Lib.byteCells s.data.toList).take dLen) 0 cur w hg (by rw [hlen]; simpa using hfit) (fun v hv => Go.Lib.byteCells_one _ v (List.mem_of_mem_take hv))
  have hmin : Nat.min s.size dLen = dLen := Nat.min_eq_right hle
  have htk : List.take dLen (List.map (fun b : UInt8 => Value.int IntKind.u8 (b.toNat : Int)) s.data.toList) = (Go.Lib.byteCells s.data.toList).take dLen := rfl
  rw [hlen] at hst
  simp only [Nat.add_zero] at hst
  cases hq : P.info? elem with
  | none => simp [hq] at hs
  | some i =>
    simp [Builtin.copy_, run_underlying hu, Builtin.lenOf, Builtin.firstCells, sizeOf, typeInfo, hq, hmin]
    rw [htk, hst]
    simp [Result.andThen]
variable {Q : Exit → Act → World → Prop} {a : Act} {N : Nat} {ρ : Env} {o : Oper}
theorem lcopyLong {ops : Array Oper} {lo : List Oper} {s q : Operand} {dT sT b of_ n c T : Nat} {l : List UInt8} {cur cs' : List Value} (ha : On N ρ a) (hg : o.guard = none) (hok : okOp N ρ o = true)
    (ho : o.op = .call { callee := .builtin .copy, args := #[s, q], argTypes := #[dT, sT] }) (hu : cpB P dT = true) (hs : ρ.ev s = .slice (some ⟨b, of_, none⟩) n c) (hq : ρ.ev q = .string (S l)) (hB : w.heap[b]? = some (.cells ⟨cur⟩ T (0, 0)))
    (hl : n ≤ l.length) (hfit : of_ + n ≤ cur.length) (hcs : cur.take of_ ++ bys (l.take n) ++ cur.drop (of_ + n) = cs')
    (k : ∀ w', Chg w w' b (.cells ⟨cs'⟩ T (0, 0)) → ∀ a', On N (ρ.set o.dst (.int .i64 (n : Nat))) a' → wpList P ops Q lo a' w') : wpList P ops Q (o :: lo) a w := by
  refine lrun ha hg hok (v := .int .i64 (n : Nat)) (w' := w.setRow b ⟨cs'⟩) ?_ fun a' ha' => k _ (chg_setRow hB) a' ha'
  have hargs : (#[s, q] : Array Operand).map ρ.ev = #[.slice (some ⟨b, of_, none⟩) n c, .string (S l)] := by simp [hs, hq]
  obtain ⟨el, h2, h3⟩ := cpB_spec hu
  have hr := run_copy_long (P := P) (w := w) dT sT o.type el b of_ n c (S l) ⟨cur⟩ T h2 h3 hB (by rw [S_size]; exact hl) hfit
  have e1 : (S l).data.toList = l := by simp [S]
  have e2 : (Go.Lib.byteCells l).take n = bys (l.take n) := by
    show (bys l).take n = _
    rw [← List.map_take]
  rw [e1, e2] at hr
  have e3 : ((⟨cur⟩ : Array Value).toList.take of_ ++ bys (l.take n) ++ (⟨cur⟩ : Array Value).toList.drop (of_ + n)) = cs' := hcs
  rw [e3] at hr
  simp only [execOp, ho, resolve, hargs, Sem.run_bind, Sem.run_pure, Result.andThen_ok, invoke, builtin, hr]
  rfl
/-- the address of an element of an array that lies inside a struct -/
theorem ixAo {t n b of_ i : Nat} {k : IntKind} (ht : arrB P t = some n) (hi : i < n) : RunOk P w (Instr.indexAt t (.pointer (some ⟨b, of_, none⟩)) (.int k ((i : Nat) : Int))) (.pointer (some ⟨b, of_ + i, none⟩)) := by
  obtain ⟨e, hu, hs⟩ := arrB_spec ht
  intro w' _
  unfold Instr.indexAt
  simp only [asIntOf, Sem.run_bind, Sem.run_pure, Result.andThen_ok, run_underlying hu, Instr.sureAddr]
  rw [if_pos (by omega)]
  simp only [Sem.run_bind, sizeOf_run hs, Result.andThen_ok, Sem.run_pure, Int.toNat_natCast]
  rw [add_at]; simp
end
/-- a cell written inside a piece -/
theorem put_in {pre cs post cs2 : List Value} {i : Nat} {v : Value} (hi : i < cs.length) (h : cs.set i v = cs2) :
    (pre ++ (cs ++ post)).take (pre.length + i) ++ [v] ++ (pre ++ (cs ++ post)).drop (pre.length + i + [v].length) = pre ++ (cs2 ++ post) := by
  rw [put_one (by simp only [List.length_append]; omega), List.set_append_right _ _ (by omega), show pre.length + i - pre.length = i by omega, List.set_append_left _ _ hi, h]
/-- an id inside a row that is read -/
theorem cvRdI {P : Program} {w : World} {src dst e sz n off j : Nat} {A : Option Addr} {xs : List Value} {x : Id} (hs : P.underlying src = some (.slice e)) (hd : P.underlying dst = some .string) (he : P.underlying e = some (.int .u8))
    (h : Rd w sz A n xs) (hj : off = ao A + j) (hx : (xs.drop j).take 32 = idc x) : RunOk P w (convert src dst (.slice (some ⟨ab A, off, none⟩) 32 32)) (.string (S x.l)) := by
  have hr : Rd w 1 (some ⟨ab A, off, none⟩) x.l.length (bys x.l) := by
    refine ⟨by simp, fun _ => rfl, fun i v hv => ?_⟩
    subst hj
    rw [← idc_eq, ← hx] at hv
    have hlt : i < 32 := by
      have := (List.getElem?_eq_some_iff.1 hv).1
      rw [List.length_take] at this; omega
    rw [List.getElem?_take, if_pos hlt, List.getElem?_drop] at hv
    have := h.cell (j + i) v hv
    rw [← Nat.add_assoc] at this
    exact this
  have := cvRd (P := P) (c := 32) hs hd he (by rw [x.h]; decide) hr
  rw [x.h] at this
  exact this
end Go.Kn
end
section
/- The engine: a region that draws its order and writes, with a word on what its slots hold. -/
set_option linter.unusedSimpArgs false
set_option linter.unusedVariables false
namespace Go.Kn
open Go.RowKit (Below)
section
variable {P : Program} {ops : Array Oper} {Q : Exit → Act → World → Prop}
structure RInvT (ops : Array Oper) (D : Nat → Value → World → Prop) (I : (Nat → Bool) → Array Value → World → Prop) (T0 : Array Value) (listed : Array Bool) (a : Act) (w : World) : Prop where
  size : listed.size = ops.size
  closed : ∀ (j : Nat) (o : Oper), listed[j]? = some true → ops[j]? = some o → ∀ e ∈ o.after.toList, Region.binds .any e = true → listed[e.on]? = some true
  defers : a.defers = []
  tsize : a.tmps.size = T0.size
  inv : I (lst listed) a.tmps w
  got : ∀ (t i : Nat) (o : Oper), ops[i]? = some o → o.dst = some t → listed[i]? = some true → t < T0.size → ∃ v, a.tmps[t]? = some v ∧ D i v w
  old : ∀ t : Nat, (∀ (i : Nat) (o : Oper), ops[i]? = some o → o.dst = some t → listed[i]? ≠ some true) → a.tmps[t]? = T0[t]?
theorem any_orderT {ms : List Nat} (hc : Chk ops ms) (hsel : ∀ (i : Nat) (o : Oper), ops[i]? = some o → notSelect o.op = true) {T0 : Array Value} {D : Nat → Value → World → Prop} {I : (Nat → Bool) → Array Value → World → Prop}
    (hstep : ∀ (i : Nat) (o : Oper), ops[i]? = some o → ∀ (L : Nat → Bool) (T : Array Value) (w : World), ClosedL ops L → L i = false → (∀ e ∈ o.after.toList, Region.binds .any e = true → L e.on = true) → I L T w → T.size = T0.size → SlotsI ops D T0 i o T w →
      (if Region.wanted o (yielded ops T) = true then OpStep P (evT T) o w (fun v w' => D i v w' ∧ I (updL L i) (putA T o.dst v) w' ∧ ∀ j, L j = true → ∀ u, D j u w → D j u w') else D i undef w ∧ I (updL L i) (putA T o.dst undef) w))
    (k : ∀ a w L, (∀ i, i < ops.size → L i = true) → a.tmps.size = T0.size → a.defers = [] → I L a.tmps w →
      (∀ (t i : Nat) (o : Oper), ops[i]? = some o → o.dst = some t → t < T0.size → ∃ v, a.tmps[t]? = some v ∧ D i v w) → (∀ t : Nat, (∀ (i : Nat) (o : Oper), ops[i]? = some o → o.dst ≠ some t) → a.tmps[t]? = T0[t]?) → Q .normal a w) :
    ∀ (fuel : Nat) (listed : Array Bool) (a : Act) (w : World), RInvT ops D I T0 listed a w →
      (List.range ops.size).countP (fun i : Nat => listed[i]? != some true) ≤ fuel → wpAny P .any ops Q fuel listed a w := by
  have hend : ∀ listed a w, RInvT ops D I T0 listed a w → (∀ i, i < ops.size → listed[i]? = some true) → Q .normal a w := by
    intro listed a w hI hall
    refine k a w (lst listed) (fun i hi => lst_true.2 (hall i hi)) hI.tsize hI.defers hI.inv (fun t i o ho hd ht => ?_) (fun t h => ?_)
    · exact hI.got t i o ho hd (hall i (Array.getElem?_eq_some_iff.1 ho).1) ht
    · exact hI.old t fun i o ho hd => absurd hd (h i o ho)
  have hallOf : ∀ listed a w, RInvT ops D I T0 listed a w → Region.ready .any ops listed = [] → ∀ i, i < ops.size → listed[i]? = some true := by
    intro listed a w hI hr i
    induction i using Nat.strongRecOn with
    | _ i ih =>
      intro hi
      have hi' : ops[i]? = some ops[i] := Array.getElem?_eq_getElem hi
      have hli : i < listed.size := by rw [hI.size]; exact hi
      cases hl : listed[i] with
      | true => rw [Array.getElem?_eq_getElem hli, hl]
      | false =>
        exfalso
        have : i ∈ Region.ready .any ops listed := by
          unfold Region.ready
          rw [List.mem_filter]
          refine ⟨List.mem_range.2 hi, ?_⟩
          simp only [hi', Option.map_some, Option.getD_some, Bool.and_eq_true, Bool.not_eq_true']
          refine ⟨by rw [Array.getD_eq_getD_getElem?, Array.getElem?_eq_getElem hli, hl]; rfl, ?_⟩
          rw [Array.all_eq_true']
          intro e he
          cases hb : Region.binds .any e with
          | false => rfl
          | true =>
            have hlt := hc.ahead i _ hi' e (by simpa using he) hb
            have := ih e.on hlt (by omega)
            simp [Array.getD_eq_getD_getElem?, this]
        rw [hr] at this
        cases this
  intro fuel
  induction fuel with
  | zero =>
    intro listed a w hI hcount
    have hall : ∀ i, i < ops.size → listed[i]? = some true := by
      intro i hi
      have := List.countP_eq_zero.1 (Nat.le_zero.1 hcount) i (List.mem_range.2 hi)
      simpa using this
    refine ⟨?_, hend listed a w hI hall⟩
    unfold Region.ready
    rw [List.filter_eq_nil_iff]
    intro i hi
    have := hall i (List.mem_range.1 hi)
    simp [Array.getD_eq_getD_getElem?, this]
  | succ fuel ih =>
    intro listed a w hI hcount
    refine ⟨fun hr => hend listed a w hI (hallOf listed a w hI hr), fun i hi => ?_⟩
    unfold Region.ready at hi
    rw [List.mem_filter] at hi
    obtain ⟨hin, hrd⟩ := hi
    have hin := List.mem_range.1 hin
    have hi' : ops[i]? = some ops[i] := Array.getElem?_eq_getElem hin
    simp only [hi', Option.map_some, Option.getD_some, Bool.and_eq_true, Bool.not_eq_true'] at hrd
    obtain ⟨hun, haf⟩ := hrd
    have hli : i < listed.size := by rw [hI.size]; exact hin
    have hun' : listed[i]? = some false := by
      rw [Array.getD_eq_getD_getElem?, Array.getElem?_eq_getElem hli] at hun
      rw [Array.getElem?_eq_getElem hli]
      simpa using hun
    have hdeps : ∀ e ∈ ops[i].after.toList, Region.binds .any e = true → listed[e.on]? = some true := by
      intro e he hb
      have := Array.all_eq_true'.1 haf e (by simpa using he)
      simp only [hb, Bool.not_true, Bool.false_or, Array.getD_eq_getD_getElem?] at this
      cases h : listed[e.on]? with
      | none => simp [h] at this
      | some b => simp only [h, Option.getD_some] at this; rw [this]
    have hslots : SlotsI ops D T0 i ops[i] a.tmps w := by
      intro t ht hlt
      refine ⟨fun j oj hj hd hji => ?_, fun hno => ?_⟩
      · have hb := chk_fwd hc hji hj hi' hd ht
        exact hI.got t j oj hj hd (dep_listed hc hI.closed i _ hi' hdeps j hb) hlt
      · refine hI.old t fun j oj hj hd hl => ?_
        rcases Nat.lt_trichotomy j i with h | h | h
        · exact hno j oj h hj hd
        · subst h; rw [hun'] at hl; cases hl
        · have hb := chk_bwd hc h hi' hj hd ht
          have := dep_listed hc hI.closed j oj hj (hI.closed j oj hl hj) i hb
          rw [hun'] at this; cases this
    have hset : ∀ j, (listed.setIfInBounds i true)[j]? = if i = j then some true else listed[j]? := by
      intro j
      rw [Array.getElem?_setIfInBounds]
      by_cases h : i = j
      · simp [h]; omega
      · simp [h]
    have hlst : lst (listed.setIfInBounds i true) = updL (lst listed) i := by
      funext j
      simp only [lst, updL, hset]
      split <;> simp
    have hnext : ∀ v w', D i v w' → I (updL (lst listed) i) (putA a.tmps ops[i].dst v) w' → (∀ j, lst listed j = true → ∀ u, D j u w → D j u w') → wpAny P .any ops Q fuel (listed.setIfInBounds i true) (a.put ops[i].dst v) w' := by
      intro v w' hD hI' hkeep
      refine ih _ _ _ ⟨by simp [hI.size], ?_, by rw [put_defers, hI.defers], by rw [put_tmps, putA_size, hI.tsize], by rw [hlst, put_tmps]; exact hI', ?_, ?_⟩ ?_
      · intro j o hl ho e he hb
        rw [hset] at hl ⊢
        by_cases hie : i = e.on
        · simp [hie]
        · rw [if_neg hie]
          by_cases hij : i = j
          · subst hij
            rw [hi'] at ho
            cases ho
            exact hdeps e he hb
          · rw [if_neg hij] at hl
            exact hI.closed j o hl ho e he hb
      · intro t j o ho hd hl ht
        rw [hset] at hl
        rw [put_tmps]
        by_cases hij : i = j
        · subst hij
          rw [hi'] at ho
          cases ho
          exact ⟨v, by rw [putA_get _ _ _ _ (by rw [hI.tsize]; exact ht), if_pos hd], hD⟩
        · rw [if_neg hij] at hl
          rw [putA_ne _ _ _ _ (fun h => hij (chk_uniq hc hi' ho h hd))]
          obtain ⟨u, hu, hDu⟩ := hI.got t j o ho hd hl ht
          exact ⟨u, hu, hkeep j (lst_true.2 hl) u hDu⟩
      · intro t h
        rw [put_tmps, putA_ne _ _ _ _ (fun hd => h i _ hi' hd (by rw [hset, if_pos rfl]))]
        refine hI.old t fun j o ho hd hl => h j o ho hd ?_
        rw [hset]
        split
        · rfl
        · exact hl
      · have hlt : (List.range ops.size).countP (fun j : Nat => (listed.setIfInBounds i true)[j]? != some true) < (List.range ops.size).countP (fun j : Nat => listed[j]? != some true) := by
          have himp : ∀ j : Nat, ((listed.setIfInBounds i true)[j]? != some true) = true → (listed[j]? != some true) = true := by
            intro j hj
            rw [hset] at hj
            split at hj
            · simp at hj
            · exact hj
          exact countP_lt himp (List.mem_range.2 hin) (by rw [hun']; rfl) (by rw [hset, if_pos rfl]; rfl)
        omega
    have hst := hstep i ops[i] hi' (lst listed) a.tmps w (fun j o hl ho e he hb => lst_true.2 (hI.closed j o (lst_true.1 hl) ho e he hb)) (by simp [lst, hun'])
      (fun e he hb => lst_true.2 (hdeps e he hb)) hI.inv hI.tsize hslots
    unfold wpOp
    rw [hi']
    simp only
    split
    · rename_i hww
      rw [if_pos hww] at hst
      left
      rw [← evT_eq] at hst
      exact hst.wp fun v w' ⟨h1, h2, h3⟩ => hnext v w' h1 h2 h3
    · rename_i hww
      rw [if_neg hww] at hst
      exact hnext undef w hst.1 hst.2 (fun _ _ _ h => h)
end
/-- operation j's slot holds u -/
def slotIs (ops : Array Oper) (T : Array Value) (j : Nat) (u : Value) : Prop := ∀ o t, ops[j]? = some o → o.dst = some t → T[t]? = some u
theorem slotIs_of {ops : Array Oper} {T : Array Value} {j t : Nat} {u : Value} {o : Oper} (ho : ops[j]? = some o) (hd : o.dst = some t) (hu : T[t]? = some u) : slotIs ops T j u := by
  intro o' t' ho' hd'
  rw [ho] at ho'; cases ho'
  rw [hd] at hd'; cases hd'
  exact hu
section
variable {P : Program} {Q : Exit → Act → World → Prop} {a : Act} {w : World} {N : Nat} {ρ : Env}
theorem regT {id : Nat} {ops : Array Oper} (hm : P.follows .mixedOrders = true) (ha : On N ρ a) (ms : List (Nat × M)) (sp : List (Nat × Sp)) (live : List (Nat × Nat)) {ρ' : Env} {C : World → List (Nat × List Prop)}
    (D : Nat → Value → World → Prop) (I : (Nat → Bool) → Array Value → World → Prop)
    (hchk : (chk ops && ops.toList.all (fun o => notSelect o.op) && okSp N ops sp (xsp P w N (lk ms) (spAt sp) 0 ops.toList ρ) && okLive ops sp live) = true)
    (hV : ∀ w', dropC (xsp P w' N (lk ms) (spAt sp) 0 ops.toList ρ) = dropC (xsp P w N (lk ms) (spAt sp) 0 ops.toList ρ))
    (hCs : ∀ w', condsOf (xsp P w' N (lk ms) (spAt sp) 0 ops.toList ρ) = C w')
    (hfin : finOf (xsp P w N (lk ms) (spAt sp) 0 ops.toList ρ) (ρ'.map Prod.fst) = some ρ')
    (hI0 : ∀ T w', Ext w w' → I (fun _ => false) T w') (hIE : ∀ L T w1 w2, I L T w1 → Ext w1 w2 → I L T w2) (hDE : ∀ j u w1 w2, D j u w1 → Ext w1 w2 → D j u w2)
    (hIx : ∀ L i o T v w', spAt sp i = none → ops[i]? = some o → I L T w' → I (updL L i) (putA T o.dst v) w')
    (hC : ∀ L T w', Cl ops L → I L T w' → AllP (fun c : Nat × List Prop => L c.1 = false → (∀ k, dep ops c.1 k = true → L k = true) → All c.2) (C w'))
    (hS : AllP (fun s : Nat × Sp => ∀ L T w', Cl ops L → L s.1 = false → (∀ k, dep ops s.1 k = true → L k = true) → I L T w' → T.size = N →
      withDes (fun j u w => D j u w ∧ slotIs ops T j u) w' (dl ops sp s.1) (fun σ => ∀ o, ops[s.1]? = some o → OpStep P σ.ev o w' (fun v w'' => (match s.2 with | .des => D s.1 v w'' | .val x => v = x) ∧ I (updL L s.1) (putA T o.dst v) w'' ∧ ∀ j, L j = true → spAt sp j = some .des → ∀ u, D j u w' → D j u w''))
        (envAt (xsp P w N (lk ms) (spAt sp) 0 ops.toList ρ) s.1)) sp)
    (k : ∀ a' w' L, (∀ i, i < ops.size → L i = true) → I L a'.tmps w' → withDes (fun j u w => D j u w ∧ slotIs ops a'.tmps j u) w' live (fun σ => On N σ a' → Q .normal a' w') ρ') : (Code.region id ops true).wp P Q a w := by
  simp only [Bool.and_eq_true] at hchk
  obtain ⟨⟨⟨hchk1, hsel⟩, hokS⟩, hlive⟩ := hchk
  obtain ⟨ms', hc⟩ := chk_spec hchk1
  cases hX : xsp P w N (lk ms) (spAt sp) 0 ops.toList ρ with
  | none => rw [hX] at hfin; simp [finOf] at hfin
  | some X =>
  obtain ⟨R, ρe⟩ := X
  rw [hX] at hfin hV hokS hS
  simp only [finOf] at hfin
  obtain ⟨hlen, hent, hfinE⟩ := xsp_spec _ _ _ hX
  -- the entries at another world
  have hW : ∀ w', ∃ R', xsp P w' N (lk ms) (spAt sp) 0 ops.toList ρ = some (R', ρe) ∧ R'.map (fun x => (x.2.1, x.2.2.1)) = R.map (fun x => (x.2.1, x.2.2.1)) := by
    intro w'
    have := hV w'
    cases h : xsp P w' N (lk ms) (spAt sp) 0 ops.toList ρ with
    | none => rw [h] at this; simp [dropC] at this
    | some X' =>
      obtain ⟨R', ρ2⟩ := X'
      rw [h] at this
      simp only [dropC, Option.some.injEq, Prod.mk.injEq] at this
      exact ⟨R', by rw [this.2], this.1⟩
  let vs : Nat → Value := valAt (some (R, ρe))
  have hvs : ∀ i ρi v C, R[i]? = some (i, ρi, v, C) → vs i = v := by intro i ρi v C h; simp [vs, valAt, h]
  let D' : Nat → Value → World → Prop := fun i v w => if isDes (spAt sp i) = true then D i v w else v = vs i
  have hD'n : ∀ {i v w1}, spAt sp i ≠ some .des → D' i v w1 → v = vs i := by
    intro i v w1 hd h0
    have h : (if isDes (spAt sp i) = true then D i v w1 else v = vs i) := h0
    rw [if_neg (by cases hq : spAt sp i with | none => simp [isDes] | some m => cases m <;> simp_all [isDes])] at h
    exact h
  refine wp_region_any hm ?_
  refine any_orderT (T0 := a.tmps) (D := D') (I := I) hc (fun i o ho => ?_) (fun i o ho L T w1 hcl hLi hdir hI hTs hsl => ?_) (fun a' w1 L hall hts hdf hI hgot hold => ?_) _ _ _ _ ?_ ?_
  · exact List.all_eq_true.1 hsel o (by rw [List.mem_iff_getElem?]; exact ⟨i, by simpa using ho⟩)
  · have hoL : ops.toList[i]? = some o := by simpa using ho
    obtain ⟨ρi, vi, Ci, hRi, hg, hokd, hval, hnorm, hkeys⟩ := hent i o hoL
    simp only [Nat.zero_add] at hRi hval hnorm
    have hkeys : ∀ t u, ρi.get? t = some u → (∃ j oj, j < i ∧ ops.toList[j]? = some oj ∧ oj.dst = some t ∧ spAt sp j ≠ some .des ∧ ∃ ρj Cj, R[j]? = some (j, ρj, u, Cj)) ∨ ((∀ j oj, j < i → ops.toList[j]? = some oj → oj.dst ≠ some t) ∧ ρ.get? t = some u) := fun t u h => by simpa only [Nat.zero_add] using hkeys t u h
    have hCl : Cl ops L := by
      intro j q hd hj
      cases hoj : ops[j]? with
      | none =>
        exfalso
        unfold dep masks at hd
        obtain ⟨r, h1, h2⟩ := mg_pre ops.toList []
        rw [h1, List.nil_append, List.getD_eq_getElem?_getD, List.getElem?_eq_none (by rw [h2]; simpa using Array.getElem?_eq_none_iff.1 hoj)] at hd
        simp at hd
      | some oj => exact dep_in hcl j oj hoj (hcl j oj hj hoj) q hd
    have hdep : ∀ q, dep ops i q = true → L q = true := dep_in hcl i o ho hdir
    rw [if_pos (by unfold Region.wanted; rw [hg])]
    have hlk : ∀ t ∈ opTmps o, t ∈ looks ops o := fun t ht => by unfold looks Oper.looksAt; exact List.mem_append.2 (.inl ht)
    -- what the reckoning says of a slot is so
    have hknown : ∀ t ∈ opTmps o, ∀ u, ρi.get? t = some u → T[t]? = some u := by
      intro t ht u hu
      rcases hkeys t u hu with ⟨j, oj, hj, hoj, hd, hns, ρj, Cj, hRj⟩ | ⟨hno, h0⟩
      · have htl : t < a.tmps.size := by
          obtain ⟨_, _, _, _, _, hk, _⟩ := hent j oj hoj
          rw [hd] at hk
          simp only [okDst, Nat.blt_eq] at hk
          rw [ha.ag.size]; exact hk
        obtain ⟨v, hv, hDv⟩ := (hsl t (hlk t ht) htl).1 j oj (by simpa using hoj) hd hj
        rw [hv, hD'n hns hDv, hvs j ρj u Cj hRj]
      · have htl : t < a.tmps.size := by rw [ha.ag.size]; exact ha.ag.lt h0
        rw [(hsl t (hlk t ht) htl).2 fun j oj hj hoj => hno j oj hj (by simpa using hoj)]
        exact ha.ag.slots t u h0
    cases hsp : spAt sp i with
    | none =>
      obtain ⟨hok, hxop⟩ := hnorm hsp
      obtain ⟨R', hX', hRR⟩ := hW w1
      obtain ⟨_, hent', _⟩ := xsp_spec _ _ _ hX'
      obtain ⟨ρi', vi', Ci', hRi', _, _, _, hnorm', _⟩ := hent' i o hoL
      simp only [Nat.zero_add] at hRi' hnorm'
      have heq : (ρi', vi') = (ρi, vi) := by
        have h1 : (R'.map (fun x => (x.2.1, x.2.2.1)))[i]? = some (ρi', vi') := by simp [hRi']
        have h2 : (R.map (fun x => (x.2.1, x.2.2.1)))[i]? = some (ρi, vi) := by simp [hRi]
        rw [hRR, h2] at h1
        exact (Option.some.inj h1).symm
      cases heq
      obtain ⟨_, hxop'⟩ := hnorm' hsp
      have hCi : All Ci' := by
        cases hne : Ci'.isEmpty with
        | true => cases Ci' with | nil => exact .nil | cons _ _ => simp at hne
        | false =>
          have hmem : (i, Ci') ∈ C w1 := by
            rw [← hCs w1, hX']
            simp only [condsOf, List.mem_filter, List.mem_map]
            exact ⟨⟨_, List.mem_of_getElem? hRi', rfl⟩, by simp [hne]⟩
          exact (hC L T w1 hCl hI).at _ hmem hLi hdep
      have hrun := xop_ok hxop' hCi
      have hex := exec_part (T := T) hok hknown
      have hkeepE : ∀ w2, Ext w1 w2 → ∀ j, L j = true → ∀ u, D' j u w1 → D' j u w2 := by
        intro w2 he j _ u hd
        simp only [D'] at hd ⊢
        split
        · rename_i h; rw [if_pos h] at hd; exact hDE j u w1 w2 hd he
        · rename_i h; rw [if_neg h] at hd; exact hd
      have hDi : ∀ w2, D' i vi w2 := fun w2 => by simp only [D']; rw [hsp]; simp only [isDes, Bool.false_eq_true, if_false]; exact (hvs i _ _ _ hRi).symm
      rcases hrun with h | ⟨_, f, args, h, hcall⟩
      · refine .inl ⟨vi, w1, by rw [hex]; exact h w1 (Ext.rfl' w1), hDi w1, hIx L i o T vi w1 hsp ho hI, fun _ _ _ h => h⟩
      · refine .inr (.inr ⟨f, args, w1, by rw [hex]; exact h w1 (Ext.rfl' w1), ?_⟩)
        refine (hcall w1 (Ext.rfl' w1)).imp fun v w2 ⟨hv, he⟩ => ?_
        subst hv
        exact ⟨hDi w2, hIx L i o T _ w2 hsp ho (hIE L T w1 w2 hI he), hkeepE w2 he⟩
    | some m =>
      have hmem := spAt_mem hsp
      have hs := hS.at _ hmem L T w1 hCl hLi hdep hI (by rw [hTs, ha.ag.size])
      have hdes : ∀ x ∈ dl ops sp i, ∃ u, T[x.1]? = some u ∧ (D x.2 u w1 ∧ slotIs ops T x.2 u) := by
        intro x hx
        simp only [dl, ho, dlOf, List.mem_filterMap] at hx
        obtain ⟨t, ht, hx⟩ := hx
        split at hx
        · rename_i j hj
          cases hd : isDes (spAt sp j) with
          | false => rw [hd] at hx; simp at hx
          | true =>
            rw [hd] at hx
            simp only [cond_true, Option.some.injEq] at hx
            subst hx
            obtain ⟨hji, oj, hoj, hdj⟩ := writer_some hj
            have htl : t < a.tmps.size := by
              obtain ⟨_, _, _, _, _, hk, _⟩ := hent j oj hoj
              rw [hdj] at hk
              simp only [okDst, Nat.blt_eq] at hk
              rw [ha.ag.size]; exact hk
            obtain ⟨u, hu, hDu⟩ := (hsl t (hlk t ht) htl).1 j oj (by simpa using hoj) hdj hji
            simp only [D'] at hDu
            rw [if_pos hd] at hDu
            exact ⟨u, hu, hDu, slotIs_of (by simpa using hoj) hdj hu⟩
        · cases hx
      obtain ⟨σ, hK, hkσ, hgσ⟩ := withDes_use _ _ hs T hdes
      have henv : envAt (some (R, ρe)) i = ρi := by simp [envAt, hRi]
      have hokσ : okOp N σ o = true := by
        have := List.all_eq_true.1 hokS (i, m) hmem
        simp only [ho] at this
        rw [henv] at this hkσ
        have hk2 : (((dl ops sp i).reverse.map fun y => (y.1, undef)) ++ ρi).map Prod.fst = σ.map Prod.fst := by rw [hkσ]; simp [Function.comp_def]
        simp only [okOp, Bool.and_eq_true] at this ⊢
        refine ⟨⟨?_, this.1.2⟩, this.2⟩
        rw [Array.all_eq_true'] at *
        intro x hx
        rw [← has_keys hk2]; exact this.1.1 x hx
      have hex : execOp (evT T) o = execOp σ.ev o := exec_part hokσ fun t ht u hu => by
        rcases hgσ t u hu with h | h
        · exact h
        · rw [henv] at h; exact hknown t ht u h
      refine (?_ : OpStep P σ.ev o w1 _).congr hex
      have hK := hK o ho
      have himp : ∀ v w2, ((match m with | .des => D i v w2 | .val x => v = x) ∧ I (updL L i) (putA T o.dst v) w2 ∧ ∀ j, L j = true → spAt sp j = some .des → ∀ u, D j u w1 → D j u w2) → D' i v w2 ∧ I (updL L i) (putA T o.dst v) w2 ∧ ∀ j, L j = true → ∀ u, D' j u w1 → D' j u w2 := by
        rintro v w2 ⟨h1, h2, h3⟩
        refine ⟨?_, h2, fun j hj u hd => ?_⟩
        · simp only [D', hsp]
          cases m with
          | des => simpa [isDes] using h1
          | val x =>
            simp only at h1
            subst h1
            simp only [isDes, Bool.false_eq_true, if_false]
            rw [hvs i _ _ _ hRi]; exact (hval _ hsp).symm
        · simp only [D'] at hd ⊢
          split
          · rename_i h
            rw [if_pos h] at hd
            exact h3 j hj (by cases hq : spAt sp j with | none => simp [hq, isDes] at h | some m' => cases m' <;> simp_all [isDes]) u hd
          · rename_i h; rw [if_neg h] at hd; exact hd
      rcases hK with ⟨v, w2, hr, hk⟩ | ⟨w2, hr, hk⟩ | ⟨f, args, w2, hr, hk⟩
      · exact .inl ⟨v, w2, hr, himp v w2 hk⟩
      · exact .inr (.inl ⟨w2, hr, himp _ w2 hk⟩)
      · exact .inr (.inr ⟨f, args, w2, hr, hk.imp himp⟩)
  · -- the end
    have hk := k a' w1 L hall hI
    have hdes : ∀ x ∈ live, ∃ u, a'.tmps[x.1]? = some u ∧ (D x.2 u w1 ∧ slotIs ops a'.tmps x.2 u) := by
      intro x hx
      have := List.all_eq_true.1 hlive x hx
      simp only [Bool.and_eq_true] at this
      obtain ⟨h1, h2⟩ := this
      split at h2
      · rename_i o ho
        split at h2
        · rename_i d hd
          have hdx := Nat.eq_of_beq_eq_true h2
          rw [hdx] at hd
          have htl : x.1 < a.tmps.size := by
            obtain ⟨_, _, _, _, _, hk, _⟩ := hent x.2 o (by simpa using ho)
            rw [hd] at hk
            simp only [okDst, Nat.blt_eq] at hk
            rw [ha.ag.size]; exact hk
          obtain ⟨u, hu, hDu⟩ := hgot x.1 x.2 o ho hd htl
          simp only [D'] at hDu
          rw [if_pos h1] at hDu
          exact ⟨u, hu, hDu, slotIs_of ho hd hu⟩
        · cases h2
      · cases h2
    obtain ⟨σ, hK, _, hgσ⟩ := withDes_use _ _ hk a'.tmps hdes
    refine hK ⟨hdf, by rw [hts, ha.ag.size], fun t u hu => ?_⟩
    rcases hgσ t u hu with h | h
    · exact h
    · have h := Env.get?_pick hfin t u h
      rcases hfinE t u h with ⟨j, oj, hoj, hd, hns, ρj, Cj, hRj⟩ | ⟨hno, h0⟩
      · simp only [Nat.zero_add] at hns hRj
        have htl : t < a.tmps.size := by
          obtain ⟨_, _, _, _, _, hk, _⟩ := hent j oj hoj
          rw [hd] at hk
          simp only [okDst, Nat.blt_eq] at hk
          rw [ha.ag.size]; exact hk
        obtain ⟨v, hv, hDv⟩ := hgot t j oj (by simpa using hoj) hd htl
        rw [hv, hD'n hns hDv, hvs j ρj u Cj hRj]
      · rw [hold t fun i o ho => hno i o (by simpa using ho)]
        exact ha.ag.slots t u h0
  · refine ⟨by simp, fun j o h => ?_, ha.defers, rfl, ?_, fun t i o _ _ h => ?_, fun t _ => rfl⟩
    · rw [Array.getElem?_replicate] at h
      split at h <;> simp at h
    · have : lst (Array.replicate ops.size false) = fun _ => false := by
        funext j
        simp only [lst, Array.getElem?_replicate]
        split <;> simp
      rw [this]
      exact hI0 _ _ ((Ext.rfl' w).drew_)
    · rw [Array.getElem?_replicate] at h
      split at h <;> simp at h
  · exact Nat.le_trans List.countP_le_length (by simp)
/-- no other operation writes the slot t -/
def loneB (ops : Array Oper) (q t : Nat) : Bool := (List.range ops.size).all fun i => Nat.beq i q || (match ops[i]? with | some o => (match o.dst with | some d => !Nat.beq d t | none => true) | none => true)
theorem loneB_spec {ops : Array Oper} {q t i : Nat} {o : Oper} (h : loneB ops q t = true) (ho : ops[i]? = some o) (hi : i ≠ q) : o.dst ≠ some t := by
  have hlt := (Array.getElem?_eq_some_iff.1 ho).1
  have := List.all_eq_true.1 h i (List.mem_range.2 hlt)
  simp only [Bool.or_eq_true] at this
  rcases this with h1 | h1
  · exact absurd (Nat.eq_of_beq_eq_true h1) hi
  · intro hd
    rw [ho] at h1
    simp only [hd] at h1
    rw [Nat.beq_refl] at h1
    cases h1
/-- a region in any order in which a new block is made and written whole; all else is plain or told -/
theorem regAS {id : Nat} {ops : Array Oper} (hm : P.follows .mixedOrders = true) (ha : On N ρ a) (ms : List (Nat × M)) (q m t : Nat) (cs0 new : List Value) (Ty sty : TypeId) (x y : Operand) {ρ' : Env} {C : World → List (Nat × List Prop)}
    (hchk : (chk ops && ops.toList.all (fun o => notSelect o.op) && okSp N ops [(q, .des), (m, .des)] (xsp P w N (lk ms) (spAt [(q, .des), (m, .des)]) 0 ops.toList ρ) && okLive ops [(q, .des), (m, .des)] [(t, q)]) = true)
    (hV : ∀ w', dropC (xsp P w' N (lk ms) (spAt [(q, .des), (m, .des)]) 0 ops.toList ρ) = dropC (xsp P w N (lk ms) (spAt [(q, .des), (m, .des)]) 0 ops.toList ρ))
    (hCs : ∀ w', condsOf (xsp P w' N (lk ms) (spAt [(q, .des), (m, .des)]) 0 ops.toList ρ) = C w')
    (hfin : finOf (xsp P w N (lk ms) (spAt [(q, .des), (m, .des)]) 0 ops.toList ρ) (ρ'.map Prod.fst) = some ρ')
    (hsh : (!Nat.beq q m && dep ops m q && loneB ops q t && Nat.blt q ops.size && Nat.blt m ops.size) = true)
    (hdq : (opAt ops q).dst = some t) (hdm : (opAt ops m).dst = none) (hdlq : dl ops [(q, .des), (m, .des)] q = []) (hdlm : dl ops [(q, .des), (m, .des)] m = [(t, q)])
    (hq : ∀ (e : Operand → Value) (w' : World), (execOp e (opAt ops q)).run P w' = .ok (.value (.pointer (some ⟨w'.heap.size, 0, none⟩))) { w' with heap := w'.heap.push (.cells ⟨cs0⟩ Ty (0, 0)) })
    (hs : (opAt ops m).op = .store sty x y) (hx : x = .tmp t) (hsz : sizeB P sty = some new.length) (hl : cs0.length = new.length) (h1 : new.all oneB = true)
    (hy : ∀ u, (Env.ev ((t, u) :: envAt (xsp P w N (lk ms) (spAt [(q, .des), (m, .des)]) 0 ops.toList ρ) m) y).cells = ⟨new⟩)
    (hC : ∀ w', Ext w w' → AllP (fun c : Nat × List Prop => All c.2) (C w'))
    (k : ∀ a' b w', Ext w w' → w.heap.size ≤ b → w'.heap[b]? = some (.cells ⟨new⟩ Ty (0, 0)) → On N ((t, .pointer (some ⟨b, 0, none⟩)) :: ρ') a' → Q .normal a' w') : (Code.region id ops true).wp P Q a w := by
  simp only [Bool.and_eq_true, Bool.not_eq_true', Nat.blt_eq] at hsh
  obtain ⟨⟨⟨⟨hqm, hdep⟩, hlone⟩, hql⟩, hml⟩ := hsh
  have hqm : q ≠ m := beqN_ne hqm
  have hoq : ops[q]? = some (opAt ops q) := by unfold opAt; rw [Array.getElem?_eq_getElem hql]
  have hom : ops[m]? = some (opAt ops m) := by unfold opAt; rw [Array.getElem?_eq_getElem hml]
  subst hx
  have hspq : spAt [(q, .des), (m, .des)] q = some .des := by simp [spAt, Nat.beq_refl]
  have hspm : spAt [(q, .des), (m, .des)] m = some .des := by
    have : Nat.beq q m = false := by cases h : Nat.beq q m with | false => rfl | true => exact absurd (Nat.eq_of_beq_eq_true h) hqm
    simp [spAt, Nat.beq_refl, this]
  refine regT hm ha ms [(q, .des), (m, .des)] [(t, q)] (C := C)
    (fun j u w' => j = q → ∃ b, u = .pointer (some ⟨b, 0, none⟩) ∧ w.heap.size ≤ b ∧ ∃ cs : List Value, cs.length = new.length ∧ w'.heap[b]? = some (.cells ⟨cs⟩ Ty (0, 0)))
    (fun L T w' => Ext w w' ∧ (L m = true → ∃ b, T[t]? = some (.pointer (some ⟨b, 0, none⟩)) ∧ w.heap.size ≤ b ∧ w'.heap[b]? = some (.cells ⟨new⟩ Ty (0, 0)))) hchk hV hCs hfin ?_ ?_ ?_ ?_ ?_ ?_ ?_
  · intro T w' he; exact ⟨he, fun h => by cases h⟩
  · rintro L T w1 w2 ⟨h, h2⟩ he
    exact ⟨Ext.tr h he, fun hL => by obtain ⟨b, e1, e2, e3⟩ := h2 hL; exact ⟨b, e1, e2, keepB he e3⟩⟩
  · intro j u w1 w2 h he hj
    obtain ⟨b, e1, e2, cs, e3, e4⟩ := h hj
    exact ⟨b, e1, e2, cs, e3, keepB he e4⟩
  · rintro L i o T v w' hsp ho ⟨h, h2⟩
    refine ⟨h, fun hL => ?_⟩
    have him : i ≠ m := fun e => by rw [e, hspm] at hsp; cases hsp
    have hiq : i ≠ q := fun e => by rw [e, hspq] at hsp; cases hsp
    have hLm : L m = true := by simpa [updL, him] using hL
    obtain ⟨b, e1, e2, e3⟩ := h2 hLm
    exact ⟨b, by rw [putA_ne _ _ _ _ (loneB_spec hlone ho hiq)]; exact e1, e2, e3⟩
  · rintro L T w' hcl ⟨h, _⟩
    exact AllP.of fun c hc _ _ => (hC w' h).at c hc
  · refine ⟨?_, ?_, trivial⟩
    · rintro L T w' hcl hL hd ⟨h, h2⟩ hT
      rw [hdlq]
      intro o ho
      obtain rfl : opAt ops q = o := Option.some.inj (hoq.symm.trans ho)
      refine onew ⟨cs0⟩ Ty (hq _ w') ?_
      intro b w2 he hb hB
      refine ⟨fun _ => ⟨b, rfl, Nat.le_trans h.size hb, cs0, hl, hB⟩, ⟨Ext.tr h he, fun hLm => ?_⟩, fun j _ _ u hu hj => ?_⟩
      · have hLm' : L m = true := by simpa [updL, hqm] using hLm
        have := hcl m q hdep hLm'
        rw [hL] at this; cases this
      · obtain ⟨b', e1, e2, cs, e3, e4⟩ := hu hj
        exact ⟨b', e1, e2, cs, e3, keepB he e4⟩
    · rintro L T w' hcl hL hd ⟨h, h2⟩ hT
      rw [hdlm]
      rintro u ⟨hu, hsl⟩ o ho
      obtain rfl : opAt ops m = o := Option.some.inj (hom.symm.trans ho)
      obtain ⟨b, rfl, e2, cs, e3, e4⟩ := hu rfl
      refine ostoreL (off := 0) (vs := new) (cs' := new) hs (by simp [Env.ev, Env.get?]) e4 hsz (hy _) h1 (by omega) (put_all (by omega)) ?_
      intro w2 hc
      refine ⟨fun e => absurd e.symm hqm, ⟨hc.ext h e2, fun _ => ⟨b, ?_, e2, hc.at_⟩⟩, fun j _ _ u' hu' hj => ?_⟩
      · rw [hdm]; exact hsl _ t hoq hdq
      · obtain ⟨b', f1, f2, cs', f3, f4⟩ := hu' hj
        by_cases hbb : b' = b
        · subst hbb; exact ⟨b', f1, f2, new, rfl, hc.at_⟩
        · exact ⟨b', f1, f2, cs', f3, hc.keep f4 hbb⟩
  · rintro a' w' L hall ⟨h, h2⟩
    rintro u ⟨_, hsl⟩ hOn
    obtain ⟨b, e1, e2, e3⟩ := h2 (hall m hml)
    have := hsl _ t hoq hdq
    rw [e1] at this
    obtain rfl := Option.some.inj this
    exact k a' b w' h e2 e3 hOn

end
end Go.Kn
end
section
set_option linter.unusedSimpArgs false
set_option linter.unusedVariables false
set_option maxRecDepth 100000
namespace Go.Kn
open Go.Proofs
theorem pre_ok (s p : List UInt8) (w : World) (hs : s.length ≤ 9223372036854775807) (hp : p.length ≤ 9223372036854775807) :
    Fn Tryd.prog 93 #[.string (S s), .string (S p)] w (fun v w' => v = .bool (decide (s.take p.length = p)) ∧ Ext w w') := by
  have hx : Ext w w := Ext.rfl' w
  refine enter (N := 18) (args := [.string (S s), .string (S p)]) Tryd.func93 rfl rfl rfl ?_
  intro a ha
  simp only [argEnv, Nat.zero_add, Nat.reduceAdd] at ha
  refine wseq ?_
  refine regp (ρ' := [(0, .string (S s)), (1, .string (S p))]) (C := []) ha [] (by kernel_rfl) .nil ?_
  clear ha a; intro a ha
  refine tn ?_
  refine wseq ?_
  refine regp (ρ' := [(4, .bool ((decide (((p.length : Nat) : Int) ≤ ((s.length : Nat) : Int))) && (decide (((s.take p.length) : List UInt8) = (p : List UInt8)))))]) (C := [(decide (((p.length : Nat) : Int) ≤ ((s.length : Nat) : Int))) = true → All [0 ≤ ((p.length : Nat) : Int) ∧ ((p.length : Nat) : Int) ≤ (s.length : Int)]]) ha [] (by kernel_rfl) (.cons (fun hg6 => by replace hg6 := of_decide_eq_true hg6; exact (.cons ⟨by omega, by omega⟩ .nil)) .nil) ?_
  clear ha a; intro a ha
  refine tn ?_
  refine wret ?_
  refine fin ha (.tmp rfl .nil) ?_
  refine ⟨congrArg Value.bool ?_, hx⟩
  rw [Bool.eq_iff_iff]; simp
  intro h; have := congrArg List.length h; simp at this; omega
theorem spre_ok (s p : List UInt8) (w : World) (hs : s.length ≤ 9223372036854775807) (hp : p.length ≤ 9223372036854775807) :
    Fn Tryd.prog 76 #[.string (S s), .string (S p)] w (fun v w' => v = .bool (decide (s.take p.length = p)) ∧ Ext w w') := by
  have hx : Ext w w := Ext.rfl' w
  refine enter (N := 8) (args := [.string (S s), .string (S p)]) Tryd.func76 rfl rfl rfl ?_
  intro a ha
  simp only [argEnv, Nat.zero_add, Nat.reduceAdd] at ha
  refine wseq ?_
  refine regp (ρ' := [(0, .string (S s)), (1, .string (S p))]) (C := []) ha [] (by kernel_rfl) .nil ?_
  clear ha a; intro a ha
  refine tn ?_
  refine wseq ?_
  refine reg hmix (ρ' := [(4, .bool (decide (s.take (p : List UInt8).length = p)))]) (C := [CallOk Tryd.prog w 93 #[.string (S s), .string (S p)] (.bool (decide (s.take (p : List UInt8).length = p)))]) ha [(2, .val (.bool (decide (s.take (p : List UInt8).length = p))))] (by kernel_rfl) (.cons (fun w _ => pre_ok _ _ w (by omega) (by first | omega | (simp; done))) .nil) ?_
  clear ha a; intro a w1 ha he
  replace hx := hx.tr he
  clear he
  refine tn ?_
  refine wret ?_
  refine fin ha (.tmp rfl .nil) ?_
  exact ⟨rfl, hx⟩
theorem pdata_ok (s : List UInt8) (w : World) (hs : s.length ≤ 9223372036854775807) :
    Fn Tryd.prog 80 #[.string (S s)] w (fun v w' => v = .tuple #[.string (S (pdata s).1), .int .i64 (pdata s).2] ∧ Ext w w') := by
  have hx : Ext w w := Ext.rfl' w
  refine enter (N := 19) (args := [.string (S s)]) Tryd.func80 rfl rfl rfl ?_
  intro a ha
  simp only [argEnv, Nat.zero_add, Nat.reduceAdd] at ha
  refine wseq ?_
  refine regp (ρ' := [(0, .string (S s))]) (C := []) ha [] (by kernel_rfl) .nil ?_
  clear ha a; intro a ha
  refine tn ?_
  refine wseq ?_
  refine reg hmix (ρ' := [(4, .string (S ((lzUnpack s 4096).1))), (5, .int .i64 (((lzUnpack s 4096).2 : Nat) : Int))]) (C := [CallOk Tryd.prog w 94 #[.string (S s), .int .i64 4096] (.tuple #[.string (S ((lzUnpack s 4096).1)), .int .i64 (((lzUnpack s 4096).2 : Nat) : Int)])]) ha [(1, .val (.tuple #[.string (S ((lzUnpack s 4096).1)), .int .i64 (((lzUnpack s 4096).2 : Nat) : Int)]))] (by kernel_rfl) (.cons (fun w _ => unpack_ok _ _ w (by first | omega | decide) (by omega)) .nil) ?_
  clear ha a; intro a w1 ha he
  replace hx := hx.tr he
  clear he
  refine tn ?_
  refine wseq ?_
  refine wseq ?_
  refine regp (ρ' := [(4, .string (S ((lzUnpack s 4096).1))), (5, .int .i64 (((lzUnpack s 4096).2 : Nat) : Int)), (16, .bool ((decide ((((lzUnpack s 4096).2 : Nat) : Int) = 0)) || (decide ((((lzUnpack s 4096).2 : Nat) : Int) = 3))))]) (C := []) ha [] (by kernel_rfl) .nil ?_
  clear ha a; intro a ha
  refine tn ?_
  refine wif ha rfl (fun h16 => ?_) (fun h16 => ?_)
  · simp only [Bool.not_eq_true', Bool.not_eq_false', Bool.and_eq_true, Bool.or_eq_true, Bool.and_eq_false_iff, Bool.or_eq_false_iff, decide_eq_true_eq, decide_eq_false_iff_not, Bool.not_eq_true, Decidable.not_not] at h16
    have hres : pdata s = ((lzUnpack s 4096).1, (((lzUnpack s 4096).2 : Nat) : Int)) := by unfold pdata; rw [if_pos (by omega)]
    refine wseq ?_
    refine regp (ρ' := [(2, .string (S ((lzUnpack s 4096).1))), (3, .int .i64 (((lzUnpack s 4096).2 : Nat) : Int))]) (C := []) ha [] (by kernel_rfl) .nil ?_
    clear ha a; intro a ha
    refine tn ?_
    refine wret ?_
    refine (tr ?_)
    refine fin ha (.tmp rfl (.tmp rfl .nil)) ?_
    exact ⟨by rw [hres]; rfl, hx⟩
  · simp only [Bool.not_eq_true', Bool.not_eq_false', Bool.and_eq_true, Bool.or_eq_true, Bool.and_eq_false_iff, Bool.or_eq_false_iff, decide_eq_true_eq, decide_eq_false_iff_not, Bool.not_eq_true, Decidable.not_not] at h16
    have hres : pdata s = ([], 2) := by unfold pdata; rw [if_neg (by omega)]
    refine wskip ?_
    refine tn ?_
    refine wseq ?_
    refine regp (ρ' := [(2, .string (S [])), (3, .int .i64 2)]) (C := []) ha [] (by kernel_rfl) .nil ?_
    clear ha a; intro a ha
    refine tn ?_
    refine wret ?_
    refine fin ha (.tmp rfl (.tmp rfl .nil)) ?_
    exact ⟨by rw [hres]; rfl, hx⟩
theorem pbase_ok (k : Nat) (s : List UInt8) (h : Nat) (w : World) (hs : s.length ≤ 9223372036854775807) (hh : h ≤ 9223372036854775807) :
    Fn Tryd.prog 78 #[.agg ⟨encItem ⟨((k : Nat) : Int), 0, idZ, []⟩⟩, .string (S s), .int .i64 ((h : Nat) : Int)] w (fun v w' => v = .tuple #[.agg ⟨encItem (pbase k s h).1⟩, .string (S (pbase k s h).2.1), .bool (pbase k s h).2.2] ∧ Ext w w') := by
  have hx : Ext w w := Ext.rfl' w
  refine enter (N := 58) (args := [.agg ⟨encItem ⟨((k : Nat) : Int), 0, idZ, []⟩⟩, .string (S s), .int .i64 ((h : Nat) : Int)]) Tryd.func78 rfl rfl rfl ?_
  intro a ha
  simp only [argEnv, Nat.zero_add, Nat.reduceAdd] at ha
  refine wseq ?_
  refine reg_list ?_
  refine lnew ha rfl (by kernel_rfl) ⟨encItem ⟨((k : Nat) : Int), 0, idZ, []⟩⟩ 70 (by kernel_rfl) ?_
  clear ha a; intro bx w1 he hb_bx hB_bx a ha
  replace hb_bx := Nat.le_trans hx.size hb_bx
  replace hx := hx.tr he
  clear he
  refine lnew ha rfl (by kernel_rfl) ⟨.int .i64 0 :: (.int .i64 0 :: ((idc idZ) ++ ([.string (S [])])))⟩ 70 (by kernel_rfl) ?_
  clear ha a; intro bo w2 he hb_bo hB_bo a ha
  have hne_bx_bo : bx ≠ bo := ne_new hB_bx hb_bo
  replace hB_bx := keepB he hB_bx
  replace hb_bo := Nat.le_trans hx.size hb_bo
  replace hx := hx.tr he
  clear he
  refine segp (ρ' := [(1, .string (S s)), (2, .int .i64 ((h : Nat) : Int)), (3, .pointer (some ⟨bx, 0, none⟩)), (6, .pointer (some ⟨bo, 0, none⟩))]) (C := []) ha 2 [] rfl (by kernel_rfl) .nil ?_
  clear ha a; intro a ha
  refine lnil ?_
  replace ha := ha.sub (ρ' := [(1, .string (S s)), (2, .int .i64 ((h : Nat) : Int)), (3, .pointer (some ⟨bx, 0, none⟩)), (6, .pointer (some ⟨bo, 0, none⟩))]) (by kernel_rfl)
  refine tn ?_
  refine wseq ?_
  refine wseq ?_
  refine regp (ρ' := [(1, .string (S s)), (2, .int .i64 ((h : Nat) : Int)), (3, .pointer (some ⟨bx, 0, none⟩)), (6, .pointer (some ⟨bo, 0, none⟩)), (13, .int .i64 ((k : Nat) : Int))]) (C := [RunOk Tryd.prog w2 (Instr.loadAt 3 (.pointer (some ⟨bx, 0, none⟩))) (.int .i64 ((k : Nat) : Int))]) ha [(1, .val (.int .i64 ((k : Nat) : Int)))] (by kernel_rfl) (.cons (ld1 hB_bx (by kernel_rfl) (by kernel_rfl)) .nil) ?_
  clear ha a; intro a ha
  refine tn ?_
  refine wblk ?_
  refine wseq ?_
  refine regp (ρ' := [(1, .string (S s)), (2, .int .i64 ((h : Nat) : Int)), (3, .pointer (some ⟨bx, 0, none⟩)), (6, .pointer (some ⟨bo, 0, none⟩)), (13, .int .i64 ((k : Nat) : Int)), (14, .bool (decide (((k : Nat) : Int) = 0)))]) (C := []) ha [] (by kernel_rfl) .nil ?_
  clear ha a; intro a ha
  refine tn ?_
  refine wif ha rfl (fun h14 => ?_) (fun h14 => ?_)
  · replace h14 := of_decide_eq_true h14
    have hres : pbase k s h = (⟨(k : Nat), 0, idZ, []⟩, s, true) := by unfold pbase; rw [if_pos (by omega)]
    refine wseq ?_
    refine reg_list ?_
    refine segp (ρ' := [(6, .pointer (some ⟨bo, 0, none⟩)), (16, .agg ⟨encItem ⟨((k : Nat) : Int), 0, idZ, []⟩⟩), (17, .string (S s))]) (C := [RunOk Tryd.prog w2 (Instr.loadAt 70 (.pointer (some ⟨bx, 0, none⟩))) (.agg ⟨encItem ⟨((k : Nat) : Int), 0, idZ, []⟩⟩)]) ha 2 [(0, .val (.agg ⟨encItem ⟨((k : Nat) : Int), 0, idZ, []⟩⟩))] rfl (by kernel_rfl) (.cons (ldN (n := 35) hB_bx (by kernel_rfl) (by kernel_rfl) ⟨Nat.le_of_ble_eq_true (by kernel_rfl), (by kernel_rfl)⟩) .nil) ?_
    clear ha a; intro a ha
    refine lstore (off := 0) ha rfl rfl (by kernel_rfl) hB_bo ⟨encItem ⟨((k : Nat) : Int), 0, idZ, []⟩⟩ rfl (by kernel_rfl) (by kernel_rfl) ?_
    clear ha a; intro w3 hc a ha
    replace hB_bx := hc.keep hB_bx (by first | assumption | exact Ne.symm (by assumption))
    replace hx := hc.ext hx hb_bo
    replace hB_bo := hc.at_; clear hc
    refine segp (ρ' := [(6, .pointer (some ⟨bo, 0, none⟩)), (7, .string (S s)), (8, .bool true)]) (C := []) ha 2 [] rfl (by kernel_rfl) .nil ?_
    clear ha a; intro a ha
    refine lnil ?_
    replace ha := ha.sub (ρ' := [(6, .pointer (some ⟨bo, 0, none⟩)), (7, .string (S s)), (8, .bool true)]) (by kernel_rfl)
    refine tn ?_
    refine wret ?_
    refine (br (tr ?_))
    refine fin ha (.cell rfl (ldVN (n := 35) (vs := ⟨encItem ⟨((k : Nat) : Int), 0, idZ, []⟩⟩) hB_bo (by kernel_rfl) (by kernel_rfl) ⟨Nat.le_of_ble_eq_true (by kernel_rfl), (by kernel_rfl)⟩) (.tmp rfl (.tmp rfl .nil))) ?_
    exact ⟨by rw [hres]; rfl, hx⟩
  · replace h14 := of_decide_eq_false h14
    refine wseq ?_
    refine regp (ρ' := [(1, .string (S s)), (2, .int .i64 ((h : Nat) : Int)), (3, .pointer (some ⟨bx, 0, none⟩)), (6, .pointer (some ⟨bo, 0, none⟩)), (13, .int .i64 ((k : Nat) : Int)), (18, .bool (decide (((k : Nat) : Int) = 1)))]) (C := []) ha [] (by kernel_rfl) .nil ?_
    clear ha a; intro a ha
    refine tn ?_
    refine wif ha rfl (fun h18 => ?_) (fun h18 => ?_)
    · replace h18 := of_decide_eq_true h18
      refine wseq ?_
      refine reg hmix (ρ' := [(2, .int .i64 ((h : Nat) : Int)), (3, .pointer (some ⟨bx, 0, none⟩)), (6, .pointer (some ⟨bo, 0, none⟩)), (9, .int .u64 (((vget s).1 : Nat) : Int)), (10, .string (S ((vget s).2.1))), (11, .int .i64 (((vget s).2.2 : Nat) : Int))]) (C := [CallOk Tryd.prog w2 77 #[.string (S s)] (.tuple #[.int .u64 (((vget s).1 : Nat) : Int), .string (S ((vget s).2.1)), .int .i64 (((vget s).2.2 : Nat) : Int)])]) ha [(1, .val (.tuple #[.int .u64 (((vget s).1 : Nat) : Int), .string (S ((vget s).2.1)), .int .i64 (((vget s).2.2 : Nat) : Int)]))] (by kernel_rfl) (.cons (fun w _ => get_ok _ w (by first | omega | (simp only [List.length_take, List.length_drop, List.length_append]; omega))) .nil) ?_
      clear ha a; intro a w4 ha he
      replace hx := hx.tr he
      replace hB_bx := keepB he hB_bx
      replace hB_bo := keepB he hB_bo
      clear he
      have hgl := vget_lt s
      refine tn ?_
      refine wseq ?_
      refine wseq ?_
      refine regp (ρ' := [(3, .pointer (some ⟨bx, 0, none⟩)), (6, .pointer (some ⟨bo, 0, none⟩)), (9, .int .u64 (((vget s).1 : Nat) : Int)), (10, .string (S ((vget s).2.1))), (37, .bool (((!decide ((((vget s).2.2 : Nat) : Int) = 0)) || (decide ((((vget s).1 : Nat) : Int) < 1))) || (decide (((h : Nat) : Int) < (((vget s).1 : Nat) : Int)))))]) (C := [((!decide ((((vget s).2.2 : Nat) : Int) = 0)) || (decide ((((vget s).1 : Nat) : Int) < 1))) = false → All [InR .u64 ((h : Nat) : Int)]]) ha [] (by kernel_rfl) (.cons (fun hg7 => by simp only [Bool.not_eq_true', Bool.not_eq_false', Bool.and_eq_true, Bool.or_eq_true, Bool.and_eq_false_iff, Bool.or_eq_false_iff, decide_eq_true_eq, decide_eq_false_iff_not, Bool.not_eq_true, Decidable.not_not] at hg7; exact (.cons (by unfold InR; omega) .nil)) .nil) ?_
      clear ha a; intro a ha
      refine tn ?_
      refine wif ha rfl (fun h37 => ?_) (fun h37 => ?_)
      · simp only [Bool.not_eq_true', Bool.not_eq_false', Bool.and_eq_true, Bool.or_eq_true, Bool.and_eq_false_iff, Bool.or_eq_false_iff, decide_eq_true_eq, decide_eq_false_iff_not, Bool.not_eq_true, Decidable.not_not] at h37
        have hres : pbase k s h = (iZ, [], false) := by unfold pbase; rw [if_neg (by omega), if_pos (by omega), if_pos (by omega)]
        refine wseq ?_
        refine reg_list ?_
        refine segp (ρ' := [(6, .pointer (some ⟨bo, 0, none⟩)), (38, .agg ⟨.int .i64 0 :: (.int .i64 0 :: ((idc idZ) ++ ([.string (S [])])))⟩)]) (C := []) ha 1 [] rfl (by kernel_rfl) .nil ?_
        clear ha a; intro a ha
        refine lstore (off := 0) ha rfl rfl (by kernel_rfl) hB_bo ⟨.int .i64 0 :: (.int .i64 0 :: ((idc idZ) ++ ([.string (S [])])))⟩ rfl (by kernel_rfl) (by kernel_rfl) ?_
        clear ha a; intro w5 hc a ha
        replace hB_bx := hc.keep hB_bx (by first | assumption | exact Ne.symm (by assumption))
        replace hx := hc.ext hx hb_bo
        replace hB_bo := hc.at_; clear hc
        refine segp (ρ' := [(6, .pointer (some ⟨bo, 0, none⟩)), (7, .string (S [])), (8, .bool false)]) (C := []) ha 2 [] rfl (by kernel_rfl) .nil ?_
        clear ha a; intro a ha
        refine lnil ?_
        replace ha := ha.sub (ρ' := [(6, .pointer (some ⟨bo, 0, none⟩)), (7, .string (S [])), (8, .bool false)]) (by kernel_rfl)
        refine tn ?_
        refine wret ?_
        refine (tr (br (tr ?_)))
        refine fin ha (.cell rfl (ldVN (n := 35) (vs := ⟨.int .i64 0 :: (.int .i64 0 :: ((idc idZ) ++ ([.string (S [])])))⟩) hB_bo (by kernel_rfl) (by kernel_rfl) ⟨Nat.le_of_ble_eq_true (by kernel_rfl), (by kernel_rfl)⟩) (.tmp rfl (.tmp rfl .nil))) ?_
        exact ⟨by rw [hres]; rfl, hx⟩
      · simp only [Bool.not_eq_true', Bool.not_eq_false', Bool.and_eq_true, Bool.or_eq_true, Bool.and_eq_false_iff, Bool.or_eq_false_iff, decide_eq_true_eq, decide_eq_false_iff_not, Bool.not_eq_true, Decidable.not_not] at h37
        have hres : pbase k s h = (⟨(k : Nat), ((vget s).1 : Nat), idZ, []⟩, (vget s).2.1, true) := by unfold pbase; rw [if_neg (by omega), if_pos (by omega), if_neg (by omega)]
        refine wskip ?_
        refine tn ?_
        refine wseq ?_
        refine reg_list ?_
        refine segp (ρ' := [(3, .pointer (some ⟨bx, 0, none⟩)), (6, .pointer (some ⟨bo, 0, none⟩)), (10, .string (S ((vget s).2.1))), (40, .int .i64 (((vget s).1 : Nat) : Int)), (41, .pointer (some ⟨bx, 1, none⟩))]) (C := [InR .i64 (((vget s).1 : Nat) : Int)]) ha 3 [] rfl (by kernel_rfl) (.cons (by unfold InR; omega) .nil) ?_
        clear ha a; intro a ha
        refine lstore (off := 1) ha rfl rfl (by kernel_rfl) hB_bx ⟨.int .i64 ((k : Nat) : Int) :: (.int .i64 (((vget s).1 : Nat) : Int) :: ((idc idZ) ++ ([.string (S [])])))⟩ rfl (by kernel_rfl) (by kernel_rfl) ?_
        clear ha a; intro w6 hc a ha
        replace hB_bo := hc.keep hB_bo (by first | assumption | exact Ne.symm (by assumption))
        replace hx := hc.ext hx hb_bx
        replace hB_bx := hc.at_; clear hc
        refine lnil ?_
        replace ha := ha.sub (ρ' := [(3, .pointer (some ⟨bx, 0, none⟩)), (6, .pointer (some ⟨bo, 0, none⟩)), (10, .string (S ((vget s).2.1)))]) (by kernel_rfl)
        refine tn ?_
        refine wseq ?_
        refine reg_list ?_
        refine segp (ρ' := [(6, .pointer (some ⟨bo, 0, none⟩)), (42, .agg ⟨.int .i64 ((k : Nat) : Int) :: (.int .i64 (((vget s).1 : Nat) : Int) :: ((idc idZ) ++ ([.string (S [])])))⟩), (43, .string (S ((vget s).2.1)))]) (C := [RunOk Tryd.prog w6 (Instr.loadAt 70 (.pointer (some ⟨bx, 0, none⟩))) (.agg ⟨.int .i64 ((k : Nat) : Int) :: (.int .i64 (((vget s).1 : Nat) : Int) :: ((idc idZ) ++ ([.string (S [])])))⟩)]) ha 2 [(0, .val (.agg ⟨.int .i64 ((k : Nat) : Int) :: (.int .i64 (((vget s).1 : Nat) : Int) :: ((idc idZ) ++ ([.string (S [])])))⟩))] rfl (by kernel_rfl) (.cons (ldN (n := 35) hB_bx (by kernel_rfl) (by kernel_rfl) ⟨Nat.le_of_ble_eq_true (by kernel_rfl), (by kernel_rfl)⟩) .nil) ?_
        clear ha a; intro a ha
        refine lstore (off := 0) ha rfl rfl (by kernel_rfl) hB_bo ⟨.int .i64 ((k : Nat) : Int) :: (.int .i64 (((vget s).1 : Nat) : Int) :: ((idc idZ) ++ ([.string (S [])])))⟩ rfl (by kernel_rfl) (by kernel_rfl) ?_
        clear ha a; intro w7 hc a ha
        replace hB_bx := hc.keep hB_bx (by first | assumption | exact Ne.symm (by assumption))
        replace hx := hc.ext hx hb_bo
        replace hB_bo := hc.at_; clear hc
        refine segp (ρ' := [(6, .pointer (some ⟨bo, 0, none⟩)), (7, .string (S ((vget s).2.1))), (8, .bool true)]) (C := []) ha 2 [] rfl (by kernel_rfl) .nil ?_
        clear ha a; intro a ha
        refine lnil ?_
        replace ha := ha.sub (ρ' := [(6, .pointer (some ⟨bo, 0, none⟩)), (7, .string (S ((vget s).2.1))), (8, .bool true)]) (by kernel_rfl)
        refine tn ?_
        refine wret ?_
        refine (br (tr ?_))
        refine fin ha (.cell rfl (ldVN (n := 35) (vs := ⟨.int .i64 ((k : Nat) : Int) :: (.int .i64 (((vget s).1 : Nat) : Int) :: ((idc idZ) ++ ([.string (S [])])))⟩) hB_bo (by kernel_rfl) (by kernel_rfl) ⟨Nat.le_of_ble_eq_true (by kernel_rfl), (by kernel_rfl)⟩) (.tmp rfl (.tmp rfl .nil))) ?_
        exact ⟨by rw [hres]; rfl, hx⟩
    · replace h18 := of_decide_eq_false h18
      refine wseq ?_
      refine regp (ρ' := [(1, .string (S s)), (3, .pointer (some ⟨bx, 0, none⟩)), (6, .pointer (some ⟨bo, 0, none⟩)), (44, .bool (decide (((k : Nat) : Int) = 2)))]) (C := []) ha [] (by kernel_rfl) .nil ?_
      clear ha a; intro a ha
      refine tn ?_
      refine wif ha rfl (fun h44 => ?_) (fun h44 => ?_)
      · replace h44 := of_decide_eq_true h44
        refine wseq ?_
        refine wseq ?_
        refine regp (ρ' := [(1, .string (S s)), (3, .pointer (some ⟨bx, 0, none⟩)), (6, .pointer (some ⟨bo, 0, none⟩)), (48, .bool (decide (((s.length : Nat) : Int) < 32)))]) (C := []) ha [] (by kernel_rfl) .nil ?_
        clear ha a; intro a ha
        refine tn ?_
        refine wif ha rfl (fun h48 => ?_) (fun h48 => ?_)
        · replace h48 := of_decide_eq_true h48
          have hres : pbase k s h = (iZ, [], false) := by unfold pbase; rw [if_neg (by omega), if_neg (by omega), if_pos (by omega), if_pos (by omega)]
          refine wseq ?_
          refine reg_list ?_
          refine segp (ρ' := [(6, .pointer (some ⟨bo, 0, none⟩)), (49, .agg ⟨.int .i64 0 :: (.int .i64 0 :: ((idc idZ) ++ ([.string (S [])])))⟩)]) (C := []) ha 1 [] rfl (by kernel_rfl) .nil ?_
          clear ha a; intro a ha
          refine lstore (off := 0) ha rfl rfl (by kernel_rfl) hB_bo ⟨.int .i64 0 :: (.int .i64 0 :: ((idc idZ) ++ ([.string (S [])])))⟩ rfl (by kernel_rfl) (by kernel_rfl) ?_
          clear ha a; intro w8 hc a ha
          replace hB_bx := hc.keep hB_bx (by first | assumption | exact Ne.symm (by assumption))
          replace hx := hc.ext hx hb_bo
          replace hB_bo := hc.at_; clear hc
          refine segp (ρ' := [(6, .pointer (some ⟨bo, 0, none⟩)), (7, .string (S [])), (8, .bool false)]) (C := []) ha 2 [] rfl (by kernel_rfl) .nil ?_
          clear ha a; intro a ha
          refine lnil ?_
          replace ha := ha.sub (ρ' := [(6, .pointer (some ⟨bo, 0, none⟩)), (7, .string (S [])), (8, .bool false)]) (by kernel_rfl)
          refine tn ?_
          refine wret ?_
          refine (tr (br (tr ?_)))
          refine fin ha (.cell rfl (ldVN (n := 35) (vs := ⟨.int .i64 0 :: (.int .i64 0 :: ((idc idZ) ++ ([.string (S [])])))⟩) hB_bo (by kernel_rfl) (by kernel_rfl) ⟨Nat.le_of_ble_eq_true (by kernel_rfl), (by kernel_rfl)⟩) (.tmp rfl (.tmp rfl .nil))) ?_
          exact ⟨by rw [hres]; rfl, hx⟩
        · replace h48 := of_decide_eq_false h48
          have hres : pbase k s h = (⟨(k : Nat), 0, mkId (s.take 32), []⟩, s.drop 32, true) := by unfold pbase; rw [if_neg (by omega), if_neg (by omega), if_pos (by omega), if_neg (by omega)]
          refine wskip ?_
          refine tn ?_
          refine wseq ?_
          refine reg_list ?_
          refine segp (ρ' := [(1, .string (S s)), (3, .pointer (some ⟨bx, 0, none⟩)), (6, .pointer (some ⟨bo, 0, none⟩)), (51, .slice (some ⟨bx, 2, none⟩) 32 32), (52, .string (S s))]) (C := []) ha 3 [(1, .raw)] rfl (by kernel_rfl) .nil ?_
          clear ha a; intro a ha
          refine lcopyLong (cs' := (.int .i64 ((k : Nat) : Int) :: (.int .i64 0 :: ((idc (mkId (s.take 32))) ++ ([.string (S [])]))))) ha rfl (by kernel_rfl) rfl (by kernel_rfl) rfl rfl hB_bx (by omega) (Nat.le_of_ble_eq_true (by kernel_rfl)) (by show _ = _ :: _ :: (idc (mkId _) ++ _); rw [idc_eq (mkId _), mkId_l (by rw [List.length_take]; omega)]; rfl) ?_
          clear ha a; intro w9 hc a ha
          replace hB_bo := hc.keep hB_bo (by first | assumption | exact Ne.symm (by assumption))
          replace hx := hc.ext hx hb_bx
          replace hB_bx := hc.at_; clear hc
          refine lnil ?_
          replace ha := ha.sub (ρ' := [(1, .string (S s)), (3, .pointer (some ⟨bx, 0, none⟩)), (6, .pointer (some ⟨bo, 0, none⟩))]) (by kernel_rfl)
          refine tn ?_
          refine wseq ?_
          refine regM hmix ha [(0, .val (.agg ⟨.int .i64 ((k : Nat) : Int) :: (.int .i64 0 :: ((idc (mkId (s.take 32))) ++ ([.string (S [])])))⟩))] [] [⟨3, .des, [], []⟩] [] (ρ' := [(6, .pointer (some ⟨bo, 0, none⟩)), (7, .string (S (s.drop 32))), (8, .bool true)]) [] [fun w' => Ext w9 w', fun w' => w9.heap.size ≤ w'.heap.size ∧ Ext w w' ∧ w'.heap[bx]? = some (.cells ⟨.int .i64 ((k : Nat) : Int) :: (.int .i64 0 :: ((idc (mkId (s.take 32))) ++ ([.string (S [])])))⟩ 70 (0, 0)) ∧ w'.heap[bo]? = some (.cells ⟨.int .i64 ((k : Nat) : Int) :: (.int .i64 0 :: ((idc (mkId (s.take 32))) ++ ([.string (S [])])))⟩ 70 (0, 0))] [(0, [0], fun w' => [RunOk Tryd.prog w' (Instr.loadAt 70 (.pointer (some ⟨bx, 0, none⟩))) (.agg ⟨.int .i64 ((k : Nat) : Int) :: (.int .i64 0 :: ((idc (mkId (s.take 32))) ++ ([.string (S [])])))⟩)]), (2, [0, 1], fun w' => [0 ≤ (32 : Int) ∧ 32 ≤ (s.length : Int)])] (by kernel_rfl) (fun w' => by kernel_rfl) (fun w' => by kernel_rfl) (by kernel_rfl) (fun w' h => h) ?_ ?_ ?_ ?_ ?_ ?_
          · refine ⟨fun w1 w2 h e => Ext.tr h e, ?_, trivial⟩
            · rintro w1 w2 ⟨hsz, hx, hB_bx, hB_bo⟩ he
              exact ⟨Nat.le_trans hsz he.size, hx.tr he, keepB he hB_bx, keepB he hB_bo⟩
          · trivial
          · refine ⟨⟨?_, trivial⟩, ⟨?_, ?_, trivial⟩, trivial⟩
            · intro w' hJ
              have he : Ext w9 w' := hJ
              have hsz := he.size
              replace hx := hx.tr he
              replace hB_bx := keepB he hB_bx
              replace hB_bo := keepB he hB_bo
              clear he
              exact (.cons (ldN (n := 35) hB_bx (by kernel_rfl) (by kernel_rfl) ⟨Nat.le_of_ble_eq_true (by kernel_rfl), (by kernel_rfl)⟩) .nil)
            · intro w' hJ
              have he : Ext w9 w' := hJ
              have hsz := he.size
              replace hx := hx.tr he
              replace hB_bx := keepB he hB_bx
              replace hB_bo := keepB he hB_bo
              clear he
              exact (.cons ⟨by omega, by omega⟩ .nil)
            · intro w' hJ
              obtain ⟨hsz, hx, hB_bx, hB_bo⟩ := hJ
              exact (.cons ⟨by omega, by omega⟩ .nil)
          · trivial
          · refine ⟨?_, trivial⟩
            · intro w' hJ
              have hB_bxS := hB_bx
              have hB_boS := hB_bo
              have he : Ext w9 w' := hJ
              have hsz := he.size
              replace hx := hx.tr he
              replace hB_bx := keepB he hB_bx
              replace hB_bo := keepB he hB_bo
              clear he
              refine ostore (off := 0) (x := .tmp 6) (y := .tmp 54) (t := 70) hB_bo ⟨.int .i64 ((k : Nat) : Int) :: (.int .i64 0 :: ((idc (mkId (s.take 32))) ++ ([.string (S [])])))⟩ (by kernel_rfl) (by kernel_rfl) (by kernel_rfl) ?_
              intro w'' hc
              exact ⟨trivial, ⟨Nat.le_trans hsz hc.size, hc.ext hx hb_bo, hc.keep hB_bx (by first | assumption | exact Ne.symm (by assumption)), hc.at_⟩, trivial⟩
          · clear ha a; intro a w10 hJ ha
            clear hx hB_bx hB_bo
            obtain ⟨hsz, hx, hB_bx, hB_bo⟩ := hJ
            clear hsz
            refine tn ?_
            refine wret ?_
            refine (br (tr ?_))
            refine fin ha (.cell rfl (ldVN (n := 35) (vs := ⟨.int .i64 ((k : Nat) : Int) :: (.int .i64 0 :: ((idc (mkId (s.take 32))) ++ ([.string (S [])])))⟩) hB_bo (by kernel_rfl) (by kernel_rfl) ⟨Nat.le_of_ble_eq_true (by kernel_rfl), (by kernel_rfl)⟩) (.tmp rfl (.tmp rfl .nil))) ?_
            exact ⟨by rw [hres]; rfl, hx⟩
      · replace h44 := of_decide_eq_false h44
        have hres : pbase k s h = (iZ, [], false) := by unfold pbase; rw [if_neg (by omega), if_neg (by omega), if_neg (by omega)]
        refine wskip ?_
        refine bn ?_
        refine tn ?_
        refine wseq ?_
        refine reg_list ?_
        refine segp (ρ' := [(6, .pointer (some ⟨bo, 0, none⟩)), (57, .agg ⟨.int .i64 0 :: (.int .i64 0 :: ((idc idZ) ++ ([.string (S [])])))⟩)]) (C := []) ha 1 [] rfl (by kernel_rfl) .nil ?_
        clear ha a; intro a ha
        refine lstore (off := 0) ha rfl rfl (by kernel_rfl) hB_bo ⟨.int .i64 0 :: (.int .i64 0 :: ((idc idZ) ++ ([.string (S [])])))⟩ rfl (by kernel_rfl) (by kernel_rfl) ?_
        clear ha a; intro w11 hc a ha
        replace hB_bx := hc.keep hB_bx (by first | assumption | exact Ne.symm (by assumption))
        replace hx := hc.ext hx hb_bo
        replace hB_bo := hc.at_; clear hc
        refine segp (ρ' := [(6, .pointer (some ⟨bo, 0, none⟩)), (7, .string (S [])), (8, .bool false)]) (C := []) ha 2 [] rfl (by kernel_rfl) .nil ?_
        clear ha a; intro a ha
        refine lnil ?_
        replace ha := ha.sub (ρ' := [(6, .pointer (some ⟨bo, 0, none⟩)), (7, .string (S [])), (8, .bool false)]) (by kernel_rfl)
        refine tn ?_
        refine wret ?_
        refine fin ha (.cell rfl (ldVN (n := 35) (vs := ⟨.int .i64 0 :: (.int .i64 0 :: ((idc idZ) ++ ([.string (S [])])))⟩) hB_bo (by kernel_rfl) (by kernel_rfl) ⟨Nat.le_of_ble_eq_true (by kernel_rfl), (by kernel_rfl)⟩) (.tmp rfl (.tmp rfl .nil))) ?_
        exact ⟨by rw [hres]; rfl, hx⟩
end Go.Kn
end
section
set_option linter.unusedSimpArgs false
set_option linter.unusedVariables false
set_option maxRecDepth 100000
namespace Go.Kn
open Go.Proofs
theorem pitem_ok (s : List UInt8) (h : Nat) (w : World) (hs : s.length ≤ 9223372036854775807) (hh : h ≤ 9223372036854775807) :
    Fn Tryd.prog 61 #[.string (S s), .int .i64 ((h : Nat) : Int)] w (fun v w' => v = .tuple #[.agg ⟨encItem (pitem s h).1⟩, .string (S (pitem s h).2.1), .int .i64 (pitem s h).2.2] ∧ Ext w w') := by
  have hx : Ext w w := Ext.rfl' w
  refine enter (N := 54) (args := [.string (S s), .int .i64 ((h : Nat) : Int)]) Tryd.func61 rfl rfl rfl ?_
  intro a ha
  simp only [argEnv, Nat.zero_add, Nat.reduceAdd] at ha
  refine wseq ?_
  refine reg_list ?_
  refine lnew ha rfl (by kernel_rfl) ⟨.int .i64 0 :: (.int .i64 0 :: ((idc idZ) ++ ([.string (S [])])))⟩ 70 (by kernel_rfl) ?_
  clear ha a; intro bo w1 he hb_bo hB_bo a ha
  replace hb_bo := Nat.le_trans hx.size hb_bo
  replace hx := hx.tr he
  clear he
  refine segp (ρ' := [(0, .string (S s)), (1, .int .i64 ((h : Nat) : Int)), (4, .pointer (some ⟨bo, 0, none⟩))]) (C := []) ha 2 [] rfl (by kernel_rfl) .nil ?_
  clear ha a; intro a ha
  refine lnil ?_
  replace ha := ha.sub (ρ' := [(0, .string (S s)), (1, .int .i64 ((h : Nat) : Int)), (4, .pointer (some ⟨bo, 0, none⟩))]) (by kernel_rfl)
  refine tn ?_
  refine wseq ?_
  refine wseq ?_
  refine regp (ρ' := [(0, .string (S s)), (1, .int .i64 ((h : Nat) : Int)), (4, .pointer (some ⟨bo, 0, none⟩)), (15, .bool (decide ((s : List UInt8) = ([] : List UInt8))))]) (C := []) ha [] (by kernel_rfl) .nil ?_
  clear ha a; intro a ha
  refine tn ?_
  refine wif ha rfl (fun h15 => ?_) (fun h15 => ?_)
  · replace h15 := of_decide_eq_true h15
    have hres : pitem s h = (iZ, [], 2) := by unfold pitem; rw [if_pos h15]
    refine wseq ?_
    refine reg_list ?_
    refine segp (ρ' := [(4, .pointer (some ⟨bo, 0, none⟩)), (16, .agg ⟨.int .i64 0 :: (.int .i64 0 :: ((idc idZ) ++ ([.string (S [])])))⟩)]) (C := []) ha 1 [] rfl (by kernel_rfl) .nil ?_
    clear ha a; intro a ha
    refine lstore (off := 0) ha rfl rfl (by kernel_rfl) hB_bo ⟨.int .i64 0 :: (.int .i64 0 :: ((idc idZ) ++ ([.string (S [])])))⟩ rfl (by kernel_rfl) (by kernel_rfl) ?_
    clear ha a; intro w2 hc a ha
    replace hx := hc.ext hx hb_bo
    replace hB_bo := hc.at_; clear hc
    refine segp (ρ' := [(4, .pointer (some ⟨bo, 0, none⟩)), (5, .string (S [])), (6, .int .i64 2)]) (C := []) ha 2 [] rfl (by kernel_rfl) .nil ?_
    clear ha a; intro a ha
    refine lnil ?_
    replace ha := ha.sub (ρ' := [(4, .pointer (some ⟨bo, 0, none⟩)), (5, .string (S [])), (6, .int .i64 2)]) (by kernel_rfl)
    refine tn ?_
    refine wret ?_
    refine (tr ?_)
    refine fin ha (.cell rfl (ldVN (n := 35) (vs := ⟨.int .i64 0 :: (.int .i64 0 :: ((idc idZ) ++ ([.string (S [])])))⟩) hB_bo (by kernel_rfl) (by kernel_rfl) ⟨Nat.le_of_ble_eq_true (by kernel_rfl), (by kernel_rfl)⟩) (.tmp rfl (.tmp rfl .nil))) ?_
    exact ⟨by rw [hres]; rfl, hx⟩
  · replace h15 := of_decide_eq_false h15
    have hp := List.length_pos_iff.2 h15
    have hcb := getD_toNat_lt s 0
    have hbl := pbase_len (s.getD 0 0).toNat (s.drop 1) h
    simp only [List.length_drop] at hbl
    refine wskip ?_
    refine tn ?_
    refine wseq ?_
    refine regAS hmix ha [(7, .val (.tuple #[.agg ⟨encItem (pbase ((s.getD 0 0).toNat) (s.drop 1) h).1⟩, .string (S ((pbase ((s.getD 0 0).toNat) (s.drop 1) h).2.1)), .bool ((pbase ((s.getD 0 0).toNat) (s.drop 1) h).2.2)]))] 12 13 7 (.int .i64 0 :: (.int .i64 0 :: ((idc idZ) ++ ([.string (S [])])))) (encItem (pbase ((s.getD 0 0).toNat) (s.drop 1) h).1) 70 70 (.tmp 7) (.tmp 26) (ρ' := [(4, .pointer (some ⟨bo, 0, none⟩)), (8, .string (S ((pbase ((s.getD 0 0).toNat) (s.drop 1) h).2.1))), (9, .bool ((pbase ((s.getD 0 0).toNat) (s.drop 1) h).2.2))]) (C := fun w' => [(1, [0 ≤ (0 : Int) ∧ 0 < (s.length : Int)]), (2, [InR .i64 (((s.getD 0 0).toNat : Nat) : Int)]), (5, [0 ≤ (1 : Int) ∧ 1 ≤ (s.length : Int)]), (7, [CallOk Tryd.prog w' 78 #[.agg ⟨.int .i64 (((s.getD 0 0).toNat : Nat) : Int) :: (.int .i64 0 :: ((idc idZ) ++ ([.string (S [])])))⟩, .string (S (s.drop 1)), .int .i64 ((h : Nat) : Int)] (.tuple #[.agg ⟨encItem (pbase ((s.getD 0 0).toNat) (s.drop 1) h).1⟩, .string (S ((pbase ((s.getD 0 0).toNat) (s.drop 1) h).2.1)), .bool ((pbase ((s.getD 0 0).toNat) (s.drop 1) h).2.2)])])]) (by kernel_rfl) (fun w' => by kernel_rfl) (fun w' => by kernel_rfl) (by kernel_rfl) (by kernel_rfl) rfl rfl (by kernel_rfl) (by kernel_rfl) (fun e w' => by kernel_rfl) rfl rfl (by kernel_rfl) (by kernel_rfl) (by kernel_rfl) (fun u => by kernel_rfl) ?_ ?_
    · intro w' he
      replace hB_bo := keepB he hB_bo
      replace hx := hx.tr he
      exact ⟨(.cons ⟨by omega, by omega⟩ .nil), (.cons (by unfold InR; omega) .nil), (.cons ⟨by omega, by omega⟩ .nil), (.cons (fun w _ => pbase_ok _ _ _ w (by first | omega | (simp only [List.length_drop]; omega)) (by omega)) .nil), trivial⟩
    clear ha a; intro a bx w3 he hb_bx hB_bx ha
    have hne_bo_bx : bo ≠ bx := ne_new hB_bo hb_bx
    replace hB_bo := keepB he hB_bo
    replace hb_bx := Nat.le_trans hx.size hb_bx
    replace hx := hx.tr he
    clear he
    refine tn ?_
    refine wseq ?_
    refine wseq ?_
    refine regp (ρ' := [(4, .pointer (some ⟨bo, 0, none⟩)), (7, .pointer (some ⟨bx, 0, none⟩)), (8, .string (S ((pbase ((s.getD 0 0).toNat) (s.drop 1) h).2.1))), (30, .bool (!((pbase ((s.getD 0 0).toNat) (s.drop 1) h).2.2)))]) (C := []) ha [] (by kernel_rfl) .nil ?_
    clear ha a; intro a ha
    refine tn ?_
    refine wif ha rfl (fun h30 => ?_) (fun h30 => ?_)
    · simp only [Bool.not_eq_true', Bool.not_eq_false', Bool.and_eq_true, Bool.or_eq_true, Bool.and_eq_false_iff, Bool.or_eq_false_iff, decide_eq_true_eq, decide_eq_false_iff_not, Bool.not_eq_true, Decidable.not_not] at h30
      have hres : pitem s h = (iZ, [], 2) := by unfold pitem; rw [if_neg h15, if_pos (by simpa using h30)]
      refine wseq ?_
      refine reg_list ?_
      refine segp (ρ' := [(4, .pointer (some ⟨bo, 0, none⟩)), (31, .agg ⟨.int .i64 0 :: (.int .i64 0 :: ((idc idZ) ++ ([.string (S [])])))⟩)]) (C := []) ha 1 [] rfl (by kernel_rfl) .nil ?_
      clear ha a; intro a ha
      refine lstore (off := 0) ha rfl rfl (by kernel_rfl) hB_bo ⟨.int .i64 0 :: (.int .i64 0 :: ((idc idZ) ++ ([.string (S [])])))⟩ rfl (by kernel_rfl) (by kernel_rfl) ?_
      clear ha a; intro w4 hc a ha
      replace hB_bx := hc.keep hB_bx (by first | assumption | exact Ne.symm (by assumption))
      replace hx := hc.ext hx hb_bo
      replace hB_bo := hc.at_; clear hc
      refine segp (ρ' := [(4, .pointer (some ⟨bo, 0, none⟩)), (5, .string (S [])), (6, .int .i64 2)]) (C := []) ha 2 [] rfl (by kernel_rfl) .nil ?_
      clear ha a; intro a ha
      refine lnil ?_
      replace ha := ha.sub (ρ' := [(4, .pointer (some ⟨bo, 0, none⟩)), (5, .string (S [])), (6, .int .i64 2)]) (by kernel_rfl)
      refine tn ?_
      refine wret ?_
      refine (tr ?_)
      refine fin ha (.cell rfl (ldVN (n := 35) (vs := ⟨.int .i64 0 :: (.int .i64 0 :: ((idc idZ) ++ ([.string (S [])])))⟩) hB_bo (by kernel_rfl) (by kernel_rfl) ⟨Nat.le_of_ble_eq_true (by kernel_rfl), (by kernel_rfl)⟩) (.tmp rfl (.tmp rfl .nil))) ?_
      exact ⟨by rw [hres]; rfl, hx⟩
    · simp only [Bool.not_eq_true', Bool.not_eq_false', Bool.and_eq_true, Bool.or_eq_true, Bool.and_eq_false_iff, Bool.or_eq_false_iff, decide_eq_true_eq, decide_eq_false_iff_not, Bool.not_eq_true, Decidable.not_not] at h30
      have hvl := vtake_len (pbase (s.getD 0 0).toNat (s.drop 1) h).2.1
      refine wskip ?_
      refine tn ?_
      refine wseq ?_
      refine reg hmix (ρ' := [(4, .pointer (some ⟨bo, 0, none⟩)), (7, .pointer (some ⟨bx, 0, none⟩)), (10, .string (S ((vtake ((pbase ((s.getD 0 0).toNat) (s.drop 1) h).2.1)).1))), (11, .string (S ((vtake ((pbase ((s.getD 0 0).toNat) (s.drop 1) h).2.1)).2.1))), (12, .int .i64 (((vtake ((pbase ((s.getD 0 0).toNat) (s.drop 1) h).2.1)).2.2 : Nat) : Int))]) (C := [CallOk Tryd.prog w3 79 #[.string (S ((pbase ((s.getD 0 0).toNat) (s.drop 1) h).2.1))] (.tuple #[.string (S ((vtake ((pbase ((s.getD 0 0).toNat) (s.drop 1) h).2.1)).1)), .string (S ((vtake ((pbase ((s.getD 0 0).toNat) (s.drop 1) h).2.1)).2.1)), .int .i64 (((vtake ((pbase ((s.getD 0 0).toNat) (s.drop 1) h).2.1)).2.2 : Nat) : Int)])]) ha [(1, .val (.tuple #[.string (S ((vtake ((pbase ((s.getD 0 0).toNat) (s.drop 1) h).2.1)).1)), .string (S ((vtake ((pbase ((s.getD 0 0).toNat) (s.drop 1) h).2.1)).2.1)), .int .i64 (((vtake ((pbase ((s.getD 0 0).toNat) (s.drop 1) h).2.1)).2.2 : Nat) : Int)]))] (by kernel_rfl) (.cons (fun w _ => take_ok _ w (by first | omega | (simp only [List.length_drop]; omega))) .nil) ?_
      clear ha a; intro a w5 ha he
      replace hx := hx.tr he
      replace hB_bo := keepB he hB_bo
      replace hB_bx := keepB he hB_bx
      clear he
      refine tn ?_
      refine wseq ?_
      refine wseq ?_
      refine regp (ρ' := [(4, .pointer (some ⟨bo, 0, none⟩)), (7, .pointer (some ⟨bx, 0, none⟩)), (10, .string (S ((vtake ((pbase ((s.getD 0 0).toNat) (s.drop 1) h).2.1)).1))), (11, .string (S ((vtake ((pbase ((s.getD 0 0).toNat) (s.drop 1) h).2.1)).2.1))), (39, .bool (!decide ((((vtake ((pbase ((s.getD 0 0).toNat) (s.drop 1) h).2.1)).2.2 : Nat) : Int) = 0)))]) (C := []) ha [] (by kernel_rfl) .nil ?_
      clear ha a; intro a ha
      refine tn ?_
      refine wif ha rfl (fun h39 => ?_) (fun h39 => ?_)
      · simp only [Bool.not_eq_true', Bool.not_eq_false', Bool.and_eq_true, Bool.or_eq_true, Bool.and_eq_false_iff, Bool.or_eq_false_iff, decide_eq_true_eq, decide_eq_false_iff_not, Bool.not_eq_true, Decidable.not_not] at h39
        have hres : pitem s h = (iZ, [], 2) := by unfold pitem; rw [if_neg h15, if_neg (fun e => by rw [h30] at e; cases e), if_pos (by omega)]
        refine wseq ?_
        refine reg_list ?_
        refine segp (ρ' := [(4, .pointer (some ⟨bo, 0, none⟩)), (40, .agg ⟨.int .i64 0 :: (.int .i64 0 :: ((idc idZ) ++ ([.string (S [])])))⟩)]) (C := []) ha 1 [] rfl (by kernel_rfl) .nil ?_
        clear ha a; intro a ha
        refine lstore (off := 0) ha rfl rfl (by kernel_rfl) hB_bo ⟨.int .i64 0 :: (.int .i64 0 :: ((idc idZ) ++ ([.string (S [])])))⟩ rfl (by kernel_rfl) (by kernel_rfl) ?_
        clear ha a; intro w6 hc a ha
        replace hB_bx := hc.keep hB_bx (by first | assumption | exact Ne.symm (by assumption))
        replace hx := hc.ext hx hb_bo
        replace hB_bo := hc.at_; clear hc
        refine segp (ρ' := [(4, .pointer (some ⟨bo, 0, none⟩)), (5, .string (S [])), (6, .int .i64 2)]) (C := []) ha 2 [] rfl (by kernel_rfl) .nil ?_
        clear ha a; intro a ha
        refine lnil ?_
        replace ha := ha.sub (ρ' := [(4, .pointer (some ⟨bo, 0, none⟩)), (5, .string (S [])), (6, .int .i64 2)]) (by kernel_rfl)
        refine tn ?_
        refine wret ?_
        refine (tr ?_)
        refine fin ha (.cell rfl (ldVN (n := 35) (vs := ⟨.int .i64 0 :: (.int .i64 0 :: ((idc idZ) ++ ([.string (S [])])))⟩) hB_bo (by kernel_rfl) (by kernel_rfl) ⟨Nat.le_of_ble_eq_true (by kernel_rfl), (by kernel_rfl)⟩) (.tmp rfl (.tmp rfl .nil))) ?_
        exact ⟨by rw [hres]; rfl, hx⟩
      · simp only [Bool.not_eq_true', Bool.not_eq_false', Bool.and_eq_true, Bool.or_eq_true, Bool.and_eq_false_iff, Bool.or_eq_false_iff, decide_eq_true_eq, decide_eq_false_iff_not, Bool.not_eq_true, Decidable.not_not] at h39
        refine wskip ?_
        refine tn ?_
        refine wseq ?_
        refine reg hmix (ρ' := [(4, .pointer (some ⟨bo, 0, none⟩)), (7, .pointer (some ⟨bx, 0, none⟩)), (11, .string (S ((vtake ((pbase ((s.getD 0 0).toNat) (s.drop 1) h).2.1)).2.1))), (12, .int .i64 ((pdata ((vtake ((pbase ((s.getD 0 0).toNat) (s.drop 1) h).2.1)).1)).2)), (13, .string (S ((pdata ((vtake ((pbase ((s.getD 0 0).toNat) (s.drop 1) h).2.1)).1)).1)))]) (C := [CallOk Tryd.prog w5 80 #[.string (S ((vtake ((pbase ((s.getD 0 0).toNat) (s.drop 1) h).2.1)).1))] (.tuple #[.string (S ((pdata ((vtake ((pbase ((s.getD 0 0).toNat) (s.drop 1) h).2.1)).1)).1)), .int .i64 ((pdata ((vtake ((pbase ((s.getD 0 0).toNat) (s.drop 1) h).2.1)).1)).2)])]) ha [(1, .val (.tuple #[.string (S ((pdata ((vtake ((pbase ((s.getD 0 0).toNat) (s.drop 1) h).2.1)).1)).1)), .int .i64 ((pdata ((vtake ((pbase ((s.getD 0 0).toNat) (s.drop 1) h).2.1)).1)).2)]))] (by kernel_rfl) (.cons (fun w _ => pdata_ok _ w (by omega)) .nil) ?_
        clear ha a; intro a w7 ha he
        replace hx := hx.tr he
        replace hB_bo := keepB he hB_bo
        replace hB_bx := keepB he hB_bx
        clear he
        refine tn ?_
        refine wseq ?_
        refine wseq ?_
        refine regp (ρ' := [(4, .pointer (some ⟨bo, 0, none⟩)), (7, .pointer (some ⟨bx, 0, none⟩)), (11, .string (S ((vtake ((pbase ((s.getD 0 0).toNat) (s.drop 1) h).2.1)).2.1))), (12, .int .i64 ((pdata ((vtake ((pbase ((s.getD 0 0).toNat) (s.drop 1) h).2.1)).1)).2)), (13, .string (S ((pdata ((vtake ((pbase ((s.getD 0 0).toNat) (s.drop 1) h).2.1)).1)).1))), (47, .bool (!decide (((pdata ((vtake ((pbase ((s.getD 0 0).toNat) (s.drop 1) h).2.1)).1)).2 : Int) = 0)))]) (C := []) ha [] (by kernel_rfl) .nil ?_
        clear ha a; intro a ha
        refine tn ?_
        refine wif ha rfl (fun h47 => ?_) (fun h47 => ?_)
        · simp only [Bool.not_eq_true', Bool.not_eq_false', Bool.and_eq_true, Bool.or_eq_true, Bool.and_eq_false_iff, Bool.or_eq_false_iff, decide_eq_true_eq, decide_eq_false_iff_not, Bool.not_eq_true, Decidable.not_not] at h47
          have hres : pitem s h = (iZ, [], (pdata (vtake (pbase (s.getD 0 0).toNat (s.drop 1) h).2.1).1).2) := by unfold pitem; rw [if_neg h15, if_neg (fun e => by rw [h30] at e; cases e), if_neg (by omega), if_pos (by omega)]
          refine wseq ?_
          refine reg_list ?_
          refine segp (ρ' := [(4, .pointer (some ⟨bo, 0, none⟩)), (48, .agg ⟨.int .i64 0 :: (.int .i64 0 :: ((idc idZ) ++ ([.string (S [])])))⟩), (49, .int .i64 ((pdata ((vtake ((pbase ((s.getD 0 0).toNat) (s.drop 1) h).2.1)).1)).2))]) (C := []) ha 2 [] rfl (by kernel_rfl) .nil ?_
          clear ha a; intro a ha
          refine lstore (off := 0) ha rfl rfl (by kernel_rfl) hB_bo ⟨.int .i64 0 :: (.int .i64 0 :: ((idc idZ) ++ ([.string (S [])])))⟩ rfl (by kernel_rfl) (by kernel_rfl) ?_
          clear ha a; intro w8 hc a ha
          replace hB_bx := hc.keep hB_bx (by first | assumption | exact Ne.symm (by assumption))
          replace hx := hc.ext hx hb_bo
          replace hB_bo := hc.at_; clear hc
          refine segp (ρ' := [(4, .pointer (some ⟨bo, 0, none⟩)), (5, .string (S [])), (6, .int .i64 ((pdata ((vtake ((pbase ((s.getD 0 0).toNat) (s.drop 1) h).2.1)).1)).2))]) (C := []) ha 2 [] rfl (by kernel_rfl) .nil ?_
          clear ha a; intro a ha
          refine lnil ?_
          replace ha := ha.sub (ρ' := [(4, .pointer (some ⟨bo, 0, none⟩)), (5, .string (S [])), (6, .int .i64 ((pdata ((vtake ((pbase ((s.getD 0 0).toNat) (s.drop 1) h).2.1)).1)).2))]) (by kernel_rfl)
          refine tn ?_
          refine wret ?_
          refine (tr ?_)
          refine fin ha (.cell rfl (ldVN (n := 35) (vs := ⟨.int .i64 0 :: (.int .i64 0 :: ((idc idZ) ++ ([.string (S [])])))⟩) hB_bo (by kernel_rfl) (by kernel_rfl) ⟨Nat.le_of_ble_eq_true (by kernel_rfl), (by kernel_rfl)⟩) (.tmp rfl (.tmp rfl .nil))) ?_
          exact ⟨by rw [hres]; rfl, hx⟩
        · simp only [Bool.not_eq_true', Bool.not_eq_false', Bool.and_eq_true, Bool.or_eq_true, Bool.and_eq_false_iff, Bool.or_eq_false_iff, decide_eq_true_eq, decide_eq_false_iff_not, Bool.not_eq_true, Decidable.not_not] at h47
          have hres : pitem s h = ({ (pbase (s.getD 0 0).toNat (s.drop 1) h).1 with Data := (pdata (vtake (pbase (s.getD 0 0).toNat (s.drop 1) h).2.1).1).1 }, (vtake (pbase (s.getD 0 0).toNat (s.drop 1) h).2.1).2.1, 0) := by unfold pitem; rw [if_neg h15, if_neg (fun e => by rw [h30] at e; cases e), if_neg (by omega), if_neg (by omega)]
          refine wskip ?_
          refine tn ?_
          refine wseq ?_
          refine reg_list ?_
          refine segp (ρ' := [(4, .pointer (some ⟨bo, 0, none⟩)), (7, .pointer (some ⟨bx, 0, none⟩)), (11, .string (S ((vtake ((pbase ((s.getD 0 0).toNat) (s.drop 1) h).2.1)).2.1))), (50, .string (S ((pdata ((vtake ((pbase ((s.getD 0 0).toNat) (s.drop 1) h).2.1)).1)).1))), (51, .pointer (some ⟨bx, 34, none⟩))]) (C := []) ha 2 [] rfl (by kernel_rfl) .nil ?_
          clear ha a; intro a ha
          refine lstore (off := 34) ha rfl rfl (by kernel_rfl) hB_bx ⟨.int .i64 ((pbase ((s.getD 0 0).toNat) (s.drop 1) h).1.Kind) :: (.int .i64 ((pbase ((s.getD 0 0).toNat) (s.drop 1) h).1.Back) :: ((idc ((pbase ((s.getD 0 0).toNat) (s.drop 1) h).1.Base)) ++ ([.string (S ((pdata ((vtake ((pbase ((s.getD 0 0).toNat) (s.drop 1) h).2.1)).1)).1))])))⟩ rfl (by kernel_rfl) (by kernel_rfl) ?_
          clear ha a; intro w9 hc a ha
          replace hB_bo := hc.keep hB_bo (by first | assumption | exact Ne.symm (by assumption))
          replace hx := hc.ext hx hb_bx
          replace hB_bx := hc.at_; clear hc
          refine lnil ?_
          replace ha := ha.sub (ρ' := [(4, .pointer (some ⟨bo, 0, none⟩)), (7, .pointer (some ⟨bx, 0, none⟩)), (11, .string (S ((vtake ((pbase ((s.getD 0 0).toNat) (s.drop 1) h).2.1)).2.1)))]) (by kernel_rfl)
          refine tn ?_
          refine wseq ?_
          refine reg_list ?_
          refine segp (ρ' := [(4, .pointer (some ⟨bo, 0, none⟩)), (52, .agg ⟨.int .i64 ((pbase ((s.getD 0 0).toNat) (s.drop 1) h).1.Kind) :: (.int .i64 ((pbase ((s.getD 0 0).toNat) (s.drop 1) h).1.Back) :: ((idc ((pbase ((s.getD 0 0).toNat) (s.drop 1) h).1.Base)) ++ ([.string (S ((pdata ((vtake ((pbase ((s.getD 0 0).toNat) (s.drop 1) h).2.1)).1)).1))])))⟩), (53, .string (S ((vtake ((pbase ((s.getD 0 0).toNat) (s.drop 1) h).2.1)).2.1)))]) (C := [RunOk Tryd.prog w9 (Instr.loadAt 70 (.pointer (some ⟨bx, 0, none⟩))) (.agg ⟨.int .i64 ((pbase ((s.getD 0 0).toNat) (s.drop 1) h).1.Kind) :: (.int .i64 ((pbase ((s.getD 0 0).toNat) (s.drop 1) h).1.Back) :: ((idc ((pbase ((s.getD 0 0).toNat) (s.drop 1) h).1.Base)) ++ ([.string (S ((pdata ((vtake ((pbase ((s.getD 0 0).toNat) (s.drop 1) h).2.1)).1)).1))])))⟩)]) ha 2 [(0, .val (.agg ⟨.int .i64 ((pbase ((s.getD 0 0).toNat) (s.drop 1) h).1.Kind) :: (.int .i64 ((pbase ((s.getD 0 0).toNat) (s.drop 1) h).1.Back) :: ((idc ((pbase ((s.getD 0 0).toNat) (s.drop 1) h).1.Base)) ++ ([.string (S ((pdata ((vtake ((pbase ((s.getD 0 0).toNat) (s.drop 1) h).2.1)).1)).1))])))⟩))] rfl (by kernel_rfl) (.cons (ldN (n := 35) hB_bx (by kernel_rfl) (by kernel_rfl) ⟨Nat.le_of_ble_eq_true (by kernel_rfl), (by kernel_rfl)⟩) .nil) ?_
          clear ha a; intro a ha
          refine lstore (off := 0) ha rfl rfl (by kernel_rfl) hB_bo ⟨.int .i64 ((pbase ((s.getD 0 0).toNat) (s.drop 1) h).1.Kind) :: (.int .i64 ((pbase ((s.getD 0 0).toNat) (s.drop 1) h).1.Back) :: ((idc ((pbase ((s.getD 0 0).toNat) (s.drop 1) h).1.Base)) ++ ([.string (S ((pdata ((vtake ((pbase ((s.getD 0 0).toNat) (s.drop 1) h).2.1)).1)).1))])))⟩ rfl (by kernel_rfl) (by kernel_rfl) ?_
          clear ha a; intro w10 hc a ha
          replace hB_bx := hc.keep hB_bx (by first | assumption | exact Ne.symm (by assumption))
          replace hx := hc.ext hx hb_bo
          replace hB_bo := hc.at_; clear hc
          refine segp (ρ' := [(4, .pointer (some ⟨bo, 0, none⟩)), (5, .string (S ((vtake ((pbase ((s.getD 0 0).toNat) (s.drop 1) h).2.1)).2.1))), (6, .int .i64 0)]) (C := []) ha 2 [] rfl (by kernel_rfl) .nil ?_
          clear ha a; intro a ha
          refine lnil ?_
          replace ha := ha.sub (ρ' := [(4, .pointer (some ⟨bo, 0, none⟩)), (5, .string (S ((vtake ((pbase ((s.getD 0 0).toNat) (s.drop 1) h).2.1)).2.1))), (6, .int .i64 0)]) (by kernel_rfl)
          refine tn ?_
          refine wret ?_
          refine fin ha (.cell rfl (ldVN (n := 35) (vs := ⟨.int .i64 ((pbase ((s.getD 0 0).toNat) (s.drop 1) h).1.Kind) :: (.int .i64 ((pbase ((s.getD 0 0).toNat) (s.drop 1) h).1.Back) :: ((idc ((pbase ((s.getD 0 0).toNat) (s.drop 1) h).1.Base)) ++ ([.string (S ((pdata ((vtake ((pbase ((s.getD 0 0).toNat) (s.drop 1) h).2.1)).1)).1))])))⟩) hB_bo (by kernel_rfl) (by kernel_rfl) ⟨Nat.le_of_ble_eq_true (by kernel_rfl), (by kernel_rfl)⟩) (.tmp rfl (.tmp rfl .nil))) ?_
          exact ⟨by rw [hres]; rfl, hx⟩
theorem popen_ok (s : List UInt8) (w : World) (hs : s.length ≤ 9223372036854775807) {T0 : Nat} {f0 : Nat × Nat} (hB_0 : w.heap[0]? = some (.cells ⟨wc shaK⟩ T0 f0)) :
    Fn Tryd.prog 60 #[.string (S s)] w (fun v w' => v = .tuple #[.int .i64 (((popen s).1 : Nat) : Int), .string (S (popen s).2.1), .int .i64 (popen s).2.2] ∧ Ext w w') := by
  have hG_0 := hB_0
  have hx : Ext w w := Ext.rfl' w
  refine enter (N := 52) (args := [.string (S s)]) Tryd.func60 rfl rfl rfl ?_
  intro a ha
  simp only [argEnv, Nat.zero_add, Nat.reduceAdd] at ha
  refine wseq ?_
  refine regp (ρ' := [(0, .string (S s))]) (C := []) ha [] (by kernel_rfl) .nil ?_
  clear ha a; intro a ha
  refine tn ?_
  refine wseq ?_
  refine wseq ?_
  refine regp (ρ' := [(0, .string (S s)), (12, .bool (decide ((262144 : Int) < ((s.length : Nat) : Int))))]) (C := []) ha [] (by kernel_rfl) .nil ?_
  clear ha a; intro a ha
  refine tn ?_
  refine wif ha rfl (fun h12 => ?_) (fun h12 => ?_)
  · replace h12 := of_decide_eq_true h12
    have hres : popen s = (0, [], 3) := by unfold popen; rw [if_pos (by omega)]
    refine wseq ?_
    refine regp (ρ' := [(2, .int .i64 0), (3, .string (S [])), (4, .int .i64 3)]) (C := []) ha [] (by kernel_rfl) .nil ?_
    clear ha a; intro a ha
    refine tn ?_
    refine wret ?_
    refine (tr ?_)
    refine fin ha (.tmp rfl (.tmp rfl (.tmp rfl .nil))) ?_
    exact ⟨by rw [hres]; rfl, hx⟩
  · replace h12 := of_decide_eq_false h12
    refine wskip ?_
    refine tn ?_
    refine wseq ?_
    refine wseq ?_
    refine reg hmix (ρ' := [(0, .string (S s)), (20, .bool ((!(decide (s.take 5 = [75, 78, 65, 80, 1]))) || (decide (((s.length : Nat) : Int) < 37))))]) (C := [CallOk Tryd.prog w 76 #[.string (S s), .string (S [75, 78, 65, 80, 1])] (.bool (decide (s.take 5 = [75, 78, 65, 80, 1])))]) ha [(1, .val (.bool (decide (s.take 5 = [75, 78, 65, 80, 1]))))] (by kernel_rfl) (.cons (fun w _ => spre_ok _ _ w (by omega) (by first | omega | (simp; done))) .nil) ?_
    clear ha a; intro a w1 ha he
    replace hx := hx.tr he
    replace hB_0 := keepB he hB_0
    clear he
    refine tn ?_
    refine wif ha rfl (fun h20 => ?_) (fun h20 => ?_)
    · simp only [Bool.not_eq_true', Bool.not_eq_false', Bool.and_eq_true, Bool.or_eq_true, Bool.and_eq_false_iff, Bool.or_eq_false_iff, decide_eq_true_eq, decide_eq_false_iff_not, Bool.not_eq_true, Decidable.not_not] at h20
      have hres : popen s = (0, [], 2) := by unfold popen; rw [if_neg (by omega), if_pos (by rcases h20 with h | h; exact .inl h; exact .inr (by omega))]
      refine wseq ?_
      refine regp (ρ' := [(2, .int .i64 0), (3, .string (S [])), (4, .int .i64 2)]) (C := []) ha [] (by kernel_rfl) .nil ?_
      clear ha a; intro a ha
      refine tn ?_
      refine wret ?_
      refine (tr ?_)
      refine fin ha (.tmp rfl (.tmp rfl (.tmp rfl .nil))) ?_
      exact ⟨by rw [hres]; rfl, hx⟩
    · simp only [Bool.not_eq_true', Bool.not_eq_false', Bool.and_eq_true, Bool.or_eq_true, Bool.and_eq_false_iff, Bool.or_eq_false_iff, decide_eq_true_eq, decide_eq_false_iff_not, Bool.not_eq_true, Decidable.not_not] at h20
      replace h20 : s.take 5 = phead ∧ 37 ≤ s.length := ⟨h20.1, by omega⟩
      refine wskip ?_
      refine tn ?_
      refine wseq ?_
      refine regp (ρ' := [(0, .string (S s)), (5, .int .i64 ((s.length - 32 : Nat) : Int))]) (C := [BinOk Tryd.prog .sub 3 (.int .i64 ((s.length : Nat) : Int)) (.int .i64 32) (.int .i64 ((s.length - 32 : Nat) : Int))]) ha [(2, .val (.int .i64 ((s.length - 32 : Nat) : Int)))] (by kernel_rfl) (.cons (subN (a := s.length) (n := 32) (by omega) (by unfold InR; omega)) .nil) ?_
      clear ha a; intro a ha
      refine tn ?_
      refine wseq ?_
      refine wseq ?_
      refine reg_list ?_
      refine segp (ρ' := [(0, .string (S s)), (5, .int .i64 ((s.length - 32 : Nat) : Int)), (26, .string (S (s.take (s.length - 32))))]) (C := [0 ≤ ((s.length - 32 : Nat) : Int) ∧ ((s.length - 32 : Nat) : Int) ≤ (s.length : Int)]) ha 3 [] rfl (by kernel_rfl) (.cons ⟨by omega, by omega⟩ .nil) ?_
      clear ha a; intro a ha
      refine lnewS ha rfl (by kernel_rfl) #[.string (S (s.take (s.length - 32)))] 9 1 (by kernel_rfl) ?_
      clear ha a; intro bt w2 he hb_bt hB_bt a ha
      have hne_0_bt : 0 ≠ bt := ne_new hB_0 hb_bt
      replace hB_0 := keepB he hB_0
      replace hb_bt := Nat.le_trans hx.size hb_bt
      replace hx := hx.tr he
      clear he
      refine seg (ρ' := [(0, .string (S s)), (5, .int .i64 ((s.length - 32 : Nat) : Int)), (28, .agg ⟨idc (shaSum (s.take (s.length - 32)))⟩)]) (C := [CallOk Tryd.prog w2 49 #[.slice (some ⟨bt, 0, none⟩) 1 1] (.agg ⟨idc (shaSum (s.take (s.length - 32)))⟩)]) ha 1 [(0, .val (.agg ⟨idc (shaSum (s.take (s.length - 32)))⟩))] (by kernel_rfl) (.cons (fun w2 h2 => sum1_ok (s.take (s.length - 32)) _ w2 (by first | omega | (simp only [List.length_take]; omega)) (keepB h2 hB_bt) (keepB h2 hB_0)) .nil) ?_
      clear ha a; intro a w3 ha he
      replace hx := hx.tr he
      replace hB_0 := keepB he hB_0
      replace hB_bt := keepB he hB_bt
      clear he
      refine lnew ha rfl (by kernel_rfl) ⟨idc idZ⟩ 48 (by kernel_rfl) ?_
      clear ha a; intro bs w4 he hb_bs hB_bs a ha
      have hne_0_bs : 0 ≠ bs := ne_new hB_0 hb_bs
      have hne_bt_bs : bt ≠ bs := ne_new hB_bt hb_bs
      replace hB_0 := keepB he hB_0
      replace hB_bt := keepB he hB_bt
      replace hb_bs := Nat.le_trans hx.size hb_bs
      replace hx := hx.tr he
      clear he
      refine lstore (off := 0) ha rfl rfl (by kernel_rfl) hB_bs ⟨idc (shaSum (s.take (s.length - 32)))⟩ rfl (by kernel_rfl) (by kernel_rfl) ?_
      clear ha a; intro w5 hc a ha
      replace hB_0 := hc.keep hB_0 (by first | assumption | exact Ne.symm (by assumption))
      replace hB_bt := hc.keep hB_bt (by first | assumption | exact Ne.symm (by assumption))
      replace hx := hc.ext hx hb_bs
      replace hB_bs := hc.at_; clear hc
      refine lnil ?_
      replace ha := ha.sub (ρ' := [(0, .string (S s)), (5, .int .i64 ((s.length - 32 : Nat) : Int)), (6, .pointer (some ⟨bs, 0, none⟩))]) (by kernel_rfl)
      refine tn ?_
      refine wseq ?_
      refine reg hmix (ρ' := [(0, .string (S s)), (5, .int .i64 ((s.length - 32 : Nat) : Int)), (34, .bool (!decide (((shaSum (s.take (s.length - 32))).l : List UInt8) = ((s.drop (s.length - 32)) : List UInt8))))]) (C := [RunOk Tryd.prog w5 (convert 50 9 (.slice (some ⟨bs, 0, none⟩) 32 32)) (.string (S ((shaSum (s.take (s.length - 32))).l))), 0 ≤ ((s.length - 32 : Nat) : Int) ∧ ((s.length - 32 : Nat) : Int) ≤ (s.length : Int)]) ha [(0, .raw), (1, .val (.string (S ((shaSum (s.take (s.length - 32))).l))))] (by kernel_rfl) (.cons (cvId (e := 5) (x := (shaSum (s.take (s.length - 32)))) (by kernel_rfl) (by kernel_rfl) (by kernel_rfl) hB_bs (by kernel_rfl)) (.cons ⟨by omega, by omega⟩ .nil)) ?_
      clear ha a; intro a w6 ha he
      replace hx := hx.tr he
      replace hB_0 := keepB he hB_0
      replace hB_bt := keepB he hB_bt
      replace hB_bs := keepB he hB_bs
      clear he
      refine tn ?_
      refine wif ha rfl (fun h34 => ?_) (fun h34 => ?_)
      · simp only [Bool.not_eq_true', Bool.not_eq_false', Bool.and_eq_true, Bool.or_eq_true, Bool.and_eq_false_iff, Bool.or_eq_false_iff, decide_eq_true_eq, decide_eq_false_iff_not, Bool.not_eq_true, Decidable.not_not] at h34
        have hres : popen s = (0, [], 5) := by unfold popen; rw [if_neg (by omega), if_neg (by rintro (h | h); exact h h20.1; omega), if_pos (by simpa using h34)]
        refine wseq ?_
        refine regp (ρ' := [(2, .int .i64 0), (3, .string (S [])), (4, .int .i64 5)]) (C := []) ha [] (by kernel_rfl) .nil ?_
        clear ha a; intro a ha
        refine tn ?_
        refine wret ?_
        refine (tr ?_)
        refine fin ha (.tmp rfl (.tmp rfl (.tmp rfl .nil))) ?_
        exact ⟨by rw [hres]; rfl, hx⟩
      · simp only [Bool.not_eq_true', Bool.not_eq_false', Bool.and_eq_true, Bool.or_eq_true, Bool.and_eq_false_iff, Bool.or_eq_false_iff, decide_eq_true_eq, decide_eq_false_iff_not, Bool.not_eq_true, Decidable.not_not] at h34
        refine wskip ?_
        refine tn ?_
        refine wseq ?_
        refine reg hmix (ρ' := [(7, .int .u64 (((vget ((s.drop 5).take ((s.length - 32) - 5))).1 : Nat) : Int)), (8, .string (S ((vget ((s.drop 5).take ((s.length - 32) - 5))).2.1))), (9, .int .i64 (((vget ((s.drop 5).take ((s.length - 32) - 5))).2.2 : Nat) : Int))]) (C := [0 ≤ (5 : Int) ∧ 5 ≤ ((s.length - 32 : Nat) : Int) ∧ ((s.length - 32 : Nat) : Int) ≤ (s.length : Int), CallOk Tryd.prog w6 77 #[.string (S ((s.drop 5).take ((s.length - 32) - 5)))] (.tuple #[.int .u64 (((vget ((s.drop 5).take ((s.length - 32) - 5))).1 : Nat) : Int), .string (S ((vget ((s.drop 5).take ((s.length - 32) - 5))).2.1)), .int .i64 (((vget ((s.drop 5).take ((s.length - 32) - 5))).2.2 : Nat) : Int)])]) ha [(3, .val (.tuple #[.int .u64 (((vget ((s.drop 5).take ((s.length - 32) - 5))).1 : Nat) : Int), .string (S ((vget ((s.drop 5).take ((s.length - 32) - 5))).2.1)), .int .i64 (((vget ((s.drop 5).take ((s.length - 32) - 5))).2.2 : Nat) : Int)]))] (by kernel_rfl) (.cons ⟨by omega, by omega, by omega⟩ (.cons (fun w _ => get_ok _ w (by first | omega | (simp only [List.length_take, List.length_drop, List.length_append]; omega))) .nil)) ?_
        clear ha a; intro a w7 ha he
        replace hx := hx.tr he
        replace hB_0 := keepB he hB_0
        replace hB_bt := keepB he hB_bt
        replace hB_bs := keepB he hB_bs
        clear he
        have hgl := vget_lt ((s.drop 5).take (s.length - 32 - 5))
        refine tn ?_
        refine wseq ?_
        refine wblk ?_
        refine wseq ?_
        refine regp (ρ' := [(7, .int .u64 (((vget ((s.drop 5).take ((s.length - 32) - 5))).1 : Nat) : Int)), (8, .string (S ((vget ((s.drop 5).take ((s.length - 32) - 5))).2.1))), (43, .bool (!decide ((((vget ((s.drop 5).take ((s.length - 32) - 5))).2.2 : Nat) : Int) = 0)))]) (C := []) ha [] (by kernel_rfl) .nil ?_
        clear ha a; intro a ha
        refine tn ?_
        refine wif ha rfl (fun h43 => ?_) (fun h43 => ?_)
        · simp only [Bool.not_eq_true', Bool.not_eq_false', Bool.and_eq_true, Bool.or_eq_true, Bool.and_eq_false_iff, Bool.or_eq_false_iff, decide_eq_true_eq, decide_eq_false_iff_not, Bool.not_eq_true, Decidable.not_not] at h43
          have hres : popen s = (0, [], 2) := by unfold popen; rw [if_neg (by omega), if_neg (by rintro (h | h); exact h h20.1; omega), if_neg (by simpa using h34), if_pos (by omega)]
          refine wseq ?_
          refine regp (ρ' := [(2, .int .i64 0), (3, .string (S [])), (4, .int .i64 2)]) (C := []) ha [] (by kernel_rfl) .nil ?_
          clear ha a; intro a ha
          refine tn ?_
          refine wret ?_
          refine (br (tr ?_))
          refine fin ha (.tmp rfl (.tmp rfl (.tmp rfl .nil))) ?_
          exact ⟨by rw [hres]; rfl, hx⟩
        · simp only [Bool.not_eq_true', Bool.not_eq_false', Bool.and_eq_true, Bool.or_eq_true, Bool.and_eq_false_iff, Bool.or_eq_false_iff, decide_eq_true_eq, decide_eq_false_iff_not, Bool.not_eq_true, Decidable.not_not] at h43
          refine wseq ?_
          refine regp (ρ' := [(7, .int .u64 (((vget ((s.drop 5).take ((s.length - 32) - 5))).1 : Nat) : Int)), (8, .string (S ((vget ((s.drop 5).take ((s.length - 32) - 5))).2.1))), (46, .bool (decide ((400 : Int) < (((vget ((s.drop 5).take ((s.length - 32) - 5))).1 : Nat) : Int))))]) (C := []) ha [] (by kernel_rfl) .nil ?_
          clear ha a; intro a ha
          refine tn ?_
          refine wif ha rfl (fun h46 => ?_) (fun h46 => ?_)
          · replace h46 := of_decide_eq_true h46
            have hres : popen s = (0, [], 3) := by unfold popen; rw [if_neg (by omega), if_neg (by rintro (h | h); exact h h20.1; omega), if_neg (by simpa using h34), if_neg (by omega), if_pos (by omega)]
            refine wseq ?_
            refine regp (ρ' := [(2, .int .i64 0), (3, .string (S [])), (4, .int .i64 3)]) (C := []) ha [] (by kernel_rfl) .nil ?_
            clear ha a; intro a ha
            refine tn ?_
            refine wret ?_
            refine (br (tr ?_))
            refine fin ha (.tmp rfl (.tmp rfl (.tmp rfl .nil))) ?_
            exact ⟨by rw [hres]; rfl, hx⟩
          · replace h46 := of_decide_eq_false h46
            have hres : popen s = ((vget ((s.drop 5).take (s.length - 32 - 5))).1, (vget ((s.drop 5).take (s.length - 32 - 5))).2.1, 0) := by unfold popen; rw [if_neg (by omega), if_neg (by rintro (h | h); exact h h20.1; omega), if_neg (by simpa using h34), if_neg (by omega), if_neg (by omega)]
            refine wskip ?_
            refine bn ?_
            refine tn ?_
            refine wseq ?_
            refine regp (ρ' := [(2, .int .i64 (((vget ((s.drop 5).take ((s.length - 32) - 5))).1 : Nat) : Int)), (3, .string (S ((vget ((s.drop 5).take ((s.length - 32) - 5))).2.1))), (4, .int .i64 0)]) (C := [InR .i64 (((vget ((s.drop 5).take ((s.length - 32) - 5))).1 : Nat) : Int)]) ha [] (by kernel_rfl) (.cons (by unfold InR; omega) .nil) ?_
            clear ha a; intro a ha
            refine tn ?_
            refine wret ?_
            refine fin ha (.tmp rfl (.tmp rfl (.tmp rfl .nil))) ?_
            exact ⟨by rw [hres]; rfl, hx⟩
theorem pkread_ok (s : List UInt8) (w : World) (hs : s.length ≤ 9223372036854775807) {T0 : Nat} {f0 : Nat × Nat} (hB_0 : w.heap[0]? = some (.cells ⟨wc shaK⟩ T0 f0)) :
    Fn Tryd.prog 40 #[.string (S s)] w (fun v w' => ∃ A1 c1 A2 c2, v = .tuple #[.slice A1 (pkDec s).1.length c1, .slice A2 (pkDec s).1.length c2, .int .i64 (pkDec s).2] ∧ Own w' w.heap.size 70 35 A1 (pkDec s).1.length c1 (((pkDec s).1.map RItemR.X).flatMap encItem) ∧ Own w' w.heap.size 55 2 A2 (pkDec s).1.length c2 ((pkDec s).1.flatMap encPlace) ∧ Ext w w') := by
  have hG_0 := hB_0
  have hx : Ext w w := Ext.rfl' w
  refine enter (N := 64) (args := [.string (S s)]) Tryd.func40 rfl rfl rfl ?_
  intro a ha
  simp only [argEnv, Nat.zero_add, Nat.reduceAdd] at ha
  refine wseq ?_
  refine regp (ρ' := [(0, .string (S s))]) (C := []) ha [] (by kernel_rfl) .nil ?_
  clear ha a; intro a ha
  refine tn ?_
  refine wseq ?_
  refine reg hmix (ρ' := [(0, .string (S s)), (5, .int .i64 (((popen s).1 : Nat) : Int)), (6, .string (S ((popen s).2.1))), (7, .int .i64 ((popen s).2.2))]) (C := [CallOk Tryd.prog w 60 #[.string (S s)] (.tuple #[.int .i64 (((popen s).1 : Nat) : Int), .string (S ((popen s).2.1)), .int .i64 ((popen s).2.2)])]) ha [(1, .val (.tuple #[.int .i64 (((popen s).1 : Nat) : Int), .string (S ((popen s).2.1)), .int .i64 ((popen s).2.2)]))] (by kernel_rfl) (.cons (fun w2 h2 => popen_ok _ w2 (by omega) (keepB h2 hB_0)) .nil) ?_
  clear ha a; intro a w1 ha he
  replace hx := hx.tr he
  replace hB_0 := keepB he hB_0
  clear he
  have hpf := popen_few s
  refine tn ?_
  refine wseq ?_
  refine wseq ?_
  refine regp (ρ' := [(0, .string (S s)), (5, .int .i64 (((popen s).1 : Nat) : Int)), (6, .string (S ((popen s).2.1))), (7, .int .i64 ((popen s).2.2)), (22, .bool (!decide (((popen s).2.2 : Int) = 0)))]) (C := []) ha [] (by kernel_rfl) .nil ?_
  clear ha a; intro a ha
  refine tn ?_
  refine wif ha rfl (fun h22 => ?_) (fun h22 => ?_)
  · simp only [Bool.not_eq_true', Bool.not_eq_false', Bool.and_eq_true, Bool.or_eq_true, Bool.and_eq_false_iff, Bool.or_eq_false_iff, decide_eq_true_eq, decide_eq_false_iff_not, Bool.not_eq_true, Decidable.not_not] at h22
    have hres : pkDec s = ([], (popen s).2.2) := by unfold pkDec; rw [if_pos (by omega)]
    refine wseq ?_
    refine regp (ρ' := [(2, .slice none 0 0), (3, .slice none 0 0), (4, .int .i64 ((popen s).2.2))]) (C := []) ha [] (by kernel_rfl) .nil ?_
    clear ha a; intro a ha
    refine tn ?_
    refine wret ?_
    refine (tr ?_)
    refine fin ha (.tmp rfl (.tmp rfl (.tmp rfl .nil))) ?_
    rw [hres]; exact ⟨none, 0, none, 0, rfl, own_nil _ _ _ _, own_nil _ _ _ _, hx⟩
  · simp only [Bool.not_eq_true', Bool.not_eq_false', Bool.and_eq_true, Bool.or_eq_true, Bool.and_eq_false_iff, Bool.or_eq_false_iff, decide_eq_true_eq, decide_eq_false_iff_not, Bool.not_eq_true, Decidable.not_not] at h22
    have hlong := popen_long (s := s) (by omega)
    have hgo0 : pkDec s = pgo (s.length - 32) (popen s).1 0 (popen s).2.1 [] := by unfold pkDec; rw [if_neg (by omega)]
    refine wskip ?_
    refine tn ?_
    refine wseq ?_
    refine regp (ρ' := [(0, .string (S s)), (5, .int .i64 (((popen s).1 : Nat) : Int)), (6, .string (S ((popen s).2.1))), (8, .slice none 0 0)]) (C := []) ha [] (by kernel_rfl) .nil ?_
    clear ha a; intro a ha
    refine tn ?_
    refine wseq ?_
    refine regp (ρ' := [(0, .string (S s)), (5, .int .i64 (((popen s).1 : Nat) : Int)), (6, .string (S ((popen s).2.1))), (8, .slice none 0 0), (9, .slice none 0 0)]) (C := []) ha [] (by kernel_rfl) .nil ?_
    clear ha a; intro a ha
    refine tn ?_
    refine wseq ?_
    refine regp (ρ' := [(5, .int .i64 (((popen s).1 : Nat) : Int)), (6, .string (S ((popen s).2.1))), (8, .slice none 0 0), (9, .slice none 0 0), (10, .int .i64 ((s.length - 32 : Nat) : Int))]) (C := [BinOk Tryd.prog .sub 3 (.int .i64 ((s.length : Nat) : Int)) (.int .i64 32) (.int .i64 ((s.length - 32 : Nat) : Int))]) ha [(2, .val (.int .i64 ((s.length - 32 : Nat) : Int)))] (by kernel_rfl) (.cons (subN (a := s.length) (n := 32) (by omega) (by unfold InR; omega)) .nil) ?_
    clear ha a; intro a ha
    refine tn ?_
    refine wseq ?_
    refine wseq ?_
    refine regp (ρ' := [(6, .string (S ((popen s).2.1))), (8, .slice none 0 0), (9, .slice none 0 0), (10, .int .i64 ((s.length - 32 : Nat) : Int)), (27, .int .i64 (((popen s).1 : Nat) : Int)), (28, .int .i64 0)]) (C := []) ha [] (by kernel_rfl) .nil ?_
    clear ha a; intro a ha
    refine tn ?_
    refine wblk ?_
    refine wloop (fun zz a w2 => ∃ (i : Nat) (r : List UInt8) (out : List RItemR) (A1 : Option Addr) (c1 : Nat) (A2 : Option Addr) (c2 : Nat), zz = (popen s).1 - i ∧ On 64 [(6, .string (S r)), (8, .slice A1 out.length c1), (9, .slice A2 out.length c2), (10, .int .i64 ((s.length - 32 : Nat) : Int)), (27, .int .i64 (((popen s).1 : Nat) : Int)), (28, .int .i64 ((i : Nat) : Int))] a ∧ Ext w w2 ∧ w2.heap[0]? = some (.cells ⟨wc shaK⟩ T0 f0) ∧ Own w2 w.heap.size 70 35 A1 out.length c1 ((out.map RItemR.X).flatMap encItem) ∧ Own w2 w.heap.size 55 2 A2 out.length c2 (out.flatMap encPlace) ∧ (i ≤ (popen s).1) ∧ (r.length ≤ s.length - 32) ∧ (out.length = i) ∧ (pkDec s = pgo (s.length - 32) ((popen s).1 - i) i r out)) _ ⟨0, (popen s).2.1, [], none, 0, none, 0, rfl, ha.sub (ρ' := [(6, .string (S ((popen s).2.1))), (8, .slice none ([].length) 0), (9, .slice none ([].length) 0), (10, .int .i64 ((s.length - 32 : Nat) : Int)), (27, .int .i64 (((popen s).1 : Nat) : Int)), (28, .int .i64 ((0 : Nat) : Int))]) (by kernel_rfl), hx, hB_0, own_nil _ _ _ _, own_nil _ _ _ _, by omega, by omega, rfl, hgo0⟩ ?_
    clear ha hx hB_0
    rintro zz a w3 ⟨i, r, out, A1, c1, A2, c2, hzz, ha, hx, hB_0, h1, h2, hi, hrl, hol, hgo⟩
    refine wseq ?_
    refine regp (ρ' := [(6, .string (S r)), (8, .slice A1 out.length c1), (9, .slice A2 out.length c2), (10, .int .i64 ((s.length - 32 : Nat) : Int)), (27, .int .i64 (((popen s).1 : Nat) : Int)), (28, .int .i64 ((i : Nat) : Int)), (29, .bool (decide (((i : Nat) : Int) < (((popen s).1 : Nat) : Int))))]) (C := []) ha [] (by kernel_rfl) .nil ?_
    clear ha a; intro a ha
    refine tn ?_
    refine wseq ?_
    refine wif ha rfl (fun h29 => ?_) (fun h29 => ?_)
    · replace h29 := of_decide_eq_true h29
      have hpl := pitem_len r i
      refine wskip ?_
      refine tn ?_
      refine wseq ?_
      refine wblk ?_
      refine wseq ?_
      refine regp (ρ' := [(6, .string (S r)), (8, .slice A1 out.length c1), (9, .slice A2 out.length c2), (10, .int .i64 ((s.length - 32 : Nat) : Int)), (11, .int .i64 ((i : Nat) : Int)), (27, .int .i64 (((popen s).1 : Nat) : Int)), (28, .int .i64 ((i : Nat) : Int))]) (C := []) ha [] (by kernel_rfl) .nil ?_
      clear ha a; intro a ha
      refine tn ?_
      refine wseq ?_
      refine reg_list ?_
      refine seg (ρ' := [(6, .string (S r)), (8, .slice A1 out.length c1), (9, .slice A2 out.length c2), (10, .int .i64 ((s.length - 32 : Nat) : Int)), (27, .int .i64 (((popen s).1 : Nat) : Int)), (28, .int .i64 ((i : Nat) : Int)), (35, .agg ⟨encItem (pitem r i).1⟩), (36, .string (S ((pitem r i).2.1))), (37, .int .i64 ((pitem r i).2.2))]) (C := [CallOk Tryd.prog w3 61 #[.string (S r), .int .i64 ((i : Nat) : Int)] (.tuple #[.agg ⟨encItem (pitem r i).1⟩, .string (S ((pitem r i).2.1)), .int .i64 ((pitem r i).2.2)])]) ha 7 [(2, .val (.tuple #[.agg ⟨encItem (pitem r i).1⟩, .string (S ((pitem r i).2.1)), .int .i64 ((pitem r i).2.2)]))] (by kernel_rfl) (.cons (fun w _ => pitem_ok _ _ w (by omega) (by omega)) .nil) ?_
      clear ha a; intro a w4 ha he
      replace hx := hx.tr he
      replace hB_0 := keepB he hB_0
      replace h1 := ownE he h1
      replace h2 := ownE he h2
      clear he
      refine lnew ha rfl (by kernel_rfl) ⟨.int .i64 0 :: (.int .i64 0 :: ((idc idZ) ++ ([.string (S [])])))⟩ 70 (by kernel_rfl) ?_
      clear ha a; intro bx w5 he hb_bx hB_bx a ha
      have hne_0_bx : 0 ≠ bx := ne_new hB_0 hb_bx
      have hno_h1_bx : (Value.slice A1 out.length c1).ownBlock ≠ some bx := own_ne h1 hb_bx
      replace hB_0 := keepB he hB_0
      replace h1 := ownE he h1
      replace h2 := ownE he h2
      replace hb_bx := Nat.le_trans hx.size hb_bx
      replace hx := hx.tr he
      clear he
      refine lstore (off := 0) ha rfl rfl (by kernel_rfl) hB_bx ⟨encItem (pitem r i).1⟩ rfl (by kernel_rfl) (by kernel_rfl) ?_
      clear ha a; intro w6 hc a ha
      replace hB_0 := hc.keep hB_0 (by first | assumption | exact Ne.symm (by assumption))
      replace h1 := ownCn hc hno_h1_bx h1
      replace h2 := ownC hc hB_bx rfl h2
      replace hx := hc.ext hx hb_bx
      replace hB_bx := hc.at_; clear hc
      refine segp (ρ' := [(6, .string (S r)), (8, .slice A1 out.length c1), (9, .slice A2 out.length c2), (10, .int .i64 ((s.length - 32 : Nat) : Int)), (12, .pointer (some ⟨bx, 0, none⟩)), (13, .string (S ((pitem r i).2.1))), (14, .int .i64 ((pitem r i).2.2)), (27, .int .i64 (((popen s).1 : Nat) : Int)), (28, .int .i64 ((i : Nat) : Int))]) (C := []) ha 2 [] rfl (by kernel_rfl) .nil ?_
      clear ha a; intro a ha
      refine lnil ?_
      replace ha := ha.sub (ρ' := [(6, .string (S r)), (8, .slice A1 out.length c1), (9, .slice A2 out.length c2), (10, .int .i64 ((s.length - 32 : Nat) : Int)), (12, .pointer (some ⟨bx, 0, none⟩)), (13, .string (S ((pitem r i).2.1))), (14, .int .i64 ((pitem r i).2.2)), (27, .int .i64 (((popen s).1 : Nat) : Int)), (28, .int .i64 ((i : Nat) : Int))]) (by kernel_rfl)
      refine tn ?_
      refine wseq ?_
      refine wseq ?_
      refine regp (ρ' := [(6, .string (S r)), (8, .slice A1 out.length c1), (9, .slice A2 out.length c2), (10, .int .i64 ((s.length - 32 : Nat) : Int)), (12, .pointer (some ⟨bx, 0, none⟩)), (13, .string (S ((pitem r i).2.1))), (14, .int .i64 ((pitem r i).2.2)), (27, .int .i64 (((popen s).1 : Nat) : Int)), (28, .int .i64 ((i : Nat) : Int)), (39, .bool (!decide (((pitem r i).2.2 : Int) = 0)))]) (C := []) ha [] (by kernel_rfl) .nil ?_
      clear ha a; intro a ha
      refine tn ?_
      refine wif ha rfl (fun h39 => ?_) (fun h39 => ?_)
      · simp only [Bool.not_eq_true', Bool.not_eq_false', Bool.and_eq_true, Bool.or_eq_true, Bool.and_eq_false_iff, Bool.or_eq_false_iff, decide_eq_true_eq, decide_eq_false_iff_not, Bool.not_eq_true, Decidable.not_not] at h39
        have hres : pkDec s = ([], (pitem r i).2.2) := by rw [hgo]; exact pgo_bad (by omega) (by omega)
        refine wseq ?_
        refine regp (ρ' := [(2, .slice none 0 0), (3, .slice none 0 0), (4, .int .i64 ((pitem r i).2.2))]) (C := []) ha [] (by kernel_rfl) .nil ?_
        clear ha a; intro a ha
        refine tn ?_
        refine wret ?_
        refine (tr (br (tr (tr (br (tr ?_))))))
        refine fin ha (.tmp rfl (.tmp rfl (.tmp rfl .nil))) ?_
        rw [hres]; exact ⟨none, 0, none, 0, rfl, own_nil _ _ _ _, own_nil _ _ _ _, hx⟩
      · simp only [Bool.not_eq_true', Bool.not_eq_false', Bool.and_eq_true, Bool.or_eq_true, Bool.and_eq_false_iff, Bool.or_eq_false_iff, decide_eq_true_eq, decide_eq_false_iff_not, Bool.not_eq_true, Decidable.not_not] at h39
        refine wskip ?_
        refine tn ?_
        refine wseq ?_
        refine reg_list ?_
        refine segp (ρ' := [(6, .string (S r)), (9, .slice A2 out.length c2), (10, .int .i64 ((s.length - 32 : Nat) : Int)), (13, .string (S ((pitem r i).2.1))), (27, .int .i64 (((popen s).1 : Nat) : Int)), (28, .int .i64 ((i : Nat) : Int)), (41, .slice A1 out.length c1), (42, .agg ⟨encItem (pitem r i).1⟩)]) (C := [RunOk Tryd.prog w6 (Instr.loadAt 70 (.pointer (some ⟨bx, 0, none⟩))) (.agg ⟨encItem (pitem r i).1⟩)]) ha 2 [(1, .val (.agg ⟨encItem (pitem r i).1⟩))] rfl (by kernel_rfl) (.cons (ldN (n := 35) hB_bx (by kernel_rfl) (by kernel_rfl) ⟨Nat.le_of_ble_eq_true (by kernel_rfl), (by kernel_rfl)⟩) .nil) ?_
        clear ha a; intro a ha
        refine lnewS ha rfl (by kernel_rfl) ⟨encItem (pitem r i).1⟩ 70 1 (by kernel_rfl) ?_
        clear ha a; intro b7 w8 he hb_b7 hB_b7 a ha
        have hne_0_b7 : 0 ≠ b7 := ne_new hB_0 hb_b7
        have hne_bx_b7 : bx ≠ b7 := ne_new hB_bx hb_b7
        have hno_h1_b7 : (Value.slice A1 out.length c1).ownBlock ≠ some b7 := own_ne h1 hb_b7
        replace hB_0 := keepB he hB_0
        replace hB_bx := keepB he hB_bx
        replace h1 := ownE he h1
        replace h2 := ownE he h2
        replace hb_b7 := Nat.le_trans hx.size hb_b7
        replace hx := hx.tr he
        clear he
        refine lapp (by_ := 64) ha rfl (by kernel_rfl) rfl (by kernel_rfl) rfl h1 rfl (encItem (pitem r i).1) rfl (news_blk hB_b7) rfl (by omega) (by omega) hx.size ?_
        clear ha a; intro A9 c10 w11 h1b hg a ha
        clear hB_b7 hb_b7
        replace hB_bx := keepGo hg hno_h1_bx hB_bx
        replace h2 := ownG hg h1 rfl h2
        replace hx := extG hx hg h1 (Nat.le_refl _)
        replace hB_0 := keepB hx hG_0
        clear hg h1
        rw [show ((((out.map RItemR.X).flatMap encItem) ++ (encItem (pitem r i).1)) : List Value) = (((out ++ [(⟨(pitem r i).1, ((s.length - 32 - r.length : Nat) : Int), ((r.length - (pitem r i).2.1.length : Nat) : Int)⟩ : RItemR)]).map RItemR.X).flatMap encItem) from by simp] at h1b
        rw [show ((out.length + 1) : Nat) = (out ++ [(⟨(pitem r i).1, ((s.length - 32 - r.length : Nat) : Int), ((r.length - (pitem r i).2.1.length : Nat) : Int)⟩ : RItemR)]).length from by simp] at ha h1b
        refine segp (ρ' := [(6, .string (S r)), (8, .slice A9 ((out ++ [(⟨(pitem r i).1, ((s.length - 32 - r.length : Nat) : Int), ((r.length - (pitem r i).2.1.length : Nat) : Int)⟩ : RItemR)]).length) c10), (9, .slice A2 out.length c2), (10, .int .i64 ((s.length - 32 : Nat) : Int)), (13, .string (S ((pitem r i).2.1))), (27, .int .i64 (((popen s).1 : Nat) : Int)), (28, .int .i64 ((i : Nat) : Int))]) (C := []) ha 1 [] rfl (by kernel_rfl) .nil ?_
        clear ha a; intro a ha
        refine lnil ?_
        replace ha := ha.sub (ρ' := [(6, .string (S r)), (8, .slice A9 ((out ++ [(⟨(pitem r i).1, ((s.length - 32 - r.length : Nat) : Int), ((r.length - (pitem r i).2.1.length : Nat) : Int)⟩ : RItemR)]).length) c10), (9, .slice A2 out.length c2), (10, .int .i64 ((s.length - 32 : Nat) : Int)), (13, .string (S ((pitem r i).2.1))), (27, .int .i64 (((popen s).1 : Nat) : Int)), (28, .int .i64 ((i : Nat) : Int))]) (by kernel_rfl)
        refine tn ?_
        refine wseq ?_
        refine reg_list ?_
        refine segp (ρ' := [(8, .slice A9 ((out ++ [(⟨(pitem r i).1, ((s.length - 32 - r.length : Nat) : Int), ((r.length - (pitem r i).2.1.length : Nat) : Int)⟩ : RItemR)]).length) c10), (10, .int .i64 ((s.length - 32 : Nat) : Int)), (13, .string (S ((pitem r i).2.1))), (27, .int .i64 (((popen s).1 : Nat) : Int)), (28, .int .i64 ((i : Nat) : Int)), (45, .slice A2 out.length c2), (55, .agg #[.int .i64 (((s.length - 32) - r.length : Nat) : Int), .int .i64 ((r.length - (((pitem r i).2.1).length) : Nat) : Int)])]) (C := [BinOk Tryd.prog .sub 3 (.int .i64 ((s.length - 32 : Nat) : Int)) (.int .i64 ((r.length : Nat) : Int)) (.int .i64 (((s.length - 32) - r.length : Nat) : Int)), BinOk Tryd.prog .sub 3 (.int .i64 ((r.length : Nat) : Int)) (.int .i64 ((((pitem r i).2.1).length : Nat) : Int)) (.int .i64 ((r.length - (((pitem r i).2.1).length) : Nat) : Int))]) ha 11 [(4, .val (.int .i64 (((s.length - 32) - r.length : Nat) : Int))), (9, .val (.int .i64 ((r.length - (((pitem r i).2.1).length) : Nat) : Int)))] rfl (by kernel_rfl) (.cons (subN (a := (s.length - 32)) (n := r.length) (by omega) (by unfold InR; omega)) (.cons (subN (a := r.length) (n := (((pitem r i).2.1).length)) (by omega) (by unfold InR; omega)) .nil)) ?_
        clear ha a; intro a ha
        refine lnewS ha rfl (by kernel_rfl) #[.int .i64 (((s.length - 32) - r.length : Nat) : Int), .int .i64 ((r.length - (((pitem r i).2.1).length) : Nat) : Int)] 55 1 (by kernel_rfl) ?_
        clear ha a; intro b12 w13 he hb_b12 hB_b12 a ha
        have hne_0_b12 : 0 ≠ b12 := ne_new hB_0 hb_b12
        have hne_bx_b12 : bx ≠ b12 := ne_new hB_bx hb_b12
        have hno_h2_b12 : (Value.slice A2 out.length c2).ownBlock ≠ some b12 := own_ne h2 hb_b12
        replace hB_0 := keepB he hB_0
        replace hB_bx := keepB he hB_bx
        replace h2 := ownE he h2
        replace h1b := ownE he h1b
        replace hb_b12 := Nat.le_trans hx.size hb_b12
        replace hx := hx.tr he
        clear he
        refine lapp (by_ := 16) ha rfl (by kernel_rfl) rfl (by kernel_rfl) rfl h2 rfl [.int .i64 (((s.length - 32) - r.length : Nat) : Int), .int .i64 ((r.length - (((pitem r i).2.1).length) : Nat) : Int)] rfl (news_blk hB_b12) rfl (by omega) (by omega) hx.size ?_
        clear ha a; intro A14 c15 w16 h2b hg a ha
        clear hB_b12 hb_b12
        replace hB_bx := keepG hg h2 rfl hB_bx
        replace h1b := ownG hg h2 rfl h1b
        replace hx := extG hx hg h2 (Nat.le_refl _)
        replace hB_0 := keepB hx hG_0
        clear hg h2
        rw [show (((out.flatMap encPlace) ++ [.int .i64 (((s.length - 32) - r.length : Nat) : Int), .int .i64 ((r.length - (((pitem r i).2.1).length) : Nat) : Int)]) : List Value) = ((out ++ [(⟨(pitem r i).1, ((s.length - 32 - r.length : Nat) : Int), ((r.length - (pitem r i).2.1.length : Nat) : Int)⟩ : RItemR)]).flatMap encPlace) from by simp [encPlace]] at h2b
        rw [show ((out.length + 1) : Nat) = (out ++ [(⟨(pitem r i).1, ((s.length - 32 - r.length : Nat) : Int), ((r.length - (pitem r i).2.1.length : Nat) : Int)⟩ : RItemR)]).length from by simp] at ha h2b
        refine segp (ρ' := [(8, .slice A9 ((out ++ [(⟨(pitem r i).1, ((s.length - 32 - r.length : Nat) : Int), ((r.length - (pitem r i).2.1.length : Nat) : Int)⟩ : RItemR)]).length) c10), (9, .slice A14 ((out ++ [(⟨(pitem r i).1, ((s.length - 32 - r.length : Nat) : Int), ((r.length - (pitem r i).2.1.length : Nat) : Int)⟩ : RItemR)]).length) c15), (10, .int .i64 ((s.length - 32 : Nat) : Int)), (13, .string (S ((pitem r i).2.1))), (27, .int .i64 (((popen s).1 : Nat) : Int)), (28, .int .i64 ((i : Nat) : Int))]) (C := []) ha 1 [] rfl (by kernel_rfl) .nil ?_
        clear ha a; intro a ha
        refine lnil ?_
        replace ha := ha.sub (ρ' := [(8, .slice A9 ((out ++ [(⟨(pitem r i).1, ((s.length - 32 - r.length : Nat) : Int), ((r.length - (pitem r i).2.1.length : Nat) : Int)⟩ : RItemR)]).length) c10), (9, .slice A14 ((out ++ [(⟨(pitem r i).1, ((s.length - 32 - r.length : Nat) : Int), ((r.length - (pitem r i).2.1.length : Nat) : Int)⟩ : RItemR)]).length) c15), (10, .int .i64 ((s.length - 32 : Nat) : Int)), (13, .string (S ((pitem r i).2.1))), (27, .int .i64 (((popen s).1 : Nat) : Int)), (28, .int .i64 ((i : Nat) : Int))]) (by kernel_rfl)
        refine tn ?_
        refine regp (ρ' := [(6, .string (S ((pitem r i).2.1))), (8, .slice A9 ((out ++ [(⟨(pitem r i).1, ((s.length - 32 - r.length : Nat) : Int), ((r.length - (pitem r i).2.1.length : Nat) : Int)⟩ : RItemR)]).length) c10), (9, .slice A14 ((out ++ [(⟨(pitem r i).1, ((s.length - 32 - r.length : Nat) : Int), ((r.length - (pitem r i).2.1.length : Nat) : Int)⟩ : RItemR)]).length) c15), (10, .int .i64 ((s.length - 32 : Nat) : Int)), (27, .int .i64 (((popen s).1 : Nat) : Int)), (28, .int .i64 ((i : Nat) : Int))]) (C := []) ha [] (by kernel_rfl) .nil ?_
        clear ha a; intro a ha
        refine bn ?_
        refine tn ?_
        refine regp (ρ' := [(6, .string (S ((pitem r i).2.1))), (8, .slice A9 ((out ++ [(⟨(pitem r i).1, ((s.length - 32 - r.length : Nat) : Int), ((r.length - (pitem r i).2.1.length : Nat) : Int)⟩ : RItemR)]).length) c10), (9, .slice A14 ((out ++ [(⟨(pitem r i).1, ((s.length - 32 - r.length : Nat) : Int), ((r.length - (pitem r i).2.1.length : Nat) : Int)⟩ : RItemR)]).length) c15), (10, .int .i64 ((s.length - 32 : Nat) : Int)), (27, .int .i64 (((popen s).1 : Nat) : Int)), (28, .int .i64 ((i + 1 : Nat) : Int))]) (C := [InR .i64 ((i + 1 : Nat) : Int)]) ha [] (by kernel_rfl) (.cons (by unfold InR; omega) .nil) ?_
        clear ha a; intro a ha
        exact tn ⟨(popen s).1 - ((i + 1)), by omega, (i + 1), (pitem r i).2.1, (out ++ [(⟨(pitem r i).1, ((s.length - 32 - r.length : Nat) : Int), ((r.length - (pitem r i).2.1.length : Nat) : Int)⟩ : RItemR)]), A9, c10, A14, c15, rfl, ha.sub (ρ' := [(6, .string (S ((pitem r i).2.1))), (8, .slice A9 ((out ++ [(⟨(pitem r i).1, ((s.length - 32 - r.length : Nat) : Int), ((r.length - (pitem r i).2.1.length : Nat) : Int)⟩ : RItemR)]).length) c10), (9, .slice A14 ((out ++ [(⟨(pitem r i).1, ((s.length - 32 - r.length : Nat) : Int), ((r.length - (pitem r i).2.1.length : Nat) : Int)⟩ : RItemR)]).length) c15), (10, .int .i64 ((s.length - 32 : Nat) : Int)), (27, .int .i64 (((popen s).1 : Nat) : Int)), (28, .int .i64 (((i + 1) : Nat) : Int))]) (by kernel_rfl), hx, hB_0, h1b, h2b, by omega, by have := pitem_len r i; omega, by simp; omega, by rw [hgo]; exact pgo_step (by omega) (by omega)⟩
    · replace h29 := of_decide_eq_false h29
      obtain rfl : i = (popen s).1 := by omega
      rw [Nat.sub_self, pgo] at hgo
      refine wexit ?_
      refine (te (te (be ?_)))
      refine tn ?_
      refine wseq ?_
      refine wseq ?_
      refine regp (ρ' := [(8, .slice A1 out.length c1), (9, .slice A2 out.length c2), (61, .bool (!decide ((r : List UInt8) = ([] : List UInt8))))]) (C := []) ha [] (by kernel_rfl) .nil ?_
      clear ha a; intro a ha
      refine tn ?_
      refine wif ha rfl (fun h61 => ?_) (fun h61 => ?_)
      · simp only [Bool.not_eq_true', Bool.not_eq_false', Bool.and_eq_true, Bool.or_eq_true, Bool.and_eq_false_iff, Bool.or_eq_false_iff, decide_eq_true_eq, decide_eq_false_iff_not, Bool.not_eq_true, Decidable.not_not] at h61
        have hres : pkDec s = ([], 2) := by rw [hgo, if_neg h61]
        refine wseq ?_
        refine regp (ρ' := [(2, .slice none 0 0), (3, .slice none 0 0), (4, .int .i64 2)]) (C := []) ha [] (by kernel_rfl) .nil ?_
        clear ha a; intro a ha
        refine tn ?_
        refine wret ?_
        refine (tr ?_)
        refine fin ha (.tmp rfl (.tmp rfl (.tmp rfl .nil))) ?_
        rw [hres]; exact ⟨none, 0, none, 0, rfl, own_nil _ _ _ _, own_nil _ _ _ _, hx⟩
      · simp only [Bool.not_eq_true', Bool.not_eq_false', Bool.and_eq_true, Bool.or_eq_true, Bool.and_eq_false_iff, Bool.or_eq_false_iff, decide_eq_true_eq, decide_eq_false_iff_not, Bool.not_eq_true, Decidable.not_not] at h61
        have hres : pkDec s = (out, 0) := by rw [hgo, if_pos h61]
        refine wskip ?_
        refine tn ?_
        refine wseq ?_
        refine regp (ρ' := [(2, .slice A1 out.length c1), (3, .slice A2 out.length c2), (4, .int .i64 0)]) (C := []) ha [] (by kernel_rfl) .nil ?_
        clear ha a; intro a ha
        refine tn ?_
        refine wret ?_
        refine fin ha (.tmp rfl (.tmp rfl (.tmp rfl .nil))) ?_
        rw [hres]; exact ⟨_, _, _, _, rfl, h1, h2, hx⟩
theorem pkdec_ok (s : List UInt8) (w : World) (hs : s.length ≤ 9223372036854775807) {T0 : Nat} {f0 : Nat × Nat} (hB_0 : w.heap[0]? = some (.cells ⟨wc shaK⟩ T0 f0)) :
    Fn Tryd.prog 22 #[.string (S s)] w (fun v w' => ∃ A c, v = .tuple #[.slice A (pkDec s).1.length c, .int .i64 (pkDec s).2] ∧ Own w' w.heap.size 70 35 A (pkDec s).1.length c (((pkDec s).1.map RItemR.X).flatMap encItem) ∧ Ext w w') := by
  have hG_0 := hB_0
  have hx : Ext w w := Ext.rfl' w
  refine enter (N := 15) (args := [.string (S s)]) Tryd.func22 rfl rfl rfl ?_
  intro a ha
  simp only [argEnv, Nat.zero_add, Nat.reduceAdd] at ha
  refine wseq ?_
  refine regp (ρ' := [(0, .string (S s))]) (C := []) ha [] (by kernel_rfl) .nil ?_
  clear ha a; intro a ha
  refine tn ?_
  refine wseq ?_
  refine reg_list ?_
  refine segp (ρ' := [(8, .string (S s))]) (C := []) ha 1 [] rfl (by kernel_rfl) .nil ?_
  clear ha a; intro a ha
  refine lcall (vs := #[.string (S s)]) ha rfl (by kernel_rfl) rfl rfl (by kernel_rfl) (by kernel_rfl) (pkread_ok s _ (by omega) hB_0) ?_
  clear ha a; rintro _ w1 ⟨A2, c3, A5, c6, rfl, ho4, ho7, he⟩ a ha
  replace ho4 := own_base hx.size ho4
  replace ho7 := own_base hx.size ho7
  replace hB_0 := keepB he hB_0
  replace hx := hx.tr he
  clear he
  refine segp (ρ' := [(4, .slice A2 ((pkDec s).1.length) c3), (6, .int .i64 ((pkDec s).2))]) (C := []) ha 7 [] rfl (by kernel_rfl) .nil ?_
  clear ha a; intro a ha
  refine lnil ?_
  replace ha := ha.sub (ρ' := [(4, .slice A2 ((pkDec s).1.length) c3), (6, .int .i64 ((pkDec s).2))]) (by kernel_rfl)
  refine tn ?_
  refine wseq ?_
  refine regp (ρ' := [(2, .slice A2 ((pkDec s).1.length) c3), (3, .int .i64 ((pkDec s).2))]) (C := []) ha [] (by kernel_rfl) .nil ?_
  clear ha a; intro a ha
  refine tn ?_
  refine wret ?_
  refine fin ha (.tmp rfl (.tmp rfl .nil)) ?_
  exact ⟨_, _, rfl, ho4, hx⟩
theorem pkpl_ok (s : List UInt8) (w : World) (hs : s.length ≤ 9223372036854775807) {T0 : Nat} {f0 : Nat × Nat} (hB_0 : w.heap[0]? = some (.cells ⟨wc shaK⟩ T0 f0)) :
    Fn Tryd.prog 26 #[.string (S s)] w (fun v w' => ∃ A c, v = .tuple #[.slice A (pkDec s).1.length c, .int .i64 (pkDec s).2] ∧ Own w' w.heap.size 55 2 A (pkDec s).1.length c ((pkDec s).1.flatMap encPlace) ∧ Ext w w') := by
  have hG_0 := hB_0
  have hx : Ext w w := Ext.rfl' w
  refine enter (N := 15) (args := [.string (S s)]) Tryd.func26 rfl rfl rfl ?_
  intro a ha
  simp only [argEnv, Nat.zero_add, Nat.reduceAdd] at ha
  refine wseq ?_
  refine regp (ρ' := [(0, .string (S s))]) (C := []) ha [] (by kernel_rfl) .nil ?_
  clear ha a; intro a ha
  refine tn ?_
  refine wseq ?_
  refine reg_list ?_
  refine segp (ρ' := [(8, .string (S s))]) (C := []) ha 1 [] rfl (by kernel_rfl) .nil ?_
  clear ha a; intro a ha
  refine lcall (vs := #[.string (S s)]) ha rfl (by kernel_rfl) rfl rfl (by kernel_rfl) (by kernel_rfl) (pkread_ok s _ (by omega) hB_0) ?_
  clear ha a; rintro _ w1 ⟨A2, c3, A5, c6, rfl, ho4, ho7, he⟩ a ha
  replace ho4 := own_base hx.size ho4
  replace ho7 := own_base hx.size ho7
  replace hB_0 := keepB he hB_0
  replace hx := hx.tr he
  clear he
  refine segp (ρ' := [(5, .slice A5 ((pkDec s).1.length) c6), (6, .int .i64 ((pkDec s).2))]) (C := []) ha 7 [] rfl (by kernel_rfl) .nil ?_
  clear ha a; intro a ha
  refine lnil ?_
  replace ha := ha.sub (ρ' := [(5, .slice A5 ((pkDec s).1.length) c6), (6, .int .i64 ((pkDec s).2))]) (by kernel_rfl)
  refine tn ?_
  refine wseq ?_
  refine regp (ρ' := [(2, .slice A5 ((pkDec s).1.length) c6), (3, .int .i64 ((pkDec s).2))]) (C := []) ha [] (by kernel_rfl) .nil ?_
  clear ha a; intro a ha
  refine tn ?_
  refine wret ?_
  refine fin ha (.tmp rfl (.tmp rfl .nil)) ?_
  exact ⟨_, _, rfl, ho7, hx⟩
end Go.Kn
end
section
/- Packs: what was encoded is decoded; a byte that is cut. Plain. -/
set_option linter.unusedSimpArgs false
set_option linter.unusedVariables false
namespace Go.Kn
/-- may an item be, behind so many? -/
def pfine (x : ItemR) (i : Nat) : Bool := decide (x.Data.length ≤ 4096 ∧ ((x.Kind = 0 ∧ x.Base = idZ ∧ x.Back = 0) ∨ (x.Kind = 1 ∧ x.Base = idZ ∧ 1 ≤ x.Back ∧ x.Back ≤ (i : Int)) ∨ (x.Kind = 2 ∧ x.Back = 0)))
def pmid (x : ItemR) : List UInt8 := if x.Kind = 1 then vput x.Back.toNat else if x.Kind = 2 then x.Base.l else []
/-- an item's bytes -/
def pbytes (x : ItemR) : List UInt8 := oneB8 x.Kind ++ pmid x ++ vtext (lzPack x.Data)
def pAll (l : List ItemR) : Bool := decide (∀ i, i < l.length → pfine (l.getD i default) i = true)
theorem pAll_at {l : List ItemR} (h : pAll l = true) {i : Nat} (hi : i < l.length) : pfine (l.getD i default) i = true := of_decide_eq_true h i hi
theorem pAll_bad {l : List ItemR} {i : Nat} (hi : i < l.length) (h : pfine (l.getD i default) i = false) : pAll l = false := decide_eq_false fun hh => by rw [hh i hi] at h; cases h
theorem pAll_len {l : List ItemR} (h : ∀ j, j < l.length → pfine (l.getD j default) j = true) : pAll l = true := decide_eq_true h
def pbody (l : List ItemR) : List UInt8 := phead ++ vput l.length ++ l.flatMap pbytes
def pTo (l : List ItemR) (i : Nat) : List UInt8 := phead ++ vput l.length ++ (l.take i).flatMap pbytes
def psealed (s : List UInt8) : List UInt8 := s ++ (shaSum s).l
def pkEnc (l : List ItemR) : List UInt8 × Int :=
  if 400 < l.length ∨ pAll l = false then ([], 1) else if 262144 < (psealed (pbody l)).length then ([], 3) else (psealed (pbody l), 0)
def pFew (l : List ItemR) : Bool := decide (l.length ≤ 20 ∧ ∀ i, i < l.length → (l.getD i default).Data.length ≤ 5000)
theorem pFew_spec {l : List ItemR} (h : pFew l = true) : l.length ≤ 20 ∧ ∀ i, i < l.length → (l.getD i default).Data.length ≤ 5000 := of_decide_eq_true h
theorem pFew_bad {l : List ItemR} {i : Nat} (hi : i < l.length) (h : 5000 < (l.getD i default).Data.length) : pFew l = false := decide_eq_false fun hh => by have := hh.2 i hi; omega
theorem pFew_len {l : List ItemR} {i : Nat} (hn : ∀ j, j < i → (l.getD j default).Data.length ≤ 5000) (h : l.length ≤ i ∨ 20 ≤ i) : pFew l = decide (l.length ≤ 20) := by
  unfold pFew
  by_cases hl : l.length ≤ 20
  · rw [decide_eq_true hl]; exact decide_eq_true ⟨hl, fun j hj => hn j (by omega)⟩
  · rw [decide_eq_false hl]; exact decide_eq_false fun hh => hl hh.1
theorem pmid_len (x : ItemR) : (pmid x).length ≤ 32 := by
  have h1 := (vput_len x.Back.toNat).1
  have h2 := x.Base.h
  unfold pmid
  (repeat' split) <;> simp <;> omega
theorem pbytes_len (x : ItemR) : 1 ≤ (pbytes x).length ∧ (pbytes x).length ≤ 44 + x.Data.length := by
  have h1 := pmid_len x
  have h2 := vtext_len (lzPack x.Data)
  have h3 := lzPack_len x.Data
  unfold pbytes oneB8
  simp only [List.length_append, List.length_cons, List.length_nil]
  omega
theorem take_succD {α : Type} [Inhabited α] (l : List α) (i : Nat) (h : i < l.length) : l.take (i + 1) = l.take i ++ [l.getD i default] := by
  rw [List.take_add_one, List.getD_eq_getElem?_getD, List.getElem?_eq_getElem h]; rfl
theorem pTo_succ (l : List ItemR) (i : Nat) (h : i < l.length) : pTo l (i + 1) = pTo l i ++ pbytes (l.getD i default) := by
  unfold pTo
  rw [take_succD l i h, List.flatMap_append]; simp
theorem pTo_all (l : List ItemR) : pTo l l.length = pbody l := by unfold pTo pbody; rw [List.take_length]
theorem pTo_zero (l : List ItemR) : pTo l 0 = phead ++ vput l.length := by unfold pTo; simp
def pof (l : List ItemR) (i : Nat) : Nat := ((l.take i).flatMap pbytes).length
theorem pof_succ (l : List ItemR) (i : Nat) (h : i < l.length) : pof l (i + 1) = pof l i + (pbytes (l.getD i default)).length := by
  unfold pof
  rw [take_succD l i h, List.flatMap_append]; simp
theorem pof_le {l : List ItemR} (hs : ∀ i, i < l.length → (l.getD i default).Data.length ≤ 5000) : ∀ i, i ≤ l.length → pof l i ≤ i * 5044
  | 0, _ => by simp [pof]
  | i + 1, h => by
    have := pof_le hs i (by omega)
    have h1 := (pbytes_len (l.getD i default)).2
    have h2 := hs i (by omega)
    rw [pof_succ l i (by omega)]; omega
theorem pTo_len {l : List ItemR} (i : Nat) : (pTo l i).length ≤ 15 + pof l i := by
  have := (vput_len l.length).1
  unfold pTo pof phead
  simp only [List.length_append, List.length_cons, List.length_nil]; omega
/-! ## reading what was written -/
theorem pdata_put {t : List UInt8} (h : t.length ≤ 4096) : pdata (lzPack t) = (t, 0) := by
  have := lzPack_unpack t (by omega) 4096
  rw [if_pos h] at this
  unfold pdata
  have e : ((4096 : Nat) : Int) = 4096 := rfl
  rw [e] at this
  rw [this]; rfl
theorem pitem_put (x : ItemR) (i : Nat) (r : List UInt8) (h : pfine x i = true) (hi : i ≤ 1000000) : pitem (pbytes x ++ r) i = (x, r, 0) := by
  have hf := of_decide_eq_true h
  obtain ⟨hd, hk⟩ := hf
  have hpl := lzPack_len x.Data
  have hv : vtake (vtext (lzPack x.Data) ++ r) = (lzPack x.Data, r, 0) := vtake_put (by omega) r
  have hpd := pdata_put hd
  have key : ∀ k : Nat, k ≤ 2 → x.Kind = (k : Int) → pbase k (pmid x ++ (vtext (lzPack x.Data) ++ r)) i = (⟨x.Kind, x.Back, x.Base, []⟩, vtext (lzPack x.Data) ++ r, true) → pitem (pbytes x ++ r) i = (x, r, 0) := by
    intro k hk2 hkk hb
    have e1 : pbytes x ++ r = UInt8.ofNat k :: (pmid x ++ (vtext (lzPack x.Data) ++ r)) := by
      unfold pbytes oneB8
      rw [hkk, show ((k : Int) % 256).toNat = k by omega]
      simp
    have e2 : (pbytes x ++ r).getD 0 0 = UInt8.ofNat k := by rw [e1]; rfl
    have e3 : (pbytes x ++ r).drop 1 = pmid x ++ (vtext (lzPack x.Data) ++ r) := by rw [e1]; rfl
    have e4 : (UInt8.ofNat k).toNat = k := UInt8.toNat_ofNat_of_lt' (by show k < 256; omega)
    unfold pitem
    rw [e2, e3, e4, hb, if_neg (by rw [e1]; simp), if_neg (by simp)]
    simp only
    rw [hv, if_neg (by simp)]
    simp only
    rw [hpd, if_neg (by simp)]
  rcases hk with ⟨k0, hb, hB⟩ | ⟨k1, hb, h1, h2⟩ | ⟨k2, hB⟩
  · refine key 0 (by omega) k0 ?_
    unfold pbase pmid
    rw [if_pos rfl, if_neg (by omega), if_neg (by omega), k0, hb, hB]; rfl
  · refine key 1 (by omega) k1 ?_
    unfold pbase pmid
    rw [if_neg (by omega), if_pos rfl, if_pos k1, vget_put (by omega), if_neg (by simp only [not_or]; omega), k1, hb]
    simp only [Prod.mk.injEq, ItemR.mk.injEq, and_true, true_and]
    exact ⟨rfl, Int.toNat_of_nonneg (by omega)⟩
  · refine key 2 (by omega) k2 ?_
    have hx := x.Base.h
    unfold pbase pmid
    rw [if_neg (by omega), if_neg (by omega), if_pos rfl, if_neg (show ¬ x.Kind = 1 by omega), if_pos k2, if_neg (by rw [List.length_append]; omega), List.take_left' hx, List.drop_left' hx, mkId_self, k2, hB]; rfl
/-- the items, with their places -/
def pls : List ItemR → Nat → List RItemR
  | [], _ => []
  | x :: l, off => ⟨x, (off : Nat), ((pbytes x).length : Nat)⟩ :: pls l (off + (pbytes x).length)
theorem pls_len : ∀ (l : List ItemR) (off : Nat), (pls l off).length = l.length
  | [], _ => rfl
  | x :: l, off => by rw [pls, List.length_cons, List.length_cons, pls_len l]
theorem pls_map : ∀ (l : List ItemR) (off : Nat), (pls l off).map RItemR.X = l
  | [], _ => rfl
  | x :: l, off => by rw [pls, List.map_cons, pls_map l]
theorem pls_at : ∀ (l : List ItemR) (off i : Nat), i < l.length → (pls l off).getD i default = ⟨l.getD i default, ((off + pof l i : Nat) : Int), (((pbytes (l.getD i default)).length : Nat) : Int)⟩
  | [], _, _, h => by simp at h
  | x :: l, off, 0, _ => by simp [pls, pof]
  | x :: l, off, i + 1, h => by
    have := pls_at l (off + (pbytes x).length) i (by simpa using h)
    rw [pls, List.getD_cons_succ, this, List.getD_cons_succ]
    have e : pof (x :: l) (i + 1) = (pbytes x).length + pof l i := by unfold pof; simp
    rw [e, Nat.add_assoc]
theorem pgo_put (L : Nat) : ∀ (l : List ItemR) (i off : Nat) (out : List RItemR), (∀ j, j < l.length → pfine (l.getD j default) (i + j) = true) → i + l.length ≤ 1000 → L = off + (l.flatMap pbytes).length →
    pgo L l.length i (l.flatMap pbytes) out = (out ++ pls l off, 0)
  | [], i, off, out, _, _, _ => by simp [pgo, pls]
  | x :: l, i, off, out, h, hn, hL => by
    have hx := pitem_put x i (l.flatMap pbytes) (by simpa using h 0 (by simp)) (by simp at hn; omega)
    have e1 : (x :: l).flatMap pbytes = pbytes x ++ l.flatMap pbytes := rfl
    rw [e1] at hL ⊢
    rw [List.length_cons, pgo, hx, if_neg (by simp)]
    simp only
    rw [List.length_append] at hL ⊢
    have ih := pgo_put L l (i + 1) (off + (pbytes x).length) (out ++ [⟨x, ((L - ((pbytes x).length + (l.flatMap pbytes).length) : Nat) : Int), (((pbytes x).length + (l.flatMap pbytes).length - (l.flatMap pbytes).length : Nat) : Int)⟩])
      (fun j hj => by have := h (j + 1) (by simpa using hj); rw [List.getD_cons_succ] at this; rwa [show i + 1 + j = i + (j + 1) by omega]) (by simp at hn; omega) (by omega)
    rw [ih, pls, List.append_assoc]
    congr 3
    · rw [show L - ((pbytes x).length + (l.flatMap pbytes).length) = off by omega, show (pbytes x).length + (l.flatMap pbytes).length - (l.flatMap pbytes).length = (pbytes x).length by omega]; rfl
theorem psealed_len (s : List UInt8) : (psealed s).length = s.length + 32 := by unfold psealed; rw [List.length_append, (shaSum s).h]
theorem psealed_take (s : List UInt8) : (psealed s).take ((psealed s).length - 32) = s := by
  rw [psealed_len, Nat.add_sub_cancel]; unfold psealed; rw [List.take_left]
theorem psealed_drop (s : List UInt8) : (psealed s).drop ((psealed s).length - 32) = (shaSum s).l := by
  rw [psealed_len, Nat.add_sub_cancel]; unfold psealed; rw [List.drop_left]
theorem vput_small {n : Nat} (h : n < 128) : (vput n).length = 1 := vputf_len1 8 n h
theorem pkDec_put (l : List ItemR) (hl : l.length ≤ 20) (ha : pAll l = true) (hs : (psealed (pbody l)).length ≤ 262144) : pkDec (psealed (pbody l)) = (pls l 6, 0) := by
  have hv := vput_small (n := l.length) (by omega)
  have hlen : (pbody l).length = 6 + (l.flatMap pbytes).length := by unfold pbody phead; simp only [List.length_append, List.length_cons, List.length_nil, hv]
  have hsl := psealed_len (pbody l)
  have h5 : (psealed (pbody l)).take 5 = phead := by unfold psealed pbody; rw [List.append_assoc, List.append_assoc]; exact List.take_left' rfl
  have hmid : ((psealed (pbody l)).drop 5).take ((psealed (pbody l)).length - 32 - 5) = vput l.length ++ l.flatMap pbytes := by
    have e : (psealed (pbody l)).drop 5 = (vput l.length ++ l.flatMap pbytes) ++ (shaSum (pbody l)).l := by
      show ((phead ++ vput l.length ++ l.flatMap pbytes) ++ _).drop 5 = _
      rw [List.append_assoc, List.append_assoc, List.drop_left' (show phead.length = 5 from rfl), List.append_assoc]
    rw [e]
    exact List.take_left' (by rw [hsl, hlen, List.length_append, hv]; omega)
  have hop : popen (psealed (pbody l)) = (l.length, l.flatMap pbytes, 0) := by
    unfold popen
    rw [if_neg (by omega), if_neg (by rintro (h | h); exact h h5; omega), psealed_take, psealed_drop, if_neg (by simp), hmid, vget_put (by omega), if_neg (by simp), if_neg (by show ¬ 400 < l.length; omega)]
  unfold pkDec
  rw [hop, if_neg (by simp), hsl]
  have := pgo_put ((pbody l).length + 32 - 32) l 0 6 [] (fun j hj => by rw [Nat.zero_add]; exact pAll_at ha hj) (by omega) (by rw [hlen]; omega)
  simpa using this
/-- with a byte cut out, it is no pack, but another sum, or none -/
theorem pk_cut (s : List UInt8) (k : Nat) (h1 : 33 ≤ s.length) (h2 : s.length ≤ 262144) (hk : k < s.length - 32) :
    (pkDec (s.take k ++ s.drop (k + 1))).2 = 5 ∨ (pkDec (s.take k ++ s.drop (k + 1))).2 = 2 ∨ (shaSum (s.take k ++ (s.drop (k + 1)).take (s.length - 32 - (k + 1)))).l = s.drop (s.length - 32) := by
  have hul : (s.take k ++ s.drop (k + 1)).length = s.length - 1 := by rw [List.length_append, List.length_take, List.length_drop]; omega
  have hk2 : (s.take k).length = k := by rw [List.length_take]; omega
  have ht : (s.take k ++ s.drop (k + 1)).take (s.length - 1 - 32) = s.take k ++ (s.drop (k + 1)).take (s.length - 32 - (k + 1)) := by
    rw [List.take_append, List.take_take, hk2, Nat.min_eq_right (by omega), show s.length - 1 - 32 - k = s.length - 32 - (k + 1) by omega]
  have hd : (s.take k ++ s.drop (k + 1)).drop (s.length - 1 - 32) = s.drop (s.length - 32) := by
    rw [List.drop_append, hk2, List.drop_of_length_le (by omega), List.nil_append, List.drop_drop, show k + 1 + (s.length - 1 - 32 - k) = s.length - 32 by omega]
  by_cases hq : (shaSum (s.take k ++ (s.drop (k + 1)).take (s.length - 32 - (k + 1)))).l = s.drop (s.length - 32)
  · exact .inr (.inr hq)
  · have hop : (popen (s.take k ++ s.drop (k + 1))).2.2 = 5 ∨ (popen (s.take k ++ s.drop (k + 1))).2.2 = 2 := by
      unfold popen
      rw [hul, ht, hd, if_neg (by omega)]
      split
      · exact .inr rfl
      · exact .inl rfl
    have he : (pkDec (s.take k ++ s.drop (k + 1))).2 = (popen (s.take k ++ s.drop (k + 1))).2.2 := by
      unfold pkDec
      rw [if_pos (by rcases hop with h | h <;> rw [h] <;> decide)]
    rw [he]
    rcases hop with h | h
    · exact .inl h
    · exact .inr (.inl h)
end Go.Kn
end
section
/- Packs: the document's way, plain. -/
set_option linter.unusedSimpArgs false
set_option linter.unusedVariables false
namespace Go.Kn
theorem vget_suff (s : List UInt8) (h : (vget s).2.2 = 0) : (vget s).2.1 <:+ s := by
  rw [(vget_drop s h).1]; exact List.drop_suffix _ _
theorem vtake_suff (s : List UInt8) : (vtake s).2.1 <:+ s := by
  unfold vtake
  split
  · exact List.nil_suffix
  · rename_i h
    simp only [not_or] at h
    exact (List.drop_suffix _ _).trans (vget_suff s (by omega))
theorem pbase_suff (k : Nat) (s : List UInt8) (a : Nat) : (pbase k s a).2.1 <:+ s := by
  unfold pbase
  split
  · exact List.suffix_refl _
  · split
    · split
      · exact List.nil_suffix
      · rename_i h; simp only [not_or] at h; exact vget_suff s (by omega)
    · split
      · split
        · exact List.nil_suffix
        · exact List.drop_suffix _ _
      · exact List.nil_suffix
theorem pitem_suff (s : List UInt8) (a : Nat) : (pitem s a).2.1 <:+ s := by
  unfold pitem
  (repeat' split) <;> first | exact List.nil_suffix | exact ((vtake_suff _).trans (pbase_suff _ _ _)).trans (List.drop_suffix _ _)
theorem pitem_rest (t : List UInt8) (p a : Nat) (hp : p ≤ t.length) : (pitem (t.drop p) a).2.1 = t.drop (p + ((t.drop p).length - (pitem (t.drop p) a).2.1.length)) := by
  have := List.suffix_iff_eq_drop.1 (pitem_suff (t.drop p) a)
  rw [List.drop_drop] at this
  exact this
theorem pkDec_bad {s : List UInt8} {a : Nat} {b : List UInt8} {e : Int} (h : popen s = (a, b, e)) (he : e ≠ 0) : pkDec s = ([], e) := by
  unfold pkDec; rw [h, if_pos he]
theorem psealed_eq {s : List UInt8} (h : 32 ≤ s.length) : psealed (s.take (s.length - 32)) = s ↔ (shaSum (s.take (s.length - 32))).l = s.drop (s.length - 32) := by
  unfold psealed
  conv => lhs; rhs; rw [← List.take_append_drop (s.length - 32) s]
  rw [List.append_cancel_left_eq]
theorem itemR_eq {x y : ItemR} (h1 : x.Kind = y.Kind) (h2 : x.Back = y.Back) (h3 : x.Base = y.Base) (h4 : x.Data = y.Data) : x = y := by
  cases x; cases y; simp_all
theorem mapX_get (l : List RItemR) (i : Nat) (h : i < l.length) : (l.map RItemR.X).getD i default = (l.getD i default).X := by
  simp [List.getD_eq_getElem?_getD, h]
theorem asR_X (l : List ItemR) : (l.map asR).map RItemR.X = l := by
  rw [List.map_map]; conv => rhs; rw [← List.map_id l]
  exact List.map_congr_left fun x _ => rfl
theorem asR_at (l : List ItemR) (i : Nat) (h : i < l.length) : (l.map asR).getD i default = asR (l.getD i default) := by
  simp [List.getD_eq_getElem?_getD, h]
/-- an item's bytes, packed by way 0 -/
def rbytes (x : ItemR) : List UInt8 := oneB8 x.Kind ++ (if x.Kind = 1 then vput (x.Back % 18446744073709551616).toNat else []) ++ (if x.Kind = 2 then x.Base.l else []) ++ vtext (0 :: x.Data)
def rTo (l : List RItemR) (n i : Nat) : List UInt8 := phead ++ vput n ++ (l.take i).flatMap fun y => rbytes y.X
theorem rTo_succ (l : List RItemR) (n i : Nat) (h : i < l.length) : rTo l n (i + 1) = rTo l n i ++ rbytes (l.getD i default).X := by
  unfold rTo
  rw [take_succD l i h, List.flatMap_append]; simp
theorem rbytes_len (x : ItemR) : (rbytes x).length ≤ 60 + x.Data.length := by
  have h1 := (vput_len (x.Back % 18446744073709551616).toNat).1
  have h2 := x.Base.h
  have h3 := vtext_len (0 :: x.Data)
  unfold rbytes oneB8
  simp only [List.length_append, List.length_cons, List.length_nil] at *
  (repeat' split) <;> (try simp only [List.length_nil]) <;> omega
theorem rTo_len {l : List RItemR} {n : Nat} (hs : ∀ i, i < l.length → (l.getD i default).X.Data.length ≤ 5000) : ∀ i, i ≤ l.length → (rTo l n i).length ≤ 15 + i * 5060
  | 0, _ => by
    have := (vput_len n).1
    unfold rTo phead; simp; omega
  | i + 1, h => by
    have := rTo_len (n := n) hs i (by omega)
    have h1 := rbytes_len (l.getD i default).X
    have h2 := hs i (by omega)
    rw [rTo_succ l n i (by omega), List.length_append]; omega
def rStored (l : List RItemR) (n : Nat) (b : List UInt8) : List UInt8 := psealed (rTo l n l.length ++ b)
def rFineA (l : List RItemR) : Bool := decide (l.length ≤ 400 ∧ ∀ i, i < l.length → pfine (l.getD i default).X i = true)
theorem rFineA_bad {l : List RItemR} {i : Nat} (hi : i < l.length) (h : pfine (l.getD i default).X i = false) : rFineA l = false := decide_eq_false fun hh => by rw [hh.2 i hi] at h; cases h
theorem rFineA_len {l : List RItemR} (h : ∀ j, j < l.length → pfine (l.getD j default).X j = true) : rFineA l = decide (l.length ≤ 400) := by
  unfold rFineA
  by_cases hl : l.length ≤ 400
  · rw [decide_eq_true hl]; exact decide_eq_true ⟨hl, h⟩
  · rw [decide_eq_false hl]; exact decide_eq_false fun hh => hl hh.1
theorem rFineA_as (l : List ItemR) : rFineA (l.map asR) = (decide (l.length ≤ 400) && pAll l) := by
  unfold rFineA pAll
  rw [← Bool.decide_and]
  refine decide_eq_decide.2 ?_
  rw [List.length_map]
  refine and_congr_right fun _ => forall_congr' fun i => ?_
  refine imp_congr_right fun hi => ?_
  rw [asR_at l i hi]; exact Iff.rfl
theorem pfine_iff {x : ItemR} {i : Nat} : pfine x i = true ↔ x.Data.length ≤ 4096 ∧ ((x.Kind = 0 ∧ x.Base = idZ ∧ x.Back = 0) ∨ (x.Kind = 1 ∧ x.Base = idZ ∧ 1 ≤ x.Back ∧ x.Back ≤ (i : Int)) ∨ (x.Kind = 2 ∧ x.Back = 0)) := decide_eq_true_iff
theorem pfine_no {x : ItemR} {i : Nat} (h : ¬ (x.Data.length ≤ 4096 ∧ ((x.Kind = 0 ∧ x.Base = idZ ∧ x.Back = 0) ∨ (x.Kind = 1 ∧ x.Base = idZ ∧ 1 ≤ x.Back ∧ x.Back ≤ (i : Int)) ∨ (x.Kind = 2 ∧ x.Back = 0)))) : pfine x i = false := decide_eq_false h
end Go.Kn
end
