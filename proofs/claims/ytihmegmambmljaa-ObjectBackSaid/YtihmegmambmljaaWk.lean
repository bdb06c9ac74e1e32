import Derived.Test.YtihmegmambmljaaEngN
import Derived.Test.YtihmegmambmljaaWj
set_option linter.unusedSimpArgs false
set_option linter.unusedVariables false
set_option maxRecDepth 100000
namespace Go.Kn
open Go.Proofs
theorem wb_new (B b : Nat) (l : List UInt8) (A : Option Addr) (c : Nat) (k : Nat) (hk : k < 256) (w : World) (hB0 : B ≤ w.heap.size) (hBb : B ≤ b) (hl : l.length + 1 ≤ 140737488355328) (hB_b : w.heap[b]? = some (.cells #[.pointer none, .slice A l.length c] 91 (0, 0))) (ho : Own w B 5 1 A l.length c (bys l)) :
    Fn Try.prog 48 #[.pointer (some ⟨b, 0, none⟩), .int .u8 ((k : Nat) : Int)] w (fun x w' => x = .nilIface ∧ Bd 91 w' B b (l ++ [UInt8.ofNat k]) ∧ Oth B b w w') := by
  have hx : Oth B b w w := Oth.rfl' _ _ w
  refine enter (N := 17) (args := [.pointer (some ⟨b, 0, none⟩), .int .u8 ((k : Nat) : Int)]) Try.func48 rfl rfl rfl ?_
  intro a ha
  simp only [argEnv, Nat.zero_add, Nat.reduceAdd] at ha
  refine wseq ?_
  refine regp (ρ' := [(0, .pointer (some ⟨b, 0, none⟩)), (1, .int .u8 ((k : Nat) : Int))]) (C := []) ha [] (by kernel_rfl) .nil ?_
  clear ha a; intro a ha
  refine tn ?_
  refine wseq ?_
  refine reg_list ?_
  refine segp (ρ' := [(0, .pointer (some ⟨b, 0, none⟩)), (1, .int .u8 ((k : Nat) : Int)), (5, .pointer (some ⟨b, 0, none⟩))]) (C := []) ha 1 [] rfl (by kernel_rfl) .nil ?_
  clear ha a; intro a ha
  refine lcall (vs := #[.pointer (some ⟨b, 0, none⟩)]) ha rfl (by kernel_rfl) rfl rfl (by kernel_rfl) (by kernel_rfl) (cc_new b _ w rfl hB_b) ?_
  clear ha a; rintro _ w1 ⟨rfl, hfr, hB'⟩ a ha
  replace ho := ownFr1 hfr hB_b rfl ho
  replace hx := hx.fr hfr hBb (Nat.le_trans hB0 hx.below.size)
  replace hB_b := hB'; clear hB' hfr
  refine lnil ?_
  replace ha := ha.sub (ρ' := [(0, .pointer (some ⟨b, 0, none⟩)), (1, .int .u8 ((k : Nat) : Int))]) (by kernel_rfl)
  refine tn ?_
  refine wseq ?_
  refine reg_list ?_
  refine segp (ρ' := [(7, .pointer (some ⟨b, 0, none⟩)), (11, .slice A l.length c), (12, .int .u8 ((k : Nat) : Int))]) (C := [RunOk Try.prog w1 (Instr.loadAt 36 (.pointer (some ⟨b, 1, none⟩))) (.slice A l.length c)]) ha 6 [(4, .val (.slice A l.length c))] rfl (by kernel_rfl) (.cons (ld1 hB_b (by kernel_rfl) rfl) .nil) ?_
  clear ha a; intro a ha
  refine lnewS ha rfl (by kernel_rfl) #[.int .u8 ((k : Nat) : Int)] 5 1 (by kernel_rfl) ?_
  clear ha a; intro b2 w3 he hb_b2 hB_b2 a ha
  have hne_b_b2 : b ≠ b2 := ne_new hB_b hb_b2
  have hno_ho_b2 : (Value.slice A l.length c).ownBlock ≠ some b2 := own_ne ho hb_b2
  replace hB_b := keepB he hB_b
  replace ho := ownE he ho
  replace hb_b2 := Nat.le_trans hx.below.size hb_b2
  replace hx := hx.ext he (Nat.le_trans hB0 hx.below.size)
  clear he
  refine lapp (by_ := 1) ha rfl (by kernel_rfl) rfl (by kernel_rfl) rfl ho rfl [.int .u8 ((k : Nat) : Int)] rfl (news_blk hB_b2) rfl (by omega) (by omega) (Nat.le_trans hB0 hx.below.size) ?_
  clear ha a; intro A4 c5 w6 ho2 hg a ha
  clear hB_b2 hb_b2
  replace hB_b := keepG hg ho rfl hB_b
  replace hx := hx.grown hg ho (Nat.le_trans hB0 hx.below.size)
  clear hg ho
  rw [show ((bys l ++ [.int .u8 ((k : Nat) : Int)]) : List Value) = bys (l ++ [UInt8.ofNat k]) from by first | exact bys_pushN _ _ hk | simp] at ho2
  rw [show ((l.length + 1) : Nat) = (l ++ [UInt8.ofNat k]).length from by simp] at ha ho2
  refine segp (ρ' := [(14, .slice A4 ((l ++ [UInt8.ofNat k]).length) c5), (16, .pointer (some ⟨b, 1, none⟩))]) (C := []) ha 2 [] rfl (by kernel_rfl) .nil ?_
  clear ha a; intro a ha
  refine lstore (off := 1) ha rfl rfl (by kernel_rfl) hB_b #[.pointer (some ⟨b, 0, none⟩), .slice A4 ((l ++ [UInt8.ofNat k]).length) c5] rfl (by kernel_rfl) (by kernel_rfl) ?_
  clear ha a; intro w7 hc a ha
  replace ho2 := ownC hc hB_b rfl ho2
  replace hx := hx.chg hc hBb (Nat.le_trans hB0 hx.below.size)
  replace hB_b := hc.at_; clear hc
  refine lnil ?_
  replace ha := ha.sub (ρ' := []) (by kernel_rfl)
  refine tn ?_
  refine wseq ?_
  refine regp (ρ' := [(4, .nilIface)]) (C := []) ha [] (by kernel_rfl) .nil ?_
  clear ha a; intro a ha
  refine tn ?_
  refine wret ?_
  refine fin ha (.tmp rfl .nil) ?_
  exact ⟨rfl, ⟨_, _, _, .inr rfl, hBb, hB_b, ho2⟩, hx⟩
theorem wb_used (B b : Nat) (l : List UInt8) (A : Option Addr) (c : Nat) (k : Nat) (hk : k < 256) (w : World) (hB0 : B ≤ w.heap.size) (hBb : B ≤ b) (hl : l.length + 1 ≤ 140737488355328) (hB_b : w.heap[b]? = some (.cells #[.pointer (some ⟨b, 0, none⟩), .slice A l.length c] 91 (0, 0))) (ho : Own w B 5 1 A l.length c (bys l)) :
    Fn Try.prog 48 #[.pointer (some ⟨b, 0, none⟩), .int .u8 ((k : Nat) : Int)] w (fun x w' => x = .nilIface ∧ Bd 91 w' B b (l ++ [UInt8.ofNat k]) ∧ Oth B b w w') := by
  have hx : Oth B b w w := Oth.rfl' _ _ w
  refine enter (N := 17) (args := [.pointer (some ⟨b, 0, none⟩), .int .u8 ((k : Nat) : Int)]) Try.func48 rfl rfl rfl ?_
  intro a ha
  simp only [argEnv, Nat.zero_add, Nat.reduceAdd] at ha
  refine wseq ?_
  refine regp (ρ' := [(0, .pointer (some ⟨b, 0, none⟩)), (1, .int .u8 ((k : Nat) : Int))]) (C := []) ha [] (by kernel_rfl) .nil ?_
  clear ha a; intro a ha
  refine tn ?_
  refine wseq ?_
  refine reg_list ?_
  refine segp (ρ' := [(0, .pointer (some ⟨b, 0, none⟩)), (1, .int .u8 ((k : Nat) : Int)), (5, .pointer (some ⟨b, 0, none⟩))]) (C := []) ha 1 [] rfl (by kernel_rfl) .nil ?_
  clear ha a; intro a ha
  refine lcall (vs := #[.pointer (some ⟨b, 0, none⟩)]) ha rfl (by kernel_rfl) rfl rfl (by kernel_rfl) (by kernel_rfl) (cc_used b _ w hB_b) ?_
  clear ha a; rintro _ w1 ⟨rfl, hfr, hB'⟩ a ha
  replace ho := ownFr1 hfr hB_b rfl ho
  replace hx := hx.fr hfr hBb (Nat.le_trans hB0 hx.below.size)
  replace hB_b := hB'; clear hB' hfr
  refine lnil ?_
  replace ha := ha.sub (ρ' := [(0, .pointer (some ⟨b, 0, none⟩)), (1, .int .u8 ((k : Nat) : Int))]) (by kernel_rfl)
  refine tn ?_
  refine wseq ?_
  refine reg_list ?_
  refine segp (ρ' := [(7, .pointer (some ⟨b, 0, none⟩)), (11, .slice A l.length c), (12, .int .u8 ((k : Nat) : Int))]) (C := [RunOk Try.prog w1 (Instr.loadAt 36 (.pointer (some ⟨b, 1, none⟩))) (.slice A l.length c)]) ha 6 [(4, .val (.slice A l.length c))] rfl (by kernel_rfl) (.cons (ld1 hB_b (by kernel_rfl) rfl) .nil) ?_
  clear ha a; intro a ha
  refine lnewS ha rfl (by kernel_rfl) #[.int .u8 ((k : Nat) : Int)] 5 1 (by kernel_rfl) ?_
  clear ha a; intro b2 w3 he hb_b2 hB_b2 a ha
  have hne_b_b2 : b ≠ b2 := ne_new hB_b hb_b2
  have hno_ho_b2 : (Value.slice A l.length c).ownBlock ≠ some b2 := own_ne ho hb_b2
  replace hB_b := keepB he hB_b
  replace ho := ownE he ho
  replace hb_b2 := Nat.le_trans hx.below.size hb_b2
  replace hx := hx.ext he (Nat.le_trans hB0 hx.below.size)
  clear he
  refine lapp (by_ := 1) ha rfl (by kernel_rfl) rfl (by kernel_rfl) rfl ho rfl [.int .u8 ((k : Nat) : Int)] rfl (news_blk hB_b2) rfl (by omega) (by omega) (Nat.le_trans hB0 hx.below.size) ?_
  clear ha a; intro A4 c5 w6 ho2 hg a ha
  clear hB_b2 hb_b2
  replace hB_b := keepG hg ho rfl hB_b
  replace hx := hx.grown hg ho (Nat.le_trans hB0 hx.below.size)
  clear hg ho
  rw [show ((bys l ++ [.int .u8 ((k : Nat) : Int)]) : List Value) = bys (l ++ [UInt8.ofNat k]) from by first | exact bys_pushN _ _ hk | simp] at ho2
  rw [show ((l.length + 1) : Nat) = (l ++ [UInt8.ofNat k]).length from by simp] at ha ho2
  refine segp (ρ' := [(14, .slice A4 ((l ++ [UInt8.ofNat k]).length) c5), (16, .pointer (some ⟨b, 1, none⟩))]) (C := []) ha 2 [] rfl (by kernel_rfl) .nil ?_
  clear ha a; intro a ha
  refine lstore (off := 1) ha rfl rfl (by kernel_rfl) hB_b #[.pointer (some ⟨b, 0, none⟩), .slice A4 ((l ++ [UInt8.ofNat k]).length) c5] rfl (by kernel_rfl) (by kernel_rfl) ?_
  clear ha a; intro w7 hc a ha
  replace ho2 := ownC hc hB_b rfl ho2
  replace hx := hx.chg hc hBb (Nat.le_trans hB0 hx.below.size)
  replace hB_b := hc.at_; clear hc
  refine lnil ?_
  replace ha := ha.sub (ρ' := []) (by kernel_rfl)
  refine tn ?_
  refine wseq ?_
  refine regp (ρ' := [(4, .nilIface)]) (C := []) ha [] (by kernel_rfl) .nil ?_
  clear ha a; intro a ha
  refine tn ?_
  refine wret ?_
  refine fin ha (.tmp rfl .nil) ?_
  exact ⟨rfl, ⟨_, _, _, .inr rfl, hBb, hB_b, ho2⟩, hx⟩
theorem ws_new (B b : Nat) (l : List UInt8) (A : Option Addr) (c : Nat) (q : List UInt8) (hq : l.length + q.length ≤ 140737488355328) (w : World) (hB0 : B ≤ w.heap.size) (hBb : B ≤ b) (hl : l.length + 1 ≤ 140737488355328) (hB_b : w.heap[b]? = some (.cells #[.pointer none, .slice A l.length c] 91 (0, 0))) (ho : Own w B 5 1 A l.length c (bys l)) :
    Fn Try.prog 49 #[.pointer (some ⟨b, 0, none⟩), .string (S q)] w (fun x w' => x = .tuple #[.int .i64 ((q.length : Nat) : Int), .nilIface] ∧ Bd 91 w' B b (l ++ q) ∧ Oth B b w w') := by
  have hx : Oth B b w w := Oth.rfl' _ _ w
  refine enter (N := 19) (args := [.pointer (some ⟨b, 0, none⟩), .string (S q)]) Try.func49 rfl rfl rfl ?_
  intro a ha
  simp only [argEnv, Nat.zero_add, Nat.reduceAdd] at ha
  refine wseq ?_
  refine regp (ρ' := [(0, .pointer (some ⟨b, 0, none⟩)), (1, .string (S q))]) (C := []) ha [] (by kernel_rfl) .nil ?_
  clear ha a; intro a ha
  refine tn ?_
  refine wseq ?_
  refine reg_list ?_
  refine segp (ρ' := [(0, .pointer (some ⟨b, 0, none⟩)), (1, .string (S q)), (6, .pointer (some ⟨b, 0, none⟩))]) (C := []) ha 1 [] rfl (by kernel_rfl) .nil ?_
  clear ha a; intro a ha
  refine lcall (vs := #[.pointer (some ⟨b, 0, none⟩)]) ha rfl (by kernel_rfl) rfl rfl (by kernel_rfl) (by kernel_rfl) (cc_new b _ w rfl hB_b) ?_
  clear ha a; rintro _ w1 ⟨rfl, hfr, hB'⟩ a ha
  replace ho := ownFr1 hfr hB_b rfl ho
  replace hx := hx.fr hfr hBb (Nat.le_trans hB0 hx.below.size)
  replace hB_b := hB'; clear hB' hfr
  refine lnil ?_
  replace ha := ha.sub (ρ' := [(0, .pointer (some ⟨b, 0, none⟩)), (1, .string (S q))]) (by kernel_rfl)
  refine tn ?_
  refine wseq ?_
  refine reg_list ?_
  refine segp (ρ' := [(1, .string (S q)), (8, .pointer (some ⟨b, 0, none⟩)), (12, .slice A l.length c), (13, .string (S q))]) (C := [RunOk Try.prog w1 (Instr.loadAt 36 (.pointer (some ⟨b, 1, none⟩))) (.slice A l.length c)]) ha 6 [(4, .val (.slice A l.length c))] rfl (by kernel_rfl) (.cons (ld1 hB_b (by kernel_rfl) rfl) .nil) ?_
  clear ha a; intro a ha
  refine lappS (q := q) ha rfl (by kernel_rfl) rfl (by kernel_rfl) (by kernel_rfl) (by kernel_rfl) rfl ho rfl (by omega) (Nat.le_trans hB0 hx.below.size) ?_
  clear ha a; intro A2 c3 w4 ho2 hg a ha
  replace hB_b := keepG hg ho rfl hB_b
  replace hx := hx.grown hg ho (Nat.le_trans hB0 hx.below.size)
  clear hg ho
  rw [show ((bys l ++ bys q) : List Value) = bys (l ++ q) from by first | exact bys_pushN _ _ hk | simp] at ho2
  rw [show ((l.length + q.length) : Nat) = (l ++ q).length from by simp] at ha ho2
  refine segp (ρ' := [(1, .string (S q)), (14, .slice A2 ((l ++ q).length) c3), (16, .pointer (some ⟨b, 1, none⟩))]) (C := []) ha 2 [] rfl (by kernel_rfl) .nil ?_
  clear ha a; intro a ha
  refine lstore (off := 1) ha rfl rfl (by kernel_rfl) hB_b #[.pointer (some ⟨b, 0, none⟩), .slice A2 ((l ++ q).length) c3] rfl (by kernel_rfl) (by kernel_rfl) ?_
  clear ha a; intro w5 hc a ha
  replace ho2 := ownC hc hB_b rfl ho2
  replace hx := hx.chg hc hBb (Nat.le_trans hB0 hx.below.size)
  replace hB_b := hc.at_; clear hc
  refine lnil ?_
  replace ha := ha.sub (ρ' := [(1, .string (S q))]) (by kernel_rfl)
  refine tn ?_
  refine wseq ?_
  refine regp (ρ' := [(4, .int .i64 ((q.length : Nat) : Int)), (5, .nilIface)]) (C := []) ha [] (by kernel_rfl) .nil ?_
  clear ha a; intro a ha
  refine tn ?_
  refine wret ?_
  refine fin ha (.tmp rfl (.tmp rfl .nil)) ?_
  exact ⟨rfl, ⟨_, _, _, .inr rfl, hBb, hB_b, ho2⟩, hx⟩
theorem ws_used (B b : Nat) (l : List UInt8) (A : Option Addr) (c : Nat) (q : List UInt8) (hq : l.length + q.length ≤ 140737488355328) (w : World) (hB0 : B ≤ w.heap.size) (hBb : B ≤ b) (hl : l.length + 1 ≤ 140737488355328) (hB_b : w.heap[b]? = some (.cells #[.pointer (some ⟨b, 0, none⟩), .slice A l.length c] 91 (0, 0))) (ho : Own w B 5 1 A l.length c (bys l)) :
    Fn Try.prog 49 #[.pointer (some ⟨b, 0, none⟩), .string (S q)] w (fun x w' => x = .tuple #[.int .i64 ((q.length : Nat) : Int), .nilIface] ∧ Bd 91 w' B b (l ++ q) ∧ Oth B b w w') := by
  have hx : Oth B b w w := Oth.rfl' _ _ w
  refine enter (N := 19) (args := [.pointer (some ⟨b, 0, none⟩), .string (S q)]) Try.func49 rfl rfl rfl ?_
  intro a ha
  simp only [argEnv, Nat.zero_add, Nat.reduceAdd] at ha
  refine wseq ?_
  refine regp (ρ' := [(0, .pointer (some ⟨b, 0, none⟩)), (1, .string (S q))]) (C := []) ha [] (by kernel_rfl) .nil ?_
  clear ha a; intro a ha
  refine tn ?_
  refine wseq ?_
  refine reg_list ?_
  refine segp (ρ' := [(0, .pointer (some ⟨b, 0, none⟩)), (1, .string (S q)), (6, .pointer (some ⟨b, 0, none⟩))]) (C := []) ha 1 [] rfl (by kernel_rfl) .nil ?_
  clear ha a; intro a ha
  refine lcall (vs := #[.pointer (some ⟨b, 0, none⟩)]) ha rfl (by kernel_rfl) rfl rfl (by kernel_rfl) (by kernel_rfl) (cc_used b _ w hB_b) ?_
  clear ha a; rintro _ w1 ⟨rfl, hfr, hB'⟩ a ha
  replace ho := ownFr1 hfr hB_b rfl ho
  replace hx := hx.fr hfr hBb (Nat.le_trans hB0 hx.below.size)
  replace hB_b := hB'; clear hB' hfr
  refine lnil ?_
  replace ha := ha.sub (ρ' := [(0, .pointer (some ⟨b, 0, none⟩)), (1, .string (S q))]) (by kernel_rfl)
  refine tn ?_
  refine wseq ?_
  refine reg_list ?_
  refine segp (ρ' := [(1, .string (S q)), (8, .pointer (some ⟨b, 0, none⟩)), (12, .slice A l.length c), (13, .string (S q))]) (C := [RunOk Try.prog w1 (Instr.loadAt 36 (.pointer (some ⟨b, 1, none⟩))) (.slice A l.length c)]) ha 6 [(4, .val (.slice A l.length c))] rfl (by kernel_rfl) (.cons (ld1 hB_b (by kernel_rfl) rfl) .nil) ?_
  clear ha a; intro a ha
  refine lappS (q := q) ha rfl (by kernel_rfl) rfl (by kernel_rfl) (by kernel_rfl) (by kernel_rfl) rfl ho rfl (by omega) (Nat.le_trans hB0 hx.below.size) ?_
  clear ha a; intro A2 c3 w4 ho2 hg a ha
  replace hB_b := keepG hg ho rfl hB_b
  replace hx := hx.grown hg ho (Nat.le_trans hB0 hx.below.size)
  clear hg ho
  rw [show ((bys l ++ bys q) : List Value) = bys (l ++ q) from by first | exact bys_pushN _ _ hk | simp] at ho2
  rw [show ((l.length + q.length) : Nat) = (l ++ q).length from by simp] at ha ho2
  refine segp (ρ' := [(1, .string (S q)), (14, .slice A2 ((l ++ q).length) c3), (16, .pointer (some ⟨b, 1, none⟩))]) (C := []) ha 2 [] rfl (by kernel_rfl) .nil ?_
  clear ha a; intro a ha
  refine lstore (off := 1) ha rfl rfl (by kernel_rfl) hB_b #[.pointer (some ⟨b, 0, none⟩), .slice A2 ((l ++ q).length) c3] rfl (by kernel_rfl) (by kernel_rfl) ?_
  clear ha a; intro w5 hc a ha
  replace ho2 := ownC hc hB_b rfl ho2
  replace hx := hx.chg hc hBb (Nat.le_trans hB0 hx.below.size)
  replace hB_b := hc.at_; clear hc
  refine lnil ?_
  replace ha := ha.sub (ρ' := [(1, .string (S q))]) (by kernel_rfl)
  refine tn ?_
  refine wseq ?_
  refine regp (ρ' := [(4, .int .i64 ((q.length : Nat) : Int)), (5, .nilIface)]) (C := []) ha [] (by kernel_rfl) .nil ?_
  clear ha a; intro a ha
  refine tn ?_
  refine wret ?_
  refine fin ha (.tmp rfl (.tmp rfl .nil)) ?_
  exact ⟨rfl, ⟨_, _, _, .inr rfl, hBb, hB_b, ho2⟩, hx⟩
theorem wr_new (B b : Nat) (l : List UInt8) (A : Option Addr) (c g off c2 T : Nat) (cs : Array Value) (fz : Nat × Nat) (q : List UInt8) (hq : l.length + q.length ≤ 140737488355328) (w : World) (hBg : w.heap[g]? = some (.cells cs T fz)) (hgb : g ≠ b) (hT : Nat.beq T 5 = false) (hcs : (cs.toList.drop off).take q.length = bys q) (hB0 : B ≤ w.heap.size) (hBb : B ≤ b) (hB_b : w.heap[b]? = some (.cells #[.pointer none, .slice A l.length c] 91 (0, 0))) (ho : Own w B 5 1 A l.length c (bys l)) :
    Fn Try.prog 50 #[.pointer (some ⟨b, 0, none⟩), .slice (some ⟨g, off, none⟩) q.length c2] w (fun x w' => x = .tuple #[.int .i64 ((q.length : Nat) : Int), .nilIface] ∧ Bd 91 w' B b (l ++ q) ∧ Oth B b w w') := by
  have hx : Oth B b w w := Oth.rfl' _ _ w
  refine enter (N := 19) (args := [.pointer (some ⟨b, 0, none⟩), .slice (some ⟨g, off, none⟩) q.length c2]) Try.func50 rfl rfl rfl ?_
  intro a ha
  simp only [argEnv, Nat.zero_add, Nat.reduceAdd] at ha
  refine wseq ?_
  refine regp (ρ' := [(0, .pointer (some ⟨b, 0, none⟩)), (1, .slice (some ⟨g, off, none⟩) q.length c2)]) (C := []) ha [] (by kernel_rfl) .nil ?_
  clear ha a; intro a ha
  refine tn ?_
  refine wseq ?_
  refine reg_list ?_
  refine segp (ρ' := [(0, .pointer (some ⟨b, 0, none⟩)), (1, .slice (some ⟨g, off, none⟩) q.length c2), (6, .pointer (some ⟨b, 0, none⟩))]) (C := []) ha 1 [] rfl (by kernel_rfl) .nil ?_
  clear ha a; intro a ha
  refine lcall (vs := #[.pointer (some ⟨b, 0, none⟩)]) ha rfl (by kernel_rfl) rfl rfl (by kernel_rfl) (by kernel_rfl) (cc_new b _ w rfl hB_b) ?_
  clear ha a; rintro _ w1 ⟨rfl, hfr, hB'⟩ a ha
  replace ho := ownFr1 hfr hB_b rfl ho
  replace hx := hx.fr hfr hBb (Nat.le_trans hB0 hx.below.size)
  replace hB_b := hB'; clear hB' hfr
  refine lnil ?_
  replace ha := ha.sub (ρ' := [(0, .pointer (some ⟨b, 0, none⟩)), (1, .slice (some ⟨g, off, none⟩) q.length c2)]) (by kernel_rfl)
  refine tn ?_
  refine wseq ?_
  refine reg_list ?_
  refine segp (ρ' := [(1, .slice (some ⟨g, off, none⟩) q.length c2), (8, .pointer (some ⟨b, 0, none⟩)), (12, .slice A l.length c), (13, .slice (some ⟨g, off, none⟩) q.length c2)]) (C := [RunOk Try.prog w1 (Instr.loadAt 36 (.pointer (some ⟨b, 1, none⟩))) (.slice A l.length c)]) ha 6 [(4, .val (.slice A l.length c))] rfl (by kernel_rfl) (.cons (ld1 hB_b (by kernel_rfl) rfl) .nil) ?_
  clear ha a; intro a ha
  refine lapp (by_ := 1) ha rfl (by kernel_rfl) rfl (by kernel_rfl) rfl ho rfl (bys q) (by simp) (news_rd (rd_bytes (hx.cells hBg hgb hT) hcs)) (bys_one _) (by omega) (by omega) (Nat.le_trans hB0 hx.below.size) ?_
  clear ha a; intro A2 c3 w4 ho2 hg a ha
  replace hB_b := keepG hg ho rfl hB_b
  replace hx := hx.grown hg ho (Nat.le_trans hB0 hx.below.size)
  clear hg ho
  rw [show ((bys l ++ bys q) : List Value) = bys (l ++ q) from by simp] at ho2
  rw [show ((l.length + q.length) : Nat) = (l ++ q).length from by simp] at ha ho2
  refine segp (ρ' := [(1, .slice (some ⟨g, off, none⟩) q.length c2), (14, .slice A2 ((l ++ q).length) c3), (16, .pointer (some ⟨b, 1, none⟩))]) (C := []) ha 2 [] rfl (by kernel_rfl) .nil ?_
  clear ha a; intro a ha
  refine lstore (off := 1) ha rfl rfl (by kernel_rfl) hB_b #[.pointer (some ⟨b, 0, none⟩), .slice A2 ((l ++ q).length) c3] rfl (by kernel_rfl) (by kernel_rfl) ?_
  clear ha a; intro w5 hc a ha
  replace ho2 := ownC hc hB_b rfl ho2
  replace hx := hx.chg hc hBb (Nat.le_trans hB0 hx.below.size)
  replace hB_b := hc.at_; clear hc
  refine lnil ?_
  replace ha := ha.sub (ρ' := [(1, .slice (some ⟨g, off, none⟩) q.length c2)]) (by kernel_rfl)
  refine tn ?_
  refine wseq ?_
  refine regp (ρ' := [(4, .int .i64 ((q.length : Nat) : Int)), (5, .nilIface)]) (C := []) ha [] (by kernel_rfl) .nil ?_
  clear ha a; intro a ha
  refine tn ?_
  refine wret ?_
  refine fin ha (.tmp rfl (.tmp rfl .nil)) ?_
  exact ⟨rfl, ⟨_, _, _, .inr rfl, hBb, hB_b, ho2⟩, hx⟩
theorem wr_used (B b : Nat) (l : List UInt8) (A : Option Addr) (c g off c2 T : Nat) (cs : Array Value) (fz : Nat × Nat) (q : List UInt8) (hq : l.length + q.length ≤ 140737488355328) (w : World) (hBg : w.heap[g]? = some (.cells cs T fz)) (hgb : g ≠ b) (hT : Nat.beq T 5 = false) (hcs : (cs.toList.drop off).take q.length = bys q) (hB0 : B ≤ w.heap.size) (hBb : B ≤ b) (hB_b : w.heap[b]? = some (.cells #[.pointer (some ⟨b, 0, none⟩), .slice A l.length c] 91 (0, 0))) (ho : Own w B 5 1 A l.length c (bys l)) :
    Fn Try.prog 50 #[.pointer (some ⟨b, 0, none⟩), .slice (some ⟨g, off, none⟩) q.length c2] w (fun x w' => x = .tuple #[.int .i64 ((q.length : Nat) : Int), .nilIface] ∧ Bd 91 w' B b (l ++ q) ∧ Oth B b w w') := by
  have hx : Oth B b w w := Oth.rfl' _ _ w
  refine enter (N := 19) (args := [.pointer (some ⟨b, 0, none⟩), .slice (some ⟨g, off, none⟩) q.length c2]) Try.func50 rfl rfl rfl ?_
  intro a ha
  simp only [argEnv, Nat.zero_add, Nat.reduceAdd] at ha
  refine wseq ?_
  refine regp (ρ' := [(0, .pointer (some ⟨b, 0, none⟩)), (1, .slice (some ⟨g, off, none⟩) q.length c2)]) (C := []) ha [] (by kernel_rfl) .nil ?_
  clear ha a; intro a ha
  refine tn ?_
  refine wseq ?_
  refine reg_list ?_
  refine segp (ρ' := [(0, .pointer (some ⟨b, 0, none⟩)), (1, .slice (some ⟨g, off, none⟩) q.length c2), (6, .pointer (some ⟨b, 0, none⟩))]) (C := []) ha 1 [] rfl (by kernel_rfl) .nil ?_
  clear ha a; intro a ha
  refine lcall (vs := #[.pointer (some ⟨b, 0, none⟩)]) ha rfl (by kernel_rfl) rfl rfl (by kernel_rfl) (by kernel_rfl) (cc_used b _ w hB_b) ?_
  clear ha a; rintro _ w1 ⟨rfl, hfr, hB'⟩ a ha
  replace ho := ownFr1 hfr hB_b rfl ho
  replace hx := hx.fr hfr hBb (Nat.le_trans hB0 hx.below.size)
  replace hB_b := hB'; clear hB' hfr
  refine lnil ?_
  replace ha := ha.sub (ρ' := [(0, .pointer (some ⟨b, 0, none⟩)), (1, .slice (some ⟨g, off, none⟩) q.length c2)]) (by kernel_rfl)
  refine tn ?_
  refine wseq ?_
  refine reg_list ?_
  refine segp (ρ' := [(1, .slice (some ⟨g, off, none⟩) q.length c2), (8, .pointer (some ⟨b, 0, none⟩)), (12, .slice A l.length c), (13, .slice (some ⟨g, off, none⟩) q.length c2)]) (C := [RunOk Try.prog w1 (Instr.loadAt 36 (.pointer (some ⟨b, 1, none⟩))) (.slice A l.length c)]) ha 6 [(4, .val (.slice A l.length c))] rfl (by kernel_rfl) (.cons (ld1 hB_b (by kernel_rfl) rfl) .nil) ?_
  clear ha a; intro a ha
  refine lapp (by_ := 1) ha rfl (by kernel_rfl) rfl (by kernel_rfl) rfl ho rfl (bys q) (by simp) (news_rd (rd_bytes (hx.cells hBg hgb hT) hcs)) (bys_one _) (by omega) (by omega) (Nat.le_trans hB0 hx.below.size) ?_
  clear ha a; intro A2 c3 w4 ho2 hg a ha
  replace hB_b := keepG hg ho rfl hB_b
  replace hx := hx.grown hg ho (Nat.le_trans hB0 hx.below.size)
  clear hg ho
  rw [show ((bys l ++ bys q) : List Value) = bys (l ++ q) from by simp] at ho2
  rw [show ((l.length + q.length) : Nat) = (l ++ q).length from by simp] at ha ho2
  refine segp (ρ' := [(1, .slice (some ⟨g, off, none⟩) q.length c2), (14, .slice A2 ((l ++ q).length) c3), (16, .pointer (some ⟨b, 1, none⟩))]) (C := []) ha 2 [] rfl (by kernel_rfl) .nil ?_
  clear ha a; intro a ha
  refine lstore (off := 1) ha rfl rfl (by kernel_rfl) hB_b #[.pointer (some ⟨b, 0, none⟩), .slice A2 ((l ++ q).length) c3] rfl (by kernel_rfl) (by kernel_rfl) ?_
  clear ha a; intro w5 hc a ha
  replace ho2 := ownC hc hB_b rfl ho2
  replace hx := hx.chg hc hBb (Nat.le_trans hB0 hx.below.size)
  replace hB_b := hc.at_; clear hc
  refine lnil ?_
  replace ha := ha.sub (ρ' := [(1, .slice (some ⟨g, off, none⟩) q.length c2)]) (by kernel_rfl)
  refine tn ?_
  refine wseq ?_
  refine regp (ρ' := [(4, .int .i64 ((q.length : Nat) : Int)), (5, .nilIface)]) (C := []) ha [] (by kernel_rfl) .nil ?_
  clear ha a; intro a ha
  refine tn ?_
  refine wret ?_
  refine fin ha (.tmp rfl (.tmp rfl .nil)) ?_
  exact ⟨rfl, ⟨_, _, _, .inr rfl, hBb, hB_b, ho2⟩, hx⟩
theorem wb_ok (B b : Nat) (l : List UInt8) (k : Nat) (hk : k < 256) (w : World) (hB0 : B ≤ w.heap.size) (hl : l.length + 1 ≤ 140737488355328) (h : Bd 91 w B b l) :
    Fn Try.prog 48 #[.pointer (some ⟨b, 0, none⟩), .int .u8 ((k : Nat) : Int)] w (fun x w' => x = .nilIface ∧ Bd 91 w' B b (l ++ [UInt8.ofNat k]) ∧ Oth B b w w') := by
  obtain ⟨p, A, c, hp, hBb, hB, ho⟩ := h
  rcases hp with rfl | rfl
  · exact wb_new B b l A c k hk w hB0 hBb hl hB ho
  · exact wb_used B b l A c k hk w hB0 hBb hl hB ho
theorem ws_ok (B b : Nat) (l : List UInt8) (q : List UInt8) (hq : l.length + q.length ≤ 140737488355328) (w : World) (hB0 : B ≤ w.heap.size) (hl : l.length + 1 ≤ 140737488355328) (h : Bd 91 w B b l) :
    Fn Try.prog 49 #[.pointer (some ⟨b, 0, none⟩), .string (S q)] w (fun x w' => x = .tuple #[.int .i64 ((q.length : Nat) : Int), .nilIface] ∧ Bd 91 w' B b (l ++ q) ∧ Oth B b w w') := by
  obtain ⟨p, A, c, hp, hBb, hB, ho⟩ := h
  rcases hp with rfl | rfl
  · exact ws_new B b l A c q hq w hB0 hBb hl hB ho
  · exact ws_used B b l A c q hq w hB0 hBb hl hB ho
theorem wr_ok (B b : Nat) (l : List UInt8) (g off c2 T : Nat) (cs : Array Value) (fz : Nat × Nat) (q : List UInt8) (hq : l.length + q.length ≤ 140737488355328) (w : World) (hBg : w.heap[g]? = some (.cells cs T fz)) (hgb : g ≠ b) (hT : Nat.beq T 5 = false) (hcs : (cs.toList.drop off).take q.length = bys q) (hB0 : B ≤ w.heap.size) (h : Bd 91 w B b l) :
    Fn Try.prog 50 #[.pointer (some ⟨b, 0, none⟩), .slice (some ⟨g, off, none⟩) q.length c2] w (fun x w' => x = .tuple #[.int .i64 ((q.length : Nat) : Int), .nilIface] ∧ Bd 91 w' B b (l ++ q) ∧ Oth B b w w') := by
  obtain ⟨p, A, c, hp, hBb, hB, ho⟩ := h
  rcases hp with rfl | rfl
  · exact wr_new B b l A c g off c2 T cs fz q hq w hBg hgb hT hcs hB0 hBb hB ho
  · exact wr_used B b l A c g off c2 T cs fz q hq w hBg hgb hT hcs hB0 hBb hB ho
theorem wbI_ok (B b : Nat) (l : List UInt8) (n : Int) (h0 : 0 ≤ n) (h1 : n < 256) (w : World) (hB0 : B ≤ w.heap.size) (hl : l.length + 1 ≤ 140737488355328) (h : Bd 91 w B b l) :
    Fn Try.prog 48 #[.pointer (some ⟨b, 0, none⟩), .int .u8 n] w (fun x w' => x = .nilIface ∧ Bd 91 w' B b (l ++ [UInt8.ofNat n.toNat]) ∧ Oth B b w w') := by
  have := wb_ok B b l n.toNat (by omega) w hB0 hl h
  rwa [Int.toNat_of_nonneg h0] at this
theorem wrId_ok (B b : Nat) (l : List UInt8) (g off c2 T : Nat) (cs : Array Value) (fz : Nat × Nat) (x : Id) (hq : l.length + 32 ≤ 140737488355328) (w : World) (hBg : w.heap[g]? = some (.cells cs T fz)) (hgb : g ≠ b) (hT : Nat.beq T 5 = false) (hcs : (cs.toList.drop off).take 32 = idc x) (hB0 : B ≤ w.heap.size) (h : Bd 91 w B b l) :
    Fn Try.prog 50 #[.pointer (some ⟨b, 0, none⟩), .slice (some ⟨g, off, none⟩) 32 c2] w (fun v w' => v = .tuple #[.int .i64 32, .nilIface] ∧ Bd 91 w' B b (l ++ x.l) ∧ Oth B b w w') := by
  have := wr_ok B b l g off c2 T cs fz x.l (by rw [x.h]; exact hq) w hBg hgb hT (by rw [x.h, hcs, idc_eq]) hB0 h
  rw [x.h] at this
  exact this
end Go.Kn
