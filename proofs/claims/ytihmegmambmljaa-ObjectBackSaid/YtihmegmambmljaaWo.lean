import Derived.Test.YtihmegmambmljaaPlainI
import Derived.Test.YtihmegmambmljaaWn
set_option linter.unusedSimpArgs false
set_option linter.unusedVariables false
set_option maxRecDepth 100000
namespace Go.Kn
open Go.Proofs
theorem rbytes_ok (r : Nat) (s : List UInt8) (bad : Bool) (n : Nat) (w : World) (hB_r : w.heap[r]? = some (.cells #[.string (S s), .bool bad] 76 (0, 0))) (hs : s.length ≤ 9223372036854775807) :
    Fn Try.prog 52 #[.pointer (some ⟨r, 0, none⟩), .int .i64 ((n : Nat) : Int)] w (fun x w' => x = .string (S (rdB s bad n).1) ∧ Fr [r] w w' ∧ w'.heap[r]? = some (.cells #[.string (S (rdB s bad n).2.1), .bool (rdB s bad n).2.2] 76 (0, 0))) := by
  have hx : Fr [r] w w := Fr.rfl' _ w
  refine enter (N := 38) (args := [.pointer (some ⟨r, 0, none⟩), .int .i64 ((n : Nat) : Int)]) Try.func52 rfl rfl rfl ?_
  intro a ha
  simp only [argEnv, Nat.zero_add, Nat.reduceAdd] at ha
  refine wseq ?_
  refine regp (ρ' := [(0, .pointer (some ⟨r, 0, none⟩)), (1, .int .i64 ((n : Nat) : Int))]) (C := []) ha [] (by kernel_rfl) .nil ?_
  clear ha a; intro a ha
  refine tn ?_
  refine wseq ?_
  refine wseq ?_
  refine regp (ρ' := [(0, .pointer (some ⟨r, 0, none⟩)), (1, .int .i64 ((n : Nat) : Int)), (18, .bool (bad || (decide (((s.length : Nat) : Int) < ((n : Nat) : Int)))))]) (C := [RunOk Try.prog w (Instr.loadAt 4 (.pointer (some ⟨r, 1, none⟩))) (.bool bad), bad = false → All [RunOk Try.prog w (Instr.loadAt 9 (.pointer (some ⟨r, 0, none⟩))) (.string (S s))]]) ha [(3, .val (.bool bad)), (9, .val (.string (S s)))] (by kernel_rfl) (.cons (ld1 hB_r (by kernel_rfl) rfl) (.cons (fun hg5 => by exact (.cons (ld1 hB_r (by kernel_rfl) rfl) .nil)) .nil)) ?_
  clear ha a; intro a ha
  refine tn ?_
  refine wif ha rfl (fun h18 => ?_) (fun h18 => ?_)
  · simp only [Bool.not_eq_true', Bool.not_eq_false', Bool.and_eq_true, Bool.or_eq_true, Bool.and_eq_false_iff, Bool.or_eq_false_iff, decide_eq_true_eq, decide_eq_false_iff_not, Bool.not_eq_true, Decidable.not_not] at h18
    have hres : rdB s bad n = ([], s, true) := by unfold rdB; rw [if_pos (by simpa using h18)]
    refine wseq ?_
    refine reg_list ?_
    refine segp (ρ' := [(21, .pointer (some ⟨r, 1, none⟩))]) (C := []) ha 3 [] rfl (by kernel_rfl) .nil ?_
    clear ha a; intro a ha
    refine lstore (off := 1) ha rfl rfl (by kernel_rfl) hB_r #[.string (S s), .bool true] rfl (by kernel_rfl) (by kernel_rfl) ?_
    clear ha a; intro w1 hc a ha
    replace hx := hx.chg hc (.inl (by simp))
    replace hB_r := hc.at_; clear hc
    refine lnil ?_
    replace ha := ha.sub (ρ' := []) (by kernel_rfl)
    refine tn ?_
    refine wseq ?_
    refine regp (ρ' := [(4, .string (S []))]) (C := []) ha [] (by kernel_rfl) .nil ?_
    clear ha a; intro a ha
    refine tn ?_
    refine wret ?_
    refine (tr ?_)
    refine fin ha (.tmp rfl .nil) ?_
    refine ⟨by rw [hres]; rfl, hx, ?_⟩
    rw [hres]
    first | exact hB_r | simpa [h18.1] using hB_r
  · simp only [Bool.not_eq_true', Bool.not_eq_false', Bool.and_eq_true, Bool.or_eq_true, Bool.and_eq_false_iff, Bool.or_eq_false_iff, decide_eq_true_eq, decide_eq_false_iff_not, Bool.not_eq_true, Decidable.not_not] at h18
    skip
    have hres : rdB s bad n = (s.take n, s.drop n, false) := by unfold rdB; rw [if_neg (by simp only [not_or]; exact ⟨by simp [h18.1], by omega⟩)]
    refine wskip ?_
    refine tn ?_
    refine wseq ?_
    refine regp (ρ' := [(0, .pointer (some ⟨r, 0, none⟩)), (1, .int .i64 ((n : Nat) : Int)), (5, .string (S (s.take n)))]) (C := [RunOk Try.prog w (Instr.loadAt 9 (.pointer (some ⟨r, 0, none⟩))) (.string (S s)), 0 ≤ ((n : Nat) : Int) ∧ ((n : Nat) : Int) ≤ (s.length : Int)]) ha [(3, .val (.string (S s)))] (by kernel_rfl) (.cons (ld1 hB_r (by kernel_rfl) rfl) (.cons ⟨by omega, by omega⟩ .nil)) ?_
    clear ha a; intro a ha
    refine tn ?_
    refine wseq ?_
    refine reg_list ?_
    refine segp (ρ' := [(5, .string (S (s.take n))), (34, .string (S (s.drop n))), (36, .pointer (some ⟨r, 0, none⟩))]) (C := [RunOk Try.prog w (Instr.loadAt 9 (.pointer (some ⟨r, 0, none⟩))) (.string (S s)), 0 ≤ ((n : Nat) : Int) ∧ ((n : Nat) : Int) ≤ (s.length : Int)]) ha 9 [(4, .val (.string (S s)))] rfl (by kernel_rfl) (.cons (ld1 hB_r (by kernel_rfl) rfl) (.cons ⟨by omega, by omega⟩ .nil)) ?_
    clear ha a; intro a ha
    refine lstore (off := 0) ha rfl rfl (by kernel_rfl) hB_r #[.string (S (s.drop n)), .bool bad] rfl (by kernel_rfl) (by kernel_rfl) ?_
    clear ha a; intro w2 hc a ha
    replace hx := hx.chg hc (.inl (by simp))
    replace hB_r := hc.at_; clear hc
    refine lnil ?_
    replace ha := ha.sub (ρ' := [(5, .string (S (s.take n)))]) (by kernel_rfl)
    refine tn ?_
    refine wseq ?_
    refine regp (ρ' := [(4, .string (S (s.take n)))]) (C := []) ha [] (by kernel_rfl) .nil ?_
    clear ha a; intro a ha
    refine tn ?_
    refine wret ?_
    refine fin ha (.tmp rfl .nil) ?_
    refine ⟨by rw [hres]; rfl, hx, ?_⟩
    rw [hres]
    first | exact hB_r | simpa [h18.1] using hB_r
theorem rnum_ok (r : Nat) (s : List UInt8) (bad : Bool) (w : World) (hB_r : w.heap[r]? = some (.cells #[.string (S s), .bool bad] 76 (0, 0))) (hs : s.length ≤ 9223372036854775807) :
    Fn Try.prog 56 #[.pointer (some ⟨r, 0, none⟩)] w (fun x w' => x = .int .u64 (((rdN s bad).1 : Nat) : Int) ∧ Fr [r] w w' ∧ w'.heap[r]? = some (.cells #[.string (S (rdN s bad).2.1), .bool (rdN s bad).2.2] 76 (0, 0))) := by
  have hx : Fr [r] w w := Fr.rfl' _ w
  refine enter (N := 31) (args := [.pointer (some ⟨r, 0, none⟩)]) Try.func56 rfl rfl rfl ?_
  intro a ha
  simp only [argEnv, Nat.zero_add, Nat.reduceAdd] at ha
  refine wseq ?_
  refine regp (ρ' := [(0, .pointer (some ⟨r, 0, none⟩))]) (C := []) ha [] (by kernel_rfl) .nil ?_
  clear ha a; intro a ha
  refine tn ?_
  refine wseq ?_
  refine reg hmix (ρ' := [(0, .pointer (some ⟨r, 0, none⟩)), (3, .int .u64 (((vget s).1 : Nat) : Int)), (4, .string (S ((vget s).2.1))), (5, .int .i64 (((vget s).2.2 : Nat) : Int))]) (C := [RunOk Try.prog w (Instr.loadAt 9 (.pointer (some ⟨r, 0, none⟩))) (.string (S s)), CallOk Try.prog w 44 #[.string (S s)] (.tuple #[.int .u64 (((vget s).1 : Nat) : Int), .string (S ((vget s).2.1)), .int .i64 (((vget s).2.2 : Nat) : Int)])]) ha [(3, .val (.string (S s))), (4, .val (.tuple #[.int .u64 (((vget s).1 : Nat) : Int), .string (S ((vget s).2.1)), .int .i64 (((vget s).2.2 : Nat) : Int)]))] (by kernel_rfl) (.cons (ld1 hB_r (by kernel_rfl) rfl) (.cons (fun w _ => get_ok _ w (by omega)) .nil)) ?_
  clear ha a; intro a w1 ha he
  replace hx := hx.ext he
  replace hB_r := keepB he hB_r
  clear he
  refine tn ?_
  refine wseq ?_
  refine wseq ?_
  refine regp (ρ' := [(0, .pointer (some ⟨r, 0, none⟩)), (3, .int .u64 (((vget s).1 : Nat) : Int)), (4, .string (S ((vget s).2.1))), (22, .bool (bad || (!decide ((((vget s).2.2 : Nat) : Int) = 0))))]) (C := [RunOk Try.prog w1 (Instr.loadAt 4 (.pointer (some ⟨r, 1, none⟩))) (.bool bad)]) ha [(3, .val (.bool bad))] (by kernel_rfl) (.cons (ld1 hB_r (by kernel_rfl) rfl) .nil) ?_
  clear ha a; intro a ha
  refine tn ?_
  refine wif ha rfl (fun h22 => ?_) (fun h22 => ?_)
  · simp only [Bool.not_eq_true', Bool.not_eq_false', Bool.and_eq_true, Bool.or_eq_true, Bool.and_eq_false_iff, Bool.or_eq_false_iff, decide_eq_true_eq, decide_eq_false_iff_not, Bool.not_eq_true, Decidable.not_not] at h22
    have hres : rdN s bad = (0, s, true) := by unfold rdN; rw [if_pos (by rcases h22 with h | h; exact .inl h; exact .inr (by omega))]
    refine wseq ?_
    refine reg_list ?_
    refine segp (ρ' := [(25, .pointer (some ⟨r, 1, none⟩))]) (C := []) ha 3 [] rfl (by kernel_rfl) .nil ?_
    clear ha a; intro a ha
    refine lstore (off := 1) ha rfl rfl (by kernel_rfl) hB_r #[.string (S s), .bool true] rfl (by kernel_rfl) (by kernel_rfl) ?_
    clear ha a; intro w2 hc a ha
    replace hx := hx.chg hc (.inl (by simp))
    replace hB_r := hc.at_; clear hc
    refine lnil ?_
    replace ha := ha.sub (ρ' := []) (by kernel_rfl)
    refine tn ?_
    refine wseq ?_
    refine regp (ρ' := [(2, .int .u64 0)]) (C := []) ha [] (by kernel_rfl) .nil ?_
    clear ha a; intro a ha
    refine tn ?_
    refine wret ?_
    refine (tr ?_)
    refine fin ha (.tmp rfl .nil) ?_
    refine ⟨by rw [hres]; rfl, hx, ?_⟩
    rw [hres]
    first | exact hB_r | simpa [h22.1] using hB_r
  · simp only [Bool.not_eq_true', Bool.not_eq_false', Bool.and_eq_true, Bool.or_eq_true, Bool.and_eq_false_iff, Bool.or_eq_false_iff, decide_eq_true_eq, decide_eq_false_iff_not, Bool.not_eq_true, Decidable.not_not] at h22
    have hres : rdN s bad = ((vget s).1, (vget s).2.1, false) := by unfold rdN; rw [if_neg (by simp only [not_or]; exact ⟨by simp [h22.1], by omega⟩)]
    refine wskip ?_
    refine tn ?_
    refine wseq ?_
    refine reg_list ?_
    refine segp (ρ' := [(3, .int .u64 (((vget s).1 : Nat) : Int)), (27, .string (S ((vget s).2.1))), (29, .pointer (some ⟨r, 0, none⟩))]) (C := []) ha 4 [] rfl (by kernel_rfl) .nil ?_
    clear ha a; intro a ha
    refine lstore (off := 0) ha rfl rfl (by kernel_rfl) hB_r #[.string (S ((vget s).2.1)), .bool bad] rfl (by kernel_rfl) (by kernel_rfl) ?_
    clear ha a; intro w3 hc a ha
    replace hx := hx.chg hc (.inl (by simp))
    replace hB_r := hc.at_; clear hc
    refine lnil ?_
    replace ha := ha.sub (ρ' := [(3, .int .u64 (((vget s).1 : Nat) : Int))]) (by kernel_rfl)
    refine tn ?_
    refine wseq ?_
    refine regp (ρ' := [(2, .int .u64 (((vget s).1 : Nat) : Int))]) (C := []) ha [] (by kernel_rfl) .nil ?_
    clear ha a; intro a ha
    refine tn ?_
    refine wret ?_
    refine fin ha (.tmp rfl .nil) ?_
    refine ⟨by rw [hres]; rfl, hx, ?_⟩
    rw [hres]
    first | exact hB_r | simpa [h22.1] using hB_r
theorem rtx_ok (r : Nat) (s : List UInt8) (bad : Bool) (w : World) (hB_r : w.heap[r]? = some (.cells #[.string (S s), .bool bad] 76 (0, 0))) (hs : s.length ≤ 9223372036854775807) :
    Fn Try.prog 54 #[.pointer (some ⟨r, 0, none⟩)] w (fun x w' => x = .string (S (rdT s bad).1) ∧ Fr [r] w w' ∧ w'.heap[r]? = some (.cells #[.string (S (rdT s bad).2.1), .bool (rdT s bad).2.2] 76 (0, 0))) := by
  have hx : Fr [r] w w := Fr.rfl' _ w
  refine enter (N := 31) (args := [.pointer (some ⟨r, 0, none⟩)]) Try.func54 rfl rfl rfl ?_
  intro a ha
  simp only [argEnv, Nat.zero_add, Nat.reduceAdd] at ha
  refine wseq ?_
  refine regp (ρ' := [(0, .pointer (some ⟨r, 0, none⟩))]) (C := []) ha [] (by kernel_rfl) .nil ?_
  clear ha a; intro a ha
  refine tn ?_
  refine wseq ?_
  refine reg hmix (ρ' := [(0, .pointer (some ⟨r, 0, none⟩)), (3, .string (S ((vtake s).1))), (4, .string (S ((vtake s).2.1))), (5, .int .i64 (((vtake s).2.2 : Nat) : Int))]) (C := [RunOk Try.prog w (Instr.loadAt 9 (.pointer (some ⟨r, 0, none⟩))) (.string (S s)), CallOk Try.prog w 34 #[.string (S s)] (.tuple #[.string (S ((vtake s).1)), .string (S ((vtake s).2.1)), .int .i64 (((vtake s).2.2 : Nat) : Int)])]) ha [(3, .val (.string (S s))), (4, .val (.tuple #[.string (S ((vtake s).1)), .string (S ((vtake s).2.1)), .int .i64 (((vtake s).2.2 : Nat) : Int)]))] (by kernel_rfl) (.cons (ld1 hB_r (by kernel_rfl) rfl) (.cons (fun w _ => take_ok _ w (by first | omega | (simp only [List.length_drop]; omega))) .nil)) ?_
  clear ha a; intro a w1 ha he
  replace hx := hx.ext he
  replace hB_r := keepB he hB_r
  clear he
  refine tn ?_
  refine wseq ?_
  refine wseq ?_
  refine regp (ρ' := [(0, .pointer (some ⟨r, 0, none⟩)), (3, .string (S ((vtake s).1))), (4, .string (S ((vtake s).2.1))), (22, .bool (bad || (!decide ((((vtake s).2.2 : Nat) : Int) = 0))))]) (C := [RunOk Try.prog w1 (Instr.loadAt 4 (.pointer (some ⟨r, 1, none⟩))) (.bool bad)]) ha [(3, .val (.bool bad))] (by kernel_rfl) (.cons (ld1 hB_r (by kernel_rfl) rfl) .nil) ?_
  clear ha a; intro a ha
  refine tn ?_
  refine wif ha rfl (fun h22 => ?_) (fun h22 => ?_)
  · simp only [Bool.not_eq_true', Bool.not_eq_false', Bool.and_eq_true, Bool.or_eq_true, Bool.and_eq_false_iff, Bool.or_eq_false_iff, decide_eq_true_eq, decide_eq_false_iff_not, Bool.not_eq_true, Decidable.not_not] at h22
    have hres : rdT s bad = ([], s, true) := by unfold rdT; rw [if_pos (by rcases h22 with h | h; exact .inl h; exact .inr (by omega))]
    refine wseq ?_
    refine reg_list ?_
    refine segp (ρ' := [(25, .pointer (some ⟨r, 1, none⟩))]) (C := []) ha 3 [] rfl (by kernel_rfl) .nil ?_
    clear ha a; intro a ha
    refine lstore (off := 1) ha rfl rfl (by kernel_rfl) hB_r #[.string (S s), .bool true] rfl (by kernel_rfl) (by kernel_rfl) ?_
    clear ha a; intro w2 hc a ha
    replace hx := hx.chg hc (.inl (by simp))
    replace hB_r := hc.at_; clear hc
    refine lnil ?_
    replace ha := ha.sub (ρ' := []) (by kernel_rfl)
    refine tn ?_
    refine wseq ?_
    refine regp (ρ' := [(2, .string (S []))]) (C := []) ha [] (by kernel_rfl) .nil ?_
    clear ha a; intro a ha
    refine tn ?_
    refine wret ?_
    refine (tr ?_)
    refine fin ha (.tmp rfl .nil) ?_
    refine ⟨by rw [hres]; rfl, hx, ?_⟩
    rw [hres]
    first | exact hB_r | simpa [h22.1] using hB_r
  · simp only [Bool.not_eq_true', Bool.not_eq_false', Bool.and_eq_true, Bool.or_eq_true, Bool.and_eq_false_iff, Bool.or_eq_false_iff, decide_eq_true_eq, decide_eq_false_iff_not, Bool.not_eq_true, Decidable.not_not] at h22
    have hres : rdT s bad = ((vtake s).1, (vtake s).2.1, false) := by unfold rdT; rw [if_neg (by simp only [not_or]; exact ⟨by simp [h22.1], by omega⟩)]
    refine wskip ?_
    refine tn ?_
    refine wseq ?_
    refine reg_list ?_
    refine segp (ρ' := [(3, .string (S ((vtake s).1))), (27, .string (S ((vtake s).2.1))), (29, .pointer (some ⟨r, 0, none⟩))]) (C := []) ha 4 [] rfl (by kernel_rfl) .nil ?_
    clear ha a; intro a ha
    refine lstore (off := 0) ha rfl rfl (by kernel_rfl) hB_r #[.string (S ((vtake s).2.1)), .bool bad] rfl (by kernel_rfl) (by kernel_rfl) ?_
    clear ha a; intro w3 hc a ha
    replace hx := hx.chg hc (.inl (by simp))
    replace hB_r := hc.at_; clear hc
    refine lnil ?_
    replace ha := ha.sub (ρ' := [(3, .string (S ((vtake s).1)))]) (by kernel_rfl)
    refine tn ?_
    refine wseq ?_
    refine regp (ρ' := [(2, .string (S ((vtake s).1)))]) (C := []) ha [] (by kernel_rfl) .nil ?_
    clear ha a; intro a ha
    refine tn ?_
    refine wret ?_
    refine fin ha (.tmp rfl .nil) ?_
    refine ⟨by rw [hres]; rfl, hx, ?_⟩
    rw [hres]
    first | exact hB_r | simpa [h22.1] using hB_r
theorem rkind_ok (r : Nat) (s : List UInt8) (bad : Bool) (w : World) (hB_r : w.heap[r]? = some (.cells #[.string (S s), .bool bad] 76 (0, 0))) (hs : s.length ≤ 9223372036854775807) :
    Fn Try.prog 53 #[.pointer (some ⟨r, 0, none⟩)] w (fun x w' => x = .int .i64 (rdK s bad).1 ∧ Fr [r] w w' ∧ w'.heap[r]? = some (.cells #[.string (S (rdK s bad).2.1), .bool (rdK s bad).2.2] 76 (0, 0))) := by
  have hx : Fr [r] w w := Fr.rfl' _ w
  refine enter (N := 13) (args := [.pointer (some ⟨r, 0, none⟩)]) Try.func53 rfl rfl rfl ?_
  intro a ha
  simp only [argEnv, Nat.zero_add, Nat.reduceAdd] at ha
  refine wseq ?_
  refine regp (ρ' := [(0, .pointer (some ⟨r, 0, none⟩))]) (C := []) ha [] (by kernel_rfl) .nil ?_
  clear ha a; intro a ha
  refine tn ?_
  refine wseq ?_
  refine reg_list ?_
  refine segp (ρ' := [(0, .pointer (some ⟨r, 0, none⟩)), (4, .pointer (some ⟨r, 0, none⟩))]) (C := []) ha 1 [] rfl (by kernel_rfl) .nil ?_
  clear ha a; intro a ha
  refine lcall (vs := #[.pointer (some ⟨r, 0, none⟩), .int .i64 1]) ha rfl (by kernel_rfl) rfl rfl (by kernel_rfl) (by kernel_rfl) (rbytes_ok r s bad 1 w hB_r (by omega)) ?_
  clear ha a; rintro _ w1 ⟨rfl, hfr, hB'⟩ a ha
  replace hx := hx.tr hfr (by simp)
  replace hB_r := hB'; clear hB' hfr
  refine segp (ρ' := [(0, .pointer (some ⟨r, 0, none⟩)), (3, .string (S ((rdB s bad 1).1)))]) (C := []) ha 1 [] rfl (by kernel_rfl) .nil ?_
  clear ha a; intro a ha
  refine lnil ?_
  replace ha := ha.sub (ρ' := [(0, .pointer (some ⟨r, 0, none⟩)), (3, .string (S ((rdB s bad 1).1)))]) (by kernel_rfl)
  refine tn ?_
  refine wseq ?_
  refine wseq ?_
  refine regp (ρ' := [(3, .string (S ((rdB s bad 1).1))), (9, .bool ((rdB s bad 1).2.2))]) (C := [RunOk Try.prog w1 (Instr.loadAt 4 (.pointer (some ⟨r, 1, none⟩))) (.bool ((rdB s bad 1).2.2))]) ha [(3, .val (.bool ((rdB s bad 1).2.2)))] (by kernel_rfl) (.cons (ld1 hB_r (by kernel_rfl) rfl) .nil) ?_
  clear ha a; intro a ha
  refine tn ?_
  refine wif ha rfl (fun h9 => ?_) (fun h9 => ?_)
  · skip
    have hres : (rdK s bad).1 = 0 := by unfold rdK; simp [h9]
    refine wseq ?_
    refine regp (ρ' := [(2, .int .i64 0)]) (C := []) ha [] (by kernel_rfl) .nil ?_
    clear ha a; intro a ha
    refine tn ?_
    refine wret ?_
    refine (tr ?_)
    refine fin ha (.tmp rfl .nil) ?_
    exact ⟨by rw [hres]; rfl, hx, hB_r⟩
  · skip
    have hb1 : (rdB s bad 1).1.length = 1 := by unfold rdB at h9 ⊢; split at h9; cases h9; rename_i hq; rw [if_neg hq]; simp only [not_or] at hq; simp; omega
    have hres : (rdK s bad).1 = (((rdB s bad 1).1.getD 0 0).toNat : Int) := by unfold rdK; simp [h9]
    refine wskip ?_
    refine tn ?_
    refine wseq ?_
    have hcb := UInt8.toNat_lt ((rdB s bad 1).1.getD 0 0)
    refine regp (ρ' := [(2, .int .i64 (((((rdB s bad 1).1).getD 0 0).toNat : Nat) : Int))]) (C := [0 ≤ (0 : Int) ∧ 0 < (((rdB s bad 1).1).length : Int), InR .i64 (((((rdB s bad 1).1).getD 0 0).toNat : Nat) : Int)]) ha [] (by kernel_rfl) (.cons ⟨by omega, by omega⟩ (.cons (by unfold InR; omega) .nil)) ?_
    clear ha a; intro a ha
    refine tn ?_
    refine wret ?_
    refine fin ha (.tmp rfl .nil) ?_
    exact ⟨by rw [hres]; rfl, hx, hB_r⟩
theorem rid_ok (r : Nat) (s : List UInt8) (bad : Bool) (w : World) (hB_r : w.heap[r]? = some (.cells #[.string (S s), .bool bad] 76 (0, 0))) (hs : s.length ≤ 9223372036854775807) :
    Fn Try.prog 55 #[.pointer (some ⟨r, 0, none⟩)] w (fun x w' => x = .agg ⟨idc (rdI s bad).1⟩ ∧ Fr [r] w w' ∧ w'.heap[r]? = some (.cells #[.string (S (rdI s bad).2.1), .bool (rdI s bad).2.2] 76 (0, 0))) := by
  have hx : Fr [r] w w := Fr.rfl' _ w
  refine enter (N := 9) (args := [.pointer (some ⟨r, 0, none⟩)]) Try.func55 rfl rfl rfl ?_
  intro a ha
  simp only [argEnv, Nat.zero_add, Nat.reduceAdd] at ha
  refine wseq ?_
  refine reg_list ?_
  refine lnew ha rfl (by kernel_rfl) ⟨idc idZ⟩ 40 (by kernel_rfl) ?_
  clear ha a; intro bo w1 he hb_bo hB_bo a ha
  have hne_r_bo : r ≠ bo := ne_new hB_r hb_bo
  replace hB_r := keepB he hB_r
  replace hb_bo := Nat.le_trans hx.size hb_bo
  replace hx := hx.ext he
  clear he
  refine lnil ?_
  replace ha := ha.sub (ρ' := [(0, .pointer (some ⟨r, 0, none⟩)), (2, .pointer (some ⟨bo, 0, none⟩))]) (by kernel_rfl)
  refine tn ?_
  refine wseq ?_
  refine reg_list ?_
  refine lnew ha rfl (by kernel_rfl) ⟨idc idZ⟩ 40 (by kernel_rfl) ?_
  clear ha a; intro bi w2 he hb_bi hB_bi a ha
  have hne_r_bi : r ≠ bi := ne_new hB_r hb_bi
  have hne_bo_bi : bo ≠ bi := ne_new hB_bo hb_bi
  replace hB_r := keepB he hB_r
  replace hB_bo := keepB he hB_bo
  replace hb_bi := Nat.le_trans hx.size hb_bi
  replace hx := hx.ext he
  clear he
  refine lnil ?_
  replace ha := ha.sub (ρ' := [(0, .pointer (some ⟨r, 0, none⟩)), (2, .pointer (some ⟨bo, 0, none⟩)), (3, .pointer (some ⟨bi, 0, none⟩))]) (by kernel_rfl)
  have hl32 := rdB_le s bad 32
  refine tn ?_
  refine wseq ?_
  refine regM hmix ha [(0, .raw)] [] [⟨2, .val (.string (S ((rdB s bad 32).1))), [], []⟩, ⟨3, .val (.int .i64 ((((rdB s bad 32).1).length : Nat) : Int)), [], []⟩] [] (ρ' := [(2, .pointer (some ⟨bo, 0, none⟩)), (3, .pointer (some ⟨bi, 0, none⟩))]) [] [fun w' => Ext w2 w', fun w' => w2.heap.size ≤ w'.heap.size ∧ Fr [r] w w' ∧ w'.heap[r]? = some (.cells #[.string (S ((rdB s bad 32).2.1)), .bool ((rdB s bad 32).2.2)] 76 (0, 0)) ∧ w'.heap[bo]? = some (.cells ⟨idc idZ⟩ 40 (0, 0)) ∧ w'.heap[bi]? = some (.cells ⟨idc idZ⟩ 40 (0, 0)), fun w' => w2.heap.size ≤ w'.heap.size ∧ Fr [r] w w' ∧ w'.heap[r]? = some (.cells #[.string (S ((rdB s bad 32).2.1)), .bool ((rdB s bad 32).2.2)] 76 (0, 0)) ∧ w'.heap[bo]? = some (.cells ⟨idc idZ⟩ 40 (0, 0)) ∧ w'.heap[bi]? = some (.cells ⟨idc (cpId idZ ((rdB s bad 32).1))⟩ 40 (0, 0))] [] (by kernel_rfl) (fun w' => by kernel_rfl) (fun w' => by kernel_rfl) (by kernel_rfl) (fun w' h => h) ?_ ?_ ?_ ?_ ?_ ?_
  · refine ⟨fun w1 w2 h e => Ext.tr h e, ?_, ?_, trivial⟩
    · rintro w1 w2 ⟨hsz, hx, hB_r, hB_bo, hB_bi⟩ he
      exact ⟨Nat.le_trans hsz he.size, hx.ext he, keepB he hB_r, keepB he hB_bo, keepB he hB_bi⟩
    · rintro w1 w2 ⟨hsz, hx, hB_r, hB_bo, hB_bi⟩ he
      exact ⟨Nat.le_trans hsz he.size, hx.ext he, keepB he hB_r, keepB he hB_bo, keepB he hB_bi⟩
  · trivial
  · trivial
  · trivial
  · refine ⟨?_, ?_, trivial⟩
    · intro w' hJ
      have hB_rS := hB_r
      have hB_boS := hB_bo
      have hB_biS := hB_bi
      have he : Ext w2 w' := hJ
      have hsz := he.size
      replace hx := hx.ext he
      replace hB_r := keepB he hB_r
      replace hB_bo := keepB he hB_bo
      replace hB_bi := keepB he hB_bi
      clear he
      refine ocall (f := .func 52) (args := #[.tmp 5, (.const (.int .i64 32))]) (ts := #[74, 3]) (g := 52) (first := #[]) (caps := #[]) (vs := #[.pointer (some ⟨r, 0, none⟩), .int .i64 32]) (by kernel_rfl) (by kernel_rfl) (by kernel_rfl) (by kernel_rfl) (rbytes_ok r s bad 32 w' hB_r (by omega)) ?_
      rintro _ w'' ⟨rfl, hfr, hB'⟩
      exact ⟨rfl, ⟨Nat.le_trans hsz hfr.size, hx.tr hfr (by simp), hB', hfr.keep hB_bo (fun x hx => by simp only [List.mem_singleton] at hx; subst hx; exact (by first | assumption | exact Ne.symm (by assumption))), hfr.keep hB_bi (fun x hx => by simp only [List.mem_singleton] at hx; subst hx; exact (by first | assumption | exact Ne.symm (by assumption)))⟩, trivial⟩
    · intro w' hJ
      have hB_rS := hB_r
      have hB_boS := hB_bo
      have hB_biS := hB_bi
      obtain ⟨hsz, hx, hB_r, hB_bo, hB_bi⟩ := hJ
      refine ocopyId (s := .tmp 4) (q := .tmp 6) (dT := 36) (sT := 9) (x := idZ) (l := (rdB s bad 32).1) (c := 32) (by kernel_rfl) (by kernel_rfl) (by kernel_rfl) (by kernel_rfl) hB_bi (by omega) ?_
      intro w'' hc
      exact ⟨rfl, ⟨Nat.le_trans hsz hc.size, hx.chg hc (.inr hb_bi), hc.keep hB_r (by first | assumption | exact Ne.symm (by assumption)), hc.keep hB_bo (by first | assumption | exact Ne.symm (by assumption)), hc.at_⟩, trivial⟩
  · clear ha a; intro a w3 hJ ha
    clear hx hB_r hB_bo hB_bi
    obtain ⟨hsz, hx, hB_r, hB_bo, hB_bi⟩ := hJ
    clear hsz
    rw [cp_rdB] at hB_bi
    refine tn ?_
    refine wseq ?_
    refine reg_list ?_
    refine segp (ρ' := [(2, .pointer (some ⟨bo, 0, none⟩)), (8, .agg ⟨idc ((rdI s bad).1)⟩)]) (C := [RunOk Try.prog w3 (Instr.loadAt 40 (.pointer (some ⟨bi, 0, none⟩))) (.agg ⟨idc ((rdI s bad).1)⟩)]) ha 1 [(0, .val (.agg ⟨idc ((rdI s bad).1)⟩))] rfl (by kernel_rfl) (.cons (ldN (n := 32) hB_bi (by kernel_rfl) (by kernel_rfl) ⟨Nat.le_of_ble_eq_true (by kernel_rfl), (by kernel_rfl)⟩) .nil) ?_
    clear ha a; intro a ha
    refine lstore (off := 0) ha rfl rfl (by kernel_rfl) hB_bo ⟨idc ((rdI s bad).1)⟩ rfl (by kernel_rfl) (by kernel_rfl) ?_
    clear ha a; intro w4 hc a ha
    replace hB_r := hc.keep hB_r (by first | assumption | exact Ne.symm (by assumption))
    replace hB_bi := hc.keep hB_bi (by first | assumption | exact Ne.symm (by assumption))
    replace hx := hx.chg hc (.inr hb_bo)
    replace hB_bo := hc.at_; clear hc
    refine lnil ?_
    replace ha := ha.sub (ρ' := [(2, .pointer (some ⟨bo, 0, none⟩))]) (by kernel_rfl)
    refine tn ?_
    refine wret ?_
    refine fin ha (.cell rfl (ldVN (n := 32) (vs := ⟨idc ((rdI s bad).1)⟩) hB_bo (by kernel_rfl) (by kernel_rfl) ⟨Nat.le_of_ble_eq_true (by kernel_rfl), (by kernel_rfl)⟩) .nil) ?_
    exact ⟨rfl, hx, hB_r⟩
end Go.Kn
