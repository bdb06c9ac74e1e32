import Derived.Test.YtihmegmambmljaaDoorOd03
import Derived.Test.YtihmegmambmljaaDoorOd05
section
set_option linter.unusedSimpArgs false
set_option linter.unusedVariables false
set_option maxRecDepth 100000
namespace Go.Kn
open Go.Proofs
theorem rdE1_lt (s : List UInt8) (h : s ≠ []) : (rdE1 s false).2.1.length < s.length := by
  have hl := List.length_pos_iff.2 h
  have h1 : rdK s false = (((s.getD 0 0).toNat : Int), s.drop 1, false) := by
    cases s with
    | nil => exact absurd rfl h
    | cons a s => simp [rdK, rdB]
  have h2 := (rdT_len (s.drop 1) false).1
  have h3 := rdI_len (rdT (s.drop 1) false).2.1 (rdT (s.drop 1) false).2.2
  simp only [rdE1, h1]
  rw [List.length_drop] at h2
  omega
theorem rblob_ok (r ob : Nat) (k : Int) (s0 : List UInt8) (bad0 : Bool) (w : World) (hne_r_ob : r ≠ ob) (hB_r : w.heap[r]? = some (.cells #[.string (S s0), .bool bad0] 80 (0, 0))) (hB_ob : w.heap[ob]? = some (.cells ⟨.int .i64 k :: (.string (S []) :: (.slice none 0 0 :: ((idc idZ) ++ (.slice none 0 0 :: (.int .u32 0 :: (.string (S []) :: ((idc idZ) ++ (.int .i64 0 :: ([.string (S [])])))))))))⟩ 54 (0, 0))) (hs : s0.length ≤ 100000) :
    Fn Tryd.prog 53 #[.pointer (some ⟨r, 0, none⟩), .pointer (some ⟨ob, 0, none⟩)] w (fun x w' => x = .tuple #[] ∧ Fr [r, ob] w w' ∧ w'.heap[r]? = some (.cells #[.string (S (rdB s0 bad0 s0.length).2.1), .bool (rdB s0 bad0 s0.length).2.2] 80 (0, 0)) ∧ w'.heap[ob]? = some (.cells ⟨.int .i64 k :: (.string (S ((rdB s0 bad0 s0.length).1)) :: (.slice none 0 0 :: ((idc idZ) ++ (.slice none 0 0 :: (.int .u32 0 :: (.string (S []) :: ((idc idZ) ++ (.int .i64 0 :: ([.string (S [])])))))))))⟩ 54 (0, 0))) := by
  have hx : Fr [r, ob] w w := Fr.rfl' _ w
  refine enter (N := 14) (args := [.pointer (some ⟨r, 0, none⟩), .pointer (some ⟨ob, 0, none⟩)]) Tryd.func53 rfl rfl rfl ?_
  intro a ha
  simp only [argEnv, Nat.zero_add, Nat.reduceAdd] at ha
  refine reg_list ?_
  refine segp (ρ' := [(4, .pointer (some ⟨ob, 0, none⟩)), (5, .pointer (some ⟨r, 0, none⟩)), (10, .int .i64 ((s0.length : Nat) : Int))]) (C := [RunOk Tryd.prog w (Instr.loadAt 9 (.pointer (some ⟨r, 0, none⟩))) (.string (S s0))]) ha 7 [(5, .val (.string (S s0)))] rfl (by kernel_rfl) (.cons (ld1 hB_r (by kernel_rfl) rfl) .nil) ?_
  clear ha a; intro a ha
  refine lcall (vs := #[.pointer (some ⟨r, 0, none⟩), .int .i64 ((s0.length : Nat) : Int)]) ha rfl (by kernel_rfl) rfl rfl (by kernel_rfl) (by kernel_rfl) (rbytes_ok r s0 bad0 s0.length w hB_r (by omega)) ?_
  clear ha a; rintro _ w1 ⟨rfl, hfr, hB'⟩ a ha
  replace hB_ob := hfr.keep hB_ob (fun x hx => by simp only [List.mem_singleton] at hx; subst hx; exact (by first | assumption | exact Ne.symm (by assumption)))
  replace hx := hx.tr hfr (by simp)
  replace hB_r := hB'; clear hB' hfr
  refine segp (ρ' := [(11, .string (S ((rdB s0 bad0 s0.length).1))), (13, .pointer (some ⟨ob, 1, none⟩))]) (C := []) ha 2 [] rfl (by kernel_rfl) .nil ?_
  clear ha a; intro a ha
  refine lstore (off := 1) ha rfl rfl (by kernel_rfl) hB_ob ⟨.int .i64 k :: (.string (S ((rdB s0 bad0 s0.length).1)) :: (.slice none 0 0 :: ((idc idZ) ++ (.slice none 0 0 :: (.int .u32 0 :: (.string (S []) :: ((idc idZ) ++ (.int .i64 0 :: ([.string (S [])])))))))))⟩ rfl (by kernel_rfl) (by kernel_rfl) ?_
  clear ha a; intro w2 hc a ha
  replace hB_r := hc.keep hB_r (by first | assumption | exact Ne.symm (by assumption))
  replace hx := hx.chg hc (.inl (by simp))
  replace hB_ob := hc.at_; clear hc
  refine lnil ?_
  replace ha := ha.sub (ρ' := []) (by kernel_rfl)
  refine finN ha .nil ?_
  exact ⟨rfl, hx, hB_r, hB_ob⟩
theorem rtag_ok (r ob : Nat) (k : Int) (s0 : List UInt8) (bad0 : Bool) (w : World) (hne_r_ob : r ≠ ob) (hB_r : w.heap[r]? = some (.cells #[.string (S s0), .bool bad0] 80 (0, 0))) (hB_ob : w.heap[ob]? = some (.cells ⟨.int .i64 k :: (.string (S []) :: (.slice none 0 0 :: ((idc idZ) ++ (.slice none 0 0 :: (.int .u32 0 :: (.string (S []) :: ((idc idZ) ++ (.int .i64 0 :: ([.string (S [])])))))))))⟩ 54 (0, 0))) (hs : s0.length ≤ 100000) :
    Fn Tryd.prog 56 #[.pointer (some ⟨r, 0, none⟩), .pointer (some ⟨ob, 0, none⟩)] w (fun x w' => x = .tuple #[] ∧ Fr [r, ob] w w' ∧ w'.heap[r]? = some (.cells #[.string (S (rdTag s0 bad0).2.1), .bool (rdTag s0 bad0).2.2] 80 (0, 0)) ∧ w'.heap[ob]? = some (.cells ⟨.int .i64 k :: (.string (S []) :: (.slice none 0 0 :: ((idc idZ) ++ (.slice none 0 0 :: (.int .u32 0 :: (.string (S []) :: ((idc ((rdTag s0 bad0).1.2.1)) ++ (.int .i64 ((rdTag s0 bad0).1.1) :: ([.string (S ((rdTag s0 bad0).1.2.2))])))))))))⟩ 54 (0, 0))) := by
  have hx : Fr [r, ob] w w := Fr.rfl' _ w
  refine enter (N := 19) (args := [.pointer (some ⟨r, 0, none⟩), .pointer (some ⟨ob, 0, none⟩)]) Tryd.func56 rfl rfl rfl ?_
  intro a ha
  simp only [argEnv, Nat.zero_add, Nat.reduceAdd] at ha
  refine wseq ?_
  refine reg_list ?_
  refine segp (ρ' := [(0, .pointer (some ⟨r, 0, none⟩)), (1, .pointer (some ⟨ob, 0, none⟩)), (4, .pointer (some ⟨ob, 0, none⟩)), (5, .pointer (some ⟨r, 0, none⟩))]) (C := []) ha 2 [] rfl (by kernel_rfl) .nil ?_
  clear ha a; intro a ha
  refine lcall (vs := #[.pointer (some ⟨r, 0, none⟩)]) ha rfl (by kernel_rfl) rfl rfl (by kernel_rfl) (by kernel_rfl) (rkind_ok r s0 bad0 w hB_r (by omega)) ?_
  clear ha a; rintro _ w1 ⟨rfl, hfr, hB'⟩ a ha
  replace hB_ob := hfr.keep hB_ob (fun x hx => by simp only [List.mem_singleton] at hx; subst hx; exact (by first | assumption | exact Ne.symm (by assumption)))
  replace hx := hx.tr hfr (by simp)
  replace hB_r := hB'; clear hB' hfr
  refine segp (ρ' := [(0, .pointer (some ⟨r, 0, none⟩)), (1, .pointer (some ⟨ob, 0, none⟩)), (6, .int .i64 ((rdK s0 bad0).1)), (8, .pointer (some ⟨ob, 70, none⟩))]) (C := []) ha 2 [] rfl (by kernel_rfl) .nil ?_
  clear ha a; intro a ha
  refine lstore (off := 70) ha rfl rfl (by kernel_rfl) hB_ob ⟨.int .i64 k :: (.string (S []) :: (.slice none 0 0 :: ((idc idZ) ++ (.slice none 0 0 :: (.int .u32 0 :: (.string (S []) :: ((idc idZ) ++ (.int .i64 ((rdK s0 bad0).1) :: ([.string (S [])])))))))))⟩ rfl (by kernel_rfl) (by kernel_rfl) ?_
  clear ha a; intro w2 hc a ha
  replace hB_r := hc.keep hB_r (by first | assumption | exact Ne.symm (by assumption))
  replace hx := hx.chg hc (.inl (by simp))
  replace hB_ob := hc.at_; clear hc
  refine lnil ?_
  replace ha := ha.sub (ρ' := [(0, .pointer (some ⟨r, 0, none⟩)), (1, .pointer (some ⟨ob, 0, none⟩))]) (by kernel_rfl)
  have hk1 := rdK_len s0 bad0
  have hk2 := rdI_len (rdK s0 bad0).2.1 (rdK s0 bad0).2.2
  refine tn ?_
  refine wseq ?_
  refine reg_list ?_
  refine segp (ρ' := [(0, .pointer (some ⟨r, 0, none⟩)), (1, .pointer (some ⟨ob, 0, none⟩)), (9, .pointer (some ⟨ob, 0, none⟩)), (10, .pointer (some ⟨r, 0, none⟩))]) (C := []) ha 2 [] rfl (by kernel_rfl) .nil ?_
  clear ha a; intro a ha
  refine lcall (vs := #[.pointer (some ⟨r, 0, none⟩)]) ha rfl (by kernel_rfl) rfl rfl (by kernel_rfl) (by kernel_rfl) (rid_ok r ((rdK s0 bad0).2.1) ((rdK s0 bad0).2.2) w2 hB_r (by omega)) ?_
  clear ha a; rintro _ w3 ⟨rfl, hfr, hB'⟩ a ha
  replace hB_ob := hfr.keep hB_ob (fun x hx => by simp only [List.mem_singleton] at hx; subst hx; exact (by first | assumption | exact Ne.symm (by assumption)))
  replace hx := hx.tr hfr (by simp)
  replace hB_r := hB'; clear hB' hfr
  refine segp (ρ' := [(0, .pointer (some ⟨r, 0, none⟩)), (1, .pointer (some ⟨ob, 0, none⟩)), (11, .agg ⟨idc ((rdI ((rdK s0 bad0).2.1) ((rdK s0 bad0).2.2)).1)⟩), (13, .pointer (some ⟨ob, 38, none⟩))]) (C := []) ha 2 [] rfl (by kernel_rfl) .nil ?_
  clear ha a; intro a ha
  refine lstore (off := 38) ha rfl rfl (by kernel_rfl) hB_ob ⟨.int .i64 k :: (.string (S []) :: (.slice none 0 0 :: ((idc idZ) ++ (.slice none 0 0 :: (.int .u32 0 :: (.string (S []) :: ((idc ((rdI ((rdK s0 bad0).2.1) ((rdK s0 bad0).2.2)).1)) ++ (.int .i64 ((rdK s0 bad0).1) :: ([.string (S [])])))))))))⟩ rfl (by kernel_rfl) (by kernel_rfl) ?_
  clear ha a; intro w4 hc a ha
  replace hB_r := hc.keep hB_r (by first | assumption | exact Ne.symm (by assumption))
  replace hx := hx.chg hc (.inl (by simp))
  replace hB_ob := hc.at_; clear hc
  refine lnil ?_
  replace ha := ha.sub (ρ' := [(0, .pointer (some ⟨r, 0, none⟩)), (1, .pointer (some ⟨ob, 0, none⟩))]) (by kernel_rfl)
  refine tn ?_
  refine reg_list ?_
  refine segp (ρ' := [(14, .pointer (some ⟨ob, 0, none⟩)), (15, .pointer (some ⟨r, 0, none⟩))]) (C := []) ha 2 [] rfl (by kernel_rfl) .nil ?_
  clear ha a; intro a ha
  refine lcall (vs := #[.pointer (some ⟨r, 0, none⟩)]) ha rfl (by kernel_rfl) rfl rfl (by kernel_rfl) (by kernel_rfl) (rtx_ok r ((rdI ((rdK s0 bad0).2.1) ((rdK s0 bad0).2.2)).2.1) ((rdI ((rdK s0 bad0).2.1) ((rdK s0 bad0).2.2)).2.2) w4 hB_r (by omega)) ?_
  clear ha a; rintro _ w5 ⟨rfl, hfr, hB'⟩ a ha
  replace hB_ob := hfr.keep hB_ob (fun x hx => by simp only [List.mem_singleton] at hx; subst hx; exact (by first | assumption | exact Ne.symm (by assumption)))
  replace hx := hx.tr hfr (by simp)
  replace hB_r := hB'; clear hB' hfr
  refine segp (ρ' := [(16, .string (S ((rdT ((rdI ((rdK s0 bad0).2.1) ((rdK s0 bad0).2.2)).2.1) ((rdI ((rdK s0 bad0).2.1) ((rdK s0 bad0).2.2)).2.2)).1))), (18, .pointer (some ⟨ob, 71, none⟩))]) (C := []) ha 2 [] rfl (by kernel_rfl) .nil ?_
  clear ha a; intro a ha
  refine lstore (off := 71) ha rfl rfl (by kernel_rfl) hB_ob ⟨.int .i64 k :: (.string (S []) :: (.slice none 0 0 :: ((idc idZ) ++ (.slice none 0 0 :: (.int .u32 0 :: (.string (S []) :: ((idc ((rdI ((rdK s0 bad0).2.1) ((rdK s0 bad0).2.2)).1)) ++ (.int .i64 ((rdK s0 bad0).1) :: ([.string (S ((rdT ((rdI ((rdK s0 bad0).2.1) ((rdK s0 bad0).2.2)).2.1) ((rdI ((rdK s0 bad0).2.1) ((rdK s0 bad0).2.2)).2.2)).1))])))))))))⟩ rfl (by kernel_rfl) (by kernel_rfl) ?_
  clear ha a; intro w6 hc a ha
  replace hB_r := hc.keep hB_r (by first | assumption | exact Ne.symm (by assumption))
  replace hx := hx.chg hc (.inl (by simp))
  replace hB_ob := hc.at_; clear hc
  refine lnil ?_
  replace ha := ha.sub (ρ' := []) (by kernel_rfl)
  refine finN ha .nil ?_
  exact ⟨rfl, hx, hB_r, hB_ob⟩
theorem rtree_ok (r ob : Nat) (k : Int) (s0 : List UInt8) (bad0 : Bool) (w : World) (hne_r_ob : r ≠ ob) (hB_r : w.heap[r]? = some (.cells #[.string (S s0), .bool bad0] 80 (0, 0))) (hB_ob : w.heap[ob]? = some (.cells ⟨.int .i64 k :: (.string (S []) :: (.slice none 0 0 :: ((idc idZ) ++ (.slice none 0 0 :: (.int .u32 0 :: (.string (S []) :: ((idc idZ) ++ (.int .i64 0 :: ([.string (S [])])))))))))⟩ 54 (0, 0))) (hs : s0.length ≤ 100000) :
    Fn Tryd.prog 54 #[.pointer (some ⟨r, 0, none⟩), .pointer (some ⟨ob, 0, none⟩)] w (fun x w' => ∃ A c, x = .tuple #[] ∧ Fr [r, ob] w w' ∧ w'.heap[r]? = some (.cells #[.string (S (rdTree s0.length s0 bad0).2.1), .bool (rdTree s0.length s0 bad0).2.2] 80 (0, 0)) ∧ w'.heap[ob]? = some (.cells ⟨.int .i64 k :: (.string (S []) :: (.slice A ((rdTree s0.length s0 bad0).1.length) c :: ((idc idZ) ++ (.slice none 0 0 :: (.int .u32 0 :: (.string (S []) :: ((idc idZ) ++ (.int .i64 0 :: ([.string (S [])])))))))))⟩ 54 (0, 0)) ∧ Own w' w.heap.size 89 34 A (rdTree s0.length s0 bad0).1.length c ((rdTree s0.length s0 bad0).1.flatMap encEnt)) := by
  have hx : Fr [r, ob] w w := Fr.rfl' _ w
  refine enter (N := 36) (args := [.pointer (some ⟨r, 0, none⟩), .pointer (some ⟨ob, 0, none⟩)]) Tryd.func54 rfl rfl rfl ?_
  intro a ha
  simp only [argEnv, Nat.zero_add, Nat.reduceAdd] at ha
  refine wblk ?_
  refine wloop (fun zz a w1 => ∃ (s : List UInt8) (bad : Bool) (l : List EntR) (A : Option Addr) (c f : Nat), zz = f ∧ On 36 [(0, .pointer (some ⟨r, 0, none⟩)), (1, .pointer (some ⟨ob, 0, none⟩))] a ∧ Fr [r, ob] w w1 ∧ w1.heap[r]? = some (.cells #[.string (S s), .bool bad] 80 (0, 0)) ∧ w1.heap[ob]? = some (.cells ⟨.int .i64 k :: (.string (S []) :: (.slice A l.length c :: ((idc idZ) ++ (.slice none 0 0 :: (.int .u32 0 :: (.string (S []) :: ((idc idZ) ++ (.int .i64 0 :: ([.string (S [])])))))))))⟩ 54 (0, 0)) ∧ Own w1 w.heap.size 89 34 A l.length c (l.flatMap encEnt) ∧ (rdTree s0.length s0 bad0 = (l ++ (rdTree f s bad).1, (rdTree f s bad).2)) ∧ (s.length ≤ f) ∧ (l.length + s.length ≤ s0.length)) _ ⟨s0, bad0, ([] : List EntR), none, 0, s0.length, rfl, ha.sub (ρ' := [(0, .pointer (some ⟨r, 0, none⟩)), (1, .pointer (some ⟨ob, 0, none⟩))]) (by kernel_rfl), hx, hB_r, hB_ob, own_nil _ _ _ _, rfl, Nat.le_refl _, by simp⟩ ?_
  clear ha hx hB_r hB_ob
  rintro zz a w2 ⟨s, bad, l, A, c, f, hzz, ha, hx, hB_r, hB_ob, ho, hinv, hsf, hls⟩
  refine wseq ?_
  refine wseq ?_
  refine regp (ρ' := [(0, .pointer (some ⟨r, 0, none⟩)), (1, .pointer (some ⟨ob, 0, none⟩)), (16, .bool ((!bad) && (!decide ((s : List UInt8) = ([] : List UInt8)))))]) (C := [RunOk Tryd.prog w2 (Instr.loadAt 4 (.pointer (some ⟨r, 1, none⟩))) (.bool bad), (!bad) = true → All [RunOk Tryd.prog w2 (Instr.loadAt 9 (.pointer (some ⟨r, 0, none⟩))) (.string (S s))]]) ha [(3, .val (.bool bad)), (9, .val (.string (S s)))] (by kernel_rfl) (.cons (ld1 hB_r (by kernel_rfl) rfl) (.cons (fun hg6 => by simp only [Bool.not_eq_true', Bool.not_eq_false', Bool.and_eq_true, Bool.or_eq_true, Bool.and_eq_false_iff, Bool.or_eq_false_iff, decide_eq_true_eq, decide_eq_false_iff_not, Bool.not_eq_true, Decidable.not_not] at hg6; exact (.cons (ld1 hB_r (by kernel_rfl) rfl) .nil)) .nil)) ?_
  clear ha a; intro a ha
  refine tn ?_
  refine wif ha rfl (fun h16 => ?_) (fun h16 => ?_)
  · simp only [Bool.not_eq_true', Bool.not_eq_false', Bool.and_eq_true, Bool.or_eq_true, Bool.and_eq_false_iff, Bool.or_eq_false_iff, decide_eq_true_eq, decide_eq_false_iff_not, Bool.not_eq_true, Decidable.not_not] at h16
    have hless : (rdE1 s bad).2.1.length < s.length := by rw [h16.1]; exact rdE1_lt s h16.2
    have hk1 := rdK_len s bad
    have hk2 := (rdT_len (rdK s bad).2.1 (rdK s bad).2.2).1
    have hinv2 : rdTree s0.length s0 bad0 = ((l ++ [(rdE1 s bad).1]) ++ (rdTree (f - 1) (rdE1 s bad).2.1 (rdE1 s bad).2.2).1, (rdTree (f - 1) (rdE1 s bad).2.1 (rdE1 s bad).2.2).2) := by
      rw [hinv]
      obtain ⟨g, rfl⟩ : ∃ g, f = g + 1 := ⟨f - 1, by omega⟩
      rw [rdTree, if_neg (by simp only [not_or]; exact ⟨by simp [h16.1], h16.2⟩)]
      simp
    refine wskip ?_
    refine tn ?_
    refine wblk ?_
    refine wseq ?_
    refine reg_list ?_
    refine segp (ρ' := [(0, .pointer (some ⟨r, 0, none⟩)), (1, .pointer (some ⟨ob, 0, none⟩)), (17, .pointer (some ⟨r, 0, none⟩))]) (C := []) ha 1 [] rfl (by kernel_rfl) .nil ?_
    clear ha a; intro a ha
    refine lcall (vs := #[.pointer (some ⟨r, 0, none⟩)]) ha rfl (by kernel_rfl) rfl rfl (by kernel_rfl) (by kernel_rfl) (rkind_ok r s bad w2 hB_r (by omega)) ?_
    clear ha a; rintro _ w3 ⟨rfl, hfr, hB'⟩ a ha
    replace hB_ob := hfr.keep hB_ob (fun x hx => by simp only [List.mem_singleton] at hx; subst hx; exact (by first | assumption | exact Ne.symm (by assumption)))
    replace ho := ownFr1 hfr hB_r rfl ho
    replace hx := hx.tr hfr (by simp)
    replace hB_r := hB'; clear hB' hfr
    refine segp (ρ' := [(0, .pointer (some ⟨r, 0, none⟩)), (1, .pointer (some ⟨ob, 0, none⟩)), (19, .agg ⟨.string (S []) :: (.int .i64 ((rdK s bad).1) :: (idc idZ))⟩)]) (C := []) ha 1 [] rfl (by kernel_rfl) .nil ?_
    clear ha a; intro a ha
    refine lnew ha rfl (by kernel_rfl) ⟨.string (S []) :: (.int .i64 0 :: (idc idZ))⟩ 89 (by kernel_rfl) ?_
    clear ha a; intro be w4 he hb_be hB_be a ha
    have hne_r_be : r ≠ be := ne_new hB_r hb_be
    have hne_ob_be : ob ≠ be := ne_new hB_ob hb_be
    have hno_ho_be : (Value.slice A l.length c).ownBlock ≠ some be := own_ne ho hb_be
    replace hB_r := keepB he hB_r
    replace hB_ob := keepB he hB_ob
    replace ho := ownE he ho
    replace hb_be := Nat.le_trans hx.size hb_be
    replace hx := hx.ext he
    clear he
    refine lstore (off := 0) ha rfl rfl (by kernel_rfl) hB_be ⟨.string (S []) :: (.int .i64 ((rdK s bad).1) :: (idc idZ))⟩ rfl (by kernel_rfl) (by kernel_rfl) ?_
    clear ha a; intro w5 hc a ha
    replace hB_r := hc.keep hB_r (by first | assumption | exact Ne.symm (by assumption))
    replace hB_ob := hc.keep hB_ob (by first | assumption | exact Ne.symm (by assumption))
    replace ho := ownCn hc hno_ho_be ho
    replace hx := hx.chg hc (.inr hb_be)
    replace hB_be := hc.at_; clear hc
    refine lnil ?_
    replace ha := ha.sub (ρ' := [(0, .pointer (some ⟨r, 0, none⟩)), (1, .pointer (some ⟨ob, 0, none⟩)), (4, .pointer (some ⟨be, 0, none⟩))]) (by kernel_rfl)
    refine tn ?_
    refine wseq ?_
    refine reg_list ?_
    refine segp (ρ' := [(0, .pointer (some ⟨r, 0, none⟩)), (1, .pointer (some ⟨ob, 0, none⟩)), (4, .pointer (some ⟨be, 0, none⟩)), (20, .pointer (some ⟨r, 0, none⟩))]) (C := []) ha 1 [] rfl (by kernel_rfl) .nil ?_
    clear ha a; intro a ha
    refine lcall (vs := #[.pointer (some ⟨r, 0, none⟩)]) ha rfl (by kernel_rfl) rfl rfl (by kernel_rfl) (by kernel_rfl) (rtx_ok r ((rdK s bad).2.1) ((rdK s bad).2.2) w5 hB_r (by omega)) ?_
    clear ha a; rintro _ w6 ⟨rfl, hfr, hB'⟩ a ha
    replace hB_ob := hfr.keep hB_ob (fun x hx => by simp only [List.mem_singleton] at hx; subst hx; exact (by first | assumption | exact Ne.symm (by assumption)))
    replace hB_be := hfr.keep hB_be (fun x hx => by simp only [List.mem_singleton] at hx; subst hx; exact (by first | assumption | exact Ne.symm (by assumption)))
    replace ho := ownFr1 hfr hB_r rfl ho
    replace hx := hx.tr hfr (by simp)
    replace hB_r := hB'; clear hB' hfr
    refine segp (ρ' := [(0, .pointer (some ⟨r, 0, none⟩)), (1, .pointer (some ⟨ob, 0, none⟩)), (4, .pointer (some ⟨be, 0, none⟩)), (21, .string (S ((rdT ((rdK s bad).2.1) ((rdK s bad).2.2)).1))), (22, .pointer (some ⟨be, 0, none⟩))]) (C := []) ha 1 [] rfl (by kernel_rfl) .nil ?_
    clear ha a; intro a ha
    refine lstore (off := 0) ha rfl rfl (by kernel_rfl) hB_be ⟨.string (S ((rdT ((rdK s bad).2.1) ((rdK s bad).2.2)).1)) :: (.int .i64 ((rdK s bad).1) :: (idc idZ))⟩ rfl (by kernel_rfl) (by kernel_rfl) ?_
    clear ha a; intro w7 hc a ha
    replace hB_r := hc.keep hB_r (by first | assumption | exact Ne.symm (by assumption))
    replace hB_ob := hc.keep hB_ob (by first | assumption | exact Ne.symm (by assumption))
    replace ho := ownCn hc hno_ho_be ho
    replace hx := hx.chg hc (.inr hb_be)
    replace hB_be := hc.at_; clear hc
    refine lnil ?_
    replace ha := ha.sub (ρ' := [(0, .pointer (some ⟨r, 0, none⟩)), (1, .pointer (some ⟨ob, 0, none⟩)), (4, .pointer (some ⟨be, 0, none⟩))]) (by kernel_rfl)
    refine tn ?_
    refine wseq ?_
    refine reg_list ?_
    refine segp (ρ' := [(0, .pointer (some ⟨r, 0, none⟩)), (1, .pointer (some ⟨ob, 0, none⟩)), (4, .pointer (some ⟨be, 0, none⟩)), (23, .pointer (some ⟨r, 0, none⟩))]) (C := []) ha 1 [] rfl (by kernel_rfl) .nil ?_
    clear ha a; intro a ha
    refine lcall (vs := #[.pointer (some ⟨r, 0, none⟩)]) ha rfl (by kernel_rfl) rfl rfl (by kernel_rfl) (by kernel_rfl) (rid_ok r ((rdT ((rdK s bad).2.1) ((rdK s bad).2.2)).2.1) ((rdT ((rdK s bad).2.1) ((rdK s bad).2.2)).2.2) w7 hB_r (by omega)) ?_
    clear ha a; rintro _ w8 ⟨rfl, hfr, hB'⟩ a ha
    replace hB_ob := hfr.keep hB_ob (fun x hx => by simp only [List.mem_singleton] at hx; subst hx; exact (by first | assumption | exact Ne.symm (by assumption)))
    replace hB_be := hfr.keep hB_be (fun x hx => by simp only [List.mem_singleton] at hx; subst hx; exact (by first | assumption | exact Ne.symm (by assumption)))
    replace ho := ownFr1 hfr hB_r rfl ho
    replace hx := hx.tr hfr (by simp)
    replace hB_r := hB'; clear hB' hfr
    refine segp (ρ' := [(0, .pointer (some ⟨r, 0, none⟩)), (1, .pointer (some ⟨ob, 0, none⟩)), (4, .pointer (some ⟨be, 0, none⟩)), (24, .agg ⟨idc ((rdI ((rdT ((rdK s bad).2.1) ((rdK s bad).2.2)).2.1) ((rdT ((rdK s bad).2.1) ((rdK s bad).2.2)).2.2)).1)⟩), (25, .pointer (some ⟨be, 2, none⟩))]) (C := []) ha 1 [] rfl (by kernel_rfl) .nil ?_
    clear ha a; intro a ha
    refine lstore (off := 2) ha rfl rfl (by kernel_rfl) hB_be ⟨.string (S ((rdT ((rdK s bad).2.1) ((rdK s bad).2.2)).1)) :: (.int .i64 ((rdK s bad).1) :: (idc ((rdI ((rdT ((rdK s bad).2.1) ((rdK s bad).2.2)).2.1) ((rdT ((rdK s bad).2.1) ((rdK s bad).2.2)).2.2)).1)))⟩ rfl (by kernel_rfl) (by kernel_rfl) ?_
    clear ha a; intro w9 hc a ha
    replace hB_r := hc.keep hB_r (by first | assumption | exact Ne.symm (by assumption))
    replace hB_ob := hc.keep hB_ob (by first | assumption | exact Ne.symm (by assumption))
    replace ho := ownCn hc hno_ho_be ho
    replace hx := hx.chg hc (.inr hb_be)
    replace hB_be := hc.at_; clear hc
    refine lnil ?_
    replace ha := ha.sub (ρ' := [(0, .pointer (some ⟨r, 0, none⟩)), (1, .pointer (some ⟨ob, 0, none⟩)), (4, .pointer (some ⟨be, 0, none⟩))]) (by kernel_rfl)
    refine tn ?_
    refine regM hmix ha [(4, .val (.slice A l.length c)), (5, .val (.agg ⟨.string (S ((rdT ((rdK s bad).2.1) ((rdK s bad).2.2)).1)) :: (.int .i64 ((rdK s bad).1) :: (idc ((rdI ((rdT ((rdK s bad).2.1) ((rdK s bad).2.2)).2.1) ((rdT ((rdK s bad).2.1) ((rdK s bad).2.2)).2.2)).1)))⟩))] [⟨6, .des, [0], []⟩] [⟨7, .des, [6], [(32, 6)]⟩, ⟨10, .des, [6, 7], [(33, 7)]⟩] [] (ρ' := [(0, .pointer (some ⟨r, 0, none⟩)), (1, .pointer (some ⟨ob, 0, none⟩))]) [(6, fun u w' => ∃ (b10 : Nat), u = .slice (some ⟨b10, 0, none⟩) 1 1 ∧ w9.heap.size ≤ b10 ∧ w'.heap[b10]? = some (.cells ⟨.string (S ((rdT ((rdK s bad).2.1) ((rdK s bad).2.2)).1)) :: (.int .i64 ((rdK s bad).1) :: (idc ((rdI ((rdT ((rdK s bad).2.1) ((rdK s bad).2.2)).2.1) ((rdT ((rdK s bad).2.1) ((rdK s bad).2.2)).2.2)).1)))⟩ 89 (0, 0))), (7, fun u w' => ∃ (A11 : Option Addr) (c12 : Nat), u = .slice A11 ((l ++ [(rdE1 s bad).1]).length) c12 ∧ Own w' w.heap.size 89 34 A11 ((l ++ [(rdE1 s bad).1]).length) c12 ((l ++ [(rdE1 s bad).1]).flatMap encEnt))] [fun w' => Ext w9 w', fun w' => w9.heap.size ≤ w'.heap.size ∧ Fr [r, ob] w w' ∧ w'.heap[r]? = some (.cells #[.string (S ((rdI ((rdT ((rdK s bad).2.1) ((rdK s bad).2.2)).2.1) ((rdT ((rdK s bad).2.1) ((rdK s bad).2.2)).2.2)).2.1)), .bool ((rdI ((rdT ((rdK s bad).2.1) ((rdK s bad).2.2)).2.1) ((rdT ((rdK s bad).2.1) ((rdK s bad).2.2)).2.2)).2.2)] 80 (0, 0)) ∧ w'.heap[ob]? = some (.cells ⟨.int .i64 k :: (.string (S []) :: (.slice A l.length c :: ((idc idZ) ++ (.slice none 0 0 :: (.int .u32 0 :: (.string (S []) :: ((idc idZ) ++ (.int .i64 0 :: ([.string (S [])])))))))))⟩ 54 (0, 0)) ∧ w'.heap[be]? = some (.cells ⟨.string (S ((rdT ((rdK s bad).2.1) ((rdK s bad).2.2)).1)) :: (.int .i64 ((rdK s bad).1) :: (idc ((rdI ((rdT ((rdK s bad).2.1) ((rdK s bad).2.2)).2.1) ((rdT ((rdK s bad).2.1) ((rdK s bad).2.2)).2.2)).1)))⟩ 89 (0, 0)), fun w' => ∃ (A11 : Option Addr) (c12 : Nat), w9.heap.size ≤ w'.heap.size ∧ Fr [r, ob] w w' ∧ Own w' w.heap.size 89 34 A11 ((l ++ [(rdE1 s bad).1]).length) c12 ((l ++ [(rdE1 s bad).1]).flatMap encEnt) ∧ w'.heap[r]? = some (.cells #[.string (S ((rdI ((rdT ((rdK s bad).2.1) ((rdK s bad).2.2)).2.1) ((rdT ((rdK s bad).2.1) ((rdK s bad).2.2)).2.2)).2.1)), .bool ((rdI ((rdT ((rdK s bad).2.1) ((rdK s bad).2.2)).2.1) ((rdT ((rdK s bad).2.1) ((rdK s bad).2.2)).2.2)).2.2)] 80 (0, 0)) ∧ w'.heap[ob]? = some (.cells ⟨.int .i64 k :: (.string (S []) :: (.slice A11 ((l ++ [(rdE1 s bad).1]).length) c12 :: ((idc idZ) ++ (.slice none 0 0 :: (.int .u32 0 :: (.string (S []) :: ((idc idZ) ++ (.int .i64 0 :: ([.string (S [])])))))))))⟩ 54 (0, 0)) ∧ w'.heap[be]? = some (.cells ⟨.string (S ((rdT ((rdK s bad).2.1) ((rdK s bad).2.2)).1)) :: (.int .i64 ((rdK s bad).1) :: (idc ((rdI ((rdT ((rdK s bad).2.1) ((rdK s bad).2.2)).2.1) ((rdT ((rdK s bad).2.1) ((rdK s bad).2.2)).2.2)).1)))⟩ 89 (0, 0))] [(4, [0], fun w' => [RunOk Tryd.prog w' (Instr.loadAt 50 (.pointer (some ⟨ob, 2, none⟩))) (.slice A l.length c)]), (5, [0], fun w' => [RunOk Tryd.prog w' (Instr.loadAt 89 (.pointer (some ⟨be, 0, none⟩))) (.agg ⟨.string (S ((rdT ((rdK s bad).2.1) ((rdK s bad).2.2)).1)) :: (.int .i64 ((rdK s bad).1) :: (idc ((rdI ((rdT ((rdK s bad).2.1) ((rdK s bad).2.2)).2.1) ((rdT ((rdK s bad).2.1) ((rdK s bad).2.2)).2.2)).1)))⟩)])] (by kernel_rfl) (fun w' => by kernel_rfl) (fun w' => by kernel_rfl) (by kernel_rfl) (fun w' h => h) ?_ ?_ ?_ ?_ ?_ ?_
    · refine ⟨fun w1 w2 h e => Ext.tr h e, ?_, ?_, trivial⟩
      · rintro w1 w2 ⟨hsz, hx, hB_r, hB_ob, hB_be⟩ he
        exact ⟨Nat.le_trans hsz he.size, hx.ext he, keepB he hB_r, keepB he hB_ob, keepB he hB_be⟩
      · rintro w1 w2 ⟨A11, c12, hsz, hx, ho2, hB_r, hB_ob, hB_be⟩ he
        exact ⟨A11, c12, Nat.le_trans hsz he.size, hx.ext he, ownE he ho2, keepB he hB_r, keepB he hB_ob, keepB he hB_be⟩
    · refine ⟨?_, ?_, trivial⟩
      · rintro _ w1 w2 ⟨b10, rfl, hb_b10, hB_b10⟩ he
        exact ⟨b10, rfl, hb_b10, keepB he hB_b10⟩
      · rintro _ w1 w2 ⟨A11, c12, rfl, ho2⟩ he
        exact ⟨A11, c12, rfl, ownE he ho2⟩
    · refine ⟨⟨?_, trivial⟩, ⟨?_, trivial⟩, trivial⟩
      · intro w' hJ
        have he : Ext w9 w' := hJ
        have hsz := he.size
        replace hx := hx.ext he
        replace hB_r := keepB he hB_r
        replace hB_ob := keepB he hB_ob
        replace hB_be := keepB he hB_be
        replace ho := ownE he ho
        clear he
        exact (.cons (ld1 hB_ob (by kernel_rfl) (by kernel_rfl)) .nil)
      · intro w' hJ
        have he : Ext w9 w' := hJ
        have hsz := he.size
        replace hx := hx.ext he
        replace hB_r := keepB he hB_r
        replace hB_ob := keepB he hB_ob
        replace hB_be := keepB he hB_be
        replace ho := ownE he ho
        clear he
        exact (.cons (ldN (n := 34) hB_be (by kernel_rfl) (by kernel_rfl) ⟨Nat.le_of_ble_eq_true (by kernel_rfl), (by kernel_rfl)⟩) .nil)
    · refine ⟨⟨?_, trivial⟩, trivial⟩
      · intro w' hJ
        have he : Ext w9 w' := hJ
        have hsz := he.size
        replace hx := hx.ext he
        replace hB_r := keepB he hB_r
        replace hB_ob := keepB he hB_ob
        replace hB_be := keepB he hB_be
        replace ho := ownE he ho
        clear he
        refine onewS ⟨.string (S ((rdT ((rdK s bad).2.1) ((rdK s bad).2.2)).1)) :: (.int .i64 ((rdK s bad).1) :: (idc ((rdI ((rdT ((rdK s bad).2.1) ((rdK s bad).2.2)).2.1) ((rdT ((rdK s bad).2.1) ((rdK s bad).2.2)).2.2)).1)))⟩ 89 1 (by kernel_rfl) ?_
        intro b10 w'' he hb_b10 hB_b10
        exact ⟨⟨b10, rfl, Nat.le_trans hsz hb_b10, hB_b10⟩, he⟩
    · refine ⟨?_, ?_, trivial⟩
      · intro w' hJ u0 hu0
        obtain ⟨b10, rfl, hb_b10, hB_b10⟩ := hu0
        have hB_rS := hB_r
        have hB_obS := hB_ob
        have hB_beS := hB_be
        have hoS := ho
        have he : Ext w9 w' := hJ
        have hsz := he.size
        replace hx := hx.ext he
        replace hB_r := keepB he hB_r
        replace hB_ob := keepB he hB_ob
        replace hB_be := keepB he hB_be
        replace ho := ownE he ho
        clear he
        refine oapp (m := 1) (c' := 1) (ad := ⟨b10, 0, none⟩) (s := .tmp 30) (x := .tmp 32) (t := 50) (by_ := 56) (by kernel_rfl) (by kernel_rfl) (by kernel_rfl) ho (by kernel_rfl) (.string (S ((rdT ((rdK s bad).2.1) ((rdK s bad).2.2)).1)) :: (.int .i64 ((rdK s bad).1) :: (idc ((rdI ((rdT ((rdK s bad).2.1) ((rdK s bad).2.2)).2.1) ((rdT ((rdK s bad).2.1) ((rdK s bad).2.2)).2.2)).1)))) rfl (news_blk hB_b10) rfl (by omega) (by omega) hx.size ?_
        intro A11 c12 w'' ho2' hg
        have h1 : ((l.flatMap encEnt) ++ (.string (S ((rdT ((rdK s bad).2.1) ((rdK s bad).2.2)).1)) :: (.int .i64 ((rdK s bad).1) :: (idc ((rdI ((rdT ((rdK s bad).2.1) ((rdK s bad).2.2)).2.1) ((rdT ((rdK s bad).2.1) ((rdK s bad).2.2)).2.2)).1)))) : List Value) = ((l ++ [(rdE1 s bad).1]).flatMap encEnt) := by rw [← flat_snoc]; rfl
        have h2 : (l.length + 1 : Nat) = (l ++ [(rdE1 s bad).1]).length := by simp
        rw [h1, h2] at ho2'
        rw [h2]
        exact ⟨⟨A11, c12, rfl, ho2'⟩, ⟨Nat.le_trans hsz hg.size, hx.grown hg ho (Nat.le_refl _), keepG hg ho rfl hB_r, keepG hg ho rfl hB_ob, keepGo hg hno_ho_be hB_be⟩, ⟨fun u hu => by obtain ⟨b10, rfl, hb_b10, hB_b10⟩ := hu; exact ⟨b10, rfl, hb_b10, keepGn hg hoS hb_b10 hB_b10⟩, trivial⟩⟩
      · intro w' hJ u0 hu0
        obtain ⟨A11, c12, rfl, ho2⟩ := hu0
        have hB_rS := hB_r
        have hB_obS := hB_ob
        have hB_beS := hB_be
        have hoS := ho
        obtain ⟨hsz, hx, hB_r, hB_ob, hB_be⟩ := hJ
        refine ostore (off := 2) (x := .tmp 35) (y := .tmp 33) (t := 50) hB_ob ⟨.int .i64 k :: (.string (S []) :: (.slice A11 ((l ++ [(rdE1 s bad).1]).length) c12 :: ((idc idZ) ++ (.slice none 0 0 :: (.int .u32 0 :: (.string (S []) :: ((idc idZ) ++ (.int .i64 0 :: ([.string (S [])])))))))))⟩ (by kernel_rfl) (by kernel_rfl) (by kernel_rfl) ?_
        intro w'' hc
        exact ⟨trivial, ⟨A11, c12, Nat.le_trans hsz hc.size, hx.chg hc (.inl (by simp)), ownC hc hB_ob rfl ho2, hc.keep hB_r (by first | assumption | exact Ne.symm (by assumption)), hc.at_, hc.keep hB_be (by first | assumption | exact Ne.symm (by assumption))⟩, ⟨fun u hu => by obtain ⟨b10, rfl, hb_b10, hB_b10⟩ := hu; exact ⟨b10, rfl, hb_b10, hc.keep hB_b10 (ne_new hB_obS hb_b10).symm⟩, fun u hu => by obtain ⟨A11, c12, rfl, ho2⟩ := hu; exact ⟨A11, c12, rfl, ownC hc hB_ob rfl ho2⟩, trivial⟩⟩
    · clear ha a; intro a w13 hJ ha
      clear hx hB_r hB_ob hB_be ho
      obtain ⟨A11, c12, hsz, hx, ho2, hB_r, hB_ob, hB_be⟩ := hJ
      clear hsz
      refine bn ?_
      exact tn ⟨((f - 1)), by omega, (rdI ((rdT ((rdK s bad).2.1) ((rdK s bad).2.2)).2.1) ((rdT ((rdK s bad).2.1) ((rdK s bad).2.2)).2.2)).2.1, (rdI ((rdT ((rdK s bad).2.1) ((rdK s bad).2.2)).2.1) ((rdT ((rdK s bad).2.1) ((rdK s bad).2.2)).2.2)).2.2, (l ++ [(rdE1 s bad).1]), A11, c12, (f - 1), rfl, ha.sub (ρ' := [(0, .pointer (some ⟨r, 0, none⟩)), (1, .pointer (some ⟨ob, 0, none⟩))]) (by kernel_rfl), hx, hB_r, hB_ob, ho2, hinv2, by show (rdE1 s bad).2.1.length ≤ _; omega, by show _ + (rdE1 s bad).2.1.length ≤ _; rw [List.length_append]; show l.length + 1 + _ ≤ _; omega⟩
  · simp only [Bool.not_eq_true', Bool.not_eq_false', Bool.and_eq_true, Bool.or_eq_true, Bool.and_eq_false_iff, Bool.or_eq_false_iff, decide_eq_true_eq, decide_eq_false_iff_not, Bool.not_eq_true, Decidable.not_not] at h16
    have hres : rdTree s0.length s0 bad0 = (l, s, bad) := by
      rw [hinv]
      have : rdTree f s bad = ([], s, bad) := by
        cases f with
        | zero => rfl
        | succ f => rw [rdTree, if_pos (by rcases h16 with h | h; exact .inl h; exact .inr h)]
      rw [this]; simp
    refine wexit ?_
    refine (te (te (be ?_)))
    refine finN ha .nil ?_
    refine ⟨A, c, rfl, hx, ?_, ?_, ?_⟩
    · rw [hres]; exact hB_r
    · rw [hres]; exact hB_ob
    · rw [hres]; exact ho
theorem rcommit_ok (r ob : Nat) (k : Int) (s0 : List UInt8) (bad0 : Bool) (w : World) (hne_r_ob : r ≠ ob) (hB_r : w.heap[r]? = some (.cells #[.string (S s0), .bool bad0] 80 (0, 0))) (hB_ob : w.heap[ob]? = some (.cells ⟨.int .i64 k :: (.string (S []) :: (.slice none 0 0 :: ((idc idZ) ++ (.slice none 0 0 :: (.int .u32 0 :: (.string (S []) :: ((idc idZ) ++ (.int .i64 0 :: ([.string (S [])])))))))))⟩ 54 (0, 0))) (hs : s0.length ≤ 100000) :
    Fn Tryd.prog 55 #[.pointer (some ⟨r, 0, none⟩), .pointer (some ⟨ob, 0, none⟩)] w (fun x w' => ∃ A c, x = .tuple #[] ∧ Fr [r, ob] w w' ∧ w'.heap[r]? = some (.cells #[.string (S (rdCom s0 bad0).2.1), .bool (rdCom s0 bad0).2.2] 80 (0, 0)) ∧ w'.heap[ob]? = some (.cells ⟨.int .i64 k :: (.string (S []) :: (.slice none 0 0 :: ((idc ((rdCom s0 bad0).1.Tree)) ++ (.slice A ((rdCom s0 bad0).1.Parents.length) c :: (.int .u32 (((rdCom s0 bad0).1.Time : Nat) : Int) :: (.string (S ((rdCom s0 bad0).1.Text)) :: ((idc idZ) ++ (.int .i64 0 :: ([.string (S [])])))))))))⟩ 54 (0, 0)) ∧ Own w' w.heap.size 24 32 A (rdCom s0 bad0).1.Parents.length c ((rdCom s0 bad0).1.Parents.flatMap idc)) := by
  have hx : Fr [r, ob] w w := Fr.rfl' _ w
  refine enter (N := 59) (args := [.pointer (some ⟨r, 0, none⟩), .pointer (some ⟨ob, 0, none⟩)]) Tryd.func55 rfl rfl rfl ?_
  intro a ha
  simp only [argEnv, Nat.zero_add, Nat.reduceAdd] at ha
  refine wseq ?_
  refine reg_list ?_
  refine segp (ρ' := [(0, .pointer (some ⟨r, 0, none⟩)), (1, .pointer (some ⟨ob, 0, none⟩)), (7, .pointer (some ⟨ob, 0, none⟩)), (8, .pointer (some ⟨r, 0, none⟩))]) (C := []) ha 2 [] rfl (by kernel_rfl) .nil ?_
  clear ha a; intro a ha
  refine lcall (vs := #[.pointer (some ⟨r, 0, none⟩)]) ha rfl (by kernel_rfl) rfl rfl (by kernel_rfl) (by kernel_rfl) (rid_ok r s0 bad0 w hB_r (by omega)) ?_
  clear ha a; rintro _ w1 ⟨rfl, hfr, hB'⟩ a ha
  replace hB_ob := hfr.keep hB_ob (fun x hx => by simp only [List.mem_singleton] at hx; subst hx; exact (by first | assumption | exact Ne.symm (by assumption)))
  replace hx := hx.tr hfr (by simp)
  replace hB_r := hB'; clear hB' hfr
  refine segp (ρ' := [(0, .pointer (some ⟨r, 0, none⟩)), (1, .pointer (some ⟨ob, 0, none⟩)), (9, .agg ⟨idc ((rdI s0 bad0).1)⟩), (11, .pointer (some ⟨ob, 3, none⟩))]) (C := []) ha 2 [] rfl (by kernel_rfl) .nil ?_
  clear ha a; intro a ha
  refine lstore (off := 3) ha rfl rfl (by kernel_rfl) hB_ob ⟨.int .i64 k :: (.string (S []) :: (.slice none 0 0 :: ((idc ((rdI s0 bad0).1)) ++ (.slice none 0 0 :: (.int .u32 0 :: (.string (S []) :: ((idc idZ) ++ (.int .i64 0 :: ([.string (S [])])))))))))⟩ rfl (by kernel_rfl) (by kernel_rfl) ?_
  clear ha a; intro w2 hc a ha
  replace hB_r := hc.keep hB_r (by first | assumption | exact Ne.symm (by assumption))
  replace hx := hx.chg hc (.inl (by simp))
  replace hB_ob := hc.at_; clear hc
  refine lnil ?_
  replace ha := ha.sub (ρ' := [(0, .pointer (some ⟨r, 0, none⟩)), (1, .pointer (some ⟨ob, 0, none⟩))]) (by kernel_rfl)
  have hk1 := rdI_len s0 bad0
  have hk2 := rdN_len (rdI s0 bad0).2.1 (rdI s0 bad0).2.2
  refine tn ?_
  refine wseq ?_
  refine reg_list ?_
  refine segp (ρ' := [(0, .pointer (some ⟨r, 0, none⟩)), (1, .pointer (some ⟨ob, 0, none⟩)), (12, .pointer (some ⟨r, 0, none⟩))]) (C := []) ha 1 [] rfl (by kernel_rfl) .nil ?_
  clear ha a; intro a ha
  refine lcall (vs := #[.pointer (some ⟨r, 0, none⟩)]) ha rfl (by kernel_rfl) rfl rfl (by kernel_rfl) (by kernel_rfl) (rnum_ok r ((rdI s0 bad0).2.1) ((rdI s0 bad0).2.2) w2 hB_r (by omega)) ?_
  clear ha a; rintro _ w3 ⟨rfl, hfr, hB'⟩ a ha
  replace hB_ob := hfr.keep hB_ob (fun x hx => by simp only [List.mem_singleton] at hx; subst hx; exact (by first | assumption | exact Ne.symm (by assumption)))
  replace hx := hx.tr hfr (by simp)
  replace hB_r := hB'; clear hB' hfr
  refine segp (ρ' := [(0, .pointer (some ⟨r, 0, none⟩)), (1, .pointer (some ⟨ob, 0, none⟩)), (4, .int .u64 (((rdN ((rdI s0 bad0).2.1) ((rdI s0 bad0).2.2)).1 : Nat) : Int))]) (C := []) ha 1 [] rfl (by kernel_rfl) .nil ?_
  clear ha a; intro a ha
  refine lnil ?_
  replace ha := ha.sub (ρ' := [(0, .pointer (some ⟨r, 0, none⟩)), (1, .pointer (some ⟨ob, 0, none⟩)), (4, .int .u64 (((rdN ((rdI s0 bad0).2.1) ((rdI s0 bad0).2.2)).1 : Nat) : Int))]) (by kernel_rfl)
  refine tn ?_
  refine wcut (fun a w4 => On 59 [(0, .pointer (some ⟨r, 0, none⟩)), (1, .pointer (some ⟨ob, 0, none⟩)), (4, .int .u64 (((rdN ((rdI s0 bad0).2.1) ((rdI s0 bad0).2.2)).1 : Nat) : Int))] a ∧ Fr [r, ob] w w4 ∧ w4.heap[r]? = some (.cells #[.string (S ((rdN (rdI s0 bad0).2.1 (rdI s0 bad0).2.2).2.1)), .bool ((rdN (rdI s0 bad0).2.1 (rdI s0 bad0).2.2).2.2 || decide (8 < (rdN (rdI s0 bad0).2.1 (rdI s0 bad0).2.2).1))] 80 (0, 0)) ∧ w4.heap[ob]? = some (.cells ⟨.int .i64 k :: (.string (S []) :: (.slice none 0 0 :: ((idc ((rdI s0 bad0).1)) ++ (.slice none 0 0 :: (.int .u32 0 :: (.string (S []) :: ((idc idZ) ++ (.int .i64 0 :: ([.string (S [])])))))))))⟩ 54 (0, 0))) ?_ ?_
  ·
    refine wseq ?_
    refine regp (ρ' := [(0, .pointer (some ⟨r, 0, none⟩)), (1, .pointer (some ⟨ob, 0, none⟩)), (4, .int .u64 (((rdN ((rdI s0 bad0).2.1) ((rdI s0 bad0).2.2)).1 : Nat) : Int)), (15, .bool (decide ((8 : Int) < (((rdN ((rdI s0 bad0).2.1) ((rdI s0 bad0).2.2)).1 : Nat) : Int))))]) (C := []) ha [] (by kernel_rfl) .nil ?_
    clear ha a; intro a ha
    refine tn ?_
    refine wif ha rfl (fun h15 => ?_) (fun h15 => ?_)
    · replace h15 := of_decide_eq_true h15
      refine reg_list ?_
      refine segp (ρ' := [(0, .pointer (some ⟨r, 0, none⟩)), (1, .pointer (some ⟨ob, 0, none⟩)), (4, .int .u64 (((rdN ((rdI s0 bad0).2.1) ((rdI s0 bad0).2.2)).1 : Nat) : Int)), (18, .pointer (some ⟨r, 1, none⟩))]) (C := []) ha 3 [] rfl (by kernel_rfl) .nil ?_
      clear ha a; intro a ha
      refine lstore (off := 1) ha rfl rfl (by kernel_rfl) hB_r #[.string (S ((rdN ((rdI s0 bad0).2.1) ((rdI s0 bad0).2.2)).2.1)), .bool true] rfl (by kernel_rfl) (by kernel_rfl) ?_
      clear ha a; intro w5 hc a ha
      replace hB_ob := hc.keep hB_ob (by first | assumption | exact Ne.symm (by assumption))
      replace hx := hx.chg hc (.inl (by simp))
      replace hB_r := hc.at_; clear hc
      refine lnil ?_
      replace ha := ha.sub (ρ' := [(0, .pointer (some ⟨r, 0, none⟩)), (1, .pointer (some ⟨ob, 0, none⟩)), (4, .int .u64 (((rdN ((rdI s0 bad0).2.1) ((rdI s0 bad0).2.2)).1 : Nat) : Int))]) (by kernel_rfl)
      rw [show (true : Bool) = ((rdN (rdI s0 bad0).2.1 (rdI s0 bad0).2.2).2.2 || decide (8 < (rdN (rdI s0 bad0).2.1 (rdI s0 bad0).2.2).1)) from by simp; omega] at hB_r
      exact tn ⟨ha.sub (ρ' := [(0, .pointer (some ⟨r, 0, none⟩)), (1, .pointer (some ⟨ob, 0, none⟩)), (4, .int .u64 (((rdN ((rdI s0 bad0).2.1) ((rdI s0 bad0).2.2)).1 : Nat) : Int))]) (by kernel_rfl), hx, hB_r, hB_ob⟩
    · replace h15 := of_decide_eq_false h15
      rw [show ((rdN ((rdI s0 bad0).2.1) ((rdI s0 bad0).2.2)).2.2 : Bool) = ((rdN (rdI s0 bad0).2.1 (rdI s0 bad0).2.2).2.2 || decide (8 < (rdN (rdI s0 bad0).2.1 (rdI s0 bad0).2.2).1)) from by simp; omega] at hB_r
      refine wskip ?_
      exact tn ⟨ha.sub (ρ' := [(0, .pointer (some ⟨r, 0, none⟩)), (1, .pointer (some ⟨ob, 0, none⟩)), (4, .int .u64 (((rdN ((rdI s0 bad0).2.1) ((rdI s0 bad0).2.2)).1 : Nat) : Int))]) (by kernel_rfl), hx, hB_r, hB_ob⟩
  clear ha hx hB_r hB_ob
  rintro a w6 ⟨ha, hx, hB_r, hB_ob⟩
  refine wseq ?_
  refine wseq ?_
  refine regp (ρ' := [(0, .pointer (some ⟨r, 0, none⟩)), (1, .pointer (some ⟨ob, 0, none⟩)), (4, .int .u64 (((rdN ((rdI s0 bad0).2.1) ((rdI s0 bad0).2.2)).1 : Nat) : Int)), (5, .int .u64 0)]) (C := []) ha [] (by kernel_rfl) .nil ?_
  clear ha a; intro a ha
  refine tn ?_
  refine wblk ?_
  refine wloop (fun zz a w7 => ∃ (s : List UInt8) (bad : Bool) (l : List Id) (A : Option Addr) (c i : Nat), zz = (rdN (rdI s0 bad0).2.1 (rdI s0 bad0).2.2).1 - i ∧ On 59 [(0, .pointer (some ⟨r, 0, none⟩)), (1, .pointer (some ⟨ob, 0, none⟩)), (4, .int .u64 (((rdN ((rdI s0 bad0).2.1) ((rdI s0 bad0).2.2)).1 : Nat) : Int)), (5, .int .u64 ((i : Nat) : Int))] a ∧ Fr [r, ob] w w7 ∧ w7.heap[r]? = some (.cells #[.string (S s), .bool bad] 80 (0, 0)) ∧ w7.heap[ob]? = some (.cells ⟨.int .i64 k :: (.string (S []) :: (.slice none 0 0 :: ((idc ((rdI s0 bad0).1)) ++ (.slice A l.length c :: (.int .u32 0 :: (.string (S []) :: ((idc idZ) ++ (.int .i64 0 :: ([.string (S [])])))))))))⟩ 54 (0, 0)) ∧ Own w7 w.heap.size 24 32 A l.length c (l.flatMap idc) ∧ ((rdIds (rdN (rdI s0 bad0).2.1 (rdI s0 bad0).2.2).1 (rdN (rdI s0 bad0).2.1 (rdI s0 bad0).2.2).2.1 ((rdN (rdI s0 bad0).2.1 (rdI s0 bad0).2.2).2.2 || decide (8 < (rdN (rdI s0 bad0).2.1 (rdI s0 bad0).2.2).1))) = (l ++ (rdIds ((rdN (rdI s0 bad0).2.1 (rdI s0 bad0).2.2).1 - i) s bad).1, (rdIds ((rdN (rdI s0 bad0).2.1 (rdI s0 bad0).2.2).1 - i) s bad).2)) ∧ (s.length ≤ 100000) ∧ (l.length ≤ i) ∧ (l.length ≤ 8) ∧ (bad = true ∨ (rdN (rdI s0 bad0).2.1 (rdI s0 bad0).2.2).1 ≤ 8)) _ ⟨(rdN (rdI s0 bad0).2.1 (rdI s0 bad0).2.2).2.1, ((rdN (rdI s0 bad0).2.1 (rdI s0 bad0).2.2).2.2 || decide (8 < (rdN (rdI s0 bad0).2.1 (rdI s0 bad0).2.2).1)), ([] : List Id), none, 0, 0, rfl, ha.sub (ρ' := [(0, .pointer (some ⟨r, 0, none⟩)), (1, .pointer (some ⟨ob, 0, none⟩)), (4, .int .u64 (((rdN ((rdI s0 bad0).2.1) ((rdI s0 bad0).2.2)).1 : Nat) : Int)), (5, .int .u64 ((0 : Nat) : Int))]) (by kernel_rfl), hx, hB_r, hB_ob, own_nil _ _ _ _, rfl, by omega, by simp, by simp, by simp; omega⟩ ?_
  clear ha hx hB_r hB_ob
  rintro zz a w8 ⟨s, bad, l, A, c, i, hzz, ha, hx, hB_r, hB_ob, ho, hinv, hsl, hli, hl8, hb8⟩
  refine wseq ?_
  refine wseq ?_
  refine regp (ρ' := [(0, .pointer (some ⟨r, 0, none⟩)), (1, .pointer (some ⟨ob, 0, none⟩)), (4, .int .u64 (((rdN ((rdI s0 bad0).2.1) ((rdI s0 bad0).2.2)).1 : Nat) : Int)), (5, .int .u64 ((i : Nat) : Int)), (28, .bool ((decide (((i : Nat) : Int) < (((rdN ((rdI s0 bad0).2.1) ((rdI s0 bad0).2.2)).1 : Nat) : Int))) && (!bad)))]) (C := [(decide (((i : Nat) : Int) < (((rdN ((rdI s0 bad0).2.1) ((rdI s0 bad0).2.2)).1 : Nat) : Int))) = true → All [RunOk Tryd.prog w8 (Instr.loadAt 4 (.pointer (some ⟨r, 1, none⟩))) (.bool bad)]]) ha [(7, .val (.bool bad))] (by kernel_rfl) (.cons (fun hg4 => by replace hg4 := of_decide_eq_true hg4; exact (.cons (ld1 hB_r (by kernel_rfl) rfl) .nil)) .nil) ?_
  clear ha a; intro a ha
  refine tn ?_
  refine wif ha rfl (fun h28 => ?_) (fun h28 => ?_)
  · simp only [Bool.not_eq_true', Bool.not_eq_false', Bool.and_eq_true, Bool.or_eq_true, Bool.and_eq_false_iff, Bool.or_eq_false_iff, decide_eq_true_eq, decide_eq_false_iff_not, Bool.not_eq_true, Decidable.not_not] at h28
    have hn8 : (rdN (rdI s0 bad0).2.1 (rdI s0 bad0).2.2).1 ≤ 8 := by rcases hb8 with h | h; exact absurd h28.2 (by simp [h]); exact h
    have hinv2 : (rdIds (rdN (rdI s0 bad0).2.1 (rdI s0 bad0).2.2).1 (rdN (rdI s0 bad0).2.1 (rdI s0 bad0).2.2).2.1 ((rdN (rdI s0 bad0).2.1 (rdI s0 bad0).2.2).2.2 || decide (8 < (rdN (rdI s0 bad0).2.1 (rdI s0 bad0).2.2).1))) = ((l ++ [(rdI s bad).1]) ++ (rdIds ((rdN (rdI s0 bad0).2.1 (rdI s0 bad0).2.2).1 - (i + 1)) (rdI s bad).2.1 (rdI s bad).2.2).1, (rdIds ((rdN (rdI s0 bad0).2.1 (rdI s0 bad0).2.2).1 - (i + 1)) (rdI s bad).2.1 (rdI s bad).2.2).2) := by
      rw [hinv]
      obtain ⟨g, hg⟩ : ∃ g, (rdN (rdI s0 bad0).2.1 (rdI s0 bad0).2.2).1 - i = g + 1 := ⟨(rdN (rdI s0 bad0).2.1 (rdI s0 bad0).2.2).1 - (i + 1), by omega⟩
      rw [hg, show (rdN (rdI s0 bad0).2.1 (rdI s0 bad0).2.2).1 - (i + 1) = g by omega, rdIds, if_neg (by simp [h28.2])]
      simp
    refine wskip ?_
    refine tn ?_
    refine wseq ?_
    refine wblk ?_
    refine regM hmix ha [(4, .val (.slice A l.length c))] [⟨7, .des, [1], []⟩] [⟨6, .val (.agg ⟨idc ((rdI s bad).1)⟩), [], []⟩, ⟨8, .des, [7], [(38, 7)]⟩, ⟨11, .des, [7, 8], [(39, 8)]⟩] [] (ρ' := [(0, .pointer (some ⟨r, 0, none⟩)), (1, .pointer (some ⟨ob, 0, none⟩)), (4, .int .u64 (((rdN ((rdI s0 bad0).2.1) ((rdI s0 bad0).2.2)).1 : Nat) : Int)), (5, .int .u64 ((i : Nat) : Int))]) [(7, fun u w' => ∃ (b9 : Nat), u = .slice (some ⟨b9, 0, none⟩) 1 1 ∧ w8.heap.size ≤ b9 ∧ w'.heap[b9]? = some (.cells ⟨idc ((rdI s bad).1)⟩ 24 (0, 0))), (8, fun u w' => ∃ (A10 : Option Addr) (c11 : Nat), u = .slice A10 ((l ++ [(rdI s bad).1]).length) c11 ∧ Own w' w.heap.size 24 32 A10 ((l ++ [(rdI s bad).1]).length) c11 ((l ++ [(rdI s bad).1]).flatMap idc))] [fun w' => Ext w8 w', fun w' => w8.heap.size ≤ w'.heap.size ∧ Fr [r, ob] w w' ∧ w'.heap[r]? = some (.cells #[.string (S ((rdI s bad).2.1)), .bool ((rdI s bad).2.2)] 80 (0, 0)) ∧ w'.heap[ob]? = some (.cells ⟨.int .i64 k :: (.string (S []) :: (.slice none 0 0 :: ((idc ((rdI s0 bad0).1)) ++ (.slice A l.length c :: (.int .u32 0 :: (.string (S []) :: ((idc idZ) ++ (.int .i64 0 :: ([.string (S [])])))))))))⟩ 54 (0, 0)) ∧ Own w' w.heap.size 24 32 A l.length c (l.flatMap idc), fun w' => w8.heap.size ≤ w'.heap.size ∧ Fr [r, ob] w w' ∧ w'.heap[r]? = some (.cells #[.string (S ((rdI s bad).2.1)), .bool ((rdI s bad).2.2)] 80 (0, 0)) ∧ w'.heap[ob]? = some (.cells ⟨.int .i64 k :: (.string (S []) :: (.slice none 0 0 :: ((idc ((rdI s0 bad0).1)) ++ (.slice A l.length c :: (.int .u32 0 :: (.string (S []) :: ((idc idZ) ++ (.int .i64 0 :: ([.string (S [])])))))))))⟩ 54 (0, 0)), fun w' => ∃ (A10 : Option Addr) (c11 : Nat), w8.heap.size ≤ w'.heap.size ∧ Fr [r, ob] w w' ∧ Own w' w.heap.size 24 32 A10 ((l ++ [(rdI s bad).1]).length) c11 ((l ++ [(rdI s bad).1]).flatMap idc) ∧ w'.heap[r]? = some (.cells #[.string (S ((rdI s bad).2.1)), .bool ((rdI s bad).2.2)] 80 (0, 0)) ∧ w'.heap[ob]? = some (.cells ⟨.int .i64 k :: (.string (S []) :: (.slice none 0 0 :: ((idc ((rdI s0 bad0).1)) ++ (.slice A10 ((l ++ [(rdI s bad).1]).length) c11 :: (.int .u32 0 :: (.string (S []) :: ((idc idZ) ++ (.int .i64 0 :: ([.string (S [])])))))))))⟩ 54 (0, 0))] [(4, [0, 1], fun w' => [RunOk Tryd.prog w' (Instr.loadAt 51 (.pointer (some ⟨ob, 35, none⟩))) (.slice A l.length c)])] (by kernel_rfl) (fun w' => by kernel_rfl) (fun w' => by kernel_rfl) (by kernel_rfl) (fun w' h => h) ?_ ?_ ?_ ?_ ?_ ?_
    · refine ⟨fun w1 w2 h e => Ext.tr h e, ?_, ?_, ?_, trivial⟩
      · rintro w1 w2 ⟨hsz, hx, hB_r, hB_ob, ho⟩ he
        exact ⟨Nat.le_trans hsz he.size, hx.ext he, keepB he hB_r, keepB he hB_ob, ownE he ho⟩
      · rintro w1 w2 ⟨hsz, hx, hB_r, hB_ob⟩ he
        exact ⟨Nat.le_trans hsz he.size, hx.ext he, keepB he hB_r, keepB he hB_ob⟩
      · rintro w1 w2 ⟨A10, c11, hsz, hx, ho2, hB_r, hB_ob⟩ he
        exact ⟨A10, c11, Nat.le_trans hsz he.size, hx.ext he, ownE he ho2, keepB he hB_r, keepB he hB_ob⟩
    · refine ⟨?_, ?_, trivial⟩
      · rintro _ w1 w2 ⟨b9, rfl, hb_b9, hB_b9⟩ he
        exact ⟨b9, rfl, hb_b9, keepB he hB_b9⟩
      · rintro _ w1 w2 ⟨A10, c11, rfl, ho2⟩ he
        exact ⟨A10, c11, rfl, ownE he ho2⟩
    · refine ⟨⟨?_, ?_, trivial⟩, trivial⟩
      · intro w' hJ
        have he : Ext w8 w' := hJ
        have hsz := he.size
        replace hx := hx.ext he
        replace hB_r := keepB he hB_r
        replace hB_ob := keepB he hB_ob
        replace ho := ownE he ho
        clear he
        exact (.cons (ld1 hB_ob (by kernel_rfl) (by kernel_rfl)) .nil)
      · intro w' hJ
        obtain ⟨hsz, hx, hB_r, hB_ob, ho⟩ := hJ
        exact (.cons (ld1 hB_ob (by kernel_rfl) (by kernel_rfl)) .nil)
    · refine ⟨⟨?_, trivial⟩, trivial⟩
      · intro w' hJ
        obtain ⟨hsz, hx, hB_r, hB_ob, ho⟩ := hJ
        refine onewS ⟨idc ((rdI s bad).1)⟩ 24 1 (by kernel_rfl) ?_
        intro b9 w'' he hb_b9 hB_b9
        exact ⟨⟨b9, rfl, Nat.le_trans hsz hb_b9, hB_b9⟩, he⟩
    · refine ⟨?_, ?_, ?_, trivial⟩
      · intro w' hJ
        have hB_rS := hB_r
        have hB_obS := hB_ob
        have hoS := ho
        have he : Ext w8 w' := hJ
        have hsz := he.size
        replace hx := hx.ext he
        replace hB_r := keepB he hB_r
        replace hB_ob := keepB he hB_ob
        replace ho := ownE he ho
        clear he
        refine ocall (f := .func 81) (args := #[.tmp 36]) (ts := #[78]) (g := 81) (first := #[]) (caps := #[]) (vs := #[.pointer (some ⟨r, 0, none⟩)]) (by kernel_rfl) (by kernel_rfl) (by kernel_rfl) (by kernel_rfl) (rid_ok r s bad w' hB_r (by omega)) ?_
        rintro _ w'' ⟨rfl, hfr, hB'⟩
        exact ⟨rfl, ⟨Nat.le_trans hsz hfr.size, hx.tr hfr (by simp), hB', hfr.keep hB_ob (fun x hx => by simp only [List.mem_singleton] at hx; subst hx; exact (by first | assumption | exact Ne.symm (by assumption))), ownFr1 hfr hB_r rfl ho⟩, trivial⟩
      · intro w' hJ u0 hu0
        obtain ⟨b9, rfl, hb_b9, hB_b9⟩ := hu0
        have hB_rS := hB_r
        have hB_obS := hB_ob
        have hoS := ho
        obtain ⟨hsz, hx, hB_r, hB_ob, ho⟩ := hJ
        refine oapp (m := 1) (c' := 1) (ad := ⟨b9, 0, none⟩) (s := .tmp 35) (x := .tmp 38) (t := 51) (by_ := 32) (by kernel_rfl) (by kernel_rfl) (by kernel_rfl) ho (by kernel_rfl) (idc ((rdI s bad).1)) rfl (news_blk hB_b9) rfl (by omega) (by omega) hx.size ?_
        intro A10 c11 w'' ho2' hg
        have h1 : ((l.flatMap idc) ++ (idc ((rdI s bad).1)) : List Value) = ((l ++ [(rdI s bad).1]).flatMap idc) := by rw [← flat_snoc]
        have h2 : (l.length + 1 : Nat) = (l ++ [(rdI s bad).1]).length := by simp
        rw [h1, h2] at ho2'
        rw [h2]
        exact ⟨⟨A10, c11, rfl, ho2'⟩, ⟨Nat.le_trans hsz hg.size, hx.grown hg ho (Nat.le_refl _), keepG hg ho rfl hB_r, keepG hg ho rfl hB_ob⟩, ⟨fun u hu => by obtain ⟨b9, rfl, hb_b9, hB_b9⟩ := hu; exact ⟨b9, rfl, hb_b9, keepGn hg hoS hb_b9 hB_b9⟩, trivial⟩⟩
      · intro w' hJ u0 hu0
        obtain ⟨A10, c11, rfl, ho2⟩ := hu0
        have hB_rS := hB_r
        have hB_obS := hB_ob
        have hoS := ho
        obtain ⟨hsz, hx, hB_r, hB_ob⟩ := hJ
        refine ostore (off := 35) (x := .tmp 41) (y := .tmp 39) (t := 51) hB_ob ⟨.int .i64 k :: (.string (S []) :: (.slice none 0 0 :: ((idc ((rdI s0 bad0).1)) ++ (.slice A10 ((l ++ [(rdI s bad).1]).length) c11 :: (.int .u32 0 :: (.string (S []) :: ((idc idZ) ++ (.int .i64 0 :: ([.string (S [])])))))))))⟩ (by kernel_rfl) (by kernel_rfl) (by kernel_rfl) ?_
        intro w'' hc
        exact ⟨trivial, ⟨A10, c11, Nat.le_trans hsz hc.size, hx.chg hc (.inl (by simp)), ownC hc hB_ob rfl ho2, hc.keep hB_r (by first | assumption | exact Ne.symm (by assumption)), hc.at_⟩, ⟨fun u hu => by obtain ⟨b9, rfl, hb_b9, hB_b9⟩ := hu; exact ⟨b9, rfl, hb_b9, hc.keep hB_b9 (ne_new hB_obS hb_b9).symm⟩, fun u hu => by obtain ⟨A10, c11, rfl, ho2⟩ := hu; exact ⟨A10, c11, rfl, ownC hc hB_ob rfl ho2⟩, trivial⟩⟩
    · clear ha a; intro a w12 hJ ha
      clear hx hB_r hB_ob ho
      obtain ⟨A10, c11, hsz, hx, ho2, hB_r, hB_ob⟩ := hJ
      clear hsz
      refine bn ?_
      refine tn ?_
      refine regp (ρ' := [(0, .pointer (some ⟨r, 0, none⟩)), (1, .pointer (some ⟨ob, 0, none⟩)), (4, .int .u64 (((rdN ((rdI s0 bad0).2.1) ((rdI s0 bad0).2.2)).1 : Nat) : Int)), (5, .int .u64 ((i + 1 : Nat) : Int))]) (C := [InR .u64 ((i + 1 : Nat) : Int)]) ha [] (by kernel_rfl) (.cons (by unfold InR; omega) .nil) ?_
      clear ha a; intro a ha
      exact tn ⟨(rdN (rdI s0 bad0).2.1 (rdI s0 bad0).2.2).1 - ((i + 1)), by omega, (rdI s bad).2.1, (rdI s bad).2.2, (l ++ [(rdI s bad).1]), A10, c11, (i + 1), rfl, ha.sub (ρ' := [(0, .pointer (some ⟨r, 0, none⟩)), (1, .pointer (some ⟨ob, 0, none⟩)), (4, .int .u64 (((rdN ((rdI s0 bad0).2.1) ((rdI s0 bad0).2.2)).1 : Nat) : Int)), (5, .int .u64 (((i + 1) : Nat) : Int))]) (by kernel_rfl), hx, hB_r, hB_ob, ho2, hinv2, by have := rdI_len s bad; omega, by simp; omega, by simp; omega, by right; omega⟩
  · simp only [Bool.not_eq_true', Bool.not_eq_false', Bool.and_eq_true, Bool.or_eq_true, Bool.and_eq_false_iff, Bool.or_eq_false_iff, decide_eq_true_eq, decide_eq_false_iff_not, Bool.not_eq_true, Decidable.not_not] at h28
    have hres : (rdIds (rdN (rdI s0 bad0).2.1 (rdI s0 bad0).2.2).1 (rdN (rdI s0 bad0).2.1 (rdI s0 bad0).2.2).2.1 ((rdN (rdI s0 bad0).2.1 (rdI s0 bad0).2.2).2.2 || decide (8 < (rdN (rdI s0 bad0).2.1 (rdI s0 bad0).2.2).1))) = (l, s, bad) := by
      rw [hinv]
      have : rdIds ((rdN (rdI s0 bad0).2.1 (rdI s0 bad0).2.2).1 - i) s bad = ([], s, bad) := by
        rcases h28 with h | h
        · rw [show (rdN (rdI s0 bad0).2.1 (rdI s0 bad0).2.2).1 - i = 0 by omega]; rfl
        · cases (rdN (rdI s0 bad0).2.1 (rdI s0 bad0).2.2).1 - i with
          | zero => rfl
          | succ g => rw [rdIds, if_pos h]
      rw [this]; simp
    have el : l = (rdIds (rdN (rdI s0 bad0).2.1 (rdI s0 bad0).2.2).1 (rdN (rdI s0 bad0).2.1 (rdI s0 bad0).2.2).2.1 ((rdN (rdI s0 bad0).2.1 (rdI s0 bad0).2.2).2.2 || decide (8 < (rdN (rdI s0 bad0).2.1 (rdI s0 bad0).2.2).1))).1 := by rw [hres]
    have es : s = (rdIds (rdN (rdI s0 bad0).2.1 (rdI s0 bad0).2.2).1 (rdN (rdI s0 bad0).2.1 (rdI s0 bad0).2.2).2.1 ((rdN (rdI s0 bad0).2.1 (rdI s0 bad0).2.2).2.2 || decide (8 < (rdN (rdI s0 bad0).2.1 (rdI s0 bad0).2.2).1))).2.1 := by rw [hres]
    have eb : bad = (rdIds (rdN (rdI s0 bad0).2.1 (rdI s0 bad0).2.2).1 (rdN (rdI s0 bad0).2.1 (rdI s0 bad0).2.2).2.1 ((rdN (rdI s0 bad0).2.1 (rdI s0 bad0).2.2).2.2 || decide (8 < (rdN (rdI s0 bad0).2.1 (rdI s0 bad0).2.2).1))).2.2 := by rw [hres]
    clear hinv hres
    subst el es eb
    refine wexit ?_
    refine (te (te (be ?_)))
    refine tn ?_
    refine wseq ?_
    refine reg_list ?_
    refine segp (ρ' := [(0, .pointer (some ⟨r, 0, none⟩)), (1, .pointer (some ⟨ob, 0, none⟩)), (42, .pointer (some ⟨r, 0, none⟩))]) (C := []) ha 1 [] rfl (by kernel_rfl) .nil ?_
    clear ha a; intro a ha
    refine lcall (vs := #[.pointer (some ⟨r, 0, none⟩)]) ha rfl (by kernel_rfl) rfl rfl (by kernel_rfl) (by kernel_rfl) (rnum_ok r ((rdIds (rdN (rdI s0 bad0).2.1 (rdI s0 bad0).2.2).1 (rdN (rdI s0 bad0).2.1 (rdI s0 bad0).2.2).2.1 ((rdN (rdI s0 bad0).2.1 (rdI s0 bad0).2.2).2.2 || decide (8 < (rdN (rdI s0 bad0).2.1 (rdI s0 bad0).2.2).1))).2.1) ((rdIds (rdN (rdI s0 bad0).2.1 (rdI s0 bad0).2.2).1 (rdN (rdI s0 bad0).2.1 (rdI s0 bad0).2.2).2.1 ((rdN (rdI s0 bad0).2.1 (rdI s0 bad0).2.2).2.2 || decide (8 < (rdN (rdI s0 bad0).2.1 (rdI s0 bad0).2.2).1))).2.2) w8 hB_r (by omega)) ?_
    clear ha a; rintro _ w13 ⟨rfl, hfr, hB'⟩ a ha
    replace hB_ob := hfr.keep hB_ob (fun x hx => by simp only [List.mem_singleton] at hx; subst hx; exact (by first | assumption | exact Ne.symm (by assumption)))
    replace ho := ownFr1 hfr hB_r rfl ho
    replace hx := hx.tr hfr (by simp)
    replace hB_r := hB'; clear hB' hfr
    refine segp (ρ' := [(0, .pointer (some ⟨r, 0, none⟩)), (1, .pointer (some ⟨ob, 0, none⟩)), (6, .int .u64 (((rdN ((rdIds (rdN (rdI s0 bad0).2.1 (rdI s0 bad0).2.2).1 (rdN (rdI s0 bad0).2.1 (rdI s0 bad0).2.2).2.1 ((rdN (rdI s0 bad0).2.1 (rdI s0 bad0).2.2).2.2 || decide (8 < (rdN (rdI s0 bad0).2.1 (rdI s0 bad0).2.2).1))).2.1) ((rdIds (rdN (rdI s0 bad0).2.1 (rdI s0 bad0).2.2).1 (rdN (rdI s0 bad0).2.1 (rdI s0 bad0).2.2).2.1 ((rdN (rdI s0 bad0).2.1 (rdI s0 bad0).2.2).2.2 || decide (8 < (rdN (rdI s0 bad0).2.1 (rdI s0 bad0).2.2).1))).2.2)).1 : Nat) : Int))]) (C := []) ha 1 [] rfl (by kernel_rfl) .nil ?_
    clear ha a; intro a ha
    refine lnil ?_
    replace ha := ha.sub (ρ' := [(0, .pointer (some ⟨r, 0, none⟩)), (1, .pointer (some ⟨ob, 0, none⟩)), (6, .int .u64 (((rdN ((rdIds (rdN (rdI s0 bad0).2.1 (rdI s0 bad0).2.2).1 (rdN (rdI s0 bad0).2.1 (rdI s0 bad0).2.2).2.1 ((rdN (rdI s0 bad0).2.1 (rdI s0 bad0).2.2).2.2 || decide (8 < (rdN (rdI s0 bad0).2.1 (rdI s0 bad0).2.2).1))).2.1) ((rdIds (rdN (rdI s0 bad0).2.1 (rdI s0 bad0).2.2).1 (rdN (rdI s0 bad0).2.1 (rdI s0 bad0).2.2).2.1 ((rdN (rdI s0 bad0).2.1 (rdI s0 bad0).2.2).2.2 || decide (8 < (rdN (rdI s0 bad0).2.1 (rdI s0 bad0).2.2).1))).2.2)).1 : Nat) : Int))]) (by kernel_rfl)
    have hk4 := rdN_len (rdIds (rdN (rdI s0 bad0).2.1 (rdI s0 bad0).2.2).1 (rdN (rdI s0 bad0).2.1 (rdI s0 bad0).2.2).2.1 ((rdN (rdI s0 bad0).2.1 (rdI s0 bad0).2.2).2.2 || decide (8 < (rdN (rdI s0 bad0).2.1 (rdI s0 bad0).2.2).1))).2.1 (rdIds (rdN (rdI s0 bad0).2.1 (rdI s0 bad0).2.2).1 (rdN (rdI s0 bad0).2.1 (rdI s0 bad0).2.2).2.1 ((rdN (rdI s0 bad0).2.1 (rdI s0 bad0).2.2).2.2 || decide (8 < (rdN (rdI s0 bad0).2.1 (rdI s0 bad0).2.2).1))).2.2
    refine tn ?_
    refine wcut (fun a w14 => On 59 [(0, .pointer (some ⟨r, 0, none⟩)), (1, .pointer (some ⟨ob, 0, none⟩)), (6, .int .u64 (((rdN ((rdIds (rdN (rdI s0 bad0).2.1 (rdI s0 bad0).2.2).1 (rdN (rdI s0 bad0).2.1 (rdI s0 bad0).2.2).2.1 ((rdN (rdI s0 bad0).2.1 (rdI s0 bad0).2.2).2.2 || decide (8 < (rdN (rdI s0 bad0).2.1 (rdI s0 bad0).2.2).1))).2.1) ((rdIds (rdN (rdI s0 bad0).2.1 (rdI s0 bad0).2.2).1 (rdN (rdI s0 bad0).2.1 (rdI s0 bad0).2.2).2.1 ((rdN (rdI s0 bad0).2.1 (rdI s0 bad0).2.2).2.2 || decide (8 < (rdN (rdI s0 bad0).2.1 (rdI s0 bad0).2.2).1))).2.2)).1 : Nat) : Int))] a ∧ Fr [r, ob] w w14 ∧ w14.heap[r]? = some (.cells #[.string (S ((rdN (rdIds (rdN (rdI s0 bad0).2.1 (rdI s0 bad0).2.2).1 (rdN (rdI s0 bad0).2.1 (rdI s0 bad0).2.2).2.1 ((rdN (rdI s0 bad0).2.1 (rdI s0 bad0).2.2).2.2 || decide (8 < (rdN (rdI s0 bad0).2.1 (rdI s0 bad0).2.2).1))).2.1 (rdIds (rdN (rdI s0 bad0).2.1 (rdI s0 bad0).2.2).1 (rdN (rdI s0 bad0).2.1 (rdI s0 bad0).2.2).2.1 ((rdN (rdI s0 bad0).2.1 (rdI s0 bad0).2.2).2.2 || decide (8 < (rdN (rdI s0 bad0).2.1 (rdI s0 bad0).2.2).1))).2.2).2.1)), .bool ((rdN (rdIds (rdN (rdI s0 bad0).2.1 (rdI s0 bad0).2.2).1 (rdN (rdI s0 bad0).2.1 (rdI s0 bad0).2.2).2.1 ((rdN (rdI s0 bad0).2.1 (rdI s0 bad0).2.2).2.2 || decide (8 < (rdN (rdI s0 bad0).2.1 (rdI s0 bad0).2.2).1))).2.1 (rdIds (rdN (rdI s0 bad0).2.1 (rdI s0 bad0).2.2).1 (rdN (rdI s0 bad0).2.1 (rdI s0 bad0).2.2).2.1 ((rdN (rdI s0 bad0).2.1 (rdI s0 bad0).2.2).2.2 || decide (8 < (rdN (rdI s0 bad0).2.1 (rdI s0 bad0).2.2).1))).2.2).2.2 || decide (4294967295 < (rdN (rdIds (rdN (rdI s0 bad0).2.1 (rdI s0 bad0).2.2).1 (rdN (rdI s0 bad0).2.1 (rdI s0 bad0).2.2).2.1 ((rdN (rdI s0 bad0).2.1 (rdI s0 bad0).2.2).2.2 || decide (8 < (rdN (rdI s0 bad0).2.1 (rdI s0 bad0).2.2).1))).2.1 (rdIds (rdN (rdI s0 bad0).2.1 (rdI s0 bad0).2.2).1 (rdN (rdI s0 bad0).2.1 (rdI s0 bad0).2.2).2.1 ((rdN (rdI s0 bad0).2.1 (rdI s0 bad0).2.2).2.2 || decide (8 < (rdN (rdI s0 bad0).2.1 (rdI s0 bad0).2.2).1))).2.2).1))] 80 (0, 0)) ∧ w14.heap[ob]? = some (.cells ⟨.int .i64 k :: (.string (S []) :: (.slice none 0 0 :: ((idc ((rdI s0 bad0).1)) ++ (.slice A ((rdIds (rdN (rdI s0 bad0).2.1 (rdI s0 bad0).2.2).1 (rdN (rdI s0 bad0).2.1 (rdI s0 bad0).2.2).2.1 ((rdN (rdI s0 bad0).2.1 (rdI s0 bad0).2.2).2.2 || decide (8 < (rdN (rdI s0 bad0).2.1 (rdI s0 bad0).2.2).1))).1.length) c :: (.int .u32 0 :: (.string (S []) :: ((idc idZ) ++ (.int .i64 0 :: ([.string (S [])])))))))))⟩ 54 (0, 0)) ∧ Own w14 w.heap.size 24 32 A (((rdIds (rdN (rdI s0 bad0).2.1 (rdI s0 bad0).2.2).1 (rdN (rdI s0 bad0).2.1 (rdI s0 bad0).2.2).2.1 ((rdN (rdI s0 bad0).2.1 (rdI s0 bad0).2.2).2.2 || decide (8 < (rdN (rdI s0 bad0).2.1 (rdI s0 bad0).2.2).1))).1).length) c (((rdIds (rdN (rdI s0 bad0).2.1 (rdI s0 bad0).2.2).1 (rdN (rdI s0 bad0).2.1 (rdI s0 bad0).2.2).2.1 ((rdN (rdI s0 bad0).2.1 (rdI s0 bad0).2.2).2.2 || decide (8 < (rdN (rdI s0 bad0).2.1 (rdI s0 bad0).2.2).1))).1).flatMap idc)) ?_ ?_
    ·
      refine wseq ?_
      refine regp (ρ' := [(0, .pointer (some ⟨r, 0, none⟩)), (1, .pointer (some ⟨ob, 0, none⟩)), (6, .int .u64 (((rdN ((rdIds (rdN (rdI s0 bad0).2.1 (rdI s0 bad0).2.2).1 (rdN (rdI s0 bad0).2.1 (rdI s0 bad0).2.2).2.1 ((rdN (rdI s0 bad0).2.1 (rdI s0 bad0).2.2).2.2 || decide (8 < (rdN (rdI s0 bad0).2.1 (rdI s0 bad0).2.2).1))).2.1) ((rdIds (rdN (rdI s0 bad0).2.1 (rdI s0 bad0).2.2).1 (rdN (rdI s0 bad0).2.1 (rdI s0 bad0).2.2).2.1 ((rdN (rdI s0 bad0).2.1 (rdI s0 bad0).2.2).2.2 || decide (8 < (rdN (rdI s0 bad0).2.1 (rdI s0 bad0).2.2).1))).2.2)).1 : Nat) : Int)), (45, .bool (decide ((4294967295 : Int) < (((rdN ((rdIds (rdN (rdI s0 bad0).2.1 (rdI s0 bad0).2.2).1 (rdN (rdI s0 bad0).2.1 (rdI s0 bad0).2.2).2.1 ((rdN (rdI s0 bad0).2.1 (rdI s0 bad0).2.2).2.2 || decide (8 < (rdN (rdI s0 bad0).2.1 (rdI s0 bad0).2.2).1))).2.1) ((rdIds (rdN (rdI s0 bad0).2.1 (rdI s0 bad0).2.2).1 (rdN (rdI s0 bad0).2.1 (rdI s0 bad0).2.2).2.1 ((rdN (rdI s0 bad0).2.1 (rdI s0 bad0).2.2).2.2 || decide (8 < (rdN (rdI s0 bad0).2.1 (rdI s0 bad0).2.2).1))).2.2)).1 : Nat) : Int))))]) (C := []) ha [] (by kernel_rfl) .nil ?_
      clear ha a; intro a ha
      refine tn ?_
      refine wif ha rfl (fun h45 => ?_) (fun h45 => ?_)
      · replace h45 := of_decide_eq_true h45
        refine reg_list ?_
        refine segp (ρ' := [(0, .pointer (some ⟨r, 0, none⟩)), (1, .pointer (some ⟨ob, 0, none⟩)), (6, .int .u64 (((rdN ((rdIds (rdN (rdI s0 bad0).2.1 (rdI s0 bad0).2.2).1 (rdN (rdI s0 bad0).2.1 (rdI s0 bad0).2.2).2.1 ((rdN (rdI s0 bad0).2.1 (rdI s0 bad0).2.2).2.2 || decide (8 < (rdN (rdI s0 bad0).2.1 (rdI s0 bad0).2.2).1))).2.1) ((rdIds (rdN (rdI s0 bad0).2.1 (rdI s0 bad0).2.2).1 (rdN (rdI s0 bad0).2.1 (rdI s0 bad0).2.2).2.1 ((rdN (rdI s0 bad0).2.1 (rdI s0 bad0).2.2).2.2 || decide (8 < (rdN (rdI s0 bad0).2.1 (rdI s0 bad0).2.2).1))).2.2)).1 : Nat) : Int)), (48, .pointer (some ⟨r, 1, none⟩))]) (C := []) ha 3 [] rfl (by kernel_rfl) .nil ?_
        clear ha a; intro a ha
        refine lstore (off := 1) ha rfl rfl (by kernel_rfl) hB_r #[.string (S ((rdN ((rdIds (rdN (rdI s0 bad0).2.1 (rdI s0 bad0).2.2).1 (rdN (rdI s0 bad0).2.1 (rdI s0 bad0).2.2).2.1 ((rdN (rdI s0 bad0).2.1 (rdI s0 bad0).2.2).2.2 || decide (8 < (rdN (rdI s0 bad0).2.1 (rdI s0 bad0).2.2).1))).2.1) ((rdIds (rdN (rdI s0 bad0).2.1 (rdI s0 bad0).2.2).1 (rdN (rdI s0 bad0).2.1 (rdI s0 bad0).2.2).2.1 ((rdN (rdI s0 bad0).2.1 (rdI s0 bad0).2.2).2.2 || decide (8 < (rdN (rdI s0 bad0).2.1 (rdI s0 bad0).2.2).1))).2.2)).2.1)), .bool true] rfl (by kernel_rfl) (by kernel_rfl) ?_
        clear ha a; intro w15 hc a ha
        replace hB_ob := hc.keep hB_ob (by first | assumption | exact Ne.symm (by assumption))
        replace ho := ownC hc hB_r rfl ho
        replace hx := hx.chg hc (.inl (by simp))
        replace hB_r := hc.at_; clear hc
        refine lnil ?_
        replace ha := ha.sub (ρ' := [(0, .pointer (some ⟨r, 0, none⟩)), (1, .pointer (some ⟨ob, 0, none⟩)), (6, .int .u64 (((rdN ((rdIds (rdN (rdI s0 bad0).2.1 (rdI s0 bad0).2.2).1 (rdN (rdI s0 bad0).2.1 (rdI s0 bad0).2.2).2.1 ((rdN (rdI s0 bad0).2.1 (rdI s0 bad0).2.2).2.2 || decide (8 < (rdN (rdI s0 bad0).2.1 (rdI s0 bad0).2.2).1))).2.1) ((rdIds (rdN (rdI s0 bad0).2.1 (rdI s0 bad0).2.2).1 (rdN (rdI s0 bad0).2.1 (rdI s0 bad0).2.2).2.1 ((rdN (rdI s0 bad0).2.1 (rdI s0 bad0).2.2).2.2 || decide (8 < (rdN (rdI s0 bad0).2.1 (rdI s0 bad0).2.2).1))).2.2)).1 : Nat) : Int))]) (by kernel_rfl)
        rw [show (true : Bool) = ((rdN (rdIds (rdN (rdI s0 bad0).2.1 (rdI s0 bad0).2.2).1 (rdN (rdI s0 bad0).2.1 (rdI s0 bad0).2.2).2.1 ((rdN (rdI s0 bad0).2.1 (rdI s0 bad0).2.2).2.2 || decide (8 < (rdN (rdI s0 bad0).2.1 (rdI s0 bad0).2.2).1))).2.1 (rdIds (rdN (rdI s0 bad0).2.1 (rdI s0 bad0).2.2).1 (rdN (rdI s0 bad0).2.1 (rdI s0 bad0).2.2).2.1 ((rdN (rdI s0 bad0).2.1 (rdI s0 bad0).2.2).2.2 || decide (8 < (rdN (rdI s0 bad0).2.1 (rdI s0 bad0).2.2).1))).2.2).2.2 || decide (4294967295 < (rdN (rdIds (rdN (rdI s0 bad0).2.1 (rdI s0 bad0).2.2).1 (rdN (rdI s0 bad0).2.1 (rdI s0 bad0).2.2).2.1 ((rdN (rdI s0 bad0).2.1 (rdI s0 bad0).2.2).2.2 || decide (8 < (rdN (rdI s0 bad0).2.1 (rdI s0 bad0).2.2).1))).2.1 (rdIds (rdN (rdI s0 bad0).2.1 (rdI s0 bad0).2.2).1 (rdN (rdI s0 bad0).2.1 (rdI s0 bad0).2.2).2.1 ((rdN (rdI s0 bad0).2.1 (rdI s0 bad0).2.2).2.2 || decide (8 < (rdN (rdI s0 bad0).2.1 (rdI s0 bad0).2.2).1))).2.2).1)) from by simp; omega] at hB_r
        exact tn ⟨ha.sub (ρ' := [(0, .pointer (some ⟨r, 0, none⟩)), (1, .pointer (some ⟨ob, 0, none⟩)), (6, .int .u64 (((rdN ((rdIds (rdN (rdI s0 bad0).2.1 (rdI s0 bad0).2.2).1 (rdN (rdI s0 bad0).2.1 (rdI s0 bad0).2.2).2.1 ((rdN (rdI s0 bad0).2.1 (rdI s0 bad0).2.2).2.2 || decide (8 < (rdN (rdI s0 bad0).2.1 (rdI s0 bad0).2.2).1))).2.1) ((rdIds (rdN (rdI s0 bad0).2.1 (rdI s0 bad0).2.2).1 (rdN (rdI s0 bad0).2.1 (rdI s0 bad0).2.2).2.1 ((rdN (rdI s0 bad0).2.1 (rdI s0 bad0).2.2).2.2 || decide (8 < (rdN (rdI s0 bad0).2.1 (rdI s0 bad0).2.2).1))).2.2)).1 : Nat) : Int))]) (by kernel_rfl), hx, hB_r, hB_ob, ho⟩
      · replace h45 := of_decide_eq_false h45
        rw [show ((rdN ((rdIds (rdN (rdI s0 bad0).2.1 (rdI s0 bad0).2.2).1 (rdN (rdI s0 bad0).2.1 (rdI s0 bad0).2.2).2.1 ((rdN (rdI s0 bad0).2.1 (rdI s0 bad0).2.2).2.2 || decide (8 < (rdN (rdI s0 bad0).2.1 (rdI s0 bad0).2.2).1))).2.1) ((rdIds (rdN (rdI s0 bad0).2.1 (rdI s0 bad0).2.2).1 (rdN (rdI s0 bad0).2.1 (rdI s0 bad0).2.2).2.1 ((rdN (rdI s0 bad0).2.1 (rdI s0 bad0).2.2).2.2 || decide (8 < (rdN (rdI s0 bad0).2.1 (rdI s0 bad0).2.2).1))).2.2)).2.2 : Bool) = ((rdN (rdIds (rdN (rdI s0 bad0).2.1 (rdI s0 bad0).2.2).1 (rdN (rdI s0 bad0).2.1 (rdI s0 bad0).2.2).2.1 ((rdN (rdI s0 bad0).2.1 (rdI s0 bad0).2.2).2.2 || decide (8 < (rdN (rdI s0 bad0).2.1 (rdI s0 bad0).2.2).1))).2.1 (rdIds (rdN (rdI s0 bad0).2.1 (rdI s0 bad0).2.2).1 (rdN (rdI s0 bad0).2.1 (rdI s0 bad0).2.2).2.1 ((rdN (rdI s0 bad0).2.1 (rdI s0 bad0).2.2).2.2 || decide (8 < (rdN (rdI s0 bad0).2.1 (rdI s0 bad0).2.2).1))).2.2).2.2 || decide (4294967295 < (rdN (rdIds (rdN (rdI s0 bad0).2.1 (rdI s0 bad0).2.2).1 (rdN (rdI s0 bad0).2.1 (rdI s0 bad0).2.2).2.1 ((rdN (rdI s0 bad0).2.1 (rdI s0 bad0).2.2).2.2 || decide (8 < (rdN (rdI s0 bad0).2.1 (rdI s0 bad0).2.2).1))).2.1 (rdIds (rdN (rdI s0 bad0).2.1 (rdI s0 bad0).2.2).1 (rdN (rdI s0 bad0).2.1 (rdI s0 bad0).2.2).2.1 ((rdN (rdI s0 bad0).2.1 (rdI s0 bad0).2.2).2.2 || decide (8 < (rdN (rdI s0 bad0).2.1 (rdI s0 bad0).2.2).1))).2.2).1)) from by simp; omega] at hB_r
        refine wskip ?_
        exact tn ⟨ha.sub (ρ' := [(0, .pointer (some ⟨r, 0, none⟩)), (1, .pointer (some ⟨ob, 0, none⟩)), (6, .int .u64 (((rdN ((rdIds (rdN (rdI s0 bad0).2.1 (rdI s0 bad0).2.2).1 (rdN (rdI s0 bad0).2.1 (rdI s0 bad0).2.2).2.1 ((rdN (rdI s0 bad0).2.1 (rdI s0 bad0).2.2).2.2 || decide (8 < (rdN (rdI s0 bad0).2.1 (rdI s0 bad0).2.2).1))).2.1) ((rdIds (rdN (rdI s0 bad0).2.1 (rdI s0 bad0).2.2).1 (rdN (rdI s0 bad0).2.1 (rdI s0 bad0).2.2).2.1 ((rdN (rdI s0 bad0).2.1 (rdI s0 bad0).2.2).2.2 || decide (8 < (rdN (rdI s0 bad0).2.1 (rdI s0 bad0).2.2).1))).2.2)).1 : Nat) : Int))]) (by kernel_rfl), hx, hB_r, hB_ob, ho⟩
    clear ha hx hB_r hB_ob ho
    rintro a w16 ⟨ha, hx, hB_r, hB_ob, ho⟩
    refine wseq ?_
    refine reg_list ?_
    refine segp (ρ' := [(0, .pointer (some ⟨r, 0, none⟩)), (1, .pointer (some ⟨ob, 0, none⟩)), (51, .int .u32 ((((rdN ((rdIds (rdN (rdI s0 bad0).2.1 (rdI s0 bad0).2.2).1 (rdN (rdI s0 bad0).2.1 (rdI s0 bad0).2.2).2.1 ((rdN (rdI s0 bad0).2.1 (rdI s0 bad0).2.2).2.2 || decide (8 < (rdN (rdI s0 bad0).2.1 (rdI s0 bad0).2.2).1))).2.1) ((rdIds (rdN (rdI s0 bad0).2.1 (rdI s0 bad0).2.2).1 (rdN (rdI s0 bad0).2.1 (rdI s0 bad0).2.2).2.1 ((rdN (rdI s0 bad0).2.1 (rdI s0 bad0).2.2).2.2 || decide (8 < (rdN (rdI s0 bad0).2.1 (rdI s0 bad0).2.2).1))).2.2)).1) % 4294967296 : Nat) : Int)), (53, .pointer (some ⟨ob, 36, none⟩))]) (C := []) ha 5 [(2, .mod)] rfl (by kernel_rfl) .nil ?_
    clear ha a; intro a ha
    refine lstore (off := 36) ha rfl rfl (by kernel_rfl) hB_ob ⟨.int .i64 k :: (.string (S []) :: (.slice none 0 0 :: ((idc ((rdI s0 bad0).1)) ++ (.slice A ((rdIds (rdN (rdI s0 bad0).2.1 (rdI s0 bad0).2.2).1 (rdN (rdI s0 bad0).2.1 (rdI s0 bad0).2.2).2.1 ((rdN (rdI s0 bad0).2.1 (rdI s0 bad0).2.2).2.2 || decide (8 < (rdN (rdI s0 bad0).2.1 (rdI s0 bad0).2.2).1))).1.length) c :: (.int .u32 ((((rdN ((rdIds (rdN (rdI s0 bad0).2.1 (rdI s0 bad0).2.2).1 (rdN (rdI s0 bad0).2.1 (rdI s0 bad0).2.2).2.1 ((rdN (rdI s0 bad0).2.1 (rdI s0 bad0).2.2).2.2 || decide (8 < (rdN (rdI s0 bad0).2.1 (rdI s0 bad0).2.2).1))).2.1) ((rdIds (rdN (rdI s0 bad0).2.1 (rdI s0 bad0).2.2).1 (rdN (rdI s0 bad0).2.1 (rdI s0 bad0).2.2).2.1 ((rdN (rdI s0 bad0).2.1 (rdI s0 bad0).2.2).2.2 || decide (8 < (rdN (rdI s0 bad0).2.1 (rdI s0 bad0).2.2).1))).2.2)).1) % 4294967296 : Nat) : Int) :: (.string (S []) :: ((idc idZ) ++ (.int .i64 0 :: ([.string (S [])])))))))))⟩ rfl (by kernel_rfl) (by kernel_rfl) ?_
    clear ha a; intro w17 hc a ha
    replace hB_r := hc.keep hB_r (by first | assumption | exact Ne.symm (by assumption))
    replace ho := ownC hc hB_ob rfl ho
    replace hx := hx.chg hc (.inl (by simp))
    replace hB_ob := hc.at_; clear hc
    refine lnil ?_
    replace ha := ha.sub (ρ' := [(0, .pointer (some ⟨r, 0, none⟩)), (1, .pointer (some ⟨ob, 0, none⟩))]) (by kernel_rfl)
    refine tn ?_
    refine reg_list ?_
    refine segp (ρ' := [(54, .pointer (some ⟨ob, 0, none⟩)), (55, .pointer (some ⟨r, 0, none⟩))]) (C := []) ha 2 [] rfl (by kernel_rfl) .nil ?_
    clear ha a; intro a ha
    refine lcall (vs := #[.pointer (some ⟨r, 0, none⟩)]) ha rfl (by kernel_rfl) rfl rfl (by kernel_rfl) (by kernel_rfl) (rtx_ok r ((rdN (rdIds (rdN (rdI s0 bad0).2.1 (rdI s0 bad0).2.2).1 (rdN (rdI s0 bad0).2.1 (rdI s0 bad0).2.2).2.1 ((rdN (rdI s0 bad0).2.1 (rdI s0 bad0).2.2).2.2 || decide (8 < (rdN (rdI s0 bad0).2.1 (rdI s0 bad0).2.2).1))).2.1 (rdIds (rdN (rdI s0 bad0).2.1 (rdI s0 bad0).2.2).1 (rdN (rdI s0 bad0).2.1 (rdI s0 bad0).2.2).2.1 ((rdN (rdI s0 bad0).2.1 (rdI s0 bad0).2.2).2.2 || decide (8 < (rdN (rdI s0 bad0).2.1 (rdI s0 bad0).2.2).1))).2.2).2.1) ((rdN (rdIds (rdN (rdI s0 bad0).2.1 (rdI s0 bad0).2.2).1 (rdN (rdI s0 bad0).2.1 (rdI s0 bad0).2.2).2.1 ((rdN (rdI s0 bad0).2.1 (rdI s0 bad0).2.2).2.2 || decide (8 < (rdN (rdI s0 bad0).2.1 (rdI s0 bad0).2.2).1))).2.1 (rdIds (rdN (rdI s0 bad0).2.1 (rdI s0 bad0).2.2).1 (rdN (rdI s0 bad0).2.1 (rdI s0 bad0).2.2).2.1 ((rdN (rdI s0 bad0).2.1 (rdI s0 bad0).2.2).2.2 || decide (8 < (rdN (rdI s0 bad0).2.1 (rdI s0 bad0).2.2).1))).2.2).2.2 || decide (4294967295 < (rdN (rdIds (rdN (rdI s0 bad0).2.1 (rdI s0 bad0).2.2).1 (rdN (rdI s0 bad0).2.1 (rdI s0 bad0).2.2).2.1 ((rdN (rdI s0 bad0).2.1 (rdI s0 bad0).2.2).2.2 || decide (8 < (rdN (rdI s0 bad0).2.1 (rdI s0 bad0).2.2).1))).2.1 (rdIds (rdN (rdI s0 bad0).2.1 (rdI s0 bad0).2.2).1 (rdN (rdI s0 bad0).2.1 (rdI s0 bad0).2.2).2.1 ((rdN (rdI s0 bad0).2.1 (rdI s0 bad0).2.2).2.2 || decide (8 < (rdN (rdI s0 bad0).2.1 (rdI s0 bad0).2.2).1))).2.2).1)) w17 hB_r (by omega)) ?_
    clear ha a; rintro _ w18 ⟨rfl, hfr, hB'⟩ a ha
    replace hB_ob := hfr.keep hB_ob (fun x hx => by simp only [List.mem_singleton] at hx; subst hx; exact (by first | assumption | exact Ne.symm (by assumption)))
    replace ho := ownFr1 hfr hB_r rfl ho
    replace hx := hx.tr hfr (by simp)
    replace hB_r := hB'; clear hB' hfr
    refine segp (ρ' := [(56, .string (S ((rdT ((rdN (rdIds (rdN (rdI s0 bad0).2.1 (rdI s0 bad0).2.2).1 (rdN (rdI s0 bad0).2.1 (rdI s0 bad0).2.2).2.1 ((rdN (rdI s0 bad0).2.1 (rdI s0 bad0).2.2).2.2 || decide (8 < (rdN (rdI s0 bad0).2.1 (rdI s0 bad0).2.2).1))).2.1 (rdIds (rdN (rdI s0 bad0).2.1 (rdI s0 bad0).2.2).1 (rdN (rdI s0 bad0).2.1 (rdI s0 bad0).2.2).2.1 ((rdN (rdI s0 bad0).2.1 (rdI s0 bad0).2.2).2.2 || decide (8 < (rdN (rdI s0 bad0).2.1 (rdI s0 bad0).2.2).1))).2.2).2.1) ((rdN (rdIds (rdN (rdI s0 bad0).2.1 (rdI s0 bad0).2.2).1 (rdN (rdI s0 bad0).2.1 (rdI s0 bad0).2.2).2.1 ((rdN (rdI s0 bad0).2.1 (rdI s0 bad0).2.2).2.2 || decide (8 < (rdN (rdI s0 bad0).2.1 (rdI s0 bad0).2.2).1))).2.1 (rdIds (rdN (rdI s0 bad0).2.1 (rdI s0 bad0).2.2).1 (rdN (rdI s0 bad0).2.1 (rdI s0 bad0).2.2).2.1 ((rdN (rdI s0 bad0).2.1 (rdI s0 bad0).2.2).2.2 || decide (8 < (rdN (rdI s0 bad0).2.1 (rdI s0 bad0).2.2).1))).2.2).2.2 || decide (4294967295 < (rdN (rdIds (rdN (rdI s0 bad0).2.1 (rdI s0 bad0).2.2).1 (rdN (rdI s0 bad0).2.1 (rdI s0 bad0).2.2).2.1 ((rdN (rdI s0 bad0).2.1 (rdI s0 bad0).2.2).2.2 || decide (8 < (rdN (rdI s0 bad0).2.1 (rdI s0 bad0).2.2).1))).2.1 (rdIds (rdN (rdI s0 bad0).2.1 (rdI s0 bad0).2.2).1 (rdN (rdI s0 bad0).2.1 (rdI s0 bad0).2.2).2.1 ((rdN (rdI s0 bad0).2.1 (rdI s0 bad0).2.2).2.2 || decide (8 < (rdN (rdI s0 bad0).2.1 (rdI s0 bad0).2.2).1))).2.2).1))).1))), (58, .pointer (some ⟨ob, 37, none⟩))]) (C := []) ha 2 [] rfl (by kernel_rfl) .nil ?_
    clear ha a; intro a ha
    refine lstore (off := 37) ha rfl rfl (by kernel_rfl) hB_ob ⟨.int .i64 k :: (.string (S []) :: (.slice none 0 0 :: ((idc ((rdI s0 bad0).1)) ++ (.slice A ((rdIds (rdN (rdI s0 bad0).2.1 (rdI s0 bad0).2.2).1 (rdN (rdI s0 bad0).2.1 (rdI s0 bad0).2.2).2.1 ((rdN (rdI s0 bad0).2.1 (rdI s0 bad0).2.2).2.2 || decide (8 < (rdN (rdI s0 bad0).2.1 (rdI s0 bad0).2.2).1))).1.length) c :: (.int .u32 ((((rdN ((rdIds (rdN (rdI s0 bad0).2.1 (rdI s0 bad0).2.2).1 (rdN (rdI s0 bad0).2.1 (rdI s0 bad0).2.2).2.1 ((rdN (rdI s0 bad0).2.1 (rdI s0 bad0).2.2).2.2 || decide (8 < (rdN (rdI s0 bad0).2.1 (rdI s0 bad0).2.2).1))).2.1) ((rdIds (rdN (rdI s0 bad0).2.1 (rdI s0 bad0).2.2).1 (rdN (rdI s0 bad0).2.1 (rdI s0 bad0).2.2).2.1 ((rdN (rdI s0 bad0).2.1 (rdI s0 bad0).2.2).2.2 || decide (8 < (rdN (rdI s0 bad0).2.1 (rdI s0 bad0).2.2).1))).2.2)).1) % 4294967296 : Nat) : Int) :: (.string (S ((rdT ((rdN (rdIds (rdN (rdI s0 bad0).2.1 (rdI s0 bad0).2.2).1 (rdN (rdI s0 bad0).2.1 (rdI s0 bad0).2.2).2.1 ((rdN (rdI s0 bad0).2.1 (rdI s0 bad0).2.2).2.2 || decide (8 < (rdN (rdI s0 bad0).2.1 (rdI s0 bad0).2.2).1))).2.1 (rdIds (rdN (rdI s0 bad0).2.1 (rdI s0 bad0).2.2).1 (rdN (rdI s0 bad0).2.1 (rdI s0 bad0).2.2).2.1 ((rdN (rdI s0 bad0).2.1 (rdI s0 bad0).2.2).2.2 || decide (8 < (rdN (rdI s0 bad0).2.1 (rdI s0 bad0).2.2).1))).2.2).2.1) ((rdN (rdIds (rdN (rdI s0 bad0).2.1 (rdI s0 bad0).2.2).1 (rdN (rdI s0 bad0).2.1 (rdI s0 bad0).2.2).2.1 ((rdN (rdI s0 bad0).2.1 (rdI s0 bad0).2.2).2.2 || decide (8 < (rdN (rdI s0 bad0).2.1 (rdI s0 bad0).2.2).1))).2.1 (rdIds (rdN (rdI s0 bad0).2.1 (rdI s0 bad0).2.2).1 (rdN (rdI s0 bad0).2.1 (rdI s0 bad0).2.2).2.1 ((rdN (rdI s0 bad0).2.1 (rdI s0 bad0).2.2).2.2 || decide (8 < (rdN (rdI s0 bad0).2.1 (rdI s0 bad0).2.2).1))).2.2).2.2 || decide (4294967295 < (rdN (rdIds (rdN (rdI s0 bad0).2.1 (rdI s0 bad0).2.2).1 (rdN (rdI s0 bad0).2.1 (rdI s0 bad0).2.2).2.1 ((rdN (rdI s0 bad0).2.1 (rdI s0 bad0).2.2).2.2 || decide (8 < (rdN (rdI s0 bad0).2.1 (rdI s0 bad0).2.2).1))).2.1 (rdIds (rdN (rdI s0 bad0).2.1 (rdI s0 bad0).2.2).1 (rdN (rdI s0 bad0).2.1 (rdI s0 bad0).2.2).2.1 ((rdN (rdI s0 bad0).2.1 (rdI s0 bad0).2.2).2.2 || decide (8 < (rdN (rdI s0 bad0).2.1 (rdI s0 bad0).2.2).1))).2.2).1))).1)) :: ((idc idZ) ++ (.int .i64 0 :: ([.string (S [])])))))))))⟩ rfl (by kernel_rfl) (by kernel_rfl) ?_
    clear ha a; intro w19 hc a ha
    replace hB_r := hc.keep hB_r (by first | assumption | exact Ne.symm (by assumption))
    replace ho := ownC hc hB_ob rfl ho
    replace hx := hx.chg hc (.inl (by simp))
    replace hB_ob := hc.at_; clear hc
    refine lnil ?_
    replace ha := ha.sub (ρ' := []) (by kernel_rfl)
    refine finN ha .nil ?_
    exact ⟨A, c, rfl, hx, hB_r, hB_ob, ho⟩
end Go.Kn
end
section
set_option linter.unusedSimpArgs false
set_option linter.unusedVariables false
set_option maxRecDepth 100000
namespace Go.Kn
open Go.Proofs
theorem odec_ok (s : List UInt8) (w : World) (hs : s.length ≤ 9223372036854775807) :
    Fn Tryd.prog 32 #[.string (S s)] w (fun x w' => ∃ Ae ce Ap cp, x = .tuple #[.agg ⟨objC (oDec s).1 Ae ce Ap cp⟩, .int .i64 (oDec s).2] ∧ Own w' w.heap.size 89 34 Ae (oDec s).1.Entries.length ce ((oDec s).1.Entries.flatMap encEnt) ∧ Own w' w.heap.size 24 32 Ap (oDec s).1.Parents.length cp ((oDec s).1.Parents.flatMap idc) ∧ Ext w w') := by
  have hx : Ext w w := Ext.rfl' w
  refine enter (N := 68) (args := [.string (S s)]) Tryd.func32 rfl rfl rfl ?_
  intro a ha
  simp only [argEnv, Nat.zero_add, Nat.reduceAdd] at ha
  refine wseq ?_
  refine reg_list ?_
  refine lnew ha rfl (by kernel_rfl) ⟨.int .i64 0 :: (.string (S []) :: (.slice none 0 0 :: ((idc idZ) ++ (.slice none 0 0 :: (.int .u32 0 :: (.string (S []) :: ((idc idZ) ++ (.int .i64 0 :: ([.string (S [])])))))))))⟩ 54 (by kernel_rfl) ?_
  clear ha a; intro bz w1 he hb_bz hB_bz a ha
  replace hb_bz := Nat.le_trans hx.size hb_bz
  replace hx := hx.tr he
  clear he
  refine segp (ρ' := [(0, .string (S s)), (2, .pointer (some ⟨bz, 0, none⟩))]) (C := []) ha 1 [] rfl (by kernel_rfl) .nil ?_
  clear ha a; intro a ha
  refine lnil ?_
  replace ha := ha.sub (ρ' := [(0, .string (S s)), (2, .pointer (some ⟨bz, 0, none⟩))]) (by kernel_rfl)
  refine tn ?_
  refine wseq ?_
  refine wseq ?_
  refine regp (ρ' := [(0, .string (S s)), (2, .pointer (some ⟨bz, 0, none⟩)), (16, .bool ((decide ((s : List UInt8) = ([] : List UInt8))) || (decide ((4096 : Int) < ((s.length : Nat) : Int)))))]) (C := []) ha [] (by kernel_rfl) .nil ?_
  clear ha a; intro a ha
  refine tn ?_
  refine wif ha rfl (fun h16 => ?_) (fun h16 => ?_)
  · simp only [Bool.not_eq_true', Bool.not_eq_false', Bool.and_eq_true, Bool.or_eq_true, Bool.and_eq_false_iff, Bool.or_eq_false_iff, decide_eq_true_eq, decide_eq_false_iff_not, Bool.not_eq_true, Decidable.not_not] at h16
    have hres : oDec s = (obj0, 2) := by unfold oDec; rw [if_pos (by rcases h16 with h | h; exact .inl h; exact .inr (by omega))]
    refine wseq ?_
    refine reg_list ?_
    refine segp (ρ' := [(2, .pointer (some ⟨bz, 0, none⟩)), (17, .agg ⟨.int .i64 0 :: (.string (S []) :: (.slice none 0 0 :: ((idc idZ) ++ (.slice none 0 0 :: (.int .u32 0 :: (.string (S []) :: ((idc idZ) ++ (.int .i64 0 :: ([.string (S [])])))))))))⟩)]) (C := []) ha 1 [] rfl (by kernel_rfl) .nil ?_
    clear ha a; intro a ha
    refine lstore (off := 0) ha rfl rfl (by kernel_rfl) hB_bz ⟨.int .i64 0 :: (.string (S []) :: (.slice none 0 0 :: ((idc idZ) ++ (.slice none 0 0 :: (.int .u32 0 :: (.string (S []) :: ((idc idZ) ++ (.int .i64 0 :: ([.string (S [])])))))))))⟩ rfl (by kernel_rfl) (by kernel_rfl) ?_
    clear ha a; intro w2 hc a ha
    replace hx := hc.ext hx hb_bz
    replace hB_bz := hc.at_; clear hc
    refine segp (ρ' := [(2, .pointer (some ⟨bz, 0, none⟩)), (3, .int .i64 2)]) (C := []) ha 1 [] rfl (by kernel_rfl) .nil ?_
    clear ha a; intro a ha
    refine lnil ?_
    replace ha := ha.sub (ρ' := [(2, .pointer (some ⟨bz, 0, none⟩)), (3, .int .i64 2)]) (by kernel_rfl)
    refine tn ?_
    refine wret ?_
    refine (tr ?_)
    refine fin ha (.cell rfl (ldVN (n := 72) (vs := ⟨.int .i64 0 :: (.string (S []) :: (.slice none 0 0 :: ((idc idZ) ++ (.slice none 0 0 :: (.int .u32 0 :: (.string (S []) :: ((idc idZ) ++ (.int .i64 0 :: ([.string (S [])])))))))))⟩) hB_bz (by kernel_rfl) (by kernel_rfl) ⟨Nat.le_of_ble_eq_true (by kernel_rfl), (by kernel_rfl)⟩) (.tmp rfl .nil)) ?_
    exact ⟨none, 0, none, 0, by rw [hres]; rfl, by rw [hres]; exact own_nil _ _ _ _, by rw [hres]; exact own_nil _ _ _ _, hx⟩
  · simp only [Bool.not_eq_true', Bool.not_eq_false', Bool.and_eq_true, Bool.or_eq_true, Bool.and_eq_false_iff, Bool.or_eq_false_iff, decide_eq_true_eq, decide_eq_false_iff_not, Bool.not_eq_true, Decidable.not_not] at h16
    have hc1 : ¬ (s = [] ∨ 4096 < s.length) := by simp only [not_or]; exact ⟨h16.1, by omega⟩
    have hs0 : 0 < s.length := List.length_pos_iff.2 h16.1
    have htl := (vtake_len (s.drop 1)).1
    rw [List.length_drop] at htl
    have hcb := UInt8.toNat_lt (s.getD 0 0)
    have hk256 : 0 ≤ ((s.getD 0 0).toNat : Int) ∧ ((s.getD 0 0).toNat : Int) < 256 := by omega
    refine wskip ?_
    refine tn ?_
    refine wseq ?_
    refine reg hmix (ρ' := [(0, .string (S s)), (2, .pointer (some ⟨bz, 0, none⟩)), (4, .string (S ((vtake (s.drop 1)).1))), (5, .string (S ((vtake (s.drop 1)).2.1))), (6, .int .i64 (((vtake (s.drop 1)).2.2 : Nat) : Int))]) (C := [0 ≤ (1 : Int) ∧ 1 ≤ (s.length : Int), CallOk Tryd.prog w1 52 #[.string (S (s.drop 1))] (.tuple #[.string (S ((vtake (s.drop 1)).1)), .string (S ((vtake (s.drop 1)).2.1)), .int .i64 (((vtake (s.drop 1)).2.2 : Nat) : Int)])]) ha [(2, .val (.tuple #[.string (S ((vtake (s.drop 1)).1)), .string (S ((vtake (s.drop 1)).2.1)), .int .i64 (((vtake (s.drop 1)).2.2 : Nat) : Int)]))] (by kernel_rfl) (.cons ⟨by omega, by omega⟩ (.cons (fun w _ => take_ok _ w (by first | omega | (simp only [List.length_drop]; omega))) .nil)) ?_
    clear ha a; intro a w3 ha he
    replace hx := hx.tr he
    replace hB_bz := keepB he hB_bz
    clear he
    refine tn ?_
    refine wseq ?_
    refine wseq ?_
    refine regp (ρ' := [(0, .string (S s)), (2, .pointer (some ⟨bz, 0, none⟩)), (4, .string (S ((vtake (s.drop 1)).1))), (30, .bool ((!decide ((((vtake (s.drop 1)).2.2 : Nat) : Int) = 0)) || (!decide (((vtake (s.drop 1)).2.1 : List UInt8) = ([] : List UInt8)))))]) (C := []) ha [] (by kernel_rfl) .nil ?_
    clear ha a; intro a ha
    refine tn ?_
    refine wif ha rfl (fun h30 => ?_) (fun h30 => ?_)
    · simp only [Bool.not_eq_true', Bool.not_eq_false', Bool.and_eq_true, Bool.or_eq_true, Bool.and_eq_false_iff, Bool.or_eq_false_iff, decide_eq_true_eq, decide_eq_false_iff_not, Bool.not_eq_true, Decidable.not_not] at h30
      have hres : oDec s = (obj0, 2) := by unfold oDec; rw [if_neg hc1, if_pos (by rcases h30 with h | h; exact .inl (by omega); exact .inr h)]
      refine wseq ?_
      refine reg_list ?_
      refine segp (ρ' := [(2, .pointer (some ⟨bz, 0, none⟩)), (31, .agg ⟨.int .i64 0 :: (.string (S []) :: (.slice none 0 0 :: ((idc idZ) ++ (.slice none 0 0 :: (.int .u32 0 :: (.string (S []) :: ((idc idZ) ++ (.int .i64 0 :: ([.string (S [])])))))))))⟩)]) (C := []) ha 1 [] rfl (by kernel_rfl) .nil ?_
      clear ha a; intro a ha
      refine lstore (off := 0) ha rfl rfl (by kernel_rfl) hB_bz ⟨.int .i64 0 :: (.string (S []) :: (.slice none 0 0 :: ((idc idZ) ++ (.slice none 0 0 :: (.int .u32 0 :: (.string (S []) :: ((idc idZ) ++ (.int .i64 0 :: ([.string (S [])])))))))))⟩ rfl (by kernel_rfl) (by kernel_rfl) ?_
      clear ha a; intro w4 hc a ha
      replace hx := hc.ext hx hb_bz
      replace hB_bz := hc.at_; clear hc
      refine segp (ρ' := [(2, .pointer (some ⟨bz, 0, none⟩)), (3, .int .i64 2)]) (C := []) ha 1 [] rfl (by kernel_rfl) .nil ?_
      clear ha a; intro a ha
      refine lnil ?_
      replace ha := ha.sub (ρ' := [(2, .pointer (some ⟨bz, 0, none⟩)), (3, .int .i64 2)]) (by kernel_rfl)
      refine tn ?_
      refine wret ?_
      refine (tr ?_)
      refine fin ha (.cell rfl (ldVN (n := 72) (vs := ⟨.int .i64 0 :: (.string (S []) :: (.slice none 0 0 :: ((idc idZ) ++ (.slice none 0 0 :: (.int .u32 0 :: (.string (S []) :: ((idc idZ) ++ (.int .i64 0 :: ([.string (S [])])))))))))⟩) hB_bz (by kernel_rfl) (by kernel_rfl) ⟨Nat.le_of_ble_eq_true (by kernel_rfl), (by kernel_rfl)⟩) (.tmp rfl .nil)) ?_
      exact ⟨none, 0, none, 0, by rw [hres]; rfl, by rw [hres]; exact own_nil _ _ _ _, by rw [hres]; exact own_nil _ _ _ _, hx⟩
    · simp only [Bool.not_eq_true', Bool.not_eq_false', Bool.and_eq_true, Bool.or_eq_true, Bool.and_eq_false_iff, Bool.or_eq_false_iff, decide_eq_true_eq, decide_eq_false_iff_not, Bool.not_eq_true, Decidable.not_not] at h30
      have hc2 : ¬ ((vtake (s.drop 1)).2.2 ≠ 0 ∨ (vtake (s.drop 1)).2.1 ≠ []) := by simp only [not_or]; exact ⟨fun h => h (by omega), fun h => h h30.2⟩
      refine wskip ?_
      refine tn ?_
      refine wseq ?_
      refine reg_list ?_
      refine segp (ρ' := [(2, .pointer (some ⟨bz, 0, none⟩)), (4, .string (S ((vtake (s.drop 1)).1))), (35, .agg ⟨.int .i64 (((s.getD 0 0).toNat : Nat) : Int) :: (.string (S []) :: (.slice none 0 0 :: ((idc idZ) ++ (.slice none 0 0 :: (.int .u32 0 :: (.string (S []) :: ((idc idZ) ++ (.int .i64 0 :: ([.string (S [])])))))))))⟩)]) (C := [0 ≤ (0 : Int) ∧ 0 < (s.length : Int), InR .i64 (((s.getD 0 0).toNat : Nat) : Int)]) ha 4 [] rfl (by kernel_rfl) (.cons ⟨by omega, by omega⟩ (.cons (by unfold InR; omega) .nil)) ?_
      clear ha a; intro a ha
      refine lnew ha rfl (by kernel_rfl) ⟨.int .i64 0 :: (.string (S []) :: (.slice none 0 0 :: ((idc idZ) ++ (.slice none 0 0 :: (.int .u32 0 :: (.string (S []) :: ((idc idZ) ++ (.int .i64 0 :: ([.string (S [])])))))))))⟩ 54 (by kernel_rfl) ?_
      clear ha a; intro ob w5 he hb_ob hB_ob a ha
      have hne_bz_ob : bz ≠ ob := ne_new hB_bz hb_ob
      replace hB_bz := keepB he hB_bz
      replace hb_ob := Nat.le_trans hx.size hb_ob
      replace hx := hx.tr he
      clear he
      refine lstore (off := 0) ha rfl rfl (by kernel_rfl) hB_ob ⟨.int .i64 (((s.getD 0 0).toNat : Nat) : Int) :: (.string (S []) :: (.slice none 0 0 :: ((idc idZ) ++ (.slice none 0 0 :: (.int .u32 0 :: (.string (S []) :: ((idc idZ) ++ (.int .i64 0 :: ([.string (S [])])))))))))⟩ rfl (by kernel_rfl) (by kernel_rfl) ?_
      clear ha a; intro w6 hc a ha
      replace hB_bz := hc.keep hB_bz (by first | assumption | exact Ne.symm (by assumption))
      replace hx := hc.ext hx hb_ob
      replace hB_ob := hc.at_; clear hc
      refine lnil ?_
      replace ha := ha.sub (ρ' := [(2, .pointer (some ⟨bz, 0, none⟩)), (4, .string (S ((vtake (s.drop 1)).1))), (7, .pointer (some ⟨ob, 0, none⟩))]) (by kernel_rfl)
      refine tn ?_
      refine wseq ?_
      refine reg_list ?_
      refine segp (ρ' := [(2, .pointer (some ⟨bz, 0, none⟩)), (7, .pointer (some ⟨ob, 0, none⟩)), (37, .agg #[.string (S ((vtake (s.drop 1)).1)), .bool false])]) (C := []) ha 2 [] rfl (by kernel_rfl) .nil ?_
      clear ha a; intro a ha
      refine lnew ha rfl (by kernel_rfl) #[.string (S ((vtake (s.drop 1)).1)), .bool false] 80 (by kernel_rfl) ?_
      clear ha a; intro r w7 he hb_r hB_r a ha
      have hne_bz_r : bz ≠ r := ne_new hB_bz hb_r
      have hne_ob_r : ob ≠ r := ne_new hB_ob hb_r
      replace hB_bz := keepB he hB_bz
      replace hB_ob := keepB he hB_ob
      replace hb_r := Nat.le_trans hx.size hb_r
      replace hx := hx.tr he
      clear he
      refine segp (ρ' := [(2, .pointer (some ⟨bz, 0, none⟩)), (7, .pointer (some ⟨ob, 0, none⟩)), (8, .pointer (some ⟨r, 0, none⟩))]) (C := []) ha 1 [] rfl (by kernel_rfl) .nil ?_
      clear ha a; intro a ha
      refine lnil ?_
      replace ha := ha.sub (ρ' := [(2, .pointer (some ⟨bz, 0, none⟩)), (7, .pointer (some ⟨ob, 0, none⟩)), (8, .pointer (some ⟨r, 0, none⟩))]) (by kernel_rfl)
      refine tn ?_
      refine wseq ?_
      refine regp (ρ' := [(2, .pointer (some ⟨bz, 0, none⟩)), (7, .pointer (some ⟨ob, 0, none⟩)), (8, .pointer (some ⟨r, 0, none⟩)), (9, .func (.func 53) #[] #[])]) (C := []) ha [] (by kernel_rfl) .nil ?_
      clear ha a; intro a ha
      refine tn ?_
      refine wseq ?_
      refine wseq ?_
      refine regp (ρ' := [(2, .pointer (some ⟨bz, 0, none⟩)), (7, .pointer (some ⟨ob, 0, none⟩)), (8, .pointer (some ⟨r, 0, none⟩)), (9, .func (.func 53) #[] #[]), (40, .int .i64 (((s.getD 0 0).toNat : Nat) : Int))]) (C := [RunOk Tryd.prog w7 (Instr.loadAt 3 (.pointer (some ⟨ob, 0, none⟩))) (.int .i64 (((s.getD 0 0).toNat : Nat) : Int))]) ha [(1, .val (.int .i64 (((s.getD 0 0).toNat : Nat) : Int)))] (by kernel_rfl) (.cons (ld1 hB_ob (by kernel_rfl) (by kernel_rfl)) .nil) ?_
      clear ha a; intro a ha
      refine tn ?_
      refine wblk ?_
      refine wseq ?_
      refine regp (ρ' := [(2, .pointer (some ⟨bz, 0, none⟩)), (7, .pointer (some ⟨ob, 0, none⟩)), (8, .pointer (some ⟨r, 0, none⟩)), (9, .func (.func 53) #[] #[]), (40, .int .i64 (((s.getD 0 0).toNat : Nat) : Int)), (41, .bool (decide ((((s.getD 0 0).toNat : Nat) : Int) = 2)))]) (C := []) ha [] (by kernel_rfl) .nil ?_
      clear ha a; intro a ha
      refine tn ?_
      refine wif ha rfl (fun h41 => ?_) (fun h41 => ?_)
      · replace h41 := of_decide_eq_true h41
        have hk := h41
        refine regp (ρ' := [(2, .pointer (some ⟨bz, 0, none⟩)), (7, .pointer (some ⟨ob, 0, none⟩)), (8, .pointer (some ⟨r, 0, none⟩)), (9, .func (.func 54) #[] #[])]) (C := []) ha [] (by kernel_rfl) .nil ?_
        clear ha a; intro a ha
        refine bn ?_
        refine tn ?_
        refine wseq ?_
        refine reg_list ?_
        refine segp (ρ' := [(2, .pointer (some ⟨bz, 0, none⟩)), (7, .pointer (some ⟨ob, 0, none⟩)), (8, .pointer (some ⟨r, 0, none⟩)), (47, .func (.func 54) #[] #[]), (48, .pointer (some ⟨r, 0, none⟩))]) (C := []) ha 2 [] rfl (by kernel_rfl) .nil ?_
        clear ha a; intro a ha
        refine lcall (vs := #[.pointer (some ⟨r, 0, none⟩), .pointer (some ⟨ob, 0, none⟩)]) ha rfl (by kernel_rfl) rfl rfl (by kernel_rfl) (by kernel_rfl) (rtree_ok r ob ((s.getD 0 0).toNat : Int) (vtake (s.drop 1)).1 false w7 (by first | assumption | exact Ne.symm (by assumption)) hB_r hB_ob (by omega)) ?_
        clear ha a; rintro _ w8 ⟨A, c, rfl, hfr, hB_r', hB_ob', ho⟩ a ha
        have hB_r2 : w8.heap[r]? = some (.cells #[.string (S (rdBody ((s.getD 0 0).toNat : Int) (vtake (s.drop 1)).1).2.1), .bool (rdBody ((s.getD 0 0).toNat : Int) (vtake (s.drop 1)).1).2.2] 80 (0, 0)) := by rw [rdBody, if_pos hk]; exact hB_r'
        have hB_ob2 : w8.heap[ob]? = some (.cells ⟨objC (rdBody ((s.getD 0 0).toNat : Int) (vtake (s.drop 1)).1).1 A c none 0⟩ 54 (0, 0)) := by rw [rdBody, if_pos hk]; exact hB_ob'
        have hoe : Own w8 w.heap.size 89 34 A (rdBody ((s.getD 0 0).toNat : Int) (vtake (s.drop 1)).1).1.Entries.length c ((rdBody ((s.getD 0 0).toNat : Int) (vtake (s.drop 1)).1).1.Entries.flatMap encEnt) := by rw [rdBody, if_pos hk]; exact own_base hx.size ho
        have hop : Own w8 w.heap.size 24 32 none (rdBody ((s.getD 0 0).toNat : Int) (vtake (s.drop 1)).1).1.Parents.length 0 ((rdBody ((s.getD 0 0).toNat : Int) (vtake (s.drop 1)).1).1.Parents.flatMap idc) := by rw [rdBody, if_pos hk]; exact own_nil _ _ _ _
        have hB_bz2 := hfr.keep hB_bz (by intro x hx; simp only [List.mem_cons, List.not_mem_nil, or_false] at hx; rcases hx with rfl | rfl <;> first | assumption | exact Ne.symm (by assumption))
        replace hx := hfr.toExt hx (by intro x hx; simp only [List.mem_cons, List.not_mem_nil, or_false] at hx; rcases hx with rfl | rfl <;> assumption)
        clear hfr hB_r' hB_ob' hB_r hB_ob hB_bz ho
        have hB_r := hB_r2; have hB_ob := hB_ob2; have hB_bz := hB_bz2; clear hB_r2 hB_ob2 hB_bz2
        have hok := rdBody_ok ((s.getD 0 0).toNat : Int) hk256 (vtake (s.drop 1)).1 (by omega)
        refine lnil ?_
        replace ha := ha.sub (ρ' := [(2, .pointer (some ⟨bz, 0, none⟩)), (7, .pointer (some ⟨ob, 0, none⟩)), (8, .pointer (some ⟨r, 0, none⟩))]) (by kernel_rfl)
        refine tn ?_
        refine wseq ?_
        refine wseq ?_
        refine reg hmix (ρ' := [(2, .pointer (some ⟨bz, 0, none⟩)), (7, .pointer (some ⟨ob, 0, none⟩)), (65, .bool ((((rdBody ((s.getD 0 0).toNat : Int) (vtake (s.drop 1)).1).2.2) || (!decide (((rdBody ((s.getD 0 0).toNat : Int) (vtake (s.drop 1)).1).2.1 : List UInt8) = ([] : List UInt8)))) || (!(oMay (rdBody ((s.getD 0 0).toNat : Int) (vtake (s.drop 1)).1).1))))]) (C := [RunOk Tryd.prog w8 (Instr.loadAt 4 (.pointer (some ⟨r, 1, none⟩))) (.bool ((rdBody ((s.getD 0 0).toNat : Int) (vtake (s.drop 1)).1).2.2)), ((rdBody ((s.getD 0 0).toNat : Int) (vtake (s.drop 1)).1).2.2) = false → All [RunOk Tryd.prog w8 (Instr.loadAt 9 (.pointer (some ⟨r, 0, none⟩))) (.string (S ((rdBody ((s.getD 0 0).toNat : Int) (vtake (s.drop 1)).1).2.1)))], (((rdBody ((s.getD 0 0).toNat : Int) (vtake (s.drop 1)).1).2.2) || (!decide (((rdBody ((s.getD 0 0).toNat : Int) (vtake (s.drop 1)).1).2.1 : List UInt8) = ([] : List UInt8)))) = false → All [RunOk Tryd.prog w8 (Instr.loadAt 54 (.pointer (some ⟨ob, 0, none⟩))) (.agg ⟨objC ((rdBody ((s.getD 0 0).toNat : Int) (vtake (s.drop 1)).1).1) A c none 0⟩), CallOk Tryd.prog w8 57 #[.agg ⟨objC ((rdBody ((s.getD 0 0).toNat : Int) (vtake (s.drop 1)).1).1) A c none 0⟩] (.bool (oMay (rdBody ((s.getD 0 0).toNat : Int) (vtake (s.drop 1)).1).1))]]) ha [(3, .val (.bool ((rdBody ((s.getD 0 0).toNat : Int) (vtake (s.drop 1)).1).2.2))), (8, .val (.string (S ((rdBody ((s.getD 0 0).toNat : Int) (vtake (s.drop 1)).1).2.1)))), (12, .val (.agg ⟨objC ((rdBody ((s.getD 0 0).toNat : Int) (vtake (s.drop 1)).1).1) A c none 0⟩)), (13, .val (.bool (oMay (rdBody ((s.getD 0 0).toNat : Int) (vtake (s.drop 1)).1).1)))] (by kernel_rfl) (.cons (ld1 hB_r (by kernel_rfl) rfl) (.cons (fun hg5 => by exact (.cons (ld1 hB_r (by kernel_rfl) rfl) .nil)) (.cons (fun hg12 => by simp only [Bool.not_eq_true', Bool.not_eq_false', Bool.and_eq_true, Bool.or_eq_true, Bool.and_eq_false_iff, Bool.or_eq_false_iff, decide_eq_true_eq, decide_eq_false_iff_not, Bool.not_eq_true, Decidable.not_not] at hg12; exact (.cons (ldN (n := 72) hB_ob (by kernel_rfl) (by kernel_rfl) ⟨Nat.le_of_ble_eq_true (by kernel_rfl), (by kernel_rfl)⟩) (.cons (fun w2 h2 => may_ok (rdBody ((s.getD 0 0).toNat : Int) (vtake (s.drop 1)).1).1 _ _ _ _ w2 (rdE h2 (own_rd hoe)) (rdE h2 (own_rd hop)) hok) .nil))) .nil))) ?_
        clear ha a; intro a w9 ha he
        replace hx := hx.tr he
        replace hB_bz := keepB he hB_bz
        replace hB_ob := keepB he hB_ob
        replace hB_r := keepB he hB_r
        replace hoe := ownE he hoe
        replace hop := ownE he hop
        clear he
        refine tn ?_
        refine wif ha rfl (fun h65 => ?_) (fun h65 => ?_)
        · simp only [Bool.not_eq_true', Bool.not_eq_false', Bool.and_eq_true, Bool.or_eq_true, Bool.and_eq_false_iff, Bool.or_eq_false_iff, decide_eq_true_eq, decide_eq_false_iff_not, Bool.not_eq_true, Decidable.not_not] at h65
          have hres : oDec s = (obj0, 2) := by
            unfold oDec
            rw [if_neg hc1, if_neg hc2]
            simp only
            rw [if_pos]
            rcases h65 with (h | h) | h
            · exact .inl h
            · exact .inr (.inl h)
            · exact .inr (.inr h)
          refine wseq ?_
          refine reg_list ?_
          refine segp (ρ' := [(2, .pointer (some ⟨bz, 0, none⟩)), (66, .agg ⟨.int .i64 0 :: (.string (S []) :: (.slice none 0 0 :: ((idc idZ) ++ (.slice none 0 0 :: (.int .u32 0 :: (.string (S []) :: ((idc idZ) ++ (.int .i64 0 :: ([.string (S [])])))))))))⟩)]) (C := []) ha 1 [] rfl (by kernel_rfl) .nil ?_
          clear ha a; intro a ha
          refine lstore (off := 0) ha rfl rfl (by kernel_rfl) hB_bz ⟨.int .i64 0 :: (.string (S []) :: (.slice none 0 0 :: ((idc idZ) ++ (.slice none 0 0 :: (.int .u32 0 :: (.string (S []) :: ((idc idZ) ++ (.int .i64 0 :: ([.string (S [])])))))))))⟩ rfl (by kernel_rfl) (by kernel_rfl) ?_
          clear ha a; intro w10 hc a ha
          replace hB_ob := hc.keep hB_ob (by first | assumption | exact Ne.symm (by assumption))
          replace hB_r := hc.keep hB_r (by first | assumption | exact Ne.symm (by assumption))
          replace hoe := ownC hc hB_bz rfl hoe
          replace hop := ownC hc hB_bz rfl hop
          replace hx := hc.ext hx hb_bz
          replace hB_bz := hc.at_; clear hc
          refine segp (ρ' := [(2, .pointer (some ⟨bz, 0, none⟩)), (3, .int .i64 2)]) (C := []) ha 1 [] rfl (by kernel_rfl) .nil ?_
          clear ha a; intro a ha
          refine lnil ?_
          replace ha := ha.sub (ρ' := [(2, .pointer (some ⟨bz, 0, none⟩)), (3, .int .i64 2)]) (by kernel_rfl)
          refine tn ?_
          refine wret ?_
          refine (tr ?_)
          refine fin ha (.cell rfl (ldVN (n := 72) (vs := ⟨.int .i64 0 :: (.string (S []) :: (.slice none 0 0 :: ((idc idZ) ++ (.slice none 0 0 :: (.int .u32 0 :: (.string (S []) :: ((idc idZ) ++ (.int .i64 0 :: ([.string (S [])])))))))))⟩) hB_bz (by kernel_rfl) (by kernel_rfl) ⟨Nat.le_of_ble_eq_true (by kernel_rfl), (by kernel_rfl)⟩) (.tmp rfl .nil)) ?_
          exact ⟨none, 0, none, 0, by rw [hres]; rfl, by rw [hres]; exact own_nil _ _ _ _, by rw [hres]; exact own_nil _ _ _ _, hx⟩
        · simp only [Bool.not_eq_true', Bool.not_eq_false', Bool.and_eq_true, Bool.or_eq_true, Bool.and_eq_false_iff, Bool.or_eq_false_iff, decide_eq_true_eq, decide_eq_false_iff_not, Bool.not_eq_true, Decidable.not_not] at h65
          have hres : oDec s = ((rdBody ((s.getD 0 0).toNat : Int) (vtake (s.drop 1)).1).1, 0) := by
            unfold oDec
            rw [if_neg hc1, if_neg hc2]
            simp only
            rw [if_neg]
            rintro (h | h | h)
            · rw [h65.1.1] at h; cases h
            · exact h h65.1.2
            · rw [h65.2] at h; cases h
          refine wskip ?_
          refine tn ?_
          refine wseq ?_
          refine reg_list ?_
          refine segp (ρ' := [(2, .pointer (some ⟨bz, 0, none⟩)), (67, .agg ⟨objC ((rdBody ((s.getD 0 0).toNat : Int) (vtake (s.drop 1)).1).1) A c none 0⟩)]) (C := [RunOk Tryd.prog w9 (Instr.loadAt 54 (.pointer (some ⟨ob, 0, none⟩))) (.agg ⟨objC ((rdBody ((s.getD 0 0).toNat : Int) (vtake (s.drop 1)).1).1) A c none 0⟩)]) ha 1 [(0, .val (.agg ⟨objC ((rdBody ((s.getD 0 0).toNat : Int) (vtake (s.drop 1)).1).1) A c none 0⟩))] rfl (by kernel_rfl) (.cons (ldN (n := 72) hB_ob (by kernel_rfl) (by kernel_rfl) ⟨Nat.le_of_ble_eq_true (by kernel_rfl), (by kernel_rfl)⟩) .nil) ?_
          clear ha a; intro a ha
          refine lstore (off := 0) ha rfl rfl (by kernel_rfl) hB_bz ⟨objC ((rdBody ((s.getD 0 0).toNat : Int) (vtake (s.drop 1)).1).1) A c none 0⟩ rfl (by kernel_rfl) (by kernel_rfl) ?_
          clear ha a; intro w11 hc a ha
          replace hB_ob := hc.keep hB_ob (by first | assumption | exact Ne.symm (by assumption))
          replace hB_r := hc.keep hB_r (by first | assumption | exact Ne.symm (by assumption))
          replace hoe := ownC hc hB_bz rfl hoe
          replace hop := ownC hc hB_bz rfl hop
          replace hx := hc.ext hx hb_bz
          replace hB_bz := hc.at_; clear hc
          refine segp (ρ' := [(2, .pointer (some ⟨bz, 0, none⟩)), (3, .int .i64 0)]) (C := []) ha 1 [] rfl (by kernel_rfl) .nil ?_
          clear ha a; intro a ha
          refine lnil ?_
          replace ha := ha.sub (ρ' := [(2, .pointer (some ⟨bz, 0, none⟩)), (3, .int .i64 0)]) (by kernel_rfl)
          refine tn ?_
          refine wret ?_
          refine fin ha (.cell rfl (ldVN (n := 72) (vs := ⟨objC ((rdBody ((s.getD 0 0).toNat : Int) (vtake (s.drop 1)).1).1) A c none 0⟩) hB_bz (by kernel_rfl) (by kernel_rfl) ⟨Nat.le_of_ble_eq_true (by kernel_rfl), (by kernel_rfl)⟩) (.tmp rfl .nil)) ?_
          exact ⟨_, _, _, _, by rw [hres]; rfl, by rw [hres]; exact hoe, by rw [hres]; exact hop, hx⟩
      · replace h41 := of_decide_eq_false h41
        have hk2 := h41
        refine wseq ?_
        refine regp (ρ' := [(2, .pointer (some ⟨bz, 0, none⟩)), (7, .pointer (some ⟨ob, 0, none⟩)), (8, .pointer (some ⟨r, 0, none⟩)), (9, .func (.func 53) #[] #[]), (40, .int .i64 (((s.getD 0 0).toNat : Nat) : Int)), (43, .bool (decide ((((s.getD 0 0).toNat : Nat) : Int) = 3)))]) (C := []) ha [] (by kernel_rfl) .nil ?_
        clear ha a; intro a ha
        refine tn ?_
        refine wif ha rfl (fun h43 => ?_) (fun h43 => ?_)
        · replace h43 := of_decide_eq_true h43
          have hk := h43
          refine regp (ρ' := [(2, .pointer (some ⟨bz, 0, none⟩)), (7, .pointer (some ⟨ob, 0, none⟩)), (8, .pointer (some ⟨r, 0, none⟩)), (9, .func (.func 55) #[] #[])]) (C := []) ha [] (by kernel_rfl) .nil ?_
          clear ha a; intro a ha
          refine bn ?_
          refine tn ?_
          refine wseq ?_
          refine reg_list ?_
          refine segp (ρ' := [(2, .pointer (some ⟨bz, 0, none⟩)), (7, .pointer (some ⟨ob, 0, none⟩)), (8, .pointer (some ⟨r, 0, none⟩)), (47, .func (.func 55) #[] #[]), (48, .pointer (some ⟨r, 0, none⟩))]) (C := []) ha 2 [] rfl (by kernel_rfl) .nil ?_
          clear ha a; intro a ha
          refine lcall (vs := #[.pointer (some ⟨r, 0, none⟩), .pointer (some ⟨ob, 0, none⟩)]) ha rfl (by kernel_rfl) rfl rfl (by kernel_rfl) (by kernel_rfl) (rcommit_ok r ob ((s.getD 0 0).toNat : Int) (vtake (s.drop 1)).1 false w7 (by first | assumption | exact Ne.symm (by assumption)) hB_r hB_ob (by omega)) ?_
          clear ha a; rintro _ w12 ⟨A, c, rfl, hfr, hB_r', hB_ob', ho⟩ a ha
          have hB_r2 : w12.heap[r]? = some (.cells #[.string (S (rdBody ((s.getD 0 0).toNat : Int) (vtake (s.drop 1)).1).2.1), .bool (rdBody ((s.getD 0 0).toNat : Int) (vtake (s.drop 1)).1).2.2] 80 (0, 0)) := by rw [rdBody, if_neg hk2, if_pos hk]; exact hB_r'
          have hB_ob2 : w12.heap[ob]? = some (.cells ⟨objC (rdBody ((s.getD 0 0).toNat : Int) (vtake (s.drop 1)).1).1 none 0 A c⟩ 54 (0, 0)) := by rw [rdBody, if_neg hk2, if_pos hk]; exact hB_ob'
          have hoe : Own w12 w.heap.size 89 34 none (rdBody ((s.getD 0 0).toNat : Int) (vtake (s.drop 1)).1).1.Entries.length 0 ((rdBody ((s.getD 0 0).toNat : Int) (vtake (s.drop 1)).1).1.Entries.flatMap encEnt) := by rw [rdBody, if_neg hk2, if_pos hk]; exact own_nil _ _ _ _
          have hop : Own w12 w.heap.size 24 32 A (rdBody ((s.getD 0 0).toNat : Int) (vtake (s.drop 1)).1).1.Parents.length c ((rdBody ((s.getD 0 0).toNat : Int) (vtake (s.drop 1)).1).1.Parents.flatMap idc) := by rw [rdBody, if_neg hk2, if_pos hk]; exact own_base hx.size ho
          have hB_bz2 := hfr.keep hB_bz (by intro x hx; simp only [List.mem_cons, List.not_mem_nil, or_false] at hx; rcases hx with rfl | rfl <;> first | assumption | exact Ne.symm (by assumption))
          replace hx := hfr.toExt hx (by intro x hx; simp only [List.mem_cons, List.not_mem_nil, or_false] at hx; rcases hx with rfl | rfl <;> assumption)
          clear hfr hB_r' hB_ob' hB_r hB_ob hB_bz ho
          have hB_r := hB_r2; have hB_ob := hB_ob2; have hB_bz := hB_bz2; clear hB_r2 hB_ob2 hB_bz2
          have hok := rdBody_ok ((s.getD 0 0).toNat : Int) hk256 (vtake (s.drop 1)).1 (by omega)
          refine lnil ?_
          replace ha := ha.sub (ρ' := [(2, .pointer (some ⟨bz, 0, none⟩)), (7, .pointer (some ⟨ob, 0, none⟩)), (8, .pointer (some ⟨r, 0, none⟩))]) (by kernel_rfl)
          refine tn ?_
          refine wseq ?_
          refine wseq ?_
          refine reg hmix (ρ' := [(2, .pointer (some ⟨bz, 0, none⟩)), (7, .pointer (some ⟨ob, 0, none⟩)), (65, .bool ((((rdBody ((s.getD 0 0).toNat : Int) (vtake (s.drop 1)).1).2.2) || (!decide (((rdBody ((s.getD 0 0).toNat : Int) (vtake (s.drop 1)).1).2.1 : List UInt8) = ([] : List UInt8)))) || (!(oMay (rdBody ((s.getD 0 0).toNat : Int) (vtake (s.drop 1)).1).1))))]) (C := [RunOk Tryd.prog w12 (Instr.loadAt 4 (.pointer (some ⟨r, 1, none⟩))) (.bool ((rdBody ((s.getD 0 0).toNat : Int) (vtake (s.drop 1)).1).2.2)), ((rdBody ((s.getD 0 0).toNat : Int) (vtake (s.drop 1)).1).2.2) = false → All [RunOk Tryd.prog w12 (Instr.loadAt 9 (.pointer (some ⟨r, 0, none⟩))) (.string (S ((rdBody ((s.getD 0 0).toNat : Int) (vtake (s.drop 1)).1).2.1)))], (((rdBody ((s.getD 0 0).toNat : Int) (vtake (s.drop 1)).1).2.2) || (!decide (((rdBody ((s.getD 0 0).toNat : Int) (vtake (s.drop 1)).1).2.1 : List UInt8) = ([] : List UInt8)))) = false → All [RunOk Tryd.prog w12 (Instr.loadAt 54 (.pointer (some ⟨ob, 0, none⟩))) (.agg ⟨objC ((rdBody ((s.getD 0 0).toNat : Int) (vtake (s.drop 1)).1).1) none 0 A c⟩), CallOk Tryd.prog w12 57 #[.agg ⟨objC ((rdBody ((s.getD 0 0).toNat : Int) (vtake (s.drop 1)).1).1) none 0 A c⟩] (.bool (oMay (rdBody ((s.getD 0 0).toNat : Int) (vtake (s.drop 1)).1).1))]]) ha [(3, .val (.bool ((rdBody ((s.getD 0 0).toNat : Int) (vtake (s.drop 1)).1).2.2))), (8, .val (.string (S ((rdBody ((s.getD 0 0).toNat : Int) (vtake (s.drop 1)).1).2.1)))), (12, .val (.agg ⟨objC ((rdBody ((s.getD 0 0).toNat : Int) (vtake (s.drop 1)).1).1) none 0 A c⟩)), (13, .val (.bool (oMay (rdBody ((s.getD 0 0).toNat : Int) (vtake (s.drop 1)).1).1)))] (by kernel_rfl) (.cons (ld1 hB_r (by kernel_rfl) rfl) (.cons (fun hg5 => by exact (.cons (ld1 hB_r (by kernel_rfl) rfl) .nil)) (.cons (fun hg12 => by simp only [Bool.not_eq_true', Bool.not_eq_false', Bool.and_eq_true, Bool.or_eq_true, Bool.and_eq_false_iff, Bool.or_eq_false_iff, decide_eq_true_eq, decide_eq_false_iff_not, Bool.not_eq_true, Decidable.not_not] at hg12; exact (.cons (ldN (n := 72) hB_ob (by kernel_rfl) (by kernel_rfl) ⟨Nat.le_of_ble_eq_true (by kernel_rfl), (by kernel_rfl)⟩) (.cons (fun w2 h2 => may_ok (rdBody ((s.getD 0 0).toNat : Int) (vtake (s.drop 1)).1).1 _ _ _ _ w2 (rdE h2 (own_rd hoe)) (rdE h2 (own_rd hop)) hok) .nil))) .nil))) ?_
          clear ha a; intro a w13 ha he
          replace hx := hx.tr he
          replace hB_bz := keepB he hB_bz
          replace hB_ob := keepB he hB_ob
          replace hB_r := keepB he hB_r
          replace hoe := ownE he hoe
          replace hop := ownE he hop
          clear he
          refine tn ?_
          refine wif ha rfl (fun h65 => ?_) (fun h65 => ?_)
          · simp only [Bool.not_eq_true', Bool.not_eq_false', Bool.and_eq_true, Bool.or_eq_true, Bool.and_eq_false_iff, Bool.or_eq_false_iff, decide_eq_true_eq, decide_eq_false_iff_not, Bool.not_eq_true, Decidable.not_not] at h65
            have hres : oDec s = (obj0, 2) := by
              unfold oDec
              rw [if_neg hc1, if_neg hc2]
              simp only
              rw [if_pos]
              rcases h65 with (h | h) | h
              · exact .inl h
              · exact .inr (.inl h)
              · exact .inr (.inr h)
            refine wseq ?_
            refine reg_list ?_
            refine segp (ρ' := [(2, .pointer (some ⟨bz, 0, none⟩)), (66, .agg ⟨.int .i64 0 :: (.string (S []) :: (.slice none 0 0 :: ((idc idZ) ++ (.slice none 0 0 :: (.int .u32 0 :: (.string (S []) :: ((idc idZ) ++ (.int .i64 0 :: ([.string (S [])])))))))))⟩)]) (C := []) ha 1 [] rfl (by kernel_rfl) .nil ?_
            clear ha a; intro a ha
            refine lstore (off := 0) ha rfl rfl (by kernel_rfl) hB_bz ⟨.int .i64 0 :: (.string (S []) :: (.slice none 0 0 :: ((idc idZ) ++ (.slice none 0 0 :: (.int .u32 0 :: (.string (S []) :: ((idc idZ) ++ (.int .i64 0 :: ([.string (S [])])))))))))⟩ rfl (by kernel_rfl) (by kernel_rfl) ?_
            clear ha a; intro w14 hc a ha
            replace hB_ob := hc.keep hB_ob (by first | assumption | exact Ne.symm (by assumption))
            replace hB_r := hc.keep hB_r (by first | assumption | exact Ne.symm (by assumption))
            replace hoe := ownC hc hB_bz rfl hoe
            replace hop := ownC hc hB_bz rfl hop
            replace hx := hc.ext hx hb_bz
            replace hB_bz := hc.at_; clear hc
            refine segp (ρ' := [(2, .pointer (some ⟨bz, 0, none⟩)), (3, .int .i64 2)]) (C := []) ha 1 [] rfl (by kernel_rfl) .nil ?_
            clear ha a; intro a ha
            refine lnil ?_
            replace ha := ha.sub (ρ' := [(2, .pointer (some ⟨bz, 0, none⟩)), (3, .int .i64 2)]) (by kernel_rfl)
            refine tn ?_
            refine wret ?_
            refine (tr ?_)
            refine fin ha (.cell rfl (ldVN (n := 72) (vs := ⟨.int .i64 0 :: (.string (S []) :: (.slice none 0 0 :: ((idc idZ) ++ (.slice none 0 0 :: (.int .u32 0 :: (.string (S []) :: ((idc idZ) ++ (.int .i64 0 :: ([.string (S [])])))))))))⟩) hB_bz (by kernel_rfl) (by kernel_rfl) ⟨Nat.le_of_ble_eq_true (by kernel_rfl), (by kernel_rfl)⟩) (.tmp rfl .nil)) ?_
            exact ⟨none, 0, none, 0, by rw [hres]; rfl, by rw [hres]; exact own_nil _ _ _ _, by rw [hres]; exact own_nil _ _ _ _, hx⟩
          · simp only [Bool.not_eq_true', Bool.not_eq_false', Bool.and_eq_true, Bool.or_eq_true, Bool.and_eq_false_iff, Bool.or_eq_false_iff, decide_eq_true_eq, decide_eq_false_iff_not, Bool.not_eq_true, Decidable.not_not] at h65
            have hres : oDec s = ((rdBody ((s.getD 0 0).toNat : Int) (vtake (s.drop 1)).1).1, 0) := by
              unfold oDec
              rw [if_neg hc1, if_neg hc2]
              simp only
              rw [if_neg]
              rintro (h | h | h)
              · rw [h65.1.1] at h; cases h
              · exact h h65.1.2
              · rw [h65.2] at h; cases h
            refine wskip ?_
            refine tn ?_
            refine wseq ?_
            refine reg_list ?_
            refine segp (ρ' := [(2, .pointer (some ⟨bz, 0, none⟩)), (67, .agg ⟨objC ((rdBody ((s.getD 0 0).toNat : Int) (vtake (s.drop 1)).1).1) none 0 A c⟩)]) (C := [RunOk Tryd.prog w13 (Instr.loadAt 54 (.pointer (some ⟨ob, 0, none⟩))) (.agg ⟨objC ((rdBody ((s.getD 0 0).toNat : Int) (vtake (s.drop 1)).1).1) none 0 A c⟩)]) ha 1 [(0, .val (.agg ⟨objC ((rdBody ((s.getD 0 0).toNat : Int) (vtake (s.drop 1)).1).1) none 0 A c⟩))] rfl (by kernel_rfl) (.cons (ldN (n := 72) hB_ob (by kernel_rfl) (by kernel_rfl) ⟨Nat.le_of_ble_eq_true (by kernel_rfl), (by kernel_rfl)⟩) .nil) ?_
            clear ha a; intro a ha
            refine lstore (off := 0) ha rfl rfl (by kernel_rfl) hB_bz ⟨objC ((rdBody ((s.getD 0 0).toNat : Int) (vtake (s.drop 1)).1).1) none 0 A c⟩ rfl (by kernel_rfl) (by kernel_rfl) ?_
            clear ha a; intro w15 hc a ha
            replace hB_ob := hc.keep hB_ob (by first | assumption | exact Ne.symm (by assumption))
            replace hB_r := hc.keep hB_r (by first | assumption | exact Ne.symm (by assumption))
            replace hoe := ownC hc hB_bz rfl hoe
            replace hop := ownC hc hB_bz rfl hop
            replace hx := hc.ext hx hb_bz
            replace hB_bz := hc.at_; clear hc
            refine segp (ρ' := [(2, .pointer (some ⟨bz, 0, none⟩)), (3, .int .i64 0)]) (C := []) ha 1 [] rfl (by kernel_rfl) .nil ?_
            clear ha a; intro a ha
            refine lnil ?_
            replace ha := ha.sub (ρ' := [(2, .pointer (some ⟨bz, 0, none⟩)), (3, .int .i64 0)]) (by kernel_rfl)
            refine tn ?_
            refine wret ?_
            refine fin ha (.cell rfl (ldVN (n := 72) (vs := ⟨objC ((rdBody ((s.getD 0 0).toNat : Int) (vtake (s.drop 1)).1).1) none 0 A c⟩) hB_bz (by kernel_rfl) (by kernel_rfl) ⟨Nat.le_of_ble_eq_true (by kernel_rfl), (by kernel_rfl)⟩) (.tmp rfl .nil)) ?_
            exact ⟨_, _, _, _, by rw [hres]; rfl, by rw [hres]; exact hoe, by rw [hres]; exact hop, hx⟩
        · replace h43 := of_decide_eq_false h43
          have hk3 := h43
          refine wseq ?_
          refine regp (ρ' := [(2, .pointer (some ⟨bz, 0, none⟩)), (7, .pointer (some ⟨ob, 0, none⟩)), (8, .pointer (some ⟨r, 0, none⟩)), (9, .func (.func 53) #[] #[]), (45, .bool (decide ((((s.getD 0 0).toNat : Nat) : Int) = 4)))]) (C := []) ha [] (by kernel_rfl) .nil ?_
          clear ha a; intro a ha
          refine tn ?_
          refine wif ha rfl (fun h45 => ?_) (fun h45 => ?_)
          · replace h45 := of_decide_eq_true h45
            have hk := h45
            refine regp (ρ' := [(2, .pointer (some ⟨bz, 0, none⟩)), (7, .pointer (some ⟨ob, 0, none⟩)), (8, .pointer (some ⟨r, 0, none⟩)), (9, .func (.func 56) #[] #[])]) (C := []) ha [] (by kernel_rfl) .nil ?_
            clear ha a; intro a ha
            refine bn ?_
            refine tn ?_
            refine wseq ?_
            refine reg_list ?_
            refine segp (ρ' := [(2, .pointer (some ⟨bz, 0, none⟩)), (7, .pointer (some ⟨ob, 0, none⟩)), (8, .pointer (some ⟨r, 0, none⟩)), (47, .func (.func 56) #[] #[]), (48, .pointer (some ⟨r, 0, none⟩))]) (C := []) ha 2 [] rfl (by kernel_rfl) .nil ?_
            clear ha a; intro a ha
            refine lcall (vs := #[.pointer (some ⟨r, 0, none⟩), .pointer (some ⟨ob, 0, none⟩)]) ha rfl (by kernel_rfl) rfl rfl (by kernel_rfl) (by kernel_rfl) (rtag_ok r ob ((s.getD 0 0).toNat : Int) (vtake (s.drop 1)).1 false w7 (by first | assumption | exact Ne.symm (by assumption)) hB_r hB_ob (by omega)) ?_
            clear ha a; rintro _ w16 ⟨rfl, hfr, hB_r', hB_ob'⟩ a ha
            have hB_r2 : w16.heap[r]? = some (.cells #[.string (S (rdBody ((s.getD 0 0).toNat : Int) (vtake (s.drop 1)).1).2.1), .bool (rdBody ((s.getD 0 0).toNat : Int) (vtake (s.drop 1)).1).2.2] 80 (0, 0)) := by rw [rdBody, if_neg hk2, if_neg hk3, if_pos hk]; exact hB_r'
            have hB_ob2 : w16.heap[ob]? = some (.cells ⟨objC (rdBody ((s.getD 0 0).toNat : Int) (vtake (s.drop 1)).1).1 none 0 none 0⟩ 54 (0, 0)) := by rw [rdBody, if_neg hk2, if_neg hk3, if_pos hk]; exact hB_ob'
            have hoe : Own w16 w.heap.size 89 34 none (rdBody ((s.getD 0 0).toNat : Int) (vtake (s.drop 1)).1).1.Entries.length 0 ((rdBody ((s.getD 0 0).toNat : Int) (vtake (s.drop 1)).1).1.Entries.flatMap encEnt) := by rw [rdBody, if_neg hk2, if_neg hk3, if_pos hk]; exact own_nil _ _ _ _
            have hop : Own w16 w.heap.size 24 32 none (rdBody ((s.getD 0 0).toNat : Int) (vtake (s.drop 1)).1).1.Parents.length 0 ((rdBody ((s.getD 0 0).toNat : Int) (vtake (s.drop 1)).1).1.Parents.flatMap idc) := by rw [rdBody, if_neg hk2, if_neg hk3, if_pos hk]; exact own_nil _ _ _ _
            have hB_bz2 := hfr.keep hB_bz (by intro x hx; simp only [List.mem_cons, List.not_mem_nil, or_false] at hx; rcases hx with rfl | rfl <;> first | assumption | exact Ne.symm (by assumption))
            replace hx := hfr.toExt hx (by intro x hx; simp only [List.mem_cons, List.not_mem_nil, or_false] at hx; rcases hx with rfl | rfl <;> assumption)
            clear hfr hB_r' hB_ob' hB_r hB_ob hB_bz
            have hB_r := hB_r2; have hB_ob := hB_ob2; have hB_bz := hB_bz2; clear hB_r2 hB_ob2 hB_bz2
            have hok := rdBody_ok ((s.getD 0 0).toNat : Int) hk256 (vtake (s.drop 1)).1 (by omega)
            refine lnil ?_
            replace ha := ha.sub (ρ' := [(2, .pointer (some ⟨bz, 0, none⟩)), (7, .pointer (some ⟨ob, 0, none⟩)), (8, .pointer (some ⟨r, 0, none⟩))]) (by kernel_rfl)
            refine tn ?_
            refine wseq ?_
            refine wseq ?_
            refine reg hmix (ρ' := [(2, .pointer (some ⟨bz, 0, none⟩)), (7, .pointer (some ⟨ob, 0, none⟩)), (65, .bool ((((rdBody ((s.getD 0 0).toNat : Int) (vtake (s.drop 1)).1).2.2) || (!decide (((rdBody ((s.getD 0 0).toNat : Int) (vtake (s.drop 1)).1).2.1 : List UInt8) = ([] : List UInt8)))) || (!(oMay (rdBody ((s.getD 0 0).toNat : Int) (vtake (s.drop 1)).1).1))))]) (C := [RunOk Tryd.prog w16 (Instr.loadAt 4 (.pointer (some ⟨r, 1, none⟩))) (.bool ((rdBody ((s.getD 0 0).toNat : Int) (vtake (s.drop 1)).1).2.2)), ((rdBody ((s.getD 0 0).toNat : Int) (vtake (s.drop 1)).1).2.2) = false → All [RunOk Tryd.prog w16 (Instr.loadAt 9 (.pointer (some ⟨r, 0, none⟩))) (.string (S ((rdBody ((s.getD 0 0).toNat : Int) (vtake (s.drop 1)).1).2.1)))], (((rdBody ((s.getD 0 0).toNat : Int) (vtake (s.drop 1)).1).2.2) || (!decide (((rdBody ((s.getD 0 0).toNat : Int) (vtake (s.drop 1)).1).2.1 : List UInt8) = ([] : List UInt8)))) = false → All [RunOk Tryd.prog w16 (Instr.loadAt 54 (.pointer (some ⟨ob, 0, none⟩))) (.agg ⟨objC ((rdBody ((s.getD 0 0).toNat : Int) (vtake (s.drop 1)).1).1) none 0 none 0⟩), CallOk Tryd.prog w16 57 #[.agg ⟨objC ((rdBody ((s.getD 0 0).toNat : Int) (vtake (s.drop 1)).1).1) none 0 none 0⟩] (.bool (oMay (rdBody ((s.getD 0 0).toNat : Int) (vtake (s.drop 1)).1).1))]]) ha [(3, .val (.bool ((rdBody ((s.getD 0 0).toNat : Int) (vtake (s.drop 1)).1).2.2))), (8, .val (.string (S ((rdBody ((s.getD 0 0).toNat : Int) (vtake (s.drop 1)).1).2.1)))), (12, .val (.agg ⟨objC ((rdBody ((s.getD 0 0).toNat : Int) (vtake (s.drop 1)).1).1) none 0 none 0⟩)), (13, .val (.bool (oMay (rdBody ((s.getD 0 0).toNat : Int) (vtake (s.drop 1)).1).1)))] (by kernel_rfl) (.cons (ld1 hB_r (by kernel_rfl) rfl) (.cons (fun hg5 => by exact (.cons (ld1 hB_r (by kernel_rfl) rfl) .nil)) (.cons (fun hg12 => by simp only [Bool.not_eq_true', Bool.not_eq_false', Bool.and_eq_true, Bool.or_eq_true, Bool.and_eq_false_iff, Bool.or_eq_false_iff, decide_eq_true_eq, decide_eq_false_iff_not, Bool.not_eq_true, Decidable.not_not] at hg12; exact (.cons (ldN (n := 72) hB_ob (by kernel_rfl) (by kernel_rfl) ⟨Nat.le_of_ble_eq_true (by kernel_rfl), (by kernel_rfl)⟩) (.cons (fun w2 h2 => may_ok (rdBody ((s.getD 0 0).toNat : Int) (vtake (s.drop 1)).1).1 _ _ _ _ w2 (rdE h2 (own_rd hoe)) (rdE h2 (own_rd hop)) hok) .nil))) .nil))) ?_
            clear ha a; intro a w17 ha he
            replace hx := hx.tr he
            replace hB_bz := keepB he hB_bz
            replace hB_ob := keepB he hB_ob
            replace hB_r := keepB he hB_r
            replace hoe := ownE he hoe
            replace hop := ownE he hop
            clear he
            refine tn ?_
            refine wif ha rfl (fun h65 => ?_) (fun h65 => ?_)
            · simp only [Bool.not_eq_true', Bool.not_eq_false', Bool.and_eq_true, Bool.or_eq_true, Bool.and_eq_false_iff, Bool.or_eq_false_iff, decide_eq_true_eq, decide_eq_false_iff_not, Bool.not_eq_true, Decidable.not_not] at h65
              have hres : oDec s = (obj0, 2) := by
                unfold oDec
                rw [if_neg hc1, if_neg hc2]
                simp only
                rw [if_pos]
                rcases h65 with (h | h) | h
                · exact .inl h
                · exact .inr (.inl h)
                · exact .inr (.inr h)
              refine wseq ?_
              refine reg_list ?_
              refine segp (ρ' := [(2, .pointer (some ⟨bz, 0, none⟩)), (66, .agg ⟨.int .i64 0 :: (.string (S []) :: (.slice none 0 0 :: ((idc idZ) ++ (.slice none 0 0 :: (.int .u32 0 :: (.string (S []) :: ((idc idZ) ++ (.int .i64 0 :: ([.string (S [])])))))))))⟩)]) (C := []) ha 1 [] rfl (by kernel_rfl) .nil ?_
              clear ha a; intro a ha
              refine lstore (off := 0) ha rfl rfl (by kernel_rfl) hB_bz ⟨.int .i64 0 :: (.string (S []) :: (.slice none 0 0 :: ((idc idZ) ++ (.slice none 0 0 :: (.int .u32 0 :: (.string (S []) :: ((idc idZ) ++ (.int .i64 0 :: ([.string (S [])])))))))))⟩ rfl (by kernel_rfl) (by kernel_rfl) ?_
              clear ha a; intro w18 hc a ha
              replace hB_ob := hc.keep hB_ob (by first | assumption | exact Ne.symm (by assumption))
              replace hB_r := hc.keep hB_r (by first | assumption | exact Ne.symm (by assumption))
              replace hoe := ownC hc hB_bz rfl hoe
              replace hop := ownC hc hB_bz rfl hop
              replace hx := hc.ext hx hb_bz
              replace hB_bz := hc.at_; clear hc
              refine segp (ρ' := [(2, .pointer (some ⟨bz, 0, none⟩)), (3, .int .i64 2)]) (C := []) ha 1 [] rfl (by kernel_rfl) .nil ?_
              clear ha a; intro a ha
              refine lnil ?_
              replace ha := ha.sub (ρ' := [(2, .pointer (some ⟨bz, 0, none⟩)), (3, .int .i64 2)]) (by kernel_rfl)
              refine tn ?_
              refine wret ?_
              refine (tr ?_)
              refine fin ha (.cell rfl (ldVN (n := 72) (vs := ⟨.int .i64 0 :: (.string (S []) :: (.slice none 0 0 :: ((idc idZ) ++ (.slice none 0 0 :: (.int .u32 0 :: (.string (S []) :: ((idc idZ) ++ (.int .i64 0 :: ([.string (S [])])))))))))⟩) hB_bz (by kernel_rfl) (by kernel_rfl) ⟨Nat.le_of_ble_eq_true (by kernel_rfl), (by kernel_rfl)⟩) (.tmp rfl .nil)) ?_
              exact ⟨none, 0, none, 0, by rw [hres]; rfl, by rw [hres]; exact own_nil _ _ _ _, by rw [hres]; exact own_nil _ _ _ _, hx⟩
            · simp only [Bool.not_eq_true', Bool.not_eq_false', Bool.and_eq_true, Bool.or_eq_true, Bool.and_eq_false_iff, Bool.or_eq_false_iff, decide_eq_true_eq, decide_eq_false_iff_not, Bool.not_eq_true, Decidable.not_not] at h65
              have hres : oDec s = ((rdBody ((s.getD 0 0).toNat : Int) (vtake (s.drop 1)).1).1, 0) := by
                unfold oDec
                rw [if_neg hc1, if_neg hc2]
                simp only
                rw [if_neg]
                rintro (h | h | h)
                · rw [h65.1.1] at h; cases h
                · exact h h65.1.2
                · rw [h65.2] at h; cases h
              refine wskip ?_
              refine tn ?_
              refine wseq ?_
              refine reg_list ?_
              refine segp (ρ' := [(2, .pointer (some ⟨bz, 0, none⟩)), (67, .agg ⟨objC ((rdBody ((s.getD 0 0).toNat : Int) (vtake (s.drop 1)).1).1) none 0 none 0⟩)]) (C := [RunOk Tryd.prog w17 (Instr.loadAt 54 (.pointer (some ⟨ob, 0, none⟩))) (.agg ⟨objC ((rdBody ((s.getD 0 0).toNat : Int) (vtake (s.drop 1)).1).1) none 0 none 0⟩)]) ha 1 [(0, .val (.agg ⟨objC ((rdBody ((s.getD 0 0).toNat : Int) (vtake (s.drop 1)).1).1) none 0 none 0⟩))] rfl (by kernel_rfl) (.cons (ldN (n := 72) hB_ob (by kernel_rfl) (by kernel_rfl) ⟨Nat.le_of_ble_eq_true (by kernel_rfl), (by kernel_rfl)⟩) .nil) ?_
              clear ha a; intro a ha
              refine lstore (off := 0) ha rfl rfl (by kernel_rfl) hB_bz ⟨objC ((rdBody ((s.getD 0 0).toNat : Int) (vtake (s.drop 1)).1).1) none 0 none 0⟩ rfl (by kernel_rfl) (by kernel_rfl) ?_
              clear ha a; intro w19 hc a ha
              replace hB_ob := hc.keep hB_ob (by first | assumption | exact Ne.symm (by assumption))
              replace hB_r := hc.keep hB_r (by first | assumption | exact Ne.symm (by assumption))
              replace hoe := ownC hc hB_bz rfl hoe
              replace hop := ownC hc hB_bz rfl hop
              replace hx := hc.ext hx hb_bz
              replace hB_bz := hc.at_; clear hc
              refine segp (ρ' := [(2, .pointer (some ⟨bz, 0, none⟩)), (3, .int .i64 0)]) (C := []) ha 1 [] rfl (by kernel_rfl) .nil ?_
              clear ha a; intro a ha
              refine lnil ?_
              replace ha := ha.sub (ρ' := [(2, .pointer (some ⟨bz, 0, none⟩)), (3, .int .i64 0)]) (by kernel_rfl)
              refine tn ?_
              refine wret ?_
              refine fin ha (.cell rfl (ldVN (n := 72) (vs := ⟨objC ((rdBody ((s.getD 0 0).toNat : Int) (vtake (s.drop 1)).1).1) none 0 none 0⟩) hB_bz (by kernel_rfl) (by kernel_rfl) ⟨Nat.le_of_ble_eq_true (by kernel_rfl), (by kernel_rfl)⟩) (.tmp rfl .nil)) ?_
              exact ⟨_, _, _, _, by rw [hres]; rfl, by rw [hres]; exact hoe, by rw [hres]; exact hop, hx⟩
          · replace h45 := of_decide_eq_false h45
            have hk4 := h45
            refine wskip ?_
            refine bn ?_
            refine tn ?_
            refine wseq ?_
            refine reg_list ?_
            refine segp (ρ' := [(2, .pointer (some ⟨bz, 0, none⟩)), (7, .pointer (some ⟨ob, 0, none⟩)), (8, .pointer (some ⟨r, 0, none⟩)), (47, .func (.func 53) #[] #[]), (48, .pointer (some ⟨r, 0, none⟩))]) (C := []) ha 2 [] rfl (by kernel_rfl) .nil ?_
            clear ha a; intro a ha
            refine lcall (vs := #[.pointer (some ⟨r, 0, none⟩), .pointer (some ⟨ob, 0, none⟩)]) ha rfl (by kernel_rfl) rfl rfl (by kernel_rfl) (by kernel_rfl) (rblob_ok r ob ((s.getD 0 0).toNat : Int) (vtake (s.drop 1)).1 false w7 (by first | assumption | exact Ne.symm (by assumption)) hB_r hB_ob (by omega)) ?_
            clear ha a; rintro _ w20 ⟨rfl, hfr, hB_r', hB_ob'⟩ a ha
            have hB_r2 : w20.heap[r]? = some (.cells #[.string (S (rdBody ((s.getD 0 0).toNat : Int) (vtake (s.drop 1)).1).2.1), .bool (rdBody ((s.getD 0 0).toNat : Int) (vtake (s.drop 1)).1).2.2] 80 (0, 0)) := by rw [rdBody, if_neg hk2, if_neg hk3, if_neg hk4]; exact hB_r'
            have hB_ob2 : w20.heap[ob]? = some (.cells ⟨objC (rdBody ((s.getD 0 0).toNat : Int) (vtake (s.drop 1)).1).1 none 0 none 0⟩ 54 (0, 0)) := by rw [rdBody, if_neg hk2, if_neg hk3, if_neg hk4]; exact hB_ob'
            have hoe : Own w20 w.heap.size 89 34 none (rdBody ((s.getD 0 0).toNat : Int) (vtake (s.drop 1)).1).1.Entries.length 0 ((rdBody ((s.getD 0 0).toNat : Int) (vtake (s.drop 1)).1).1.Entries.flatMap encEnt) := by rw [rdBody, if_neg hk2, if_neg hk3, if_neg hk4]; exact own_nil _ _ _ _
            have hop : Own w20 w.heap.size 24 32 none (rdBody ((s.getD 0 0).toNat : Int) (vtake (s.drop 1)).1).1.Parents.length 0 ((rdBody ((s.getD 0 0).toNat : Int) (vtake (s.drop 1)).1).1.Parents.flatMap idc) := by rw [rdBody, if_neg hk2, if_neg hk3, if_neg hk4]; exact own_nil _ _ _ _
            have hB_bz2 := hfr.keep hB_bz (by intro x hx; simp only [List.mem_cons, List.not_mem_nil, or_false] at hx; rcases hx with rfl | rfl <;> first | assumption | exact Ne.symm (by assumption))
            replace hx := hfr.toExt hx (by intro x hx; simp only [List.mem_cons, List.not_mem_nil, or_false] at hx; rcases hx with rfl | rfl <;> assumption)
            clear hfr hB_r' hB_ob' hB_r hB_ob hB_bz
            have hB_r := hB_r2; have hB_ob := hB_ob2; have hB_bz := hB_bz2; clear hB_r2 hB_ob2 hB_bz2
            have hok := rdBody_ok ((s.getD 0 0).toNat : Int) hk256 (vtake (s.drop 1)).1 (by omega)
            refine lnil ?_
            replace ha := ha.sub (ρ' := [(2, .pointer (some ⟨bz, 0, none⟩)), (7, .pointer (some ⟨ob, 0, none⟩)), (8, .pointer (some ⟨r, 0, none⟩))]) (by kernel_rfl)
            refine tn ?_
            refine wseq ?_
            refine wseq ?_
            refine reg hmix (ρ' := [(2, .pointer (some ⟨bz, 0, none⟩)), (7, .pointer (some ⟨ob, 0, none⟩)), (65, .bool ((((rdBody ((s.getD 0 0).toNat : Int) (vtake (s.drop 1)).1).2.2) || (!decide (((rdBody ((s.getD 0 0).toNat : Int) (vtake (s.drop 1)).1).2.1 : List UInt8) = ([] : List UInt8)))) || (!(oMay (rdBody ((s.getD 0 0).toNat : Int) (vtake (s.drop 1)).1).1))))]) (C := [RunOk Tryd.prog w20 (Instr.loadAt 4 (.pointer (some ⟨r, 1, none⟩))) (.bool ((rdBody ((s.getD 0 0).toNat : Int) (vtake (s.drop 1)).1).2.2)), ((rdBody ((s.getD 0 0).toNat : Int) (vtake (s.drop 1)).1).2.2) = false → All [RunOk Tryd.prog w20 (Instr.loadAt 9 (.pointer (some ⟨r, 0, none⟩))) (.string (S ((rdBody ((s.getD 0 0).toNat : Int) (vtake (s.drop 1)).1).2.1)))], (((rdBody ((s.getD 0 0).toNat : Int) (vtake (s.drop 1)).1).2.2) || (!decide (((rdBody ((s.getD 0 0).toNat : Int) (vtake (s.drop 1)).1).2.1 : List UInt8) = ([] : List UInt8)))) = false → All [RunOk Tryd.prog w20 (Instr.loadAt 54 (.pointer (some ⟨ob, 0, none⟩))) (.agg ⟨objC ((rdBody ((s.getD 0 0).toNat : Int) (vtake (s.drop 1)).1).1) none 0 none 0⟩), CallOk Tryd.prog w20 57 #[.agg ⟨objC ((rdBody ((s.getD 0 0).toNat : Int) (vtake (s.drop 1)).1).1) none 0 none 0⟩] (.bool (oMay (rdBody ((s.getD 0 0).toNat : Int) (vtake (s.drop 1)).1).1))]]) ha [(3, .val (.bool ((rdBody ((s.getD 0 0).toNat : Int) (vtake (s.drop 1)).1).2.2))), (8, .val (.string (S ((rdBody ((s.getD 0 0).toNat : Int) (vtake (s.drop 1)).1).2.1)))), (12, .val (.agg ⟨objC ((rdBody ((s.getD 0 0).toNat : Int) (vtake (s.drop 1)).1).1) none 0 none 0⟩)), (13, .val (.bool (oMay (rdBody ((s.getD 0 0).toNat : Int) (vtake (s.drop 1)).1).1)))] (by kernel_rfl) (.cons (ld1 hB_r (by kernel_rfl) rfl) (.cons (fun hg5 => by exact (.cons (ld1 hB_r (by kernel_rfl) rfl) .nil)) (.cons (fun hg12 => by simp only [Bool.not_eq_true', Bool.not_eq_false', Bool.and_eq_true, Bool.or_eq_true, Bool.and_eq_false_iff, Bool.or_eq_false_iff, decide_eq_true_eq, decide_eq_false_iff_not, Bool.not_eq_true, Decidable.not_not] at hg12; exact (.cons (ldN (n := 72) hB_ob (by kernel_rfl) (by kernel_rfl) ⟨Nat.le_of_ble_eq_true (by kernel_rfl), (by kernel_rfl)⟩) (.cons (fun w2 h2 => may_ok (rdBody ((s.getD 0 0).toNat : Int) (vtake (s.drop 1)).1).1 _ _ _ _ w2 (rdE h2 (own_rd hoe)) (rdE h2 (own_rd hop)) hok) .nil))) .nil))) ?_
            clear ha a; intro a w21 ha he
            replace hx := hx.tr he
            replace hB_bz := keepB he hB_bz
            replace hB_ob := keepB he hB_ob
            replace hB_r := keepB he hB_r
            replace hoe := ownE he hoe
            replace hop := ownE he hop
            clear he
            refine tn ?_
            refine wif ha rfl (fun h65 => ?_) (fun h65 => ?_)
            · simp only [Bool.not_eq_true', Bool.not_eq_false', Bool.and_eq_true, Bool.or_eq_true, Bool.and_eq_false_iff, Bool.or_eq_false_iff, decide_eq_true_eq, decide_eq_false_iff_not, Bool.not_eq_true, Decidable.not_not] at h65
              have hres : oDec s = (obj0, 2) := by
                unfold oDec
                rw [if_neg hc1, if_neg hc2]
                simp only
                rw [if_pos]
                rcases h65 with (h | h) | h
                · exact .inl h
                · exact .inr (.inl h)
                · exact .inr (.inr h)
              refine wseq ?_
              refine reg_list ?_
              refine segp (ρ' := [(2, .pointer (some ⟨bz, 0, none⟩)), (66, .agg ⟨.int .i64 0 :: (.string (S []) :: (.slice none 0 0 :: ((idc idZ) ++ (.slice none 0 0 :: (.int .u32 0 :: (.string (S []) :: ((idc idZ) ++ (.int .i64 0 :: ([.string (S [])])))))))))⟩)]) (C := []) ha 1 [] rfl (by kernel_rfl) .nil ?_
              clear ha a; intro a ha
              refine lstore (off := 0) ha rfl rfl (by kernel_rfl) hB_bz ⟨.int .i64 0 :: (.string (S []) :: (.slice none 0 0 :: ((idc idZ) ++ (.slice none 0 0 :: (.int .u32 0 :: (.string (S []) :: ((idc idZ) ++ (.int .i64 0 :: ([.string (S [])])))))))))⟩ rfl (by kernel_rfl) (by kernel_rfl) ?_
              clear ha a; intro w22 hc a ha
              replace hB_ob := hc.keep hB_ob (by first | assumption | exact Ne.symm (by assumption))
              replace hB_r := hc.keep hB_r (by first | assumption | exact Ne.symm (by assumption))
              replace hoe := ownC hc hB_bz rfl hoe
              replace hop := ownC hc hB_bz rfl hop
              replace hx := hc.ext hx hb_bz
              replace hB_bz := hc.at_; clear hc
              refine segp (ρ' := [(2, .pointer (some ⟨bz, 0, none⟩)), (3, .int .i64 2)]) (C := []) ha 1 [] rfl (by kernel_rfl) .nil ?_
              clear ha a; intro a ha
              refine lnil ?_
              replace ha := ha.sub (ρ' := [(2, .pointer (some ⟨bz, 0, none⟩)), (3, .int .i64 2)]) (by kernel_rfl)
              refine tn ?_
              refine wret ?_
              refine (tr ?_)
              refine fin ha (.cell rfl (ldVN (n := 72) (vs := ⟨.int .i64 0 :: (.string (S []) :: (.slice none 0 0 :: ((idc idZ) ++ (.slice none 0 0 :: (.int .u32 0 :: (.string (S []) :: ((idc idZ) ++ (.int .i64 0 :: ([.string (S [])])))))))))⟩) hB_bz (by kernel_rfl) (by kernel_rfl) ⟨Nat.le_of_ble_eq_true (by kernel_rfl), (by kernel_rfl)⟩) (.tmp rfl .nil)) ?_
              exact ⟨none, 0, none, 0, by rw [hres]; rfl, by rw [hres]; exact own_nil _ _ _ _, by rw [hres]; exact own_nil _ _ _ _, hx⟩
            · simp only [Bool.not_eq_true', Bool.not_eq_false', Bool.and_eq_true, Bool.or_eq_true, Bool.and_eq_false_iff, Bool.or_eq_false_iff, decide_eq_true_eq, decide_eq_false_iff_not, Bool.not_eq_true, Decidable.not_not] at h65
              have hres : oDec s = ((rdBody ((s.getD 0 0).toNat : Int) (vtake (s.drop 1)).1).1, 0) := by
                unfold oDec
                rw [if_neg hc1, if_neg hc2]
                simp only
                rw [if_neg]
                rintro (h | h | h)
                · rw [h65.1.1] at h; cases h
                · exact h h65.1.2
                · rw [h65.2] at h; cases h
              refine wskip ?_
              refine tn ?_
              refine wseq ?_
              refine reg_list ?_
              refine segp (ρ' := [(2, .pointer (some ⟨bz, 0, none⟩)), (67, .agg ⟨objC ((rdBody ((s.getD 0 0).toNat : Int) (vtake (s.drop 1)).1).1) none 0 none 0⟩)]) (C := [RunOk Tryd.prog w21 (Instr.loadAt 54 (.pointer (some ⟨ob, 0, none⟩))) (.agg ⟨objC ((rdBody ((s.getD 0 0).toNat : Int) (vtake (s.drop 1)).1).1) none 0 none 0⟩)]) ha 1 [(0, .val (.agg ⟨objC ((rdBody ((s.getD 0 0).toNat : Int) (vtake (s.drop 1)).1).1) none 0 none 0⟩))] rfl (by kernel_rfl) (.cons (ldN (n := 72) hB_ob (by kernel_rfl) (by kernel_rfl) ⟨Nat.le_of_ble_eq_true (by kernel_rfl), (by kernel_rfl)⟩) .nil) ?_
              clear ha a; intro a ha
              refine lstore (off := 0) ha rfl rfl (by kernel_rfl) hB_bz ⟨objC ((rdBody ((s.getD 0 0).toNat : Int) (vtake (s.drop 1)).1).1) none 0 none 0⟩ rfl (by kernel_rfl) (by kernel_rfl) ?_
              clear ha a; intro w23 hc a ha
              replace hB_ob := hc.keep hB_ob (by first | assumption | exact Ne.symm (by assumption))
              replace hB_r := hc.keep hB_r (by first | assumption | exact Ne.symm (by assumption))
              replace hoe := ownC hc hB_bz rfl hoe
              replace hop := ownC hc hB_bz rfl hop
              replace hx := hc.ext hx hb_bz
              replace hB_bz := hc.at_; clear hc
              refine segp (ρ' := [(2, .pointer (some ⟨bz, 0, none⟩)), (3, .int .i64 0)]) (C := []) ha 1 [] rfl (by kernel_rfl) .nil ?_
              clear ha a; intro a ha
              refine lnil ?_
              replace ha := ha.sub (ρ' := [(2, .pointer (some ⟨bz, 0, none⟩)), (3, .int .i64 0)]) (by kernel_rfl)
              refine tn ?_
              refine wret ?_
              refine fin ha (.cell rfl (ldVN (n := 72) (vs := ⟨objC ((rdBody ((s.getD 0 0).toNat : Int) (vtake (s.drop 1)).1).1) none 0 none 0⟩) hB_bz (by kernel_rfl) (by kernel_rfl) ⟨Nat.le_of_ble_eq_true (by kernel_rfl), (by kernel_rfl)⟩) (.tmp rfl .nil)) ?_
              exact ⟨_, _, _, _, by rw [hres]; rfl, by rw [hres]; exact hoe, by rw [hres]; exact hop, hx⟩
end Go.Kn
end
