/- Objects, plain: what was encoded is decoded as it was; what is decoded has that encoding (P4.3). -/
import Derived.Test.YtihmegmambmljaaPlainI
set_option linter.unusedVariables false
namespace Go.Kn
theorem ofNat_toNat (c : UInt8) : UInt8.ofNat c.toNat = c := by apply UInt8.toNat_inj.1; simp
theorem ofNat_eq {n : Nat} {c : UInt8} (h : n = c.toNat) : UInt8.ofNat n = c := by rw [h, ofNat_toNat]
/-- what a number was read from -/
theorem vgo_inv : ∀ (l : List UInt8) (f i acc m : Nat) (r : List UInt8), f + i = 9 → vgo l i acc = (m, r, 0) → ∃ k, m = acc + k * 2 ^ (7 * i) ∧ l = vputf f k ++ r ∧ (0 < i → 0 < k) := by
  intro l
  induction l with
  | nil => intro f i acc m r _ h; simp [vgo] at h
  | cons c l ih =>
    intro f i acc m r hf h
    have hc := UInt8.toNat_lt c
    unfold vgo at h
    by_cases h1 : 10 ≤ i
    · rw [if_pos h1] at h; simp at h
    rw [if_neg h1] at h
    by_cases h2 : i = 9 ∧ 1 < c.toNat
    · rw [if_pos h2] at h; simp at h
    rw [if_neg h2] at h
    by_cases h3 : 128 ≤ c.toNat
    · rw [if_pos h3] at h
      obtain ⟨g, rfl⟩ : ∃ g, f = g + 1 := ⟨f - 1, by omega⟩
      obtain ⟨k, e1, e2, e3⟩ := ih g (i + 1) _ m r (by omega) h
      have hk := e3 (by omega)
      refine ⟨c.toNat % 128 + 128 * k, ?_, ?_, fun _ => by omega⟩
      · rw [e1, Nat.add_mul, show 7 * (i + 1) = 7 * i + 7 by omega, Nat.pow_add, Nat.mul_assoc 128, Nat.add_assoc]
        congr 2
        rw [show (2 : Nat) ^ 7 = 128 from rfl, Nat.mul_comm (2 ^ (7 * i)) 128, ← Nat.mul_assoc, ← Nat.mul_assoc, Nat.mul_comm k 128]
      · unfold vputf
        rw [if_neg (by omega), show (c.toNat % 128 + 128 * k) / 128 = k by omega, show 128 + (c.toNat % 128 + 128 * k) % 128 = c.toNat by omega, ofNat_toNat, e2]
        rfl
    rw [if_neg h3] at h
    by_cases h4 : c.toNat = 0 ∧ 0 < i
    · rw [if_pos h4] at h; simp at h
    rw [if_neg h4] at h
    simp only [Prod.mk.injEq, and_true] at h
    refine ⟨c.toNat, ?_, ?_, fun _ => by omega⟩
    · rw [← h.1, Nat.mod_eq_of_lt (by omega)]
    · cases f with
      | zero => simp [vputf, h.2]
      | succ f => unfold vputf; rw [if_pos (by omega), ofNat_toNat, h.2]; rfl
theorem vget_inv {s : List UInt8} (h : (vget s).2.2 = 0) : s = vput (vget s).1 ++ (vget s).2.1 := by
  obtain ⟨k, e1, e2, _⟩ := vgo_inv s 9 0 0 (vget s).1 (vget s).2.1 rfl (by
    show vget s = _
    rw [← h])
  rw [Nat.zero_add, Nat.mul_zero, Nat.pow_zero, Nat.mul_one] at e1
  rw [e1]; exact e2
theorem vtake_put {t : List UInt8} (h : t.length < 18446744073709551616) (r : List UInt8) : vtake (vtext t ++ r) = (t, r, 0) := by
  unfold vtake vtext
  rw [List.append_assoc, vget_put h, if_neg (by simp)]
  simp
theorem vtake_inv {s : List UInt8} (h : (vtake s).2.2 = 0) : s = vtext (vtake s).1 ++ (vtake s).2.1 := by
  unfold vtake at h ⊢
  by_cases h1 : (vget s).2.2 ≠ 0 ∨ (vget s).2.1.length < (vget s).1
  · rw [if_pos h1] at h; simp at h
  · rw [if_neg h1]
    simp only [not_or] at h1
    have := vget_inv (s := s) (by omega)
    unfold vtext
    simp only
    rw [List.length_take, Nat.min_eq_left (by omega), List.append_assoc, List.take_append_drop]
    exact this
/-! ## reading what was written -/
theorem rdB_put (a r : List UInt8) (n : Nat) (h : a.length = n) : rdB (a ++ r) false n = (a, r, false) := by
  unfold rdB
  rw [if_neg (by simp; omega)]
  subst h
  simp
theorem rdK_put (k : Int) (h : 0 ≤ k ∧ k < 256) (r : List UInt8) : rdK (oneB8 k ++ r) false = (k, r, false) := by
  unfold rdK
  rw [rdB_put _ _ 1 rfl]
  have : (UInt8.ofNat (k % 256).toNat).toNat = k.toNat := by
    rw [show k % 256 = k by omega]; exact u8_ofNat (by omega)
  simp [oneB8, this]; omega
theorem rdT_put {t : List UInt8} (h : t.length < 18446744073709551616) (r : List UInt8) : rdT (vtext t ++ r) false = (t, r, false) := by
  unfold rdT
  rw [vtake_put h]; simp
theorem rdN_put {n : Nat} (h : n < 18446744073709551616) (r : List UInt8) : rdN (vput n ++ r) false = (n, r, false) := by
  unfold rdN
  rw [vget_put h]; simp
theorem rdI_put (x : Id) (r : List UInt8) : rdI (x.l ++ r) false = (x, r, false) := by
  unfold rdI
  rw [rdB_put _ _ 32 x.h, mkId_self]
theorem rdE1_put (e : EntR) (h : 0 ≤ e.Kind ∧ e.Kind < 256) (hn : e.Name.length < 18446744073709551616) (r : List UInt8) : rdE1 (entEnc e ++ r) false = (e, r, false) := by
  unfold rdE1 entEnc
  simp only [List.append_assoc]
  rw [rdK_put _ h, rdT_put hn, rdI_put]
theorem entEnc_pos (e : EntR) : 0 < (entEnc e).length := by simp [entEnc, oneB8]
theorem rdTree_put : ∀ (l : List EntR) (f : Nat), (l.flatMap entEnc).length ≤ f → (∀ e ∈ l, (0 ≤ e.Kind ∧ e.Kind < 256) ∧ e.Name.length < 18446744073709551616) → rdTree f (l.flatMap entEnc) false = (l, [], false) := by
  intro l
  induction l with
  | nil => intro f _ _; cases f <;> simp [rdTree]
  | cons e l ih =>
    intro f hf h
    have hp := entEnc_pos e
    rw [List.flatMap_cons, List.length_append] at hf
    obtain ⟨g, rfl⟩ : ∃ g, f = g + 1 := ⟨f - 1, by omega⟩
    unfold rdTree
    rw [List.flatMap_cons, if_neg (by simp; intro h0; rw [h0] at hp; simp at hp), rdE1_put e (h e (by simp)).1 (h e (by simp)).2, ih g (by omega) (fun e he => h e (by simp [he]))]
theorem rdIds_put : ∀ (l : List Id) (r : List UInt8), rdIds l.length (l.flatMap Id.l ++ r) false = (l, r, false) := by
  intro l
  induction l with
  | nil => intro r; simp [rdIds]
  | cons x l ih =>
    intro r
    simp only [List.length_cons, rdIds, Bool.false_eq_true, if_false, List.flatMap_cons, List.append_assoc]
    rw [rdI_put, ih]
theorem entsTo_at {l : List EntR} {n i : Nat} (h : entsTo l n = true) (hi : i < n) : entOk l i = true := by
  unfold entsTo at h
  exact List.all_eq_true.1 h i (List.mem_range.2 hi)
theorem oName_len {s : List UInt8} (h : oName s = true) : 1 ≤ s.length ∧ s.length ≤ 40 := by
  unfold oName at h
  simp only [decide_eq_true_eq] at h
  exact ⟨List.length_pos_iff.2 h.1, h.2.1⟩
theorem entOk_spec {l : List EntR} {i : Nat} (h : entOk l i = true) : (l.getD i default).Name.length ≤ 40 ∧ (1 ≤ (l.getD i default).Kind ∧ (l.getD i default).Kind ≤ 2) := by
  unfold entOk at h
  simp only [Bool.and_eq_true, decide_eq_true_eq] at h
  exact ⟨(oName_len h.1.1).2, by omega⟩
theorem ents_spec {l : List EntR} (h : entsTo l l.length = true) : ∀ e ∈ l, e.Name.length ≤ 40 ∧ 1 ≤ e.Kind ∧ e.Kind ≤ 2 := by
  intro e he
  obtain ⟨i, hi, rfl⟩ := List.mem_iff_getElem.1 he
  have := entOk_spec (entsTo_at h hi)
  rwa [List.getD_eq_getElem?_getD, List.getElem?_eq_getElem hi] at this
/-- a body, read again -/
theorem rdBody_put {o : ObjL} (h : oMay o = true) (hl : (oBody o).length ≤ 4096) (ht : o.Time < 4294967296) : rdBody o.Kind (oBody o) = (o, [], false) := by
  have hda := data_le h
  have hta := text_le h
  rw [oMay_iff] at h
  obtain ⟨k, d, e, c, t, n, l1, l2, l3⟩ := h
  by_cases h2 : o.Kind = 2
  · have hb : oBody o = o.Entries.flatMap entEnc := by unfold oBody oEnts; simp [h2]
    unfold rdBody
    rw [if_pos h2, hb, rdTree_put _ _ (Nat.le_refl _) (fun e he => ⟨by have := ents_spec l3 e he; omega, by have := ents_spec l3 e he; omega⟩)]
    cases o
    simp_all
  by_cases h3 : o.Kind = 3
  · have hb : oBody o = o.Tree.l ++ (vput o.Parents.length ++ (o.Parents.flatMap Id.l ++ (vput o.Time ++ (vtext o.Text ++ [])))) := by unfold oBody oPars; simp [h3]
    unfold rdBody
    rw [if_neg h2, if_pos h3, hb]
    have : rdCom (o.Tree.l ++ (vput o.Parents.length ++ (o.Parents.flatMap Id.l ++ (vput o.Time ++ (vtext o.Text ++ []))))) false = (⟨o.Tree, o.Parents, o.Time, o.Text⟩, [], false) := by
      unfold rdCom
      simp only
      rw [rdI_put]
      simp only
      rw [rdN_put (by omega)]
      simp only
      rw [show ((false || decide (8 < o.Parents.length)) : Bool) = false by simp; omega, rdIds_put]
      simp only
      rw [rdN_put (by omega)]
      simp only
      rw [show ((false || decide (4294967295 < o.Time)) : Bool) = false by simp; omega, rdT_put (by omega)]
      simp only
      rw [Nat.mod_eq_of_lt ht]
    rw [this]
    cases o
    simp_all
  by_cases h4 : o.Kind = 4
  · have hb : oBody o = oneB8 o.Of ++ (o.Target.l ++ (vtext o.Name ++ [])) := by unfold oBody; simp [h4]
    have hn := oName_len (n h4).2
    unfold rdBody
    rw [if_neg h2, if_neg h3, if_pos h4, hb]
    have : rdTag (oneB8 o.Of ++ (o.Target.l ++ (vtext o.Name ++ []))) false = ((o.Of, o.Target, o.Name), [], false) := by
      unfold rdTag
      simp only
      rw [rdK_put _ (by have := (n h4).1; omega)]
      simp only
      rw [rdI_put]
      simp only
      rw [rdT_put (by omega)]
    rw [this]
    cases o
    simp_all
  · have h1 : o.Kind = 1 := by omega
    have hb : oBody o = o.Data := by unfold oBody; simp [h1]
    unfold rdBody
    rw [if_neg h2, if_neg h3, if_neg h4, hb]
    have : rdB o.Data false o.Data.length = (o.Data, [], false) := by unfold rdB; simp
    rw [this]
    cases o
    simp_all
/-- P4.3, one way -/
theorem dec_enc {o : ObjL} (ht : o.Time < 4294967296) (h : (oEnc o).2 = 0) : oDec (oEnc o).1 = (o, 0) ∧ (oEnc o).1.length ≤ 4096 := by
  unfold oEnc at h ⊢
  by_cases h1 : 4096 < o.Data.length ∨ 4096 < o.Text.length ∨ oMay o = false
  · rw [if_pos h1] at h; simp at h
  rw [if_neg h1] at h ⊢
  by_cases h2 : 4096 < (oEncS o).length
  · rw [if_pos h2] at h; simp at h
  rw [if_neg h2]
  have hm : oMay o = true := by simp only [not_or] at h1; simpa using h1.2.2
  have hk := ((oMay_iff o).1 hm).1
  have hv := vtext_ge (oBody o)
  have hs : (oEncS o).length = 1 + (vtext (oBody o)).length := by unfold oEncS; simp [oneB8]; omega
  refine ⟨?_, by simp only; omega⟩
  have e1 : (oEncS o).drop 1 = vtext (oBody o) ++ [] := by unfold oEncS; simp [oneB8]
  have e0 : (((oEncS o).getD 0 0).toNat : Int) = o.Kind := by
    unfold oEncS oneB8
    have : (UInt8.ofNat (o.Kind % 256).toNat).toNat = o.Kind.toNat := by
      rw [show o.Kind % 256 = o.Kind by omega]; exact u8_ofNat (by omega)
    simp [this]; omega
  simp only
  unfold oDec
  rw [if_neg (by simp only [not_or]; exact ⟨fun h0 => by rw [h0] at hs; simp at hs; omega, by omega⟩), e1, vtake_put (by omega), if_neg (by simp)]
  simp only
  rw [e0, rdBody_put hm (by omega) ht]
  simp [hm]
end Go.Kn
namespace Go.Kn
/-! ## what was read, written again -/
theorem rdB_inv {s : List UInt8} {bad : Bool} {n : Nat} (h : (rdB s bad n).2.2 = false) : bad = false ∧ s = (rdB s bad n).1 ++ (rdB s bad n).2.1 ∧ (rdB s bad n).1.length = n := by
  unfold rdB at h ⊢
  by_cases h1 : bad = true ∨ s.length < n
  · rw [if_pos h1] at h; cases h
  · rw [if_neg h1]
    simp only [not_or] at h1
    exact ⟨by simpa using h1.1, by simp, by simp; omega⟩
theorem rdK_inv {s : List UInt8} {bad : Bool} (h : (rdK s bad).2.2 = false) : bad = false ∧ s = oneB8 (rdK s bad).1 ++ (rdK s bad).2.1 := by
  obtain ⟨h1, h2, h3⟩ := rdB_inv (s := s) (bad := bad) (n := 1) h
  refine ⟨h1, ?_⟩
  have e : rdK s bad = ((((rdB s bad 1).1.getD 0 0).toNat : Int), (rdB s bad 1).2) := by
    unfold rdK; rw [if_neg (by rw [show (rdB s bad 1).2.2 = false from h]; simp)]
  rw [e]
  match hb : (rdB s bad 1).1, h3 with
  | [c], _ =>
    rw [hb] at h2
    have hc := UInt8.toNat_lt c
    have : oneB8 ((([c].getD 0 0).toNat : Nat) : Int) = [c] := by
      unfold oneB8
      have : (((([c].getD 0 0).toNat : Nat) : Int) % 256).toNat = c.toNat := by simp; omega
      rw [this, ofNat_toNat]
    simp only
    rw [this]; exact h2
theorem rdT_inv {s : List UInt8} {bad : Bool} (h : (rdT s bad).2.2 = false) : bad = false ∧ s = vtext (rdT s bad).1 ++ (rdT s bad).2.1 := by
  unfold rdT at h ⊢
  by_cases h1 : bad = true ∨ (vtake s).2.2 ≠ 0
  · rw [if_pos h1] at h; cases h
  · rw [if_neg h1]
    simp only [not_or] at h1
    exact ⟨by simpa using h1.1, vtake_inv (by omega)⟩
theorem rdN_inv {s : List UInt8} {bad : Bool} (h : (rdN s bad).2.2 = false) : bad = false ∧ s = vput (rdN s bad).1 ++ (rdN s bad).2.1 := by
  unfold rdN at h ⊢
  by_cases h1 : bad = true ∨ (vget s).2.2 ≠ 0
  · rw [if_pos h1] at h; cases h
  · rw [if_neg h1]
    simp only [not_or] at h1
    exact ⟨by simpa using h1.1, vget_inv (by omega)⟩
theorem rdI_inv {s : List UInt8} {bad : Bool} (h : (rdI s bad).2.2 = false) : bad = false ∧ s = (rdI s bad).1.l ++ (rdI s bad).2.1 := by
  obtain ⟨h1, h2, h3⟩ := rdB_inv (s := s) (bad := bad) (n := 32) h
  refine ⟨h1, ?_⟩
  unfold rdI
  simp only
  rw [mkId_l h3]; exact h2
theorem rdE1_inv {s : List UInt8} {bad : Bool} (h : (rdE1 s bad).2.2 = false) : bad = false ∧ s = entEnc (rdE1 s bad).1 ++ (rdE1 s bad).2.1 := by
  unfold rdE1 at h ⊢
  simp only at h ⊢
  obtain ⟨h1, e1⟩ := rdI_inv h
  obtain ⟨h2, e2⟩ := rdT_inv h1
  obtain ⟨h3, e3⟩ := rdK_inv h2
  refine ⟨h3, ?_⟩
  unfold entEnc
  simp only [List.append_assoc]
  rw [← e1, ← e2, ← e3]
theorem rdTree_inv : ∀ (f : Nat) (s : List UInt8) (bad : Bool), (rdTree f s bad).2.2 = false → bad = false ∧ s = (rdTree f s bad).1.flatMap entEnc ++ (rdTree f s bad).2.1 := by
  intro f
  induction f with
  | zero => intro s bad h; exact ⟨h, by simp [rdTree]⟩
  | succ f ih =>
    intro s bad h
    unfold rdTree at h ⊢
    by_cases h1 : bad = true ∨ s = []
    · rw [if_pos h1] at h ⊢; exact ⟨h, by simp⟩
    · rw [if_neg h1] at h ⊢
      obtain ⟨h2, e2⟩ := ih _ _ h
      obtain ⟨h3, e3⟩ := rdE1_inv h2
      refine ⟨h3, ?_⟩
      simp only [List.flatMap_cons, List.append_assoc]
      rw [← e2]; exact e3
theorem rdIds_inv : ∀ (n : Nat) (s : List UInt8) (bad : Bool), (rdIds n s bad).2.2 = false → bad = false ∧ s = (rdIds n s bad).1.flatMap Id.l ++ (rdIds n s bad).2.1 ∧ (rdIds n s bad).1.length = n := by
  intro n
  induction n with
  | zero => intro s bad h; exact ⟨h, by simp [rdIds], by simp [rdIds]⟩
  | succ n ih =>
    intro s bad h
    unfold rdIds at h ⊢
    by_cases h1 : bad = true
    · rw [if_pos h1] at h; rw [h1] at h; cases h
    · rw [if_neg h1] at h ⊢
      obtain ⟨h2, e2, e4⟩ := ih _ _ h
      obtain ⟨h3, e3⟩ := rdI_inv h2
      refine ⟨h3, ?_, by simp [e4]⟩
      simp only [List.flatMap_cons, List.append_assoc]
      rw [← e2]; exact e3
theorem rdCom_inv {s : List UInt8} (h : (rdCom s false).2.2 = false) : s = (rdCom s false).1.Tree.l ++ (vput (rdCom s false).1.Parents.length ++ ((rdCom s false).1.Parents.flatMap Id.l ++ (vput (rdCom s false).1.Time ++ (vtext (rdCom s false).1.Text ++ (rdCom s false).2.1)))) := by
  unfold rdCom at h ⊢
  simp only at h ⊢
  obtain ⟨h1, e1⟩ := rdT_inv h
  simp only [Bool.or_eq_false_iff, decide_eq_false_iff_not] at h1
  obtain ⟨h2, e2⟩ := rdN_inv h1.1
  obtain ⟨h3, e3, e4⟩ := rdIds_inv _ _ _ h2
  simp only [Bool.or_eq_false_iff, decide_eq_false_iff_not] at h3
  obtain ⟨h5, e5⟩ := rdN_inv h3.1
  obtain ⟨h6, e6⟩ := rdI_inv h5
  rw [e4, ← e1, Nat.mod_eq_of_lt (by omega), ← e2, ← e3, ← e5, ← e6]
theorem rdTag_inv {s : List UInt8} (h : (rdTag s false).2.2 = false) : s = oneB8 (rdTag s false).1.1 ++ ((rdTag s false).1.2.1.l ++ (vtext (rdTag s false).1.2.2 ++ (rdTag s false).2.1)) := by
  unfold rdTag at h ⊢
  simp only at h ⊢
  obtain ⟨h1, e1⟩ := rdT_inv h
  obtain ⟨h2, e2⟩ := rdI_inv h1
  obtain ⟨h3, e3⟩ := rdK_inv h2
  rw [← e1, ← e2, ← e3]
theorem rdBody_inv {k : Int} {s : List UInt8} (h : (rdBody k s).2.2 = false) (h0 : (rdBody k s).2.1 = []) (hm : oMay (rdBody k s).1 = true) : s = oBody (rdBody k s).1 ∧ (rdBody k s).1.Kind = k := by
  have hk := ((oMay_iff _).1 hm).1
  unfold rdBody at h h0 hm hk ⊢
  by_cases h2 : k = 2
  · rw [if_pos h2] at h h0 ⊢
    have := (rdTree_inv _ _ _ h).2
    simp only at h0
    rw [h0, List.append_nil] at this
    refine ⟨?_, rfl⟩
    unfold oBody oEnts
    simp only [h2]
    simpa using this
  by_cases h3 : k = 3
  · rw [if_neg h2, if_pos h3] at h h0 ⊢
    have := rdCom_inv h
    simp only at h0
    rw [h0] at this
    refine ⟨?_, rfl⟩
    unfold oBody oPars
    simp only [h3]
    simpa using this
  by_cases h4 : k = 4
  · rw [if_neg h2, if_neg h3, if_pos h4] at h h0 ⊢
    have := rdTag_inv h
    simp only at h0
    rw [h0] at this
    refine ⟨?_, rfl⟩
    unfold oBody
    simp only [h4]
    simpa using this
  · rw [if_neg h2, if_neg h3, if_neg h4] at h h0 hk ⊢
    simp only at hk
    have h1 : k = 1 := by omega
    have := (rdB_inv h).2.1
    simp only at h0
    rw [h0, List.append_nil] at this
    refine ⟨?_, rfl⟩
    unfold oBody
    simp only [h1]
    simpa using this
theorem oDec_may {s : List UInt8} (h : (oDec s).2 = 0) : oMay (oDec s).1 = true ∧ s = oEncS (oDec s).1 ∧ s.length ≤ 4096 := by
  unfold oDec at h ⊢
  by_cases h1 : s = [] ∨ 4096 < s.length
  · rw [if_pos h1] at h; simp at h
  rw [if_neg h1] at h ⊢
  by_cases h2 : (vtake (s.drop 1)).2.2 ≠ 0 ∨ (vtake (s.drop 1)).2.1 ≠ []
  · rw [if_pos h2] at h; simp at h
  rw [if_neg h2] at h ⊢
  simp only at h ⊢
  by_cases h3 : (rdBody ((s.getD 0 0).toNat : Int) (vtake (s.drop 1)).1).2.2 = true ∨ (rdBody ((s.getD 0 0).toNat : Int) (vtake (s.drop 1)).1).2.1 ≠ [] ∨ oMay (rdBody ((s.getD 0 0).toNat : Int) (vtake (s.drop 1)).1).1 = false
  · rw [if_pos h3] at h; simp at h
  rw [if_neg h3]
  simp only [not_or, Bool.not_eq_true, Bool.not_eq_false, ne_eq, Decidable.not_not] at h1 h2 h3
  refine ⟨h3.2.2, ?_, by omega⟩
  obtain ⟨e1, e2⟩ := rdBody_inv h3.1 h3.2.1 h3.2.2
  have e3 := vtake_inv h2.1
  rw [h2.2, List.append_nil] at e3
  unfold oEncS
  rw [e2, ← e1, ← e3]
  match s, h1.1 with
  | c :: s, _ =>
    have hc := UInt8.toNat_lt c
    have : oneB8 ((((c :: s).getD 0 0).toNat : Nat) : Int) = [c] := by
      unfold oneB8
      have : (((((c :: s).getD 0 0).toNat : Nat) : Int) % 256).toNat = c.toNat := by simp; omega
      rw [this, ofNat_toNat]
    rw [this]; rfl
/-- P4.3, the other way -/
theorem enc_dec {s : List UInt8} (h : (oDec s).2 = 0) : oEnc (oDec s).1 = (s, 0) := by
  obtain ⟨hm, hs, hl⟩ := oDec_may h
  have h1 := data_le hm
  have h2 := text_le hm
  have h3 := vtext_ge (oBody (oDec s).1)
  have h4 : (vtext (oBody (oDec s).1)).length ≤ (oEncS (oDec s).1).length := by unfold oEncS; simp
  rw [← hs] at h4
  unfold oEnc
  rw [if_neg (by simp [hm]; omega), ← hs, if_neg (by omega)]
theorem oDec_few (s : List UInt8) : FewOk (oDec s).1 := by
  by_cases h : (oDec s).2 = 0
  · obtain ⟨hm, hs, hl⟩ := oDec_may h
    have h1 := data_le hm
    have h2 := text_le hm
    have h3 := vtext_ge (oBody (oDec s).1)
    have h4 : (vtext (oBody (oDec s).1)).length ≤ (oEncS (oDec s).1).length := by unfold oEncS; simp
    rw [← hs] at h4
    obtain ⟨k, d, e, c, t, n, l1, l2, l3⟩ := (oMay_iff _).1 hm
    refine ⟨by omega, by omega, by omega, by omega, ?_, fun i hi => by have := (ents_spec l3 _ (getD_mem hi)).1; omega⟩
    by_cases hk : (oDec s).1.Kind = 4
    · have := (oName_len (n hk).2).2; omega
    · rw [(t hk).2.2]; simp
  · have : (oDec s).1 = obj0 := by
      unfold oDec at h ⊢
      split
      · rfl
      split
      · rfl
      simp only
      rename_i h1 h2
      rw [if_neg h1, if_neg h2] at h
      simp only at h
      split
      · rfl
      · rename_i h3; rw [if_neg h3] at h; simp at h
    rw [this]
    exact ⟨by simp [obj0], by simp [obj0], by simp [obj0], by simp [obj0], by simp [obj0], fun i hi => by simp [obj0] at hi⟩
end Go.Kn
