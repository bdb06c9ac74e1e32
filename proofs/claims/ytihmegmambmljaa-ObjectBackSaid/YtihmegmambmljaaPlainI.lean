/- Objects: what the program's encoding is. -/
import Derived.Test.YtihmegmambmljaaPlainH
import Derived.Test.YtihmegmambmljaaEngP
set_option linter.unusedVariables false
namespace Go.Kn
def oEncS (o : ObjL) : List UInt8 := oneB8 o.Kind ++ vtext (oBody o)
/-- the program's encoding: the text, and the error -/
def oEnc (o : ObjL) : List UInt8 × Int :=
  if 4096 < o.Data.length ∨ 4096 < o.Text.length ∨ oMay o = false then ([], 1)
  else if 4096 < (oEncS o).length then ([], 1) else (oEncS o, 0)
theorem oBody_len {o : ObjL} (h : FewOk o) : (oBody o).length ≤ 50000 := by
  have h1 := oEnts_len h _ (Nat.le_refl _)
  have h2 := oPars_len h _ (Nat.le_refl _)
  have h3 := vput_len o.Time
  have h4 := vtext_len o.Text
  have h5 := vtext_len o.Name
  have h6 := o.Target.h
  have := h.e; have := h.p; have := h.t; have := h.n; have := h.d
  have hl5 : (oneB8 o.Of).length = 1 := rfl
  unfold oBody
  split
  · omega
  split
  · omega
  split
  · simp only [List.length_append]; omega
  split
  · simp only [List.length_append]; omega
  · simp
theorem data_le {o : ObjL} (h : oMay o = true) : o.Data.length ≤ (oBody o).length := by
  rw [oMay_iff] at h
  unfold oBody
  by_cases h1 : o.Kind = 1
  · simp [h1]
  · rw [h.2.1 h1]; simp
theorem text_le {o : ObjL} (h : oMay o = true) : o.Text.length ≤ (oBody o).length := by
  rw [oMay_iff] at h
  by_cases h3 : o.Kind = 3
  · unfold oBody vtext; simp [h3]; omega
  · rw [(h.2.2.2.1 h3).2.2.2]; simp
theorem vtext_ge (l : List UInt8) : l.length ≤ (vtext l).length := by
  unfold vtext; rw [List.length_append]; omega
/-- the document's encoding is the program's -/
theorem enc_same {o : ObjL} : rEnc o = ((oEnc o).1, decide ((oEnc o).2 = 0)) := by
  unfold rEnc oEnc
  by_cases hm : oMay o = true
  · have h1 := data_le hm
    have h2 := text_le hm
    have h3 := vtext_ge (oBody o)
    rw [if_pos hm, body_same hm]
    have h4 : (oneB8 o.Kind ++ vtext (oBody o)) = oEncS o := rfl
    rw [h4]
    have h5 : (vtext (oBody o)).length < (oEncS o).length := by unfold oEncS; simp [oneB8]
    by_cases h : 4096 < (oEncS o).length
    · rw [if_pos h]
      split
      · simp
      · simp
    · rw [if_neg h, if_neg (by simp [hm]; omega), if_neg h]; simp
  · rw [if_neg hm, if_pos (by simp [hm])]; simp
theorem oEnc_err (o : ObjL) : (oEnc o).2 = 0 ∨ (oEnc o).2 = 1 := by
  unfold oEnc
  split
  · exact .inr rfl
  split
  · exact .inr rfl
  · exact .inl rfl
end Go.Kn
namespace Go.Kn
/-! ## what an object leads to -/
def lkE (o : ObjL) (i : Nat) : List LinkR := (o.Entries.take i).map fun e => ⟨e.I, e.Kind⟩
def lkP (o : ObjL) (i : Nat) : List LinkR := ⟨o.Tree, 2⟩ :: (o.Parents.take i).map fun p => ⟨p, 3⟩
def oLinks (o : ObjL) : List LinkR :=
  if o.Kind = 2 then lkE o o.Entries.length else if o.Kind = 3 then lkP o o.Parents.length else if o.Kind = 4 then [⟨o.Target, o.Of⟩] else []
theorem map_take_succ {α β : Type} [Inhabited α] (f : α → β) (l : List α) (n : Nat) (h : n < l.length) : (l.take (n + 1)).map f = (l.take n).map f ++ [f (l.getD n default)] := by
  rw [List.take_succ_eq_append_getElem h, List.map_append, List.getD_eq_getElem?_getD, List.getElem?_eq_getElem h]
  simp
theorem lkE_succ (o : ObjL) (i : Nat) (h : i < o.Entries.length) : lkE o (i + 1) = lkE o i ++ [⟨(o.Entries.getD i default).I, (o.Entries.getD i default).Kind⟩] := map_take_succ _ _ _ h
theorem lkP_succ (o : ObjL) (i : Nat) (h : i < o.Parents.length) : lkP o (i + 1) = lkP o i ++ [⟨o.Parents.getD i default, 3⟩] := by
  unfold lkP; rw [map_take_succ _ _ _ h]; rfl
theorem lkE_len (o : ObjL) (i : Nat) (h : i ≤ o.Entries.length) : (lkE o i).length = i := by simp [lkE]; omega
theorem lkP_len (o : ObjL) (i : Nat) (h : i ≤ o.Parents.length) : (lkP o i).length = i + 1 := by simp [lkP]; omega
theorem flat_snoc {α : Type} (enc : α → List Value) (l : List α) (x : α) : l.flatMap enc ++ enc x = (l ++ [x]).flatMap enc := by simp
theorem own_base {w : World} {B B' e sz n c : Nat} {A : Option Addr} {xs : List Value} (hb : B ≤ B') (h : Own w B' e sz A n c xs) : Own w B e sz A n c xs := by
  refine ⟨h.1, ?_⟩
  rcases h.2 with h0 | ⟨g, cap, cur, hv, hb', hg, hr⟩
  · exact .inl h0
  · exact .inr ⟨g, cap, cur, hv, Nat.le_trans hb hb', hg, hr⟩
/-! ## reading -/
/-- n bytes: what is read, what is left, is it bad -/
def rdB (s : List UInt8) (bad : Bool) (n : Nat) : List UInt8 × List UInt8 × Bool := if bad = true ∨ s.length < n then ([], s, true) else (s.take n, s.drop n, false)
def vtake (s : List UInt8) : List UInt8 × List UInt8 × Nat :=
  if (vget s).2.2 ≠ 0 ∨ (vget s).2.1.length < (vget s).1 then ([], [], 2) else ((vget s).2.1.take (vget s).1, (vget s).2.1.drop (vget s).1, 0)
def rdN (s : List UInt8) (bad : Bool) : Nat × List UInt8 × Bool := if bad = true ∨ (vget s).2.2 ≠ 0 then (0, s, true) else ((vget s).1, (vget s).2.1, false)
def rdT (s : List UInt8) (bad : Bool) : List UInt8 × List UInt8 × Bool := if bad = true ∨ (vtake s).2.2 ≠ 0 then ([], s, true) else ((vtake s).1, (vtake s).2.1, false)
def rdI (s : List UInt8) (bad : Bool) : Id × List UInt8 × Bool := (mkId (rdB s bad 32).1, (rdB s bad 32).2)
def rdK (s : List UInt8) (bad : Bool) : Int × List UInt8 × Bool := (if (rdB s bad 1).2.2 = true then 0 else (((rdB s bad 1).1.getD 0 0).toNat : Int), (rdB s bad 1).2)
theorem vtake_len (s : List UInt8) : (vtake s).1.length ≤ s.length ∧ (vtake s).2.1.length ≤ s.length := by
  have := vget_len s
  unfold vtake
  split
  · simp
  · simp; omega
theorem rdB_len (s : List UInt8) (bad : Bool) (n : Nat) : (rdB s bad n).2.1.length ≤ s.length ∧ (rdB s bad n).1.length ≤ s.length := by
  unfold rdB; split
  · simp
  · simp; omega
theorem rdT_len (s : List UInt8) (bad : Bool) : (rdT s bad).2.1.length ≤ s.length ∧ (rdT s bad).1.length ≤ s.length := by
  have := vtake_len s
  unfold rdT; split
  · simp
  · exact ⟨this.2, this.1⟩
theorem rdN_len (s : List UInt8) (bad : Bool) : (rdN s bad).2.1.length ≤ s.length := by
  have := vget_len s
  unfold rdN; split
  · simp
  · exact this
theorem rdK_len (s : List UInt8) (bad : Bool) : (rdK s bad).2.1.length ≤ s.length := (rdB_len s bad 1).1
theorem rdI_len (s : List UInt8) (bad : Bool) : (rdI s bad).2.1.length ≤ s.length := (rdB_len s bad 32).1
/-- the tree's entries: what was read, what is left, is it bad -/
def rdE1 (s : List UInt8) (bad : Bool) : EntR × List UInt8 × Bool :=
  let k := rdK s bad
  let t := rdT k.2.1 k.2.2
  let i := rdI t.2.1 t.2.2
  (⟨t.1, k.1, i.1⟩, i.2)
theorem rdE1_len (s : List UInt8) (bad : Bool) : (rdE1 s bad).2.1.length ≤ s.length := by
  unfold rdE1
  have h1 := rdK_len s bad
  have h2 := (rdT_len (rdK s bad).2.1 (rdK s bad).2.2).1
  have h3 := rdI_len (rdT (rdK s bad).2.1 (rdK s bad).2.2).2.1 (rdT (rdK s bad).2.1 (rdK s bad).2.2).2.2
  simp only
  omega
theorem rdE1_less (s : List UInt8) (h : s ≠ []) : (rdE1 s false).2.2 = true ∨ (rdE1 s false).2.1.length < s.length := by
  have hl := List.length_pos_iff.2 h
  have h1 : rdK s false = (((s.getD 0 0).toNat : Int), s.drop 1, false) := by
    cases s with
    | nil => exact absurd rfl h
    | cons a s => simp [rdK, rdB]
  have h2 := (rdT_len (s.drop 1) false).1
  have h3 := rdI_len (rdT (s.drop 1) false).2.1 (rdT (s.drop 1) false).2.2
  right
  simp only [rdE1, h1]
  rw [List.length_drop] at h2
  omega
def rdTree : Nat → List UInt8 → Bool → List EntR × List UInt8 × Bool
  | 0, s, bad => ([], s, bad)
  | f + 1, s, bad => if bad = true ∨ s = [] then ([], s, bad) else ((rdE1 s bad).1 :: (rdTree f (rdE1 s bad).2.1 (rdE1 s bad).2.2).1, (rdTree f (rdE1 s bad).2.1 (rdE1 s bad).2.2).2)
/-- ids, n of them -/
def rdIds : Nat → List UInt8 → Bool → List Id × List UInt8 × Bool
  | 0, s, bad => ([], s, bad)
  | n + 1, s, bad => if bad = true then ([], s, bad) else ((rdI s bad).1 :: (rdIds n (rdI s bad).2.1 (rdI s bad).2.2).1, (rdIds n (rdI s bad).2.1 (rdI s bad).2.2).2)
structure ComR where
  Tree : Id
  Parents : List Id
  Time : Nat
  Text : List UInt8
/-- a commit's body -/
def rdCom (s : List UInt8) (bad : Bool) : ComR × List UInt8 × Bool :=
  let a := rdI s bad
  let n := rdN a.2.1 a.2.2
  let p := rdIds n.1 n.2.1 (n.2.2 || decide (8 < n.1))
  let t := rdN p.2.1 p.2.2
  let x := rdT t.2.1 (t.2.2 || decide (4294967295 < t.1))
  (⟨a.1, p.1, t.1 % 4294967296, x.1⟩, x.2)
def rdTag (s : List UInt8) (bad : Bool) : (Int × Id × List UInt8) × List UInt8 × Bool :=
  let k := rdK s bad
  let i := rdI k.2.1 k.2.2
  let t := rdT i.2.1 i.2.2
  ((k.1, i.1, t.1), t.2)
/-- the object whose kind is k out of a body: the object, what is left, is it bad -/
def rdBody (k : Int) (s : List UInt8) : ObjL × List UInt8 × Bool :=
  let o : ObjL := ⟨k, [], [], idZ, [], 0, [], idZ, 0, []⟩
  if k = 2 then let t := rdTree s.length s false; ({ o with Entries := t.1 }, t.2)
  else if k = 3 then let c := rdCom s false; ({ o with Tree := c.1.Tree, Parents := c.1.Parents, Time := c.1.Time, Text := c.1.Text }, c.2)
  else if k = 4 then let t := rdTag s false; ({ o with Of := t.1.1, Target := t.1.2.1, Name := t.1.2.2 }, t.2)
  else ({ o with Data := (rdB s false s.length).1 }, (rdB s false s.length).2)
def obj0 : ObjL := ⟨0, [], [], idZ, [], 0, [], idZ, 0, []⟩
/-- the object of an encoding -/
def oDec (s : List UInt8) : ObjL × Int :=
  if s = [] ∨ 4096 < s.length then (obj0, 2)
  else if (vtake (s.drop 1)).2.2 ≠ 0 ∨ (vtake (s.drop 1)).2.1 ≠ [] then (obj0, 2)
  else
    let b := rdBody ((s.getD 0 0).toNat : Int) (vtake (s.drop 1)).1
    if b.2.2 = true ∨ b.2.1 ≠ [] ∨ oMay b.1 = false then (obj0, 2) else (b.1, 0)
end Go.Kn
namespace Go.Kn
theorem rdB_le (s : List UInt8) (bad : Bool) (n : Nat) : (rdB s bad n).1.length ≤ n := by
  unfold rdB; split
  · simp
  · simp; omega
theorem cp_rdB (s : List UInt8) (bad : Bool) : cpId idZ (rdB s bad 32).1 = (rdI s bad).1 := by
  unfold rdI
  by_cases h : bad = true ∨ s.length < 32
  · have : (rdB s bad 32).1 = [] := by unfold rdB; rw [if_pos h]
    rw [this, cpId_nil]; rfl
  · refine cpId_all ?_
    unfold rdB
    rw [if_neg h]
    simp only [not_or] at h
    simp; omega
end Go.Kn
namespace Go.Kn
/-! ## what was read keeps the bounds of Go's values -/
theorem rdK_inr (s : List UInt8) (bad : Bool) : 0 ≤ (rdK s bad).1 ∧ (rdK s bad).1 < 256 := by
  unfold rdK
  split
  · simp
  · have := UInt8.toNat_lt ((rdB s bad 1).1.getD 0 0)
    simp only; omega
theorem rdTree_ok : ∀ (f : Nat) (s : List UInt8) (bad : Bool), (rdTree f s bad).1.length ≤ f ∧ ∀ e ∈ (rdTree f s bad).1, e.Name.length ≤ s.length ∧ 0 ≤ e.Kind ∧ e.Kind < 256 := by
  intro f
  induction f with
  | zero => intro s bad; simp [rdTree]
  | succ f ih =>
    intro s bad
    unfold rdTree
    split
    · simp
    · obtain ⟨h1, h2⟩ := ih (rdE1 s bad).2.1 (rdE1 s bad).2.2
      have h3 := rdE1_len s bad
      refine ⟨by simp; omega, fun e he => ?_⟩
      rcases List.mem_cons.1 he with rfl | he
      · have h4 := rdK_inr s bad
        have h5 := rdK_len s bad
        have h6 := (rdT_len (rdK s bad).2.1 (rdK s bad).2.2).2
        exact ⟨by simp only [rdE1]; omega, h4⟩
      · have := h2 e he
        exact ⟨by omega, this.2⟩
theorem rdIds_len : ∀ (n : Nat) (s : List UInt8) (bad : Bool), (rdIds n s bad).1.length ≤ n ∧ (bad = true → (rdIds n s bad).1 = []) ∧ (rdIds n s bad).2.1.length ≤ s.length := by
  intro n
  induction n with
  | zero => intro s bad; simp [rdIds]
  | succ n ih =>
    intro s bad
    unfold rdIds
    split
    · rename_i h; simp
    · rename_i h
      have := ih (rdI s bad).2.1 (rdI s bad).2.2
      have h2 := rdI_len s bad
      exact ⟨by simp; omega, fun hb => absurd hb h, by simp only; omega⟩
theorem rdN_lt (s : List UInt8) (bad : Bool) : (rdN s bad).1 < 18446744073709551616 := by
  unfold rdN; split
  · simp
  · exact vget_lt s
theorem getD_mem {α : Type} [Inhabited α] {l : List α} {i : Nat} (h : i < l.length) : l.getD i default ∈ l := by
  rw [List.getD_eq_getElem?_getD, List.getElem?_eq_getElem h]; exact List.getElem_mem h
theorem rdBody_ok (k : Int) (hk : 0 ≤ k ∧ k < 256) (s : List UInt8) (hs : s.length ≤ 100000) : ObjOk (rdBody k s).1 := by
  have hkr : InR .i64 k := by unfold InR; omega
  have h0 : InR .i64 0 := by unfold InR; omega
  unfold rdBody
  split
  · have h1 := rdTree_ok s.length s false
    refine ⟨hkr, h0, by simp, by simp only; omega, fun i hi => ?_, fun i hi => ?_, by simp, by simp, by simp, by simp⟩
    · have := (h1.2 _ (getD_mem hi)).1; simp only at this ⊢; omega
    · have := (h1.2 _ (getD_mem hi)).2; unfold InR; simp only at this ⊢; omega
  split
  · refine ⟨hkr, h0, ?_, by simp, fun i hi => by simp at hi, fun i hi => by simp at hi, ?_, by simp, ?_, by simp⟩
    · simp only [rdCom]; omega
    · simp only [rdCom]
      obtain ⟨h2, h3, _⟩ := rdIds_len (rdN (rdI s false).2.1 (rdI s false).2.2).1 (rdN (rdI s false).2.1 (rdI s false).2.2).2.1 ((rdN (rdI s false).2.1 (rdI s false).2.2).2.2 || decide (8 < (rdN (rdI s false).2.1 (rdI s false).2.2).1))
      by_cases h4 : 8 < (rdN (rdI s false).2.1 (rdI s false).2.2).1
      · rw [h3 (by simp [h4])]; simp
      · omega
    · simp only [rdCom]
      have h5 := rdI_len s false
      have h6 := rdN_len (rdI s false).2.1 (rdI s false).2.2
      have h7 := (rdIds_len (rdN (rdI s false).2.1 (rdI s false).2.2).1 (rdN (rdI s false).2.1 (rdI s false).2.2).2.1 ((rdN (rdI s false).2.1 (rdI s false).2.2).2.2 || decide (8 < (rdN (rdI s false).2.1 (rdI s false).2.2).1))).2.2
      generalize rdIds (rdN (rdI s false).2.1 (rdI s false).2.2).1 (rdN (rdI s false).2.1 (rdI s false).2.2).2.1 ((rdN (rdI s false).2.1 (rdI s false).2.2).2.2 || decide (8 < (rdN (rdI s false).2.1 (rdI s false).2.2).1)) = p at *
      have h8 := rdN_len p.2.1 p.2.2
      have h9 := (rdT_len (rdN p.2.1 p.2.2).2.1 ((rdN p.2.1 p.2.2).2.2 || decide (4294967295 < (rdN p.2.1 p.2.2).1))).2
      omega
  split
  · have h4 := rdK_inr s false
    have h5 := rdK_len s false
    have h6 := rdI_len (rdK s false).2.1 (rdK s false).2.2
    have h7 := (rdT_len (rdI (rdK s false).2.1 (rdK s false).2.2).2.1 (rdI (rdK s false).2.1 (rdK s false).2.2).2.2).2
    exact ⟨hkr, by simp only [rdTag]; unfold InR; omega, by simp, by simp, fun i hi => by simp at hi, fun i hi => by simp at hi, by simp, by simp, by simp, by simp only [rdTag]; omega⟩
  · have h5 := (rdB_len s false s.length).2
    exact ⟨hkr, h0, by simp, by simp, fun i hi => by simp at hi, fun i hi => by simp at hi, by simp, by simp only; omega, by simp, by simp⟩
theorem oDec_ok (s : List UInt8) : ObjOk (oDec s).1 := by
  have hz : InR .i64 0 := by unfold InR; omega
  have h0 : ObjOk obj0 := ⟨hz, hz, by simp [obj0], by simp [obj0], fun i hi => by simp [obj0] at hi, fun i hi => by simp [obj0] at hi, by simp [obj0], by simp [obj0], by simp [obj0], by simp [obj0]⟩
  unfold oDec
  split
  · exact h0
  split
  · exact h0
  rename_i h1 h2
  have hb : ObjOk (rdBody ((s.getD 0 0).toNat : Int) (vtake (s.drop 1)).1).1 := by
    have := UInt8.toNat_lt (s.getD 0 0)
    refine rdBody_ok _ (by omega) _ ?_
    have := (vtake_len (s.drop 1)).1
    simp only [not_or] at h1
    rw [List.length_drop] at this
    omega
  simp only
  split
  · exact h0
  · exact hb
theorem oDec_err (s : List UInt8) : (oDec s).2 = 0 ∨ (oDec s).2 = 2 := by
  unfold oDec
  split
  · exact .inr rfl
  split
  · exact .inr rfl
  simp only
  split
  · exact .inr rfl
  · exact .inl rfl
end Go.Kn
namespace Go.Kn
theorem oLinks_ok {o : ObjL} (h : ObjOk o) : ∀ i < (oLinks o).length, InR .i64 ((oLinks o).getD i default).Kind := by
  intro i hi
  have hm := getD_mem hi
  generalize (oLinks o).getD i default = x at hm
  unfold oLinks at hm
  split at hm
  · obtain ⟨e, he, rfl⟩ := List.mem_map.1 hm
    rw [List.take_length] at he
    obtain ⟨j, hj, rfl⟩ := List.mem_iff_getElem.1 he
    have := h.ek j hj
    rwa [List.getD_eq_getElem?_getD, List.getElem?_eq_getElem hj] at this
  split at hm
  · rcases List.mem_cons.1 hm with rfl | hm
    · unfold InR; simp
    · obtain ⟨e, he, rfl⟩ := List.mem_map.1 hm
      unfold InR; simp
  split at hm
  · simp only [List.mem_singleton] at hm
    subst hm; exact h.of
  · simp at hm
theorem oLinks_len {o : ObjL} (h : FewOk o) : (oLinks o).length ≤ 100 := by
  have := h.e
  have := h.p
  unfold oLinks
  split
  · rw [lkE_len _ _ (Nat.le_refl _)]; omega
  split
  · rw [lkP_len _ _ (Nat.le_refl _)]; omega
  split
  · simp
  · simp
end Go.Kn
