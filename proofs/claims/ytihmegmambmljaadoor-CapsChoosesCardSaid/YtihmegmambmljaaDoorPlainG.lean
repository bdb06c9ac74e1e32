/- Objects (layer 4), plain. -/
import Derived.Test.YtihmegmambmljaaDoorPlainF
import Derived.Test.YtihmegmambmljaaDoorEngM
set_option linter.unusedVariables false
namespace Go.Kn
structure EntR where
  Name : List UInt8
  Kind : Int
  I : Id
deriving Inhabited, DecidableEq
def encEnt (x : EntR) : List Value := .string (S x.Name) :: .int .i64 x.Kind :: idc x.I
theorem encEnt_len (x : EntR) : (encEnt x).length = 34 := rfl
structure ObjL where
  Kind : Int
  Data : List UInt8
  Entries : List EntR
  Tree : Id
  Parents : List Id
  Time : Nat
  Text : List UInt8
  Target : Id
  Of : Int
  Name : List UInt8
deriving Inhabited, DecidableEq
structure LinkR where
  I : Id
  Kind : Int
deriving Inhabited, DecidableEq
def encLink (x : LinkR) : List Value := idc x.I ++ [.int .i64 x.Kind]
theorem encLink_len (x : LinkR) : (encLink x).length = 33 := rfl

/-- may a name be? -/
def oName (s : List UInt8) : Bool := decide (s ≠ [] ∧ s.length ≤ 40 ∧ (0 : UInt8) ∉ s ∧ (47 : UInt8) ∉ s)
/-- are the fields of other kinds empty? -/
def oBlob (o : ObjL) : Bool := decide (o.Data = [])
def oTree (o : ObjL) : Bool := decide (o.Entries = [])
def oCommit (o : ObjL) : Bool := decide (o.Tree = idZ ∧ o.Parents = [] ∧ o.Time = 0 ∧ o.Text = [])
def oTag (o : ObjL) : Bool := decide (o.Target = idZ ∧ o.Of = 0 ∧ o.Name = [])
def oAlone (o : ObjL) : Bool :=
  if o.Kind = 1 then oTree o && oCommit o && oTag o
  else if o.Kind = 2 then oBlob o && oCommit o && oTag o
  else if o.Kind = 3 then oBlob o && oTree o && oTag o
  else oBlob o && oTree o && oCommit o
/-- does entry i fit? -/
def entOk (l : List EntR) (i : Nat) : Bool :=
  oName (l.getD i default).Name && decide ((l.getD i default).Kind = 1 ∨ (l.getD i default).Kind = 2) && (decide (i = 0) || Go.Op.bytesLess (l.getD (i - 1) default).Name (l.getD i default).Name)
def entsTo (l : List EntR) (n : Nat) : Bool := (List.range n).all (entOk l)
def oEntries (l : List EntR) : Bool := entsTo l l.length && decide (l.length ≤ 64)
def oMay (o : ObjL) : Bool :=
  if o.Kind = 2 then oAlone o && oEntries o.Entries
  else if o.Kind = 3 then oAlone o && decide (o.Parents.length ≤ 8)
  else if o.Kind = 4 then oAlone o && decide (1 ≤ o.Of ∧ o.Of ≤ 4) && oName o.Name
  else decide (o.Kind = 1) && oAlone o
theorem entsTo_succ (l : List EntR) (n : Nat) : entsTo l (n + 1) = (entsTo l n && entOk l n) := by
  simp [entsTo, List.range_succ]
theorem entsTo_false {l : List EntR} {n m : Nat} (h : n ≤ m) (hf : entsTo l n = false) : entsTo l m = false := by
  induction m with
  | zero => obtain rfl : n = 0 := by omega
            exact hf
  | succ m ih =>
    rcases Nat.lt_or_ge m n with h1 | h1
    · obtain rfl : n = m + 1 := by omega
      exact hf
    · rw [entsTo_succ, ih h1]; rfl
end Go.Kn
namespace Go.Kn
/-- an object's 72 cells -/
def objC (o : ObjL) (Ae : Option Addr) (ce : Nat) (Ap : Option Addr) (cp : Nat) : List Value :=
  .int .i64 o.Kind :: .string (S o.Data) :: .slice Ae o.Entries.length ce :: (idc o.Tree ++ (.slice Ap o.Parents.length cp :: .int .u32 ((o.Time : Nat) : Int) :: .string (S o.Text) :: (idc o.Target ++ [.int .i64 o.Of, .string (S o.Name)])))
end Go.Kn
namespace Go.Kn
/-- the bounds that any Go value keeps -/
structure ObjOk (o : ObjL) : Prop where
  kind : InR .i64 o.Kind
  of : InR .i64 o.Of
  time : o.Time < 4294967296
  el : o.Entries.length ≤ 9223372036854775807
  en : ∀ i < o.Entries.length, (o.Entries.getD i default).Name.length ≤ 9223372036854775807
  ek : ∀ i < o.Entries.length, InR .i64 (o.Entries.getD i default).Kind
  pl : o.Parents.length ≤ 9223372036854775807
  dl : o.Data.length ≤ 9223372036854775807
  tl : o.Text.length ≤ 9223372036854775807
  nl : o.Name.length ≤ 9223372036854775807
def oFewTo (o : ObjL) (n : Nat) : Bool := (List.range n).all fun i => decide ((o.Entries.getD i default).Name.length ≤ 100)
def oFew (o : ObjL) : Bool := decide (o.Entries.length ≤ 70 ∧ o.Parents.length ≤ 20 ∧ o.Data.length ≤ 5000 ∧ o.Text.length ≤ 5000 ∧ o.Name.length ≤ 100) && oFewTo o o.Entries.length
theorem oFewTo_succ (o : ObjL) (n : Nat) : oFewTo o (n + 1) = (oFewTo o n && decide ((o.Entries.getD n default).Name.length ≤ 100)) := by
  simp [oFewTo, List.range_succ]
theorem oFewTo_false {o : ObjL} {n m : Nat} (h : n ≤ m) (hf : oFewTo o n = false) : oFewTo o m = false := by
  induction m with
  | zero => obtain rfl : n = 0 := by omega
            exact hf
  | succ m ih =>
    rcases Nat.lt_or_ge m n with h1 | h1
    · obtain rfl : n = m + 1 := by omega
      exact hf
    · rw [oFewTo_succ, ih h1]; rfl
def oNameTo (s : List UInt8) (n : Nat) : Bool := (s.take n).all fun c => decide (c ≠ 0 ∧ c ≠ 47)
theorem oNameTo_succ (s : List UInt8) (n : Nat) (h : n < s.length) : oNameTo s (n + 1) = (oNameTo s n && decide (s.getD n 0 ≠ 0 ∧ s.getD n 0 ≠ 47)) := by
  unfold oNameTo
  rw [List.take_succ_eq_append_getElem h, List.all_append, List.getD_eq_getElem?_getD, List.getElem?_eq_getElem h]
  simp
theorem oName_all (s : List UInt8) : oName s = (decide (1 ≤ s.length ∧ s.length ≤ 40) && oNameTo s s.length) := by
  unfold oName oNameTo
  rw [List.take_length, Bool.eq_iff_iff]
  simp only [decide_eq_true_eq, Bool.and_eq_true, List.all_eq_true]
  constructor
  · intro ⟨h1, h2, h3, h4⟩
    exact ⟨⟨List.length_pos_iff.2 h1, h2⟩, fun c hc => ⟨fun e => h3 (e ▸ hc), fun e => h4 (e ▸ hc)⟩⟩
  · intro ⟨⟨h1, h2⟩, h3⟩
    exact ⟨List.length_pos_iff.1 h1, h2, fun h => (h3 _ h).1 rfl, fun h => (h3 _ h).2 rfl⟩
theorem oNameTo_false {s : List UInt8} {n : Nat} (h : n < s.length) (hf : oNameTo s (n + 1) = false) : oName s = false := by
  rw [oName_all]
  have : oNameTo s s.length = false := by
    unfold oNameTo at hf ⊢
    rw [← Bool.not_eq_true, List.all_eq_true] at hf ⊢
    intro hc
    exact hf fun c hm => hc c (by rw [List.take_length]; exact List.mem_of_mem_take hm)
  rw [this]; simp
theorem u8_zero {c : UInt8} : (((c.toNat : Nat) : Int) = 0) ↔ c = 0 := by
  constructor
  · intro h; exact UInt8.toNat_inj.1 (by simpa using h)
  · intro h; subst h; rfl
theorem u8_slash {c : UInt8} : (((c.toNat : Nat) : Int) = 47) ↔ c = 47 := by
  constructor
  · intro h; exact UInt8.toNat_inj.1 (by have : (47 : UInt8).toNat = 47 := rfl; omega)
  · intro h; subst h; rfl
end Go.Kn
namespace Go.Kn
theorem oMay_iff (o : ObjL) : oMay o = true ↔ (1 ≤ o.Kind ∧ o.Kind ≤ 4) ∧ (o.Kind ≠ 1 → o.Data = []) ∧ (o.Kind ≠ 2 → o.Entries = []) ∧ (o.Kind ≠ 3 → o.Tree = idZ ∧ o.Parents = [] ∧ o.Time = 0 ∧ o.Text = []) ∧
    (o.Kind ≠ 4 → o.Target = idZ ∧ o.Of = 0 ∧ o.Name = []) ∧ (o.Kind = 4 → (1 ≤ o.Of ∧ o.Of ≤ 4) ∧ oName o.Name = true) ∧ o.Entries.length ≤ 64 ∧ o.Parents.length ≤ 8 ∧ entsTo o.Entries o.Entries.length = true := by
  have e0 : o.Entries = [] → o.Entries.length ≤ 64 ∧ entsTo o.Entries o.Entries.length = true := fun h => by rw [h]; exact ⟨by simp, rfl⟩
  have p0 : o.Parents = [] → o.Parents.length ≤ 8 := fun h => by rw [h]; simp
  unfold oMay oAlone oEntries oBlob oTree oCommit oTag
  by_cases h2 : o.Kind = 2
  · simp only [h2, if_pos]
    simp
    constructor
    · rintro ⟨⟨⟨a1, a2⟩, a3⟩, a4, a5⟩
      exact ⟨a1, a2, a3, a5, p0 a2.2.1, a4⟩
    · rintro ⟨a1, a2, a3, a4, a5, a6⟩
      exact ⟨⟨⟨a1, a2⟩, a3⟩, a6, a4⟩
  · by_cases h3 : o.Kind = 3
    · simp only [h3]
      simp
      constructor
      · rintro ⟨⟨⟨a1, a2⟩, a3⟩, a4⟩
        exact ⟨a1, a2, a3, (e0 a2).1, a4, (e0 a2).2⟩
      · rintro ⟨a1, a2, a3, a4, a5, a6⟩
        exact ⟨⟨⟨a1, a2⟩, a3⟩, a5⟩
    · by_cases h4 : o.Kind = 4
      · simp only [h4]
        simp
        constructor
        · rintro ⟨⟨⟨⟨a1, a2⟩, a3⟩, a4⟩, a5⟩
          exact ⟨a1, a2, a3, ⟨a4, a5⟩, (e0 a2).1, p0 a3.2.1, (e0 a2).2⟩
        · rintro ⟨a1, a2, a3, a4, a5, a6, a7⟩
          exact ⟨⟨⟨⟨a1, a2⟩, a3⟩, a4.1⟩, a4.2⟩
      · rw [if_neg h2, if_neg h3, if_neg h4]
        by_cases h1 : o.Kind = 1
        · simp only [h1]
          simp
          constructor
          · rintro ⟨⟨a1, a2⟩, a3⟩
            exact ⟨a1, a2, a3, (e0 a1).1, p0 a2.2.1, (e0 a1).2⟩
          · rintro ⟨a1, a2, a3, a4, a5, a6⟩
            exact ⟨⟨a1, a2⟩, a3⟩
        · simp only [h1, decide_false, Bool.false_and, Bool.false_eq_true, false_iff]
          rintro ⟨a1, _⟩
          omega
end Go.Kn
namespace Go.Kn
def oneB8 (n : Int) : List UInt8 := [UInt8.ofNat (n % 256).toNat]
def entEnc (e : EntR) : List UInt8 := oneB8 e.Kind ++ vtext e.Name ++ e.I.l
def rEnts (o : ObjL) (n : Nat) : List UInt8 := o.Data ++ (o.Entries.take n).flatMap entEnc
def rPars (o : ObjL) (n : Nat) : List UInt8 := rEnts o o.Entries.length ++ o.Tree.l ++ vput o.Parents.length ++ (o.Parents.take n).flatMap Id.l
def rCom (o : ObjL) : List UInt8 := if o.Kind = 3 then rPars o o.Parents.length ++ vput o.Time ++ vtext o.Text else rEnts o o.Entries.length
def rBody (o : ObjL) : List UInt8 := if o.Kind = 4 then rCom o ++ oneB8 o.Of ++ o.Target.l ++ vtext o.Name else rCom o
def rEnc (o : ObjL) : List UInt8 × Bool := if oMay o then (if 4096 < (oneB8 o.Kind ++ vtext (rBody o)).length then ([], false) else (oneB8 o.Kind ++ vtext (rBody o), true)) else ([], false)
theorem flat_take_succ {α β : Type} [Inhabited α] (f : α → List β) (l : List α) (n : Nat) (h : n < l.length) : (l.take (n + 1)).flatMap f = (l.take n).flatMap f ++ f (l.getD n default) := by
  rw [List.take_succ_eq_append_getElem h, List.flatMap_append, List.getD_eq_getElem?_getD, List.getElem?_eq_getElem h]
  simp
theorem rEnts_succ (o : ObjL) (n : Nat) (h : n < o.Entries.length) : rEnts o (n + 1) = ((rEnts o n ++ oneB8 (o.Entries.getD n default).Kind) ++ vtext (o.Entries.getD n default).Name) ++ (o.Entries.getD n default).I.l := by
  rw [rEnts, flat_take_succ _ _ _ h, rEnts]; simp [entEnc]
theorem rPars_succ (o : ObjL) (n : Nat) (h : n < o.Parents.length) : rPars o (n + 1) = rPars o n ++ (o.Parents.getD n default).l := by
  rw [rPars, flat_take_succ _ _ _ h, rPars]; simp
theorem vtext_len (l : List UInt8) : (vtext l).length ≤ l.length + 10 := by
  have := vput_len l.length
  unfold vtext; rw [List.length_append]; omega
structure FewOk (o : ObjL) : Prop where
  e : o.Entries.length ≤ 70
  p : o.Parents.length ≤ 20
  d : o.Data.length ≤ 5000
  t : o.Text.length ≤ 5000
  n : o.Name.length ≤ 100
  en : ∀ i < o.Entries.length, (o.Entries.getD i default).Name.length ≤ 100
theorem few_spec {o : ObjL} (h : oFew o = true) : FewOk o := by
  unfold oFew at h
  simp only [Bool.and_eq_true, decide_eq_true_eq] at h
  obtain ⟨⟨h1, h2, h3, h4, h5⟩, h6⟩ := h
  refine ⟨h1, h2, h3, h4, h5, fun i hi => ?_⟩
  have := List.all_eq_true.1 h6 i (List.mem_range.2 hi)
  simpa using this
theorem rEnts_len {o : ObjL} (h : FewOk o) (n : Nat) (hn : n ≤ o.Entries.length) : (rEnts o n).length ≤ 5000 + n * 143 := by
  induction n with
  | zero => have := h.d; simp [rEnts]; omega
  | succ n ih =>
    have h1 := ih (by omega)
    have h2 := h.en n (by omega)
    have h3 := vtext_len (o.Entries.getD n default).Name
    have h4 := (o.Entries.getD n default).I.h
    rw [rEnts_succ o n (by omega)]
    simp only [List.length_append, oneB8, List.length_cons, List.length_nil]
    omega
theorem rPars_len {o : ObjL} (h : FewOk o) (n : Nat) (hn : n ≤ o.Parents.length) : (rPars o n).length ≤ 16000 + n * 32 := by
  induction n with
  | zero =>
    have h1 := rEnts_len h _ (Nat.le_refl _)
    have h2 := h.e
    have h3 := o.Tree.h
    have h4 := vput_len o.Parents.length
    simp only [rPars, List.take_zero, List.flatMap_nil, List.length_append, List.length_nil]
    omega
  | succ n ih =>
    have h1 := ih (by omega)
    have h4 := (o.Parents.getD n default).h
    rw [rPars_succ o n (by omega), List.length_append]
    omega
end Go.Kn
namespace Go.Kn
theorem rBody_len {o : ObjL} (h : FewOk o) : (rBody o).length ≤ 50000 := by
  have h1 := rEnts_len h _ (Nat.le_refl _)
  have h2 := rPars_len h _ (Nat.le_refl _)
  have h3 := vput_len o.Time
  have h4 := vtext_len o.Text
  have h5 := vtext_len o.Name
  have h6 := o.Target.h
  have := h.e; have := h.p; have := h.t; have := h.n
  have hl5 : (oneB8 o.Of).length = 1 := rfl
  have hc : (rCom o).length ≤ 40000 := by
    unfold rCom
    split
    · simp only [List.length_append]; omega
    · omega
  unfold rBody
  split
  · simp only [List.length_append]; omega
  · omega
end Go.Kn
