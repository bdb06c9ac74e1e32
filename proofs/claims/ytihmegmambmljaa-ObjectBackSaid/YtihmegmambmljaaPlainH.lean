/- Objects' bodies, as the program makes them. -/
import Derived.Test.YtihmegmambmljaaPlainG
set_option linter.unusedVariables false
namespace Go.Kn
def oPars (o : ObjL) (n : Nat) : List UInt8 := o.Tree.l ++ vput o.Parents.length ++ (o.Parents.take n).flatMap Id.l
def oEnts (o : ObjL) (n : Nat) : List UInt8 := (o.Entries.take n).flatMap entEnc
def oBody (o : ObjL) : List UInt8 :=
  if o.Kind = 1 then o.Data
  else if o.Kind = 2 then oEnts o o.Entries.length
  else if o.Kind = 3 then oPars o o.Parents.length ++ vput o.Time ++ vtext o.Text
  else if o.Kind = 4 then oneB8 o.Of ++ o.Target.l ++ vtext o.Name
  else []
theorem oEnts_succ (o : ObjL) (n : Nat) (h : n < o.Entries.length) : oEnts o (n + 1) = ((oEnts o n ++ oneB8 (o.Entries.getD n default).Kind) ++ vtext (o.Entries.getD n default).Name) ++ (o.Entries.getD n default).I.l := by
  rw [oEnts, flat_take_succ _ _ _ h, oEnts]; simp [entEnc]
theorem oPars_succ (o : ObjL) (n : Nat) (h : n < o.Parents.length) : oPars o (n + 1) = oPars o n ++ (o.Parents.getD n default).l := by
  rw [oPars, flat_take_succ _ _ _ h, oPars]; simp
theorem rEnts_oEnts (o : ObjL) (n : Nat) : rEnts o n = o.Data ++ oEnts o n := rfl
theorem oEnts_len {o : ObjL} (h : FewOk o) (n : Nat) (hn : n ≤ o.Entries.length) : (oEnts o n).length ≤ 5000 + n * 143 := by
  have := rEnts_len h n hn
  rw [rEnts_oEnts, List.length_append] at this
  omega
theorem oPars_len {o : ObjL} (h : FewOk o) (n : Nat) (hn : n ≤ o.Parents.length) : (oPars o n).length ≤ 16000 + n * 32 := by
  have := rPars_len h n hn
  simp only [rPars, List.length_append] at this
  simp only [oPars, List.length_append]
  omega
/-- of an object that may be the document's body is the program's -/
theorem body_same {o : ObjL} (h : oMay o = true) : rBody o = oBody o := by
  rw [oMay_iff] at h
  obtain ⟨k, d, e, c, t, _⟩ := h
  unfold rBody rCom oBody
  by_cases h1 : o.Kind = 1
  · have := e (by omega)
    simp [h1, rEnts, this]
  · have d0 := d h1
    by_cases h2 : o.Kind = 2
    · simp [h2, rEnts, oEnts, d0]
    · have e0 := e h2
      by_cases h3 : o.Kind = 3
      · simp [h3, rPars, oPars, rEnts, e0, d0]
      · have h4 : o.Kind = 4 := by omega
        simp [h4, rEnts, e0, d0]
end Go.Kn
