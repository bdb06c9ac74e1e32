/- The engine, sixteenth part: == and != of structs. -/
import Derived.Test.YtihmegmambmljaaDoorEngO
import Derived.Lib.BufferWrite
set_option linter.unusedSimpArgs false
set_option linter.unusedVariables false
set_option linter.unusedSectionVars false
namespace Go.Kn
open Go.RowKit (Below)
section
variable {P : Program}
/-- a struct's fields: type, place, cells -/
def fsB (P : Program) (t : TypeId) : Option (List (Nat × Nat × Nat)) :=
  match P.underlying t with
  | some (.struct fs) => bif fs.all (·.name != "_") then some (fs.toList.map fun f => (f.type, f.offset, P.cellsOf f.type)) else none
  | _ => none
inductive KL (P : Program) (d : Nat) (cs : List Value) : List (Nat × Nat × Nat) → List (List Lit) → Prop
  | nil : KL P d cs [] []
  | cons {t off n : Nat} {ls : List Lit} {r : List (Nat × Nat × Nat)} {L : List (List Lit)} (h : P.keyLits d t ((cs.drop off).take n) = some ls) (k : KL P d cs r L) : KL P d cs ((t, off, n) :: r) (ls :: L)
theorem KL.mapM {d : Nat} {cs : List Value} {l : List Field} {L : List (List Lit)} (h : KL P d cs (l.map fun f => (f.type, f.offset, P.cellsOf f.type)) L) :
    (l.mapM fun f => P.keyLits d f.type ((cs.drop f.offset).take (P.cellsOf f.type))) = some L := by
  induction l generalizing L with
  | nil => cases h; rfl
  | cons f l ih =>
    cases h with
    | cons h k => rw [List.mapM_cons, h, ih k]; rfl
theorem keyLits_fs {t d n : Nat} {cs : List Value} {l : List (Nat × Nat × Nat)} {L : List (List Lit)} (h : fsB P t = some l) (hn : Nat.beq (P.cellsOf t) n = true) (hcs : cs.length = n) (hL : KL P d cs l L) : P.keyLits (d + 1) t cs = some L.flatten := by
  unfold fsB at h
  split at h
  · rename_i fs hu
    cases hb : fs.all (·.name != "_") with
    | false => simp [hb] at h
    | true =>
      simp only [hb, cond_true, Option.some.injEq] at h
      subst h
      unfold Program.keyLits
      simp only [hu]
      rw [if_pos ⟨by rw [hcs, beqN hn], hb⟩, hL.mapM, Option.map_some]
  · cases h
theorem keyLits_i64 {t d : Nat} {n : Int} (h : P.underlying t = some (.int .i64)) (hr : InR .i64 n) : P.keyLits (d + 1) t [.int .i64 n] = some [.int .i64 n] := by
  unfold Program.keyLits
  simp only [h]
  have : (Lit.int .i64 n).wf = true := by
    unfold InR at hr
    simp [Lit.wf, IntKind.min, IntKind.max, IntKind.signed, IntKind.bits]
    omega
  rw [if_pos ⟨trivial, this⟩]
theorem keyLits_str {t d : Nat} {l : List UInt8} (h : P.underlying t = some .string) (hl : l.length ≤ 9223372036854775807) : P.keyLits (d + 1) t [.string (S l)] = some [.string l] := by
  unfold Program.keyLits
  simp only [h]
  rw [if_pos (by rw [S_size]; unfold maxLen; omega)]
theorem keyLits_id {t d : Nat} (x : Id) (h : idB P t = true) : P.keyLits (d + 2) t (idc x) = some (lits x.l) := by
  obtain ⟨e, h1, h2, h3, h4, h5, h6⟩ := idB_spec h
  rw [idc_eq]
  exact keyLits_bytes h1 h2 h3 h4 x.l x.h d
theorem ldRdK {t off sz n k : Nat} {A : Option Addr} {w : World} {vs xs : List Value} (ht : aggB P t = true) (hk : vs.length = k) (hs : sizeB P t = some k) (h : Rd w sz A n xs) {j : Nat} (hj : off = ao A + j) (hv : (xs.drop j).take k = vs) :
    RunOk P w (Instr.loadAt t (.pointer (some ⟨ab A, off, none⟩))) (.agg ⟨vs⟩) := by
  subst hk
  exact ldRdN ht hs h hj hv
theorem lits_len (l : List UInt8) : (lits l).length = l.length := by simp [lits]
end
end Go.Kn
namespace Go.Kn
open Go.RowKit (Below)
/-! ## copy(id[:], text) -/
theorem chg_setRow {w : World} {g T : Nat} {cur cs : Array Value} {fz : Nat × Nat} (hg : w.heap[g]? = some (.cells cur T fz)) : Chg w (w.setRow g cs) g (.cells cs T fz) :=
  ⟨rfl, rfl, rfl, by simp, Go.setRow_heap w g cur cs T fz hg, fun k hk hne => by
    simp only [World.setRow]
    rw [Array.getElem?_modify, if_neg (Ne.symm hne)]⟩
/-- an id over whose beginning a text was laid -/
def cpId (x : Id) (l : List UInt8) : Id := mkId (l ++ x.l.drop l.length)
theorem cpId_l {x : Id} {l : List UInt8} (h : l.length ≤ 32) : (cpId x l).l = l ++ x.l.drop l.length := by
  refine mkId_l ?_
  have := x.h
  simp only [List.length_append, List.length_drop]; omega
theorem cpId_nil (x : Id) : cpId x [] = x := by unfold cpId; simp [mkId_self]
theorem cpId_all {x : Id} {l : List UInt8} (h : l.length = 32) : cpId x l = mkId l := by
  unfold cpId
  rw [List.drop_of_length_le (by rw [x.h, h]; exact Nat.le_refl _), List.append_nil]
section
variable {P : Program} {w : World}
theorem byteCells_bys (l : List UInt8) : Go.Lib.byteCells l = bys l := rfl
/-- what copy's destination has to be: a slice of bytes -/
def cpB (P : Program) (t : TypeId) : Bool := match P.underlying t with | some (.slice e) => (match P.info? e with | some i => Nat.beq i.size 1 | none => false) | _ => false
theorem cpB_spec {t : TypeId} (h : cpB P t = true) : ∃ e, P.underlying t = some (.slice e) ∧ (P.info? e).map (·.size) = some 1 := by
  unfold cpB at h
  split at h
  · rename_i e he
    split at h
    · rename_i i hi
      exact ⟨e, he, by rw [hi, Option.map_some, Nat.eq_of_beq_eq_true h]⟩
    · cases h
  · cases h
theorem run_copyId {dT sT ty b T c : Nat} {x : Id} {l : List UInt8} {fz : Unit} (hu : cpB P dT = true) (hB : w.heap[b]? = some (.cells ⟨idc x⟩ T (0, 0))) (hl : l.length ≤ 32) :
    (Builtin.copy_ #[dT, sT] ty #[.slice (some ⟨b, 0, none⟩) 32 c, .string (S l)]).run P w = .ok (.int .i64 (l.length : Nat)) (w.setRow b ⟨idc (cpId x l)⟩) := by
  obtain ⟨e, h1, h2⟩ := cpB_spec hu
  have := Go.Lib.run_copy_row_string (P := P) w dT sT ty e b 0 32 c (S l) ⟨idc x⟩ T h1 h2 hB (by rw [S_size]; exact hl) (by rw [S_size, Nat.zero_add]; show l.length ≤ (idc x).length; rw [idc_len]; exact hl)
  rw [this, S_size]
  congr 2
  have : (S l).data.toList = l := by simp [S]
  rw [this, byteCells_bys]
  congr 1
  rw [List.take_zero, List.nil_append, Nat.zero_add]
  show bys l ++ (idc x).drop l.length = idc (cpId x l)
  rw [idc_eq, idc_eq, cpId_l hl]
  simp [bys]
variable {Q : Exit → Act → World → Prop} {a : Act} {N : Nat} {ρ : Env} {e : Operand → Value} {o : Oper} {K : Value → World → Prop}
theorem lcopyId {ops : Array Oper} {lo : List Oper} {s q : Operand} {dT sT b T c : Nat} {x : Id} {l : List UInt8} (ha : On N ρ a) (hg : o.guard = none) (hok : okOp N ρ o = true)
    (ho : o.op = .call { callee := .builtin .copy, args := #[s, q], argTypes := #[dT, sT] }) (hu : cpB P dT = true) (hs : ρ.ev s = .slice (some ⟨b, 0, none⟩) 32 c) (hq : ρ.ev q = .string (S l)) (hB : w.heap[b]? = some (.cells ⟨idc x⟩ T (0, 0))) (hl : l.length ≤ 32)
    (k : ∀ w', Chg w w' b (.cells ⟨idc (cpId x l)⟩ T (0, 0)) → ∀ a', On N (ρ.set o.dst (.int .i64 (l.length : Nat))) a' → wpList P ops Q lo a' w') : wpList P ops Q (o :: lo) a w := by
  refine lrun ha hg hok (v := .int .i64 (l.length : Nat)) (w' := w.setRow b ⟨idc (cpId x l)⟩) ?_ fun a' ha' => k _ (chg_setRow hB) a' ha'
  have hargs : (#[s, q] : Array Operand).map ρ.ev = #[.slice (some ⟨b, 0, none⟩) 32 c, .string (S l)] := by simp [hs, hq]
  simp only [execOp, ho, resolve, hargs, Sem.run_bind, Sem.run_pure, Result.andThen_ok, invoke, builtin, run_copyId (fz := ()) hu hB hl]
theorem ocopyId {s q : Operand} {dT sT b T c : Nat} {x : Id} {l : List UInt8}
    (ho : o.op = .call { callee := .builtin .copy, args := #[s, q], argTypes := #[dT, sT] }) (hu : cpB P dT = true) (hs : e s = .slice (some ⟨b, 0, none⟩) 32 c) (hq : e q = .string (S l)) (hB : w.heap[b]? = some (.cells ⟨idc x⟩ T (0, 0))) (hl : l.length ≤ 32)
    (k : ∀ w', Chg w w' b (.cells ⟨idc (cpId x l)⟩ T (0, 0)) → K (.int .i64 (l.length : Nat)) w') : OpStep P e o w K := by
  refine orun (v := .int .i64 (l.length : Nat)) (w' := w.setRow b ⟨idc (cpId x l)⟩) ?_ (k _ (chg_setRow hB))
  have hargs : (#[s, q] : Array Operand).map e = #[.slice (some ⟨b, 0, none⟩) 32 c, .string (S l)] := by simp [hs, hq]
  simp only [execOp, ho, resolve, hargs, Sem.run_bind, Sem.run_pure, Result.andThen_ok, invoke, builtin, run_copyId (fz := ()) hu hB hl]
end
end Go.Kn
