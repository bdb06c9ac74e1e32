/- The engine, thirteenth part: calls of entries without a body; parts of elements; bytes behind a slice. -/
import Derived.Test.YtihmegmambmljaaDoorEngL
import Derived.Laws.Externs
import Derived.Lib.Bytealg
import Derived.Lib.BufferWrite
set_option linter.unusedSimpArgs false
set_option linter.unusedVariables false
set_option linter.unusedSectionVars false
namespace Go.Kn
open Go.RowKit (Below)
section
variable {P : Program} {Q : Exit → Act → World → Prop} {a : Act} {w : World} {N : Nat} {ρ : Env}
/-- a call of an entry that the model gives -/
theorem lext {ops : Array Oper} {o : Oper} {l : List Oper} {f : Operand} {args : Array Operand} {ts : Array TypeId} {g : FuncId} {fn : Func} {e : Array Value → Sem Value} {first caps vs : Array Value} {v : Value}
    (ha : On N ρ a) (hg : o.guard = none) (hok : okOp N ρ o = true) (ho : o.op = .call { callee := .value f, args := args, argTypes := ts }) (hf : ρ.ev f = .func (.func g) first caps)
    (hv : first ++ args.map ρ.ev ++ caps = vs) (hfn : P.funcs[g]? = some fn) (hname : (fn.name == "runtime.NumGoroutine") = false) (hb : fn.body.isNone = true) (hn : Extern.findNext fn = none) (he : Extern.find fn = some e)
    (hrun : (e vs).run P w = .ok v w) (k : ∀ a', On N (ρ.set o.dst v) a' → wpList P ops Q l a' w) : wpList P ops Q (o :: l) a w := by
  refine lrun ha hg hok (v := v) (w' := w) ?_ fun a' ha' => k a' ha'
  simp only [execOp, ho, resolve, hf, Deferred.ofValue, Sem.run_bind, Sem.run_pure, Result.andThen_ok, invoke]
  rw [hv, run_callFunc_extern hfn hname hb hn he, hrun]
  rfl
end
theorem flat_part {α : Type} {enc : α → List Value} {k : Nat} (hk : ∀ x, (enc x).length = k) (l : List α) (d : α) (i off n : Nat) {vs : List Value} (hi : i < l.length) (hvs : ((enc (l.getD i d)).drop off).take n = vs) (hle : off + n ≤ k) :
    ((l.flatMap enc).drop (i * k + off)).take n = vs := by
  rw [← hvs, ← flat_seg hk l d i hi, ← List.drop_drop, List.drop_take, List.take_take, Nat.min_eq_left (by omega)]
theorem indexByte_lt (l : List UInt8) (c : UInt8) : (Go.Lib.indexByte l c < 0) ↔ c ∉ l := by
  induction l with
  | nil => simp [Go.Lib.indexByte]
  | cons b l ih =>
    have := Go.Lib.indexByte_ge l c
    unfold Go.Lib.indexByte
    by_cases h : b = c
    · subst h; simp
    · have hbc : (b == c) = false := by simpa using h
      rw [hbc]
      simp only [Bool.false_eq_true, if_false, List.mem_cons, not_or]
      split
      · rename_i h1
        have : Go.Lib.indexByte l c = -1 := by simpa using h1
        constructor
        · intro _; exact ⟨fun e => h e.symm, ih.1 (by omega)⟩
        · intro _; omega
      · rename_i h1
        have : Go.Lib.indexByte l c ≠ -1 := by simpa using h1
        constructor
        · intro h2; omega
        · intro ⟨_, h2⟩; have := ih.2 h2; omega
section
variable {P : Program} {w : World}
/-- a slice over a part of a block, as bytes -/
theorem rd_bytes {b off : Nat} {cs : Array Value} {T : TypeId} {fz : Nat × Nat} {l : List UInt8} (hB : w.heap[b]? = some (.cells cs T fz)) (h : (cs.toList.drop off).take l.length = bys l) : Rd w 1 (some ⟨b, off, none⟩) l.length (bys l) :=
  ⟨by simp, fun _ => rfl, fun j v hj => by
    simp only [ab, ao]
    rw [cell_at hB]
    have hlt : j < l.length := by have := (List.getElem?_eq_some_iff.1 hj).1; simpa using this
    rw [← h, List.getElem?_take, if_pos hlt, List.getElem?_drop] at hj
    simpa using hj⟩
theorem cvRd {src dst e : TypeId} {l : List UInt8} {A : Option Addr} {c : Nat} (hs : P.underlying src = some (.slice e)) (hd : P.underlying dst = some .string) (he : P.underlying e = some (.int .u8)) (h0 : 0 < l.length) (hr : Rd w 1 A l.length (bys l)) :
    RunOk P w (convert src dst (.slice A l.length c)) (.string (S l)) := by
  intro w' hx
  have hr := rdE hx hr
  rw [hr.addr h0]
  have := run_convert_bytes_arg (P := P) w' src e hs he (ab A) (ao A) l.length c (l.map fun b => (b.toNat : Int)) (by simp) (fun i hi => by
    rw [hr.cell i (.int .u8 ((l[i].toNat : Nat) : Int)) (by simp [hi])]
    simp [List.getD_eq_getElem?_getD, hi]) dst hd
  rw [strOf_bys] at this
  exact this
/-- string(id[:]) -/
theorem cvId {src dst e : TypeId} {b off : Nat} {x : Id} {cs : Array Value} {T : TypeId} {fz : Nat × Nat} (hs : P.underlying src = some (.slice e)) (hd : P.underlying dst = some .string) (he : P.underlying e = some (.int .u8))
    (hB : w.heap[b]? = some (.cells cs T fz)) (h : (cs.toList.drop off).take 32 = idc x) : RunOk P w (convert src dst (.slice (some ⟨b, off, none⟩) 32 32)) (.string (S x.l)) := by
  have hr := rd_bytes (l := x.l) hB (off := off) (by rw [x.h, h, idc_eq])
  have := cvRd (P := P) (c := 32) hs hd he (by rw [x.h]; decide) hr
  rw [x.h] at this
  exact this
end
/-- what the type of ids has to be -/
def idB (P : Program) (t : Nat) : Bool :=
  (match P.underlying t with | some (.array n e) => Nat.beq n 32 && (match P.underlying e with | some (.int .u8) => true | _ => false) && Nat.beq (P.cellsOf e) 1 | _ => false) && Nat.beq (P.cellsOf t) 32 && P.keyTypeAt 10 t && !(P.eqGuardType P.depth t)
theorem idB_spec {P : Program} {t : Nat} (h : idB P t = true) : ∃ e, P.underlying t = some (.array 32 e) ∧ P.underlying e = some (.int .u8) ∧ P.cellsOf e = 1 ∧ P.cellsOf t = 32 ∧ P.keyTypeAt 10 t = true ∧ P.eqGuardType P.depth t = false := by
  unfold idB at h
  simp only [Bool.and_eq_true, Bool.not_eq_true'] at h
  obtain ⟨⟨⟨h1, h2⟩, h3⟩, h4⟩ := h
  split at h1
  · rename_i n e hu
    simp only [Bool.and_eq_true] at h1
    obtain ⟨⟨h5, h6⟩, h7⟩ := h1
    have := beqN h5
    subst this
    refine ⟨e, hu, ?_, beqN h7, beqN h2, h3, h4⟩
    split at h6
    · assumption
    · cases h6
  · cases h1
theorem eqIdE {P : Program} {t : Nat} {x y : Id} (h : idB P t = true) : BinOk P .eql t (.agg ⟨idc x⟩) (.agg ⟨idc y⟩) (.bool (decide (x = y))) := by
  obtain ⟨e, h1, h2, h3, h4, h5, h6⟩ := idB_spec h
  exact eqId (.inl rfl) h1 h2 h3 h4 h5 h6
theorem eqIdN {P : Program} {t : Nat} {x y : Id} (h : idB P t = true) : BinOk P .neq t (.agg ⟨idc x⟩) (.agg ⟨idc y⟩) (.bool (!decide (x = y))) := by
  obtain ⟨e, h1, h2, h3, h4, h5, h6⟩ := idB_spec h
  exact eqId (.inr rfl) h1 h2 h3 h4 h5 h6
end Go.Kn
