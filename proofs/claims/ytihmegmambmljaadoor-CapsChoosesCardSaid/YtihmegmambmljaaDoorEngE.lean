/- The engine, fifth part: blocks of the call's own. -/
import Derived.Test.YtihmegmambmljaaDoorEngD
import GoSem.Claim
set_option linter.unusedSimpArgs false
set_option linter.unusedVariables false
namespace Go.Kn
open Go.RowKit (Below)

/-- Block b is now o; all else is as it was, but what is new. -/
structure Chg (w w' : World) (b : Nat) (o : Obj) : Prop where
  os : w'.os = w.os
  tape : w'.tape = w.tape
  output : w'.output = w.output
  size : w.heap.size ≤ w'.heap.size
  at_ : w'.heap[b]? = some o
  rest : ∀ k, k < w.heap.size → k ≠ b → w'.heap[k]? = w.heap[k]?
theorem lt_of_at {w : World} {b : Nat} {o : Obj} (h : w.heap[b]? = some o) : b < w.heap.size := (Array.getElem?_eq_some_iff.1 h).1
theorem Chg.keep {w w' : World} {b c : Nat} {o o' : Obj} (h : Chg w w' b o) (hc : w.heap[c]? = some o') (hne : c ≠ b) : w'.heap[c]? = some o' := by
  rw [h.rest c (lt_of_at hc) hne]; exact hc
theorem Chg.ext {w0 w w' : World} {b : Nat} {o : Obj} (h : Chg w w' b o) (hx : Ext w0 w) (hb : w0.heap.size ≤ b) : Ext w0 w' :=
  ⟨h.os.trans hx.os, h.tape.trans hx.tape, h.output.trans hx.output, Nat.le_trans hx.size h.size, fun k hk => (h.rest k (Nat.lt_of_lt_of_le hk hx.size) (by omega)).trans (hx.block k hk)⟩
theorem keepB {w w' : World} {c : Nat} {o : Obj} (h : Ext w w') (hc : w.heap[c]? = some o) : w'.heap[c]? = some o := by
  rw [h.block c (lt_of_at hc)]; exact hc
theorem ne_new {w : World} {b c : Nat} {o : Obj} (hc : w.heap[c]? = some o) (hb : w.heap.size ≤ b) : c ≠ b := by
  have := lt_of_at hc; omega

theorem inr_wf {k : IntKind} {n : Int} (h : (Lit.int k n).wf = true) : InR k n := by
  simp only [Lit.wf, Bool.and_eq_true, decide_eq_true_eq] at h
  cases k <;> simp only [IntKind.min, IntKind.max, IntKind.signed, IntKind.bits, if_true, if_false, Bool.false_eq_true] at h <;> simp only [InR] <;> simp at h <;> omega
section
variable {P : Program} {Q : Exit → Act → World → Prop} {a : Act} {w : World} {N : Nat} {ρ : Env}
/-- a new block: a variable, a box -/
theorem lnew {ops : Array Oper} {o : Oper} {l : List Oper} (ha : On N ρ a) (hg : o.guard = none) (hok : okOp N ρ o = true) (cs : Array Value) (T : TypeId)
    (hrun : (execOp ρ.ev o).run P w = .ok (.value (.pointer (some ⟨w.heap.size, 0, none⟩))) { w with heap := w.heap.push (.cells cs T (0, 0)) })
    (k : ∀ b w', Ext w w' → w.heap.size ≤ b → w'.heap[b]? = some (.cells cs T (0, 0)) → ∀ a', On N (ρ.set o.dst (.pointer (some ⟨b, 0, none⟩))) a' → wpList P ops Q l a' w') : wpList P ops Q (o :: l) a w := by
  refine lrun ha hg hok hrun fun a' ha' => k w.heap.size { w with heap := w.heap.push (.cells cs T (0, 0)) } ⟨rfl, rfl, rfl, by simp, fun i hi => ?_⟩ (Nat.le_refl _) ?_ a' ha'
  · show (w.heap.push _)[i]? = _
    rw [Array.getElem?_push, if_neg (by omega)]
  · show (w.heap.push _)[w.heap.size]? = _
    simp

def aggB (P : Program) (t : TypeId) : Bool := match P.underlying t with | some (.struct _) | some (.array _ _) => true | _ => false
theorem isAgg_run {t : TypeId} {b : Bool} (hu : (P.underlying t).isSome = true) (h : aggB P t = b) (w : World) : (isAgg t).run P w = .ok b w := by
  unfold isAgg
  cases hd : P.underlying t with
  | none => simp [hd] at hu
  | some d =>
    simp only [Sem.run_bind, run_underlying hd, Result.andThen_ok]
    unfold aggB at h
    rw [hd] at h
    split at h <;> subst h <;> first | rfl | (split <;> first | rfl | simp_all)
def plainB (P : Program) (t : TypeId) : Bool := match P.underlying t with | some (.struct _) | some (.array _ _) | none => false | _ => true
theorem isAgg_plain {t : TypeId} (h : plainB P t = true) (w : World) : (isAgg t).run P w = .ok false w := by
  unfold plainB at h
  unfold isAgg
  cases hd : P.underlying t with
  | none => simp [hd] at h
  | some d =>
    simp only [Sem.run_bind, run_underlying hd, Result.andThen_ok]
    rw [hd] at h
    cases d <;> first | rfl | simp at h
theorem isAgg_agg {t : TypeId} (h : aggB P t = true) (w : World) : (isAgg t).run P w = .ok true w := by
  unfold aggB at h
  unfold isAgg
  cases hd : P.underlying t with
  | none => simp [hd] at h
  | some d =>
    simp only [Sem.run_bind, run_underlying hd, Result.andThen_ok]
    rw [hd] at h
    cases d <;> first | rfl | simp at h
theorem cell_at {b off : Nat} {cs : Array Value} {T : TypeId} {fz : Nat × Nat} (hB : w.heap[b]? = some (.cells cs T fz)) : w.cell? ⟨b, off, none⟩ = cs[off]? := by
  simp [World.cell?, hB]
theorem loadV1 {t b off : Nat} {cs : Array Value} {T : TypeId} {fz : Nat × Nat} {v : Value} (hB : w.heap[b]? = some (.cells cs T fz)) (ht : plainB P t = true) (hc : cs[off]? = some v) : (loadVar t ⟨b, off, none⟩).run P w = .ok v w := by
  unfold loadVar
  simp only [Sem.run_bind, isAgg_plain ht, Result.andThen_ok, Bool.false_eq_true, if_false, run_load, cell_at hB, hc]
theorem ldV1 {t b off : Nat} {cs : Array Value} {T : TypeId} {fz : Nat × Nat} {v : Value} (hB : w.heap[b]? = some (.cells cs T fz)) (ht : plainB P t = true) (hc : cs[off]? = some v) : (loadVar t ⟨b, off, none⟩).run P w = .ok v w := loadV1 hB ht hc
theorem ld1 {t b off : Nat} {cs : Array Value} {T : TypeId} {fz : Nat × Nat} {v : Value} (hB : w.heap[b]? = some (.cells cs T fz)) (ht : plainB P t = true) (hc : cs[off]? = some v) : RunOk P w (Instr.loadAt t (.pointer (some ⟨b, off, none⟩))) v := by
  intro w' he
  unfold Instr.loadAt
  simp only [Instr.sureAddr, Sem.run_bind, Sem.run_pure, Result.andThen_ok]
  exact loadV1 (keepB he hB) ht hc
def sizeB (P : Program) (t : TypeId) : Option Nat := (P.info? t).map (·.size)
theorem sizeOf_run {t n : Nat} (h : sizeB P t = some n) (w : World) : (Go.sizeOf t).run P w = .ok n w := by
  unfold sizeB at h
  cases hi : P.info? t with
  | none => simp [hi] at h
  | some i =>
    simp only [hi, Option.map_some, Option.some.injEq] at h
    unfold Go.sizeOf
    simp [typeInfo, hi, h]
theorem add_at (b off i : Nat) : (⟨b, off, none⟩ : Addr).add i = ⟨b, off + i, none⟩ := by
  unfold Addr.add
  split
  · rename_i h; subst h; rfl
  · rfl
theorem loadCells_run {b off : Nat} {cs : Array Value} {T : TypeId} {fz : Nat × Nat} (hB : w.heap[b]? = some (.cells cs T fz)) : ∀ (n i : Nat) (acc : Array Value), off + i + n ≤ cs.size →
    (loadCellsFrom ⟨b, off, none⟩ i n acc).run P w = .ok (acc ++ (cs.extract (off + i) (off + i + n))) w := by
  intro n
  induction n with
  | zero => intro i acc _; simp [loadCellsFrom]; omega
  | succ n ih =>
    intro i acc h
    unfold loadCellsFrom
    have hlt : off + i < cs.size := by omega
    simp only [Sem.run_bind, run_load, add_at, cell_at hB, Array.getElem?_eq_getElem hlt, Result.andThen_ok]
    rw [ih (i + 1) _ (by omega)]
    congr 1
    apply Array.ext_getElem?
    intro j
    have e : acc.push cs[off + i] ++ cs.extract (off + (i + 1)) (off + (i + 1) + n) = acc ++ (#[cs[off + i]] ++ cs.extract (off + (i + 1)) (off + (i + 1) + n)) := by
      rw [← Array.append_assoc]; simp
    have e2 : #[cs[off + i]] ++ cs.extract (off + (i + 1)) (off + (i + 1) + n) = cs.extract (off + i) (off + i + (n + 1)) := by
      apply Array.ext_getElem?
      intro q
      cases q with
      | zero => simp [Array.getElem?_append, Array.getElem?_extract]; omega
      | succ q =>
        simp only [Array.getElem?_append, List.size_toArray, List.length_cons, List.length_nil, Array.getElem?_extract]
        simp only [show ¬ (q + 1 < 0 + 1) from by omega, if_false]
        rw [show off + (i + 1) + (q + 1 - (0 + 1)) = off + i + (q + 1) by omega]
        by_cases hq : q + 1 < min (off + i + (n + 1)) cs.size - (off + i)
        · rw [if_pos hq, if_pos (by omega)]
        · rw [if_neg hq, if_neg (by omega)]
    rw [e, e2]
theorem loadVN {t n b off : Nat} {cs : Array Value} {T : TypeId} {fz : Nat × Nat} {vs : Array Value} (hB : w.heap[b]? = some (.cells cs T fz)) (ht : aggB P t = true) (hs : sizeB P t = some n) (hle : off + n ≤ cs.size) (hc : cs.extract off (off + n) = vs) :
    (loadVar t ⟨b, off, none⟩).run P w = .ok (.agg vs) w := by
  unfold loadVar
  simp only [Sem.run_bind, isAgg_agg ht, Result.andThen_ok, if_true, sizeOf_run hs]
  unfold loadCells
  rw [loadCells_run hB n 0 #[] (by omega)]
  simp only [Nat.add_zero, Result.andThen_ok, Sem.run_pure, hc]
  simp
theorem ldVN {t n b off : Nat} {cs : Array Value} {T : TypeId} {fz : Nat × Nat} {vs : Array Value} (hB : w.heap[b]? = some (.cells cs T fz)) (ht : aggB P t = true) (hs : sizeB P t = some n) (hc : (off + n ≤ cs.size) ∧ cs.extract off (off + n) = vs) :
    (loadVar t ⟨b, off, none⟩).run P w = .ok (.agg vs) w := loadVN hB ht hs hc.1 hc.2
theorem ldN {t n b off : Nat} {cs : Array Value} {T : TypeId} {fz : Nat × Nat} {vs : Array Value} (hB : w.heap[b]? = some (.cells cs T fz)) (ht : aggB P t = true) (hs : sizeB P t = some n) (hc : (off + n ≤ cs.size) ∧ cs.extract off (off + n) = vs) :
    RunOk P w (Instr.loadAt t (.pointer (some ⟨b, off, none⟩))) (.agg vs) := by
  intro w' he
  unfold Instr.loadAt
  simp only [Instr.sureAddr, Sem.run_bind, Sem.run_pure, Result.andThen_ok]
  exact loadVN (keepB he hB) ht hs hc.1 hc.2

def oneB : Value → Bool
  | .agg _ | .tuple _ => false
  | _ => true
theorem store1 {b off : Nat} {cs : Array Value} {T : TypeId} {v : Value} (hB : w.heap[b]? = some (.cells cs T (0, 0))) (hlt : off < cs.size) (h1 : oneB v = true) :
    ∃ w', (store ⟨b, off, none⟩ v : Sem Unit).run P w = .ok () w' ∧ Chg w w' b (.cells (cs.setIfInBounds off v) T (0, 0)) := by
  refine ⟨w.setCell ⟨b, off, none⟩ v, ?_, ?_⟩
  · have hc : w.cell? ⟨b, off, none⟩ = some cs[off] := by rw [cell_at hB, Array.getElem?_eq_getElem hlt]
    have hf : w.frozen? ⟨b, off, none⟩ = false := by simp [World.frozen?, hB]
    cases v <;> first | (simp [oneB] at h1; done) | simp [store, Sem.run, hc, hf]
  · refine ⟨rfl, rfl, rfl, by simp [World.setCell], ?_, fun k _ hk => Below.heap_setCell _ _ _ _ hk⟩
    simp [World.setCell, Array.getElem?_modify, hB]
theorem Chg.trans {w w1 w2 : World} {b : Nat} {o o' : Obj} (h : Chg w w1 b o) (k : Chg w1 w2 b o') : Chg w w2 b o' :=
  ⟨k.os.trans h.os, k.tape.trans h.tape, k.output.trans h.output, Nat.le_trans h.size k.size, k.at_, fun i hi hne => (k.rest i (Nat.lt_of_lt_of_le hi h.size) hne).trans (h.rest i hi hne)⟩
def putL (cs : Array Value) (off : Nat) : List Value → Array Value
  | [] => cs
  | v :: l => putL (cs.setIfInBounds off v) (off + 1) l
theorem putL_size : ∀ (l : List Value) (cs : Array Value) (off : Nat), (putL cs off l).size = cs.size := by
  intro l
  induction l with
  | nil => intro cs off; rfl
  | cons v l ih => intro cs off; simp [putL, ih]
theorem storeCells_run {b off : Nat} {T : TypeId} : ∀ (l : List Value) (i : Nat) (w : World) (cs : Array Value), w.heap[b]? = some (.cells cs T (0, 0)) → off + i + l.length ≤ cs.size → (l.all oneB = true) →
    ∃ w', (storeCells ⟨b, off, none⟩ l i).run P w = .ok () w' ∧ Chg w w' b (.cells (putL cs (off + i) l) T (0, 0)) := by
  intro l
  induction l with
  | nil => intro i w cs hB _ _; exact ⟨w, rfl, rfl, rfl, rfl, Nat.le_refl _, hB, fun _ _ _ => rfl⟩
  | cons v l ih =>
    intro i w cs hB hle h1
    simp only [List.all_cons, Bool.and_eq_true] at h1
    simp only [List.length_cons] at hle
    obtain ⟨w1, hr1, hc1⟩ := store1 (P := P) (off := off + i) hB (by omega) h1.1
    obtain ⟨w2, hr2, hc2⟩ := ih (i + 1) w1 _ hc1.at_ (by simp; omega) h1.2
    refine ⟨w2, ?_, hc1.trans ?_⟩
    · unfold storeCells
      simp only [Sem.run_bind, add_at, hr1, Result.andThen_ok]
      exact hr2
    · exact hc2
/-- a store into a block that is known whole -/
theorem lstore {ops : Array Oper} {o : Oper} {l : List Oper} {t b off : Nat} {x y : Operand} {cs : Array Value} {T : TypeId} (ha : On N ρ a) (hg : o.guard = none) (hd : o.dst = none) (hok : okOp N ρ o = true)
    (hB : w.heap[b]? = some (.cells cs T (0, 0))) (cs' : Array Value) (ho : o.op = .store t x y)
    (hrun : (match ρ.ev x, sizeB P t with
      | .pointer (some ad), some n => bif Nat.beq n (ρ.ev y).cells.size && Nat.ble (ad.off + n) cs.size && (ρ.ev y).cells.toList.all oneB then some (ad.off, putL cs ad.off (ρ.ev y).cells.toList) else none
      | _, _ => none) = some (off, cs'))
    (hp : ρ.ev x = .pointer (some ⟨b, off, none⟩))
    (k : ∀ w', Chg w w' b (.cells cs' T (0, 0)) → ∀ a', On N ρ a' → wpList P ops Q l a' w') : wpList P ops Q (o :: l) a w := by
  rw [hp] at hrun
  cases hn : sizeB P t with
  | none => simp [hn] at hrun
  | some n =>
    simp only [hn] at hrun
    cases hq : Nat.beq n (ρ.ev y).cells.size && Nat.ble (off + n) cs.size && (ρ.ev y).cells.toList.all oneB with
    | false => rw [hq] at hrun; simp at hrun
    | true =>
      simp only [hq, cond_true, Option.some.injEq, Prod.mk.injEq, true_and] at hrun
      simp only [Bool.and_eq_true] at hq
      obtain ⟨⟨h1, h2⟩, h3⟩ := hq
      have h1 := beqN h1
      have h2 := Nat.le_of_ble_eq_true h2
      obtain ⟨w', hr, hc⟩ := storeCells_run (P := P) (b := b) (off := off) (T := T) (ρ.ev y).cells.toList 0 w cs hB (by simp only [Nat.add_zero, Array.length_toList]; omega) h3
      simp only [Nat.add_zero] at hc
      rw [hrun] at hc
      refine lskip ha hg hd hok (w' := w') ?_ fun a' ha' => k w' hc a' ha'
      simp only [execOp, ho, hp, Instr.storeAt, Instr.sureAddr, storeVar, Sem.run_bind, Sem.run_pure, Result.andThen_ok, sizeOf_run hn, h1]
      simp only [ne_eq, not_true_eq_false, if_false, Sem.run_bind, Sem.run_pure, Result.andThen_ok, hr]
end
end Go.Kn
