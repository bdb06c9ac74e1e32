/- The engine, ninth part: maps of the call's own, with keys that are numbers or texts. -/
import Derived.Test.YtihmegmambmljaaDoorEngF
import Derived.MapKept
set_option linter.unusedSimpArgs false
set_option linter.unusedVariables false
set_option linter.unusedSectionVars false
namespace Go.Kn
open Go.RowKit (Below)
open Go.MapKept

section
variable {α β : Type} [DecidableEq α]
def mget : List (α × β) → α → Option β
  | [], _ => none
  | p :: l, k => if k = p.1 then some p.2 else mget l k
def mset : List (α × β) → α → β → List (α × β)
  | [], k, v => [(k, v)]
  | p :: l, k, v => if k = p.1 then (k, v) :: l else p :: mset l k v
theorem mget_mset : ∀ (l : List (α × β)) (k : α) (v : β) (k' : α), mget (mset l k v) k' = if k' = k then some v else mget l k' := by
  intro l
  induction l with
  | nil => intro k v k'; simp [mset, mget]
  | cons p l ih =>
    intro k v k'
    unfold mset
    by_cases h : k = p.1
    · subst h
      simp only [if_true, mget]
      by_cases h2 : k' = p.1 <;> simp [h2]
    · simp only [if_neg h, mget, ih]
      by_cases h2 : k' = p.1
      · subst h2; simp [h]; intro h3; exact absurd h3.symm h
      · simp [h2]
end
section
variable {α β : Type} [DecidableEq α]
/-- block b is a map that reads as l -/
def MapR (ek : α → Value) (ev : β → Value) (w : World) (b : Nat) (l : List (α × β)) : Prop :=
  ∃ es clock, w.heap[b]? = some (.map es clock) ∧ es.toList.map (fun e => (e.key, e.val)) = l.map (fun p => (ek p.1, ev p.2))
variable {ek : α → Value} {ev : β → Value} {P : Program} {w w' : World} {b : Nat} {l : List (α × β)}
theorem mapE (he : Ext w w') (h : MapR ek ev w b l) : MapR ek ev w' b l := by
  obtain ⟨es, c, h1, h2⟩ := h
  exact ⟨es, c, by rw [he.block b (lt_of_at h1)]; exact h1, h2⟩
theorem mapC {b' : Nat} {o : Obj} {cs : Array Value} {T : TypeId} {fz : Nat × Nat} (hc : Chg w w' b' o) (hB : w.heap[b']? = some (.cells cs T fz)) (h : MapR ek ev w b l) : MapR ek ev w' b l := by
  obtain ⟨es, c, h1, h2⟩ := h
  exact ⟨es, c, hc.keep h1 (fun e => by subst e; rw [hB] at h1; cases h1), h2⟩
theorem mapG {v : Value} {e' sz' n' : Nat} {xs' : List Value} {B' : Nat} (hg : w.grownBy w' v.ownBlock) (hv : w.ownsRow B' e' sz' v n' xs') (h : MapR ek ev w b l) : MapR ek ev w' b l := by
  obtain ⟨es, c, h1, h2⟩ := h
  refine ⟨es, c, ?_, h2⟩
  rw [hg.block b (lt_of_at h1) ?_]; · exact h1
  intro he
  rcases hv.2 with ⟨rfl, _⟩ | ⟨g', cap', cur', rfl, _, hg', _⟩
  · simp [Value.ownBlock] at he
  · simp only [Value.ownBlock, Option.some.injEq] at he
    subst he
    rw [h1] at hg'; cases hg'
theorem chgM_keep {o o' : Obj} {c : Nat} (hM : MapR ek ev w b l) (hc : Chg w w' b o) {cs : Array Value} {T : TypeId} {fz : Nat × Nat} (hB : w.heap[c]? = some (.cells cs T fz)) : w'.heap[c]? = some (.cells cs T fz) := by
  obtain ⟨es, q, h1, h2⟩ := hM
  exact hc.keep hB (fun e => by subst e; rw [hB] at h1; cases h1)
theorem ownM {B e sz n c : Nat} {A : Option Addr} {xs : List Value} {o : Obj} (hM : MapR ek ev w b l) (hc : Chg w w' b o) (h : Own w B e sz A n c xs) : Own w' B e sz A n c xs := by
  refine ⟨h.1, ?_⟩
  rcases h.2 with h0 | ⟨g, cap, cur, hv, hb, hg, hr⟩
  · exact .inl h0
  · exact .inr ⟨g, cap, cur, hv, hb, chgM_keep (o' := o) hM hc hg, hr⟩
/-- what a key type has to know -/
structure KeyOk (ek : α → Value) (d : TypeDesc) : Prop where
  key : ∀ x, IsKey d (ek x)
  inj : ∀ x y, ek x = ek y → x = y
theorem find_at {d : TypeDesc} (K : KeyOk ek d) (k : α) : ∀ (es : List MapEntry) (l : List (α × β)) (i : Nat), es.map (fun e => (e.key, e.val)) = l.map (fun p => (ek p.1, ev p.2)) →
    (Instr.findNow d (ek k) es i = some none ∧ mget l k = none ∧ ∀ v, mset l k v = l ++ [(k, v)]) ∨
    (∃ j e v0, Instr.findNow d (ek k) es i = some (some (i + j, e.val)) ∧ es[j]? = some e ∧ e.key = ek k ∧ e.val = ev v0 ∧ mget l k = some v0 ∧ ∀ v, mset l k v = l.set j (k, v)) := by
  intro es
  induction es with
  | nil =>
    intro l i h
    have : l = [] := by cases l <;> simp_all
    subst this
    exact .inl ⟨rfl, rfl, fun v => rfl⟩
  | cons e es ih =>
    intro l i h
    cases l with
    | nil => simp at h
    | cons p l =>
      simp only [List.map_cons, List.cons.injEq, Prod.mk.injEq] at h
      obtain ⟨⟨hk, hv⟩, ht⟩ := h
      obtain ⟨r, hr, hrt⟩ := sameNow_of_keys (K.key k) (show IsKey d e.key by rw [hk]; exact K.key _)
      by_cases hkp : k = p.1
      · have : r = true := hrt.2 (by rw [hk, hkp])
        subst this
        refine .inr ⟨0, e, p.2, ?_, rfl, by rw [hk, hkp], hv, ?_, fun v => ?_⟩
        · rw [Instr.findNow]; simp [hr]
        · simp [mget, hkp]
        · simp [mset, hkp]
      · have : r = false := by
          cases r with
          | false => rfl
          | true => exact absurd (K.inj _ _ ((hrt.1 rfl).trans hk)) hkp
        subst this
        rcases ih l (i + 1) ht with ⟨h1, h2, h3⟩ | ⟨j, e', v0, h1, h2, h3, h4, h5, h6⟩
        · refine .inl ⟨?_, ?_, fun v => ?_⟩
          · rw [Instr.findNow]; simp [hr, h1]
          · simp [mget, hkp, h2]
          · simp [mset, hkp, h3]
        · refine .inr ⟨j + 1, e', v0, ?_, by simpa using h2, h3, h4, ?_, fun v => ?_⟩
          · rw [Instr.findNow]; simp only [hr, h1]; rw [Nat.add_assoc, Nat.add_comm 1 j]
          · simp [mget, hkp, h5]
          · simp [mset, hkp, h6]
def zeroB (P : Program) (t : TypeId) : Option Value := (P.info? t).bind (·.zero)
theorem zero_run {t : TypeId} {z : Value} (h : zeroB P t = some z) (w : World) : (zeroValue t).run P w = .ok z w := by
  unfold zeroB at h
  cases hi : P.info? t with
  | none => simp [hi] at h
  | some i =>
    simp only [hi, Option.bind_some] at h
    unfold zeroValue
    simp [typeInfo, hi, h]
/-- v, ok := m[k] -/
theorem lkM {t kt et : TypeId} {d : TypeDesc} {k : α} {z : β} (ht : P.underlying t = some (.map kt et)) (hk : P.underlying kt = some d) (K : KeyOk ek d) (hz : zeroB P et = some (ev z)) (hM : MapR ek ev w b l) :
    RunOk P w (Instr.lookup t (.map (some b)) (ek k) true) (.tuple #[ev ((mget l k).getD z), .bool (mget l k).isSome]) := by
  intro w' he
  obtain ⟨es, c, h1, h2⟩ := mapE he hM
  rcases find_at K k es.toList l 0 h2 with ⟨hf, hm, _⟩ | ⟨j, e, v0, hf, _, _, hv, hm, _⟩
  · simp [Instr.lookup, run_underlying ht, MapKept.run_getObj_map h1, run_checkKey hk (K.key k), run_findKey hk hf, hm, zero_run hz, Result.andThen]
  · simp [Instr.lookup, run_underlying ht, MapKept.run_getObj_map h1, run_checkKey hk (K.key k), run_findKey hk hf, hm, hv, Result.andThen]
variable {Q : Exit → Act → World → Prop} {a : Act} {N : Nat} {ρ : Env}
/-- make(map[K]V) -/
theorem lnewM {ops : Array Oper} {o : Oper} {lo : List Oper} {t : TypeId} (ek : α → Value) (ev : β → Value) (ha : On N ρ a) (hg : o.guard = none) (hok : okOp N ρ o = true) (ho : o.op = .makeMap t none)
    (k : ∀ b w', Ext w w' → w.heap.size ≤ b → MapR ek ev w' b [] → ∀ a', On N (ρ.set o.dst (.map (some b))) a' → wpList P ops Q lo a' w') : wpList P ops Q (o :: lo) a w := by
  refine lrun ha hg hok (v := .map (some w.heap.size)) (w' := { w with heap := w.heap.push (.map #[] 0) }) ?_ fun a' ha' => k w.heap.size { w with heap := w.heap.push (.map #[] 0) } ⟨rfl, rfl, rfl, by simp, fun i hi => ?_⟩ (Nat.le_refl _) ⟨#[], 0, ?_, rfl⟩ a' ha'
  · simp only [execOp, ho]; rfl
  · show (w.heap.push _)[i]? = _
    rw [Array.getElem?_push, if_neg (by omega)]
  · show (w.heap.push _)[w.heap.size]? = _
    simp
/-- m[k] = v -/
theorem lmset {ops : Array Oper} {o : Oper} {lo : List Oper} {t kt et : TypeId} {d : TypeDesc} {x y z : Operand} {k : α} {v : β} (ha : On N ρ a) (hg : o.guard = none) (hd : o.dst = none) (hok : okOp N ρ o = true)
    (ho : o.op = .mapUpdate t x y z) (ht : P.underlying t = some (.map kt et)) (hk : P.underlying kt = some d) (K : KeyOk ek d) (hM : MapR ek ev w b l)
    (hx : ρ.ev x = .map (some b)) (hy : ρ.ev y = ek k) (hz : ρ.ev z = ev v)
    (cont : ∀ w' ob, Chg w w' b ob → MapR ek ev w' b (mset l k v) → ∀ a', On N ρ a' → wpList P ops Q lo a' w') : wpList P ops Q (o :: lo) a w := by
  obtain ⟨es, c, h1, h2⟩ := hM
  have hset : ∀ ob : Obj, Chg w { w with heap := w.heap.setIfInBounds b ob } b ob := fun ob =>
    ⟨rfl, rfl, rfl, by simp, (heap_set h1).1, fun k' _ hne => (heap_set h1).2 k' hne⟩
  rcases find_at K k es.toList l 0 h2 with ⟨hf, hm, hs⟩ | ⟨j, e, v0, hf, hj, hek, hv, hm, hs⟩
  · refine lskip ha hg hd hok (w' := { w with heap := w.heap.setIfInBounds b (.map (es.push { key := ek k, val := ev v, born := c }) (c + 1)) }) ?_ fun a' ha' => cont _ _ (hset _) ⟨_, _, (hset _).at_, ?_⟩ a' ha'
    · simp [execOp, ho, hx, hy, hz, Instr.mapUpdate, run_underlying ht, MapKept.run_getObj_map h1, run_checkKey hk (K.key k), run_findKey hk hf, run_setObj_map _ h1, Result.andThen]
    · rw [hs]; simp [h2]
  · refine lskip ha hg hd hok (w' := { w with heap := w.heap.setIfInBounds b (.map (es.modify j fun e => { e with key := ek k, val := ev v }) c) }) ?_ fun a' ha' => cont _ _ (hset _) ⟨_, _, (hset _).at_, ?_⟩ a' ha'
    · have hj' : es[j]? = some e := by simpa using hj
      simp [execOp, ho, hx, hy, hz, Instr.mapUpdate, run_underlying ht, MapKept.run_getObj_map h1, run_checkKey hk (K.key k), run_findKey hk hf, hj', hek, run_keyThatStays (K.key k), run_setObj_map _ h1, Result.andThen]
    · rw [hs]
      apply List.ext_getElem?
      intro q
      have hq : (es.toList.map (fun e => (e.key, e.val)))[q]? = (l.map (fun p => (ek p.1, ev p.2)))[q]? := by rw [h2]
      simp only [List.getElem?_map, Array.getElem?_toList] at hq
      simp only [List.getElem?_map, List.getElem?_set, Array.getElem?_toList, Array.getElem?_modify]
      by_cases hqj : j = q
      · subst hqj
        have hj' : es[j]? = some e := by simpa using hj
        rw [hj'] at hq ⊢
        simp only [Option.map_some] at hq
        have hlt : j < l.length := by
          cases hlj : l[j]? with
          | none => simp [hlj] at hq
          | some x => exact (List.getElem?_eq_some_iff.1 hlj).1
        simp [hlt]
      · simp [hqj, hq]
end
theorem keyInt (k : IntKind) : KeyOk (fun n : Int => Value.int k n) (.int k) := ⟨fun x => by simp [IsKey], fun x y h => by simpa using h⟩
theorem keyStr : KeyOk (fun l : List UInt8 => Value.string (S l)) .string := ⟨fun x => trivial, fun x y h => by
  have := congrArg (fun v => match v with | Value.string s => s.data.toList | _ => []) h
  simpa [S] using this⟩
#print axioms lmset
end Go.Kn
