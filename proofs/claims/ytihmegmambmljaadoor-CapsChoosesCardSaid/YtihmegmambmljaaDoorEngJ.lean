/- The engine, tenth part: a region in any order, where operations write memory: what each value is is described, and what holds of the world by what has been done. -/
import Derived.Test.YtihmegmambmljaaDoorEngI
import Derived.Test.YtihmegmambmljaaDoorEngG
set_option linter.unusedSimpArgs false
set_option linter.unusedVariables false
namespace Go.Kn
open Go.RowKit (Below)

/-- one operation carried out, and what holds of its value and world -/
def OpStep (P : Program) (e : Operand → Value) (o : Oper) (w : World) (K : Value → World → Prop) : Prop :=
  (∃ v w', (execOp e o).run P w = .ok (.value v) w' ∧ K v w') ∨ (∃ w', (execOp e o).run P w = .ok .skip w' ∧ K undef w') ∨
  (∃ f args w1, (execOp e o).run P w = .ok (.enter f args) w1 ∧ Fn P f args w1 K)
theorem OpStep.congr {P : Program} {e e' : Operand → Value} {o : Oper} {w : World} {K : Value → World → Prop} (h : OpStep P e o w K) (he : execOp e' o = execOp e o) : OpStep P e' o w K := by
  unfold OpStep at h ⊢; rw [he]; exact h
theorem OpStep.wp {P : Program} {o : Oper} {a : Act} {w : World} {K : Value → World → Prop} {K' : Act → World → Prop} {Q : Exit → Act → World → Prop} (h : OpStep P a.eval o w K) (k : ∀ v w', K v w' → K' (a.put o.dst v) w') : o.wp P a w K' Q := by
  unfold Oper.wp
  rcases h with ⟨v, w', h, hk⟩ | ⟨w', h, hk⟩ | ⟨f, args, w1, h, hc⟩
  · rw [h]; exact k v w' hk
  · rw [h]; exact k _ w' hk
  · rw [h, Oper.upon_enter]
    refine Calls.mono hc ?_
    rintro e w' ⟨v', rfl, hk⟩
    exact k v' w' hk
def updL (L : Nat → Bool) (i : Nat) : Nat → Bool := fun j => if i = j then true else L j
def ClosedL (ops : Array Oper) (L : Nat → Bool) : Prop := ∀ (j : Nat) (o : Oper), L j = true → ops[j]? = some o → ∀ e ∈ o.after.toList, Region.binds .any e = true → L e.on = true
def lst (listed : Array Bool) : Nat → Bool := fun i => listed[i]? == some true
section
variable {P : Program} {ops : Array Oper} {Q : Exit → Act → World → Prop}
/-- the slots that an operation looks at -/
def SlotsI (ops : Array Oper) (D : Nat → Value → World → Prop) (T0 : Array Value) (i : Nat) (o : Oper) (T : Array Value) (w : World) : Prop :=
  ∀ t ∈ looks ops o, t < T0.size → (∀ j oj, ops[j]? = some oj → oj.dst = some t → j < i → ∃ v, T[t]? = some v ∧ D j v w) ∧ ((∀ (j : Nat) (oj : Oper), j < i → ops[j]? = some oj → oj.dst ≠ some t) → T[t]? = T0[t]?)
structure RInvI (ops : Array Oper) (D : Nat → Value → World → Prop) (I : (Nat → Bool) → World → Prop) (T0 : Array Value) (listed : Array Bool) (a : Act) (w : World) : Prop where
  size : listed.size = ops.size
  closed : ∀ (j : Nat) (o : Oper), listed[j]? = some true → ops[j]? = some o → ∀ e ∈ o.after.toList, Region.binds .any e = true → listed[e.on]? = some true
  defers : a.defers = []
  tsize : a.tmps.size = T0.size
  inv : I (lst listed) w
  got : ∀ (t i : Nat) (o : Oper), ops[i]? = some o → o.dst = some t → listed[i]? = some true → t < T0.size → ∃ v, a.tmps[t]? = some v ∧ D i v w
  old : ∀ t : Nat, (∀ (i : Nat) (o : Oper), ops[i]? = some o → o.dst = some t → listed[i]? ≠ some true) → a.tmps[t]? = T0[t]?
theorem lst_true {listed : Array Bool} {i : Nat} : lst listed i = true ↔ listed[i]? = some true := by simp [lst]
theorem any_orderI {ms : List Nat} (hc : Chk ops ms) (hsel : ∀ (i : Nat) (o : Oper), ops[i]? = some o → notSelect o.op = true) {T0 : Array Value} {D : Nat → Value → World → Prop} {I : (Nat → Bool) → World → Prop}
    (hstep : ∀ (i : Nat) (o : Oper), ops[i]? = some o → ∀ (L : Nat → Bool) (T : Array Value) (w : World), ClosedL ops L → L i = false → (∀ e ∈ o.after.toList, Region.binds .any e = true → L e.on = true) → I L w → T.size = T0.size → SlotsI ops D T0 i o T w →
      (if Region.wanted o (yielded ops T) = true then OpStep P (evT T) o w (fun v w' => D i v w' ∧ I (updL L i) w' ∧ ∀ j, L j = true → ∀ u, D j u w → D j u w') else D i undef w ∧ I (updL L i) w))
    (k : ∀ a w L, (∀ i, i < ops.size → L i = true) → a.tmps.size = T0.size → a.defers = [] → I L w →
      (∀ (t i : Nat) (o : Oper), ops[i]? = some o → o.dst = some t → t < T0.size → ∃ v, a.tmps[t]? = some v ∧ D i v w) → (∀ t : Nat, (∀ (i : Nat) (o : Oper), ops[i]? = some o → o.dst ≠ some t) → a.tmps[t]? = T0[t]?) → Q .normal a w) :
    ∀ (fuel : Nat) (listed : Array Bool) (a : Act) (w : World), RInvI ops D I T0 listed a w →
      (List.range ops.size).countP (fun i : Nat => listed[i]? != some true) ≤ fuel → wpAny P .any ops Q fuel listed a w := by
  have hend : ∀ listed a w, RInvI ops D I T0 listed a w → (∀ i, i < ops.size → listed[i]? = some true) → Q .normal a w := by
    intro listed a w hI hall
    refine k a w (lst listed) (fun i hi => lst_true.2 (hall i hi)) hI.tsize hI.defers hI.inv (fun t i o ho hd ht => ?_) (fun t h => ?_)
    · exact hI.got t i o ho hd (hall i (Array.getElem?_eq_some_iff.1 ho).1) ht
    · exact hI.old t fun i o ho hd => absurd hd (h i o ho)
  have hallOf : ∀ listed a w, RInvI ops D I T0 listed a w → Region.ready .any ops listed = [] → ∀ i, i < ops.size → listed[i]? = some true := by
    intro listed a w hI hr i
    induction i using Nat.strongRecOn with
    | _ i ih =>
      intro hi
      have hi' : ops[i]? = some ops[i] := Array.getElem?_eq_getElem hi
      have hli : i < listed.size := by rw [hI.size]; exact hi
      cases hl : listed[i] with
      | true => rw [Array.getElem?_eq_getElem hli, hl]
      | false =>
        exfalso
        have : i ∈ Region.ready .any ops listed := by
          unfold Region.ready
          rw [List.mem_filter]
          refine ⟨List.mem_range.2 hi, ?_⟩
          simp only [hi', Option.map_some, Option.getD_some, Bool.and_eq_true, Bool.not_eq_true']
          refine ⟨by rw [Array.getD_eq_getD_getElem?, Array.getElem?_eq_getElem hli, hl]; rfl, ?_⟩
          rw [Array.all_eq_true']
          intro e he
          cases hb : Region.binds .any e with
          | false => rfl
          | true =>
            have hlt := hc.ahead i _ hi' e (by simpa using he) hb
            have := ih e.on hlt (by omega)
            simp [Array.getD_eq_getD_getElem?, this]
        rw [hr] at this
        cases this
  intro fuel
  induction fuel with
  | zero =>
    intro listed a w hI hcount
    have hall : ∀ i, i < ops.size → listed[i]? = some true := by
      intro i hi
      have := List.countP_eq_zero.1 (Nat.le_zero.1 hcount) i (List.mem_range.2 hi)
      simpa using this
    refine ⟨?_, hend listed a w hI hall⟩
    unfold Region.ready
    rw [List.filter_eq_nil_iff]
    intro i hi
    have := hall i (List.mem_range.1 hi)
    simp [Array.getD_eq_getD_getElem?, this]
  | succ fuel ih =>
    intro listed a w hI hcount
    refine ⟨fun hr => hend listed a w hI (hallOf listed a w hI hr), fun i hi => ?_⟩
    unfold Region.ready at hi
    rw [List.mem_filter] at hi
    obtain ⟨hin, hrd⟩ := hi
    have hin := List.mem_range.1 hin
    have hi' : ops[i]? = some ops[i] := Array.getElem?_eq_getElem hin
    simp only [hi', Option.map_some, Option.getD_some, Bool.and_eq_true, Bool.not_eq_true'] at hrd
    obtain ⟨hun, haf⟩ := hrd
    have hli : i < listed.size := by rw [hI.size]; exact hin
    have hun' : listed[i]? = some false := by
      rw [Array.getD_eq_getD_getElem?, Array.getElem?_eq_getElem hli] at hun
      rw [Array.getElem?_eq_getElem hli]
      simpa using hun
    have hdeps : ∀ e ∈ ops[i].after.toList, Region.binds .any e = true → listed[e.on]? = some true := by
      intro e he hb
      have := Array.all_eq_true'.1 haf e (by simpa using he)
      simp only [hb, Bool.not_true, Bool.false_or, Array.getD_eq_getD_getElem?] at this
      cases h : listed[e.on]? with
      | none => simp [h] at this
      | some b => simp only [h, Option.getD_some] at this; rw [this]
    have hslots : SlotsI ops D T0 i ops[i] a.tmps w := by
      intro t ht hlt
      refine ⟨fun j oj hj hd hji => ?_, fun hno => ?_⟩
      · have hb := chk_fwd hc hji hj hi' hd ht
        exact hI.got t j oj hj hd (dep_listed hc hI.closed i _ hi' hdeps j hb) hlt
      · refine hI.old t fun j oj hj hd hl => ?_
        rcases Nat.lt_trichotomy j i with h | h | h
        · exact hno j oj h hj hd
        · subst h; rw [hun'] at hl; cases hl
        · have hb := chk_bwd hc h hi' hj hd ht
          have := dep_listed hc hI.closed j oj hj (hI.closed j oj hl hj) i hb
          rw [hun'] at this; cases this
    have hset : ∀ j, (listed.setIfInBounds i true)[j]? = if i = j then some true else listed[j]? := by
      intro j
      rw [Array.getElem?_setIfInBounds]
      by_cases h : i = j
      · simp [h]; omega
      · simp [h]
    have hlst : lst (listed.setIfInBounds i true) = updL (lst listed) i := by
      funext j
      simp only [lst, updL, hset]
      split <;> simp
    have hnext : ∀ v w', D i v w' → I (updL (lst listed) i) w' → (∀ j, lst listed j = true → ∀ u, D j u w → D j u w') → wpAny P .any ops Q fuel (listed.setIfInBounds i true) (a.put ops[i].dst v) w' := by
      intro v w' hD hI' hkeep
      refine ih _ _ _ ⟨by simp [hI.size], ?_, by rw [put_defers, hI.defers], by rw [put_tmps, putA_size, hI.tsize], by rw [hlst]; exact hI', ?_, ?_⟩ ?_
      · intro j o hl ho e he hb
        rw [hset] at hl ⊢
        by_cases hie : i = e.on
        · simp [hie]
        · rw [if_neg hie]
          by_cases hij : i = j
          · subst hij
            rw [hi'] at ho
            cases ho
            exact hdeps e he hb
          · rw [if_neg hij] at hl
            exact hI.closed j o hl ho e he hb
      · intro t j o ho hd hl ht
        rw [hset] at hl
        rw [put_tmps]
        by_cases hij : i = j
        · subst hij
          rw [hi'] at ho
          cases ho
          exact ⟨v, by rw [putA_get _ _ _ _ (by rw [hI.tsize]; exact ht), if_pos hd], hD⟩
        · rw [if_neg hij] at hl
          rw [putA_ne _ _ _ _ (fun h => hij (chk_uniq hc hi' ho h hd))]
          obtain ⟨u, hu, hDu⟩ := hI.got t j o ho hd hl ht
          exact ⟨u, hu, hkeep j (lst_true.2 hl) u hDu⟩
      · intro t h
        rw [put_tmps, putA_ne _ _ _ _ (fun hd => h i _ hi' hd (by rw [hset, if_pos rfl]))]
        refine hI.old t fun j o ho hd hl => h j o ho hd ?_
        rw [hset]
        split
        · rfl
        · exact hl
      · have hlt : (List.range ops.size).countP (fun j : Nat => (listed.setIfInBounds i true)[j]? != some true) < (List.range ops.size).countP (fun j : Nat => listed[j]? != some true) := by
          have himp : ∀ j : Nat, ((listed.setIfInBounds i true)[j]? != some true) = true → (listed[j]? != some true) = true := by
            intro j hj
            rw [hset] at hj
            split at hj
            · simp at hj
            · exact hj
          exact countP_lt himp (List.mem_range.2 hin) (by rw [hun']; rfl) (by rw [hset, if_pos rfl]; rfl)
        omega
    have hst := hstep i ops[i] hi' (lst listed) a.tmps w (fun j o hl ho e he hb => lst_true.2 (hI.closed j o (lst_true.1 hl) ho e he hb)) (by simp [lst, hun'])
      (fun e he hb => lst_true.2 (hdeps e he hb)) hI.inv hI.tsize hslots
    unfold wpOp
    rw [hi']
    simp only
    split
    · rename_i hww
      rw [if_pos hww] at hst
      left
      rw [← evT_eq] at hst
      exact hst.wp fun v w' ⟨h1, h2, h3⟩ => hnext v w' h1 h2 h3
    · rename_i hww
      rw [if_neg hww] at hst
      exact hnext undef w hst.1 hst.2 (fun _ _ _ h => h)
end


/-! ## who waits for whom -/
def masks (ops : Array Oper) : List Nat := masksGo ops.toList []
def dep (ops : Array Oper) (i k : Nat) : Bool := Nat.testBit ((masks ops).getD i 0) k
theorem mg_pre : ∀ (l : List Oper) (acc : List Nat), ∃ r, masksGo l acc = acc ++ r ∧ r.length = l.length := by
  intro l
  induction l with
  | nil => intro acc; exact ⟨[], by simp [masksGo], rfl⟩
  | cons o l ih =>
    intro acc
    obtain ⟨r, h1, h2⟩ := ih (acc ++ [maskAt acc o])
    exact ⟨maskAt acc o :: r, by simp [masksGo, h1], by simp [h2]⟩
theorem mg_at : ∀ (l : List Oper) (acc : List Nat) (i : Nat) (o : Oper), l[i]? = some o → (masksGo l acc)[acc.length + i]? = some (maskAt ((masksGo l acc).take (acc.length + i)) o) := by
  intro l
  induction l with
  | nil => intro acc i o h; simp at h
  | cons q l ih =>
    intro acc i o h
    cases i with
    | zero =>
      simp only [List.getElem?_cons_zero, Option.some.injEq] at h
      subst h
      obtain ⟨r, h1, h2⟩ := mg_pre l (acc ++ [maskAt acc q])
      simp only [masksGo, h1]
      simp
    | succ i =>
      simp only [List.getElem?_cons_succ] at h
      have := ih (acc ++ [maskAt acc q]) i o h
      simp only [List.length_append, List.length_cons, List.length_nil] at this
      simp only [masksGo]
      rw [show acc.length + (i + 1) = acc.length + (0 + 1) + i by omega]
      exact this
theorem dep_in {ops : Array Oper} {L : Nat → Bool} (hcl : ClosedL ops L) : ∀ (i : Nat) (o : Oper), ops[i]? = some o → (∀ e ∈ o.after.toList, Region.binds .any e = true → L e.on = true) → ∀ k, dep ops i k = true → L k = true := by
  intro i
  induction i using Nat.strongRecOn with
  | _ i ih =>
    intro o ho hd k hk
    have hm := mg_at ops.toList [] i o (by simpa using ho)
    simp only [List.length_nil, Nat.zero_add] at hm
    unfold dep masks at hk
    rw [List.getD_eq_getElem?_getD, hm, Option.getD_some] at hk
    obtain ⟨e, he, hb, h⟩ := maskAt_bit _ _ _ hk
    rcases h with rfl | h
    · exact hd e he hb
    · have hlt : e.on < i := by
        rcases Nat.lt_or_ge e.on i with h1 | h1
        · exact h1
        · rw [List.getD_eq_getElem?_getD, List.getElem?_take, if_neg (by omega)] at h
          simp at h
      rw [List.getD_eq_getElem?_getD, List.getElem?_take, if_pos hlt, ← List.getD_eq_getElem?_getD] at h
      have hi : i < ops.size := (Array.getElem?_eq_some_iff.1 ho).1
      have hq : ops[e.on]? = some ops[e.on] := Array.getElem?_eq_getElem (by omega)
      exact ih e.on hlt _ hq (hcl e.on _ (hd e he hb) hq) k h

/-- what is asked of an operation: nothing beyond the reckoning; its value, described; its value, told -/
inductive Sp where
  | des
  | val (v : Value)
def xsp (P : Program) (w0 : World) (N : Nat) (ms : Nat → Option M) (sp : Nat → Option Sp) : Nat → List Oper → Env → Option (List (Nat × Env × Value × List Prop) × Env)
  | _, [], ρ => some ([], ρ)
  | i, o :: l, ρ =>
    bif o.guard.isNone && okDst N o.dst then
      (match sp i with
       | some .des => (match xsp P w0 N ms sp (i + 1) l (ρ.less (dstsOf [o])) with | some (r, ρ') => some ((i, ρ, undef, []) :: r, ρ') | none => none)
       | some (.val v) => (match xsp P w0 N ms sp (i + 1) l (ρ.set o.dst v) with | some (r, ρ') => some ((i, ρ, v, []) :: r, ρ') | none => none)
       | none => bif okOp N ρ o then
           (match xop P w0 (ms i) ρ o with
            | some (v, C) => (match xsp P w0 N ms sp (i + 1) l (ρ.set o.dst v) with | some (r, ρ') => some ((i, ρ, v, C) :: r, ρ') | none => none)
            | none => none)
          else none)
    else none
def AllP {α : Type} (p : α → Prop) : List α → Prop
  | [] => True
  | x :: l => p x ∧ AllP p l
theorem AllP.at {α : Type} {p : α → Prop} : ∀ {l : List α}, AllP p l → ∀ x ∈ l, p x := by
  intro l
  induction l with
  | nil => intro _ x hx; cases hx
  | cons y l ih =>
    intro h x hx
    rcases List.mem_cons.1 hx with rfl | hx
    · exact h.1
    · exact ih h.2 x hx
def spAt : List (Nat × Sp) → Nat → Option Sp
  | [], _ => none
  | (k, m) :: r, i => bif Nat.beq k i then some m else spAt r i
theorem spAt_mem {sp : List (Nat × Sp)} {i : Nat} {m : Sp} (h : spAt sp i = some m) : (i, m) ∈ sp := by
  induction sp with
  | nil => simp [spAt] at h
  | cons x r ih =>
    obtain ⟨k, q⟩ := x
    simp only [spAt] at h
    cases hb : Nat.beq k i with
    | true => rw [hb] at h; simp only [cond_true, Option.some.injEq] at h; have := Nat.eq_of_beq_eq_true hb; subst this; subst h; simp
    | false => rw [hb] at h; exact List.mem_cons_of_mem _ (ih h)
/-- the entries of the reckoning -/
theorem xsp_spec {P : Program} {w0 : World} {N : Nat} {ms : Nat → Option M} {sp : Nat → Option Sp} : ∀ (l : List Oper) (i : Nat) (ρ : Env) {R : List (Nat × Env × Value × List Prop)} {ρ' : Env}, xsp P w0 N ms sp i l ρ = some (R, ρ') →
    R.length = l.length ∧ (∀ k o, l[k]? = some o → ∃ ρk v C, R[k]? = some (i + k, ρk, v, C) ∧ o.guard = none ∧ okDst N o.dst = true ∧
      (∀ x, sp (i + k) = some (.val x) → v = x) ∧ (sp (i + k) = none → okOp N ρk o = true ∧ xop P w0 (ms (i + k)) ρk o = some (v, C)) ∧
      ∀ t u, ρk.get? t = some u → (∃ j oj, j < k ∧ l[j]? = some oj ∧ oj.dst = some t ∧ sp (i + j) ≠ some .des ∧ ∃ ρj Cj, R[j]? = some (i + j, ρj, u, Cj)) ∨ ((∀ j oj, j < k → l[j]? = some oj → oj.dst ≠ some t) ∧ ρ.get? t = some u)) ∧
    ∀ t u, ρ'.get? t = some u → (∃ j oj, l[j]? = some oj ∧ oj.dst = some t ∧ sp (i + j) ≠ some .des ∧ ∃ ρj Cj, R[j]? = some (i + j, ρj, u, Cj)) ∨ ((∀ (j : Nat) (oj : Oper), l[j]? = some oj → oj.dst ≠ some t) ∧ ρ.get? t = some u) := by
  intro l
  induction l with
  | nil =>
    intro i ρ R ρ' h
    simp only [xsp, Option.some.injEq, Prod.mk.injEq] at h
    obtain ⟨rfl, rfl⟩ := h
    exact ⟨rfl, fun k o h => by simp at h, fun t u h => .inr ⟨fun j oj h => by simp at h, h⟩⟩
  | cons o l ih =>
    intro i ρ R ρ' h
    simp only [xsp] at h
    cases hg : o.guard.isNone && okDst N o.dst with
    | false => rw [hg] at h; simp at h
    | true =>
      rw [hg, cond_true] at h
      simp only [Bool.and_eq_true, Option.isNone_iff_eq_none] at hg
      -- the common end
      have fin : ∀ {ρ1 : Env} {r : List (Nat × Env × Value × List Prop)} {v : Value} {C : List Prop}, xsp P w0 N ms sp (i + 1) l ρ1 = some (r, ρ') → R = (i, ρ, v, C) :: r →
          (∀ x, sp i = some (.val x) → v = x) → (sp i = none → okOp N ρ o = true ∧ xop P w0 (ms i) ρ o = some (v, C)) →
          (∀ t u, ρ1.get? t = some u → (o.dst = some t ∧ sp i ≠ some .des ∧ u = v) ∨ (o.dst ≠ some t ∧ ρ.get? t = some u)) →
          R.length = (o :: l).length ∧ (∀ k q, (o :: l)[k]? = some q → ∃ ρk v C, R[k]? = some (i + k, ρk, v, C) ∧ q.guard = none ∧ okDst N q.dst = true ∧
            (∀ x, sp (i + k) = some (.val x) → v = x) ∧ (sp (i + k) = none → okOp N ρk q = true ∧ xop P w0 (ms (i + k)) ρk q = some (v, C)) ∧
            ∀ t u, ρk.get? t = some u → (∃ j oj, j < k ∧ (o :: l)[j]? = some oj ∧ oj.dst = some t ∧ sp (i + j) ≠ some .des ∧ ∃ ρj Cj, R[j]? = some (i + j, ρj, u, Cj)) ∨ ((∀ j oj, j < k → (o :: l)[j]? = some oj → oj.dst ≠ some t) ∧ ρ.get? t = some u)) ∧
          ∀ t u, ρ'.get? t = some u → (∃ j oj, (o :: l)[j]? = some oj ∧ oj.dst = some t ∧ sp (i + j) ≠ some .des ∧ ∃ ρj Cj, R[j]? = some (i + j, ρj, u, Cj)) ∨ ((∀ (j : Nat) (oj : Oper), (o :: l)[j]? = some oj → oj.dst ≠ some t) ∧ ρ.get? t = some u) := by
        intro ρ1 r v C hr hR hv hn h1
        subst hR
        obtain ⟨hlen, hent, hfin⟩ := ih (i + 1) ρ1 hr
        refine ⟨by simp [hlen], fun k q hq => ?_, fun t u hu => ?_⟩
        · cases k with
          | zero =>
            simp only [List.getElem?_cons_zero, Option.some.injEq] at hq
            subst hq
            exact ⟨ρ, v, C, rfl, hg.1, hg.2, hv, hn, fun t u hu => .inr ⟨fun j oj hj => absurd hj (by omega), hu⟩⟩
          | succ k =>
            simp only [List.getElem?_cons_succ] at hq
            obtain ⟨ρk, vk, Ck, e1, e2, e3, e4, e5, e6⟩ := hent k q hq
            rw [show i + 1 + k = i + (k + 1) by omega] at e1 e4 e5
            refine ⟨ρk, vk, Ck, by simpa using e1, e2, e3, e4, e5, fun t u hu => ?_⟩
            rcases e6 t u hu with ⟨j, oj, hj, hjo, hjd, hjs, ρj, Cj, hjR⟩ | ⟨hno, hu1⟩
            · rw [show i + 1 + j = i + (j + 1) by omega] at hjs hjR
              exact .inl ⟨j + 1, oj, by omega, by simpa using hjo, hjd, hjs, ρj, Cj, by simpa using hjR⟩
            · rcases h1 t u hu1 with ⟨hd, hs, rfl⟩ | ⟨hd, hu0⟩
              · exact .inl ⟨0, o, by omega, rfl, hd, hs, ρ, C, rfl⟩
              · refine .inr ⟨fun j oj hj hjo => ?_, hu0⟩
                cases j with
                | zero => simp only [List.getElem?_cons_zero, Option.some.injEq] at hjo; subst hjo; exact hd
                | succ j => exact hno j oj (by omega) (by simpa using hjo)
        · rcases hfin t u hu with ⟨j, oj, hjo, hjd, hjs, ρj, Cj, hjR⟩ | ⟨hno, hu1⟩
          · rw [show i + 1 + j = i + (j + 1) by omega] at hjs hjR
            exact .inl ⟨j + 1, oj, by simpa using hjo, hjd, hjs, ρj, Cj, by simpa using hjR⟩
          · rcases h1 t u hu1 with ⟨hd, hs, rfl⟩ | ⟨hd, hu0⟩
            · exact .inl ⟨0, o, rfl, hd, hs, ρ, C, rfl⟩
            · refine .inr ⟨fun j oj hjo => ?_, hu0⟩
              cases j with
              | zero => simp only [List.getElem?_cons_zero, Option.some.injEq] at hjo; subst hjo; exact hd
              | succ j => exact hno j oj (by simpa using hjo)
      have hset : ∀ (v : Value) t u, (ρ.set o.dst v).get? t = some u → (o.dst = some t ∧ u = v) ∨ (o.dst ≠ some t ∧ ρ.get? t = some u) := by
        intro v t u hu
        rw [Env.get?_set] at hu
        split at hu
        · rename_i hd; cases hu; exact .inl ⟨hd, rfl⟩
        · rename_i hd; exact .inr ⟨hd, hu⟩
      split at h
      · rename_i hs
        split at h
        · rename_i r ρ2 hr
          simp only [Option.some.injEq, Prod.mk.injEq] at h
          obtain ⟨rfl, rfl⟩ := h
          refine fin hr rfl (fun x hx => by rw [hs] at hx; cases hx) (fun hx => by rw [hs] at hx; cases hx) fun t u hu => ?_
          have := Env.get?_less hu
          refine .inr ⟨fun hd => this.1 ?_, this.2⟩
          simp [dstsOf, hd]
        · cases h
      · rename_i x hs
        split at h
        · rename_i r ρ2 hr
          simp only [Option.some.injEq, Prod.mk.injEq] at h
          obtain ⟨rfl, rfl⟩ := h
          refine fin hr rfl (fun y hy => by rw [hs] at hy; cases hy; rfl) (fun hx => by rw [hs] at hx; cases hx) fun t u hu => ?_
          exact (hset _ t u hu).elim (fun ⟨a, b⟩ => .inl ⟨a, (by rw [hs]; simp), b⟩) .inr
        · cases h
      · rename_i hs
        cases ho : okOp N ρ o with
        | false => rw [ho] at h; simp at h
        | true =>
          rw [ho, cond_true] at h
          split at h
          · rename_i v C hx
            split at h
            · rename_i r ρ2 hr
              simp only [Option.some.injEq, Prod.mk.injEq] at h
              obtain ⟨rfl, rfl⟩ := h
              refine fin hr rfl (fun y hy => by rw [hs] at hy; cases hy) (fun _ => ⟨ho, hx⟩) fun t u hu => ?_
              exact (hset _ t u hu).elim (fun ⟨a, b⟩ => .inl ⟨a, (by rw [hs]; simp), b⟩) .inr
            · cases h
          · cases h

abbrev XR := Option (List (Nat × Env × Value × List Prop) × Env)
def dropC : XR → Option (List (Env × Value) × Env)
  | some (R, ρ) => some (R.map fun x => (x.2.1, x.2.2.1), ρ)
  | none => none
def condsOf : XR → List (Nat × List Prop)
  | some (R, _) => (R.map fun x => (x.1, x.2.2.2)).filter fun x => !x.2.isEmpty
  | none => []
def finOf (x : XR) (ks : List Nat) : Option Env := match x with | some (_, ρ) => ρ.pick ks | none => none
def envAt (x : XR) (i : Nat) : Env := match x with | some (R, _) => (match R[i]? with | some e => e.2.1 | none => []) | none => []
def valAt (x : XR) (i : Nat) : Value := match x with | some (R, _) => (match R[i]? with | some e => e.2.2.1 | none => undef) | none => undef
/-- the described slots that an operation looks at, each with who wrote it -/
def writer (l : List Oper) (t : Nat) (n : Nat) : Option Nat := ((List.range n).filter fun j => match l[j]? with | some o => (match o.dst with | some d => Nat.beq d t | none => false) | none => false).head?
def isDes : Option Sp → Bool
  | some .des => true
  | _ => false
def dlOf (l : List Oper) (sp : Nat → Option Sp) (i : Nat) (ts : List Nat) : List (Nat × Nat) := ts.filterMap fun t => match writer l t i with | some j => bif isDes (sp j) then some (t, j) else none | none => none
def opTmps (o : Oper) : List Nat := o.op.operands.toList.filterMap fun | .tmp t => some t | _ => none
def dl (ops : Array Oper) (sp : List (Nat × Sp)) (i : Nat) : List (Nat × Nat) := match ops[i]? with | some o => dlOf ops.toList (spAt sp) i (opTmps o) | none => []
def withDes (D : Nat → Value → World → Prop) (w : World) : List (Nat × Nat) → (Env → Prop) → Env → Prop
  | [], K, ρ => K ρ
  | (t, j) :: r, K, ρ => ∀ u, D j u w → withDes D w r K ((t, u) :: ρ)
theorem writer_some {l : List Oper} {t n j : Nat} (h : writer l t n = some j) : j < n ∧ ∃ o, l[j]? = some o ∧ o.dst = some t := by
  unfold writer at h
  have hm := List.mem_of_head? h
  rw [List.mem_filter] at hm
  refine ⟨List.mem_range.1 hm.1, ?_⟩
  have h2 := hm.2
  split at h2
  · rename_i o ho
    split at h2
    · rename_i d hd
      exact ⟨o, ho, by rw [hd, Nat.eq_of_beq_eq_true h2]⟩
    · cases h2
  · cases h2
theorem withDes_use {D : Nat → Value → World → Prop} {w : World} {K : Env → Prop} : ∀ (l : List (Nat × Nat)) (ρ : Env), withDes D w l K ρ → ∀ (T : Array Value), (∀ x ∈ l, ∃ u, T[x.1]? = some u ∧ D x.2 u w) →
    ∃ σ : Env, K σ ∧ σ.map Prod.fst = (l.reverse.map Prod.fst) ++ ρ.map Prod.fst ∧ ∀ t u, σ.get? t = some u → T[t]? = some u ∨ ρ.get? t = some u := by
  intro l
  induction l with
  | nil => intro ρ h T _; exact ⟨ρ, h, by simp, fun t u hu => .inr hu⟩
  | cons x r ih =>
    intro ρ h T hT
    obtain ⟨t, j⟩ := x
    obtain ⟨u, hu, hD⟩ := hT (t, j) (by simp)
    obtain ⟨σ, h1, h2, h3⟩ := ih ((t, u) :: ρ) (h u hD) T fun y hy => hT y (by simp [hy])
    refine ⟨σ, h1, by rw [h2]; simp, fun t' u' h' => ?_⟩
    rcases h3 t' u' h' with h4 | h4
    · exact .inl h4
    · rw [Env.get?_cons] at h4
      split at h4
      · rename_i he; cases h4; subst he; exact .inl hu
      · exact .inr h4
theorem has_keys : ∀ {ρ σ : Env}, ρ.map Prod.fst = σ.map Prod.fst → ∀ x, ρ.has x = σ.has x := by
  intro ρ
  induction ρ with
  | nil => intro σ h x; cases σ with | nil => rfl | cons _ _ => simp at h
  | cons e r ih =>
    intro σ h x
    cases σ with
    | nil => simp at h
    | cons e' r' =>
      obtain ⟨k, v⟩ := e
      obtain ⟨k', v'⟩ := e'
      simp only [List.map_cons, List.cons.injEq] at h
      obtain ⟨rfl, h⟩ := h
      cases x with
      | tmp t =>
        have := ih h (.tmp t)
        simp only [Env.has, Env.get?_cons] at this ⊢
        split
        · rfl
        · exact this
      | _ => rfl
def okSp (N : Nat) (ops : Array Oper) (sp : List (Nat × Sp)) (x : XR) : Bool :=
  sp.all fun s => match ops[s.1]? with | some o => okOp N (((dl ops sp s.1).reverse.map fun y => (y.1, undef)) ++ envAt x s.1) o | none => false
def okLive (ops : Array Oper) (sp : List (Nat × Sp)) (live : List (Nat × Nat)) : Bool :=
  live.all fun x => isDes (spAt sp x.2) && (match ops[x.2]? with | some o => (match o.dst with | some d => Nat.beq d x.1 | none => false) | none => false)
def Cl (ops : Array Oper) (L : Nat → Bool) : Prop := ∀ j k, dep ops j k = true → L j = true → L k = true
theorem exec_part {ρ : Env} {o : Oper} {T : Array Value} {N : Nat} (ho : okOp N ρ o = true) (h : ∀ t ∈ opTmps o, ∀ u, ρ.get? t = some u → T[t]? = some u) : execOp (evT T) o = execOp ρ.ev o := by
  simp only [okOp, Bool.and_eq_true] at ho
  refine execOp_congr o (fun cs b he => ?_) (fun x hx => ?_)
  · have := ho.1.2
    rw [he] at this
    simp [notSelect] at this
  · have hh := (Array.all_eq_true'.1 ho.1.1) x hx
    cases x with
    | tmp t =>
      simp only [Env.has] at hh
      cases hg : ρ.get? t with
      | none => simp [hg] at hh
      | some v =>
        have := h t (List.mem_filterMap.2 ⟨.tmp t, by simpa using hx, rfl⟩) v hg
        simp [evT, Env.ev, hg, Array.getD_eq_getD_getElem?, this]
    | _ => rfl
section
variable {P : Program} {Q : Exit → Act → World → Prop} {a : Act} {w : World} {N : Nat} {ρ : Env}
theorem regI {id : Nat} {ops : Array Oper} (hm : P.follows .mixedOrders = true) (ha : On N ρ a) (ms : List (Nat × M)) (sp : List (Nat × Sp)) (live : List (Nat × Nat)) {ρ' : Env} {C : World → List (Nat × List Prop)}
    (D : Nat → Value → World → Prop) (I : (Nat → Bool) → World → Prop)
    (hchk : (chk ops && ops.toList.all (fun o => notSelect o.op) && okSp N ops sp (xsp P w N (lk ms) (spAt sp) 0 ops.toList ρ) && okLive ops sp live) = true)
    (hV : ∀ w', dropC (xsp P w' N (lk ms) (spAt sp) 0 ops.toList ρ) = dropC (xsp P w N (lk ms) (spAt sp) 0 ops.toList ρ))
    (hCs : ∀ w', condsOf (xsp P w' N (lk ms) (spAt sp) 0 ops.toList ρ) = C w')
    (hfin : finOf (xsp P w N (lk ms) (spAt sp) 0 ops.toList ρ) (ρ'.map Prod.fst) = some ρ')
    (hI0 : ∀ w', Ext w w' → I (fun _ => false) w') (hIE : ∀ L w1 w2, I L w1 → Ext w1 w2 → I L w2) (hDE : ∀ j u w1 w2, D j u w1 → Ext w1 w2 → D j u w2)
    (hIx : ∀ L i w', spAt sp i = none → I L w' → I (updL L i) w')
    (hC : ∀ L w', Cl ops L → I L w' → AllP (fun c : Nat × List Prop => L c.1 = false → (∀ k, dep ops c.1 k = true → L k = true) → All c.2) (C w'))
    (hS : AllP (fun s : Nat × Sp => ∀ L w', Cl ops L → L s.1 = false → (∀ k, dep ops s.1 k = true → L k = true) → I L w' →
      withDes D w' (dl ops sp s.1) (fun σ => ∀ o, ops[s.1]? = some o → OpStep P σ.ev o w' (fun v w'' => (match s.2 with | .des => D s.1 v w'' | .val x => v = x) ∧ I (updL L s.1) w'' ∧ ∀ j, L j = true → spAt sp j = some .des → ∀ u, D j u w' → D j u w''))
        (envAt (xsp P w N (lk ms) (spAt sp) 0 ops.toList ρ) s.1)) sp)
    (k : ∀ a' w' L, (∀ i, i < ops.size → L i = true) → I L w' → withDes D w' live (fun σ => On N σ a' → Q .normal a' w') ρ') : (Code.region id ops true).wp P Q a w := by
  simp only [Bool.and_eq_true] at hchk
  obtain ⟨⟨⟨hchk1, hsel⟩, hokS⟩, hlive⟩ := hchk
  obtain ⟨ms', hc⟩ := chk_spec hchk1
  cases hX : xsp P w N (lk ms) (spAt sp) 0 ops.toList ρ with
  | none => rw [hX] at hfin; simp [finOf] at hfin
  | some X =>
  obtain ⟨R, ρe⟩ := X
  rw [hX] at hfin hV hokS hS
  simp only [finOf] at hfin
  obtain ⟨hlen, hent, hfinE⟩ := xsp_spec _ _ _ hX
  -- the entries at another world
  have hW : ∀ w', ∃ R', xsp P w' N (lk ms) (spAt sp) 0 ops.toList ρ = some (R', ρe) ∧ R'.map (fun x => (x.2.1, x.2.2.1)) = R.map (fun x => (x.2.1, x.2.2.1)) := by
    intro w'
    have := hV w'
    cases h : xsp P w' N (lk ms) (spAt sp) 0 ops.toList ρ with
    | none => rw [h] at this; simp [dropC] at this
    | some X' =>
      obtain ⟨R', ρ2⟩ := X'
      rw [h] at this
      simp only [dropC, Option.some.injEq, Prod.mk.injEq] at this
      exact ⟨R', by rw [this.2], this.1⟩
  let vs : Nat → Value := valAt (some (R, ρe))
  have hvs : ∀ i ρi v C, R[i]? = some (i, ρi, v, C) → vs i = v := by intro i ρi v C h; simp [vs, valAt, h]
  let D' : Nat → Value → World → Prop := fun i v w => if isDes (spAt sp i) = true then D i v w else v = vs i
  have hD'n : ∀ {i v w1}, spAt sp i ≠ some .des → D' i v w1 → v = vs i := by
    intro i v w1 hd h0
    have h : (if isDes (spAt sp i) = true then D i v w1 else v = vs i) := h0
    rw [if_neg (by cases hq : spAt sp i with | none => simp [isDes] | some m => cases m <;> simp_all [isDes])] at h
    exact h
  refine wp_region_any hm ?_
  refine any_orderI (T0 := a.tmps) (D := D') (I := I) hc (fun i o ho => ?_) (fun i o ho L T w1 hcl hLi hdir hI hTs hsl => ?_) (fun a' w1 L hall hts hdf hI hgot hold => ?_) _ _ _ _ ?_ ?_
  · exact List.all_eq_true.1 hsel o (by rw [List.mem_iff_getElem?]; exact ⟨i, by simpa using ho⟩)
  · have hoL : ops.toList[i]? = some o := by simpa using ho
    obtain ⟨ρi, vi, Ci, hRi, hg, hokd, hval, hnorm, hkeys⟩ := hent i o hoL
    simp only [Nat.zero_add] at hRi hval hnorm
    have hkeys : ∀ t u, ρi.get? t = some u → (∃ j oj, j < i ∧ ops.toList[j]? = some oj ∧ oj.dst = some t ∧ spAt sp j ≠ some .des ∧ ∃ ρj Cj, R[j]? = some (j, ρj, u, Cj)) ∨ ((∀ j oj, j < i → ops.toList[j]? = some oj → oj.dst ≠ some t) ∧ ρ.get? t = some u) := fun t u h => by simpa only [Nat.zero_add] using hkeys t u h
    have hCl : Cl ops L := by
      intro j q hd hj
      cases hoj : ops[j]? with
      | none =>
        exfalso
        unfold dep masks at hd
        obtain ⟨r, h1, h2⟩ := mg_pre ops.toList []
        rw [h1, List.nil_append, List.getD_eq_getElem?_getD, List.getElem?_eq_none (by rw [h2]; simpa using Array.getElem?_eq_none_iff.1 hoj)] at hd
        simp at hd
      | some oj => exact dep_in hcl j oj hoj (hcl j oj hj hoj) q hd
    have hdep : ∀ q, dep ops i q = true → L q = true := dep_in hcl i o ho hdir
    rw [if_pos (by unfold Region.wanted; rw [hg])]
    have hlk : ∀ t ∈ opTmps o, t ∈ looks ops o := fun t ht => by unfold looks Oper.looksAt; exact List.mem_append.2 (.inl ht)
    -- what the reckoning says of a slot is so
    have hknown : ∀ t ∈ opTmps o, ∀ u, ρi.get? t = some u → T[t]? = some u := by
      intro t ht u hu
      rcases hkeys t u hu with ⟨j, oj, hj, hoj, hd, hns, ρj, Cj, hRj⟩ | ⟨hno, h0⟩
      · have htl : t < a.tmps.size := by
          obtain ⟨_, _, _, _, _, hk, _⟩ := hent j oj hoj
          rw [hd] at hk
          simp only [okDst, Nat.blt_eq] at hk
          rw [ha.ag.size]; exact hk
        obtain ⟨v, hv, hDv⟩ := (hsl t (hlk t ht) htl).1 j oj (by simpa using hoj) hd hj
        rw [hv, hD'n hns hDv, hvs j ρj u Cj hRj]
      · have htl : t < a.tmps.size := by rw [ha.ag.size]; exact ha.ag.lt h0
        rw [(hsl t (hlk t ht) htl).2 fun j oj hj hoj => hno j oj hj (by simpa using hoj)]
        exact ha.ag.slots t u h0
    cases hsp : spAt sp i with
    | none =>
      obtain ⟨hok, hxop⟩ := hnorm hsp
      obtain ⟨R', hX', hRR⟩ := hW w1
      obtain ⟨_, hent', _⟩ := xsp_spec _ _ _ hX'
      obtain ⟨ρi', vi', Ci', hRi', _, _, _, hnorm', _⟩ := hent' i o hoL
      simp only [Nat.zero_add] at hRi' hnorm'
      have heq : (ρi', vi') = (ρi, vi) := by
        have h1 : (R'.map (fun x => (x.2.1, x.2.2.1)))[i]? = some (ρi', vi') := by simp [hRi']
        have h2 : (R.map (fun x => (x.2.1, x.2.2.1)))[i]? = some (ρi, vi) := by simp [hRi]
        rw [hRR, h2] at h1
        exact (Option.some.inj h1).symm
      cases heq
      obtain ⟨_, hxop'⟩ := hnorm' hsp
      have hCi : All Ci' := by
        cases hne : Ci'.isEmpty with
        | true => cases Ci' with | nil => exact .nil | cons _ _ => simp at hne
        | false =>
          have hmem : (i, Ci') ∈ C w1 := by
            rw [← hCs w1, hX']
            simp only [condsOf, List.mem_filter, List.mem_map]
            exact ⟨⟨_, List.mem_of_getElem? hRi', rfl⟩, by simp [hne]⟩
          exact (hC L w1 hCl hI).at _ hmem hLi hdep
      have hrun := xop_ok hxop' hCi
      have hex := exec_part (T := T) hok hknown
      have hkeepE : ∀ w2, Ext w1 w2 → ∀ j, L j = true → ∀ u, D' j u w1 → D' j u w2 := by
        intro w2 he j _ u hd
        simp only [D'] at hd ⊢
        split
        · rename_i h; rw [if_pos h] at hd; exact hDE j u w1 w2 hd he
        · rename_i h; rw [if_neg h] at hd; exact hd
      have hDi : ∀ w2, D' i vi w2 := fun w2 => by simp only [D']; rw [hsp]; simp only [isDes, Bool.false_eq_true, if_false]; exact (hvs i _ _ _ hRi).symm
      rcases hrun with h | ⟨_, f, args, h, hcall⟩
      · refine .inl ⟨vi, w1, by rw [hex]; exact h w1 (Ext.rfl' w1), hDi w1, hIx L i w1 hsp hI, fun _ _ _ h => h⟩
      · refine .inr (.inr ⟨f, args, w1, by rw [hex]; exact h w1 (Ext.rfl' w1), ?_⟩)
        refine (hcall w1 (Ext.rfl' w1)).imp fun v w2 ⟨hv, he⟩ => ?_
        subst hv
        exact ⟨hDi w2, hIx L i w2 hsp (hIE L w1 w2 hI he), hkeepE w2 he⟩
    | some m =>
      have hmem := spAt_mem hsp
      have hs := hS.at _ hmem L w1 hCl hLi hdep hI
      have hdes : ∀ x ∈ dl ops sp i, ∃ u, T[x.1]? = some u ∧ D x.2 u w1 := by
        intro x hx
        simp only [dl, ho, dlOf, List.mem_filterMap] at hx
        obtain ⟨t, ht, hx⟩ := hx
        split at hx
        · rename_i j hj
          cases hd : isDes (spAt sp j) with
          | false => rw [hd] at hx; simp at hx
          | true =>
            rw [hd] at hx
            simp only [cond_true, Option.some.injEq] at hx
            subst hx
            obtain ⟨hji, oj, hoj, hdj⟩ := writer_some hj
            have htl : t < a.tmps.size := by
              obtain ⟨_, _, _, _, _, hk, _⟩ := hent j oj hoj
              rw [hdj] at hk
              simp only [okDst, Nat.blt_eq] at hk
              rw [ha.ag.size]; exact hk
            obtain ⟨u, hu, hDu⟩ := (hsl t (hlk t ht) htl).1 j oj (by simpa using hoj) hdj hji
            simp only [D'] at hDu
            rw [if_pos hd] at hDu
            exact ⟨u, hu, hDu⟩
        · cases hx
      obtain ⟨σ, hK, hkσ, hgσ⟩ := withDes_use _ _ hs T hdes
      have henv : envAt (some (R, ρe)) i = ρi := by simp [envAt, hRi]
      have hokσ : okOp N σ o = true := by
        have := List.all_eq_true.1 hokS (i, m) hmem
        simp only [ho] at this
        rw [henv] at this hkσ
        have hk2 : (((dl ops sp i).reverse.map fun y => (y.1, undef)) ++ ρi).map Prod.fst = σ.map Prod.fst := by rw [hkσ]; simp [Function.comp_def]
        simp only [okOp, Bool.and_eq_true] at this ⊢
        refine ⟨⟨?_, this.1.2⟩, this.2⟩
        rw [Array.all_eq_true'] at *
        intro x hx
        rw [← has_keys hk2]; exact this.1.1 x hx
      have hex : execOp (evT T) o = execOp σ.ev o := exec_part hokσ fun t ht u hu => by
        rcases hgσ t u hu with h | h
        · exact h
        · rw [henv] at h; exact hknown t ht u h
      refine (?_ : OpStep P σ.ev o w1 _).congr hex
      have hK := hK o ho
      have himp : ∀ v w2, ((match m with | .des => D i v w2 | .val x => v = x) ∧ I (updL L i) w2 ∧ ∀ j, L j = true → spAt sp j = some .des → ∀ u, D j u w1 → D j u w2) → D' i v w2 ∧ I (updL L i) w2 ∧ ∀ j, L j = true → ∀ u, D' j u w1 → D' j u w2 := by
        rintro v w2 ⟨h1, h2, h3⟩
        refine ⟨?_, h2, fun j hj u hd => ?_⟩
        · simp only [D', hsp]
          cases m with
          | des => simpa [isDes] using h1
          | val x =>
            simp only at h1
            subst h1
            simp only [isDes, Bool.false_eq_true, if_false]
            rw [hvs i _ _ _ hRi]; exact (hval _ hsp).symm
        · simp only [D'] at hd ⊢
          split
          · rename_i h
            rw [if_pos h] at hd
            exact h3 j hj (by cases hq : spAt sp j with | none => simp [hq, isDes] at h | some m' => cases m' <;> simp_all [isDes]) u hd
          · rename_i h; rw [if_neg h] at hd; exact hd
      rcases hK with ⟨v, w2, hr, hk⟩ | ⟨w2, hr, hk⟩ | ⟨f, args, w2, hr, hk⟩
      · exact .inl ⟨v, w2, hr, himp v w2 hk⟩
      · exact .inr (.inl ⟨w2, hr, himp _ w2 hk⟩)
      · exact .inr (.inr ⟨f, args, w2, hr, hk.imp himp⟩)
  · -- the end
    have hk := k a' w1 L hall hI
    have hdes : ∀ x ∈ live, ∃ u, a'.tmps[x.1]? = some u ∧ D x.2 u w1 := by
      intro x hx
      have := List.all_eq_true.1 hlive x hx
      simp only [Bool.and_eq_true] at this
      obtain ⟨h1, h2⟩ := this
      split at h2
      · rename_i o ho
        split at h2
        · rename_i d hd
          have hdx := Nat.eq_of_beq_eq_true h2
          rw [hdx] at hd
          have htl : x.1 < a.tmps.size := by
            obtain ⟨_, _, _, _, _, hk, _⟩ := hent x.2 o (by simpa using ho)
            rw [hd] at hk
            simp only [okDst, Nat.blt_eq] at hk
            rw [ha.ag.size]; exact hk
          obtain ⟨u, hu, hDu⟩ := hgot x.1 x.2 o ho hd htl
          simp only [D'] at hDu
          rw [if_pos h1] at hDu
          exact ⟨u, hu, hDu⟩
        · cases h2
      · cases h2
    obtain ⟨σ, hK, _, hgσ⟩ := withDes_use _ _ hk a'.tmps hdes
    refine hK ⟨hdf, by rw [hts, ha.ag.size], fun t u hu => ?_⟩
    rcases hgσ t u hu with h | h
    · exact h
    · have h := Env.get?_pick hfin t u h
      rcases hfinE t u h with ⟨j, oj, hoj, hd, hns, ρj, Cj, hRj⟩ | ⟨hno, h0⟩
      · simp only [Nat.zero_add] at hns hRj
        have htl : t < a.tmps.size := by
          obtain ⟨_, _, _, _, _, hk, _⟩ := hent j oj hoj
          rw [hd] at hk
          simp only [okDst, Nat.blt_eq] at hk
          rw [ha.ag.size]; exact hk
        obtain ⟨v, hv, hDv⟩ := hgot t j oj (by simpa using hoj) hd htl
        rw [hv, hD'n hns hDv, hvs j ρj u Cj hRj]
      · rw [hold t fun i o ho => hno i o (by simpa using ho)]
        exact ha.ag.slots t u h0
  · refine ⟨by simp, fun j o h => ?_, ha.defers, rfl, ?_, fun t i o _ _ h => ?_, fun t _ => rfl⟩
    · rw [Array.getElem?_replicate] at h
      split at h <;> simp at h
    · have : lst (Array.replicate ops.size false) = fun _ => false := by
        funext j
        simp only [lst, Array.getElem?_replicate]
        split <;> simp
      rw [this]
      exact hI0 _ ((Ext.rfl' w).drew_)
    · rw [Array.getElem?_replicate] at h
      split at h <;> simp at h
  · exact Nat.le_trans List.countP_le_length (by simp)
end
#print axioms regI
end Go.Kn
