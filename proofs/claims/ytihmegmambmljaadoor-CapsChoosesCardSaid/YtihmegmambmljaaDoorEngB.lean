/- The engine, second part: regions in any order; code, calls, loops. -/
import Derived.Test.YtihmegmambmljaaDoorEng
set_option linter.unusedSimpArgs false
set_option linter.unusedVariables false
namespace Go.Kn
open Go.RowKit (Below)

theorem oper_wp {P : Program} {w0 w : World} {o : Oper} {a : Act} {v : Value} {K : Act → World → Prop} {Q : Exit → Act → World → Prop} (h : OpRun P w0 a.eval o v) (hw : Ext w0 w)
    (k : ∀ w', Ext w w' → K (a.put o.dst v) w') : o.wp P a w K Q := by
  unfold Oper.wp
  rcases h with h | ⟨_, f, args, h, hc⟩
  · rw [h w hw]
    exact k w (Ext.rfl' w)
  · rw [h w hw, Oper.upon_enter]
    refine Calls.mono (hc w hw) ?_
    rintro e w' ⟨v', rfl, rfl, he⟩
    exact k w' he

section
variable {P : Program} {ops : Array Oper} {w0 : World} {Q : Exit → Act → World → Prop}

structure RInv (ops : Array Oper) (w0 : World) (vs : Nat → Value) (T0 : Array Value) (listed : Array Bool) (a : Act) (w : World) : Prop where
  size : listed.size = ops.size
  closed : ∀ (j : Nat) (o : Oper), listed[j]? = some true → ops[j]? = some o → ∀ e ∈ o.after.toList, Region.binds .any e = true → listed[e.on]? = some true
  defers : a.defers = []
  tsize : a.tmps.size = T0.size
  ext : Ext w0 w
  got : ∀ (t i : Nat) (o : Oper), ops[i]? = some o → o.dst = some t → listed[i]? = some true → t < T0.size → a.tmps[t]? = some (vs i)
  old : ∀ t : Nat, (∀ (i : Nat) (o : Oper), ops[i]? = some o → o.dst = some t → listed[i]? ≠ some true) → a.tmps[t]? = T0[t]?

theorem mem_looks {ops : Array Oper} {o : Oper} {t : Nat} (h : t ∈ looks ops o) : (looks ops o).any (Nat.beq t) = true := List.any_eq_true.2 ⟨t, h, Nat.beq_refl t⟩

theorem dep_listed {ms : List Nat} (hc : Chk ops ms) {listed : Array Bool}
    (closed : ∀ (j : Nat) (o : Oper), listed[j]? = some true → ops[j]? = some o → ∀ e ∈ o.after.toList, Region.binds .any e = true → listed[e.on]? = some true) :
    ∀ (j : Nat) (o : Oper), ops[j]? = some o → (∀ e ∈ o.after.toList, Region.binds .any e = true → listed[e.on]? = some true) → ∀ i, (ms.getD j 0).testBit i = true → listed[i]? = some true := by
  intro j
  induction j using Nat.strongRecOn with
  | _ j ih =>
    intro o ho hd i hi
    rw [List.getD_eq_getElem?_getD, hc.mask j o ho, Option.getD_some] at hi
    obtain ⟨e, he, hb, h⟩ := maskAt_bit _ _ _ hi
    have hlt := hc.ahead j o ho e he hb
    rcases h with rfl | h
    · exact hd e he hb
    · have hjn : j < ops.size := (Array.getElem?_eq_some_iff.1 ho).1
      have hen : e.on < ops.size := by omega
      have h2 : ((ms.take j).getD e.on 0) = ms.getD e.on 0 := by
        rw [List.getD_eq_getElem?_getD, List.getD_eq_getElem?_getD, List.getElem?_take, if_pos hlt]
      rw [h2] at h
      exact ih e.on hlt ops[e.on] (Array.getElem?_eq_getElem hen) (closed e.on _ (hd e he hb) (Array.getElem?_eq_getElem hen)) i h

theorem chk_uniq {ms : List Nat} (hc : Chk ops ms) {i j t : Nat} {oi oj : Oper} (hi : ops[i]? = some oi) (hj : ops[j]? = some oj) (di : oi.dst = some t) (dj : oj.dst = some t) : i = j := by
  rcases Nat.lt_trichotomy i j with h | h | h
  · have := hc.pair i j oi oj h hi hj
    simp [chkPair, di, dj, Nat.beq_refl] at this
  · exact h
  · have := hc.pair j i oj oi h hj hi
    simp [chkPair, di, dj, Nat.beq_refl] at this
theorem chk_fwd {ms : List Nat} (hc : Chk ops ms) {i j t : Nat} {oi oj : Oper} (hij : i < j) (hi : ops[i]? = some oi) (hj : ops[j]? = some oj) (di : oi.dst = some t) (hl : t ∈ looks ops oj) : (ms.getD j 0).testBit i = true := by
  have := hc.pair i j oi oj hij hi hj
  simp only [chkPair, di, mem_looks hl, Bool.not_true, Bool.false_or, Bool.and_eq_true] at this
  exact this.1.1
theorem chk_bwd {ms : List Nat} (hc : Chk ops ms) {i j t : Nat} {oi oj : Oper} (hij : i < j) (hi : ops[i]? = some oi) (hj : ops[j]? = some oj) (dj : oj.dst = some t) (hl : t ∈ looks ops oi) : (ms.getD j 0).testBit i = true := by
  have := hc.pair i j oi oj hij hi hj
  simp only [chkPair, dj, mem_looks hl, Bool.not_true, Bool.false_or, Bool.and_eq_true] at this
  exact this.2

theorem countP_lt {l : List Nat} {p q : Nat → Bool} (h : ∀ j, p j = true → q j = true) {i : Nat} (hi : i ∈ l) (hq : q i = true) (hp : p i = false) : l.countP p < l.countP q := by
  induction l with
  | nil => cases hi
  | cons x l ih =>
    have hle : l.countP p ≤ l.countP q := List.countP_mono_left fun j _ hj => h j hj
    rw [List.countP_cons, List.countP_cons]
    rcases List.mem_cons.1 hi with rfl | hi
    · rw [hq, hp]; simp; omega
    · have := ih hi
      cases hpx : p x with
      | true => rw [h x hpx]; simp; omega
      | false => simp; split <;> omega
theorem any_order {ms : List Nat} (hc : Chk ops ms) (hsel : ∀ (i : Nat) (o : Oper), ops[i]? = some o → notSelect o.op = true) {T0 : Array Value} {vs : Nat → Value} {F : Nat → Array Value} (hF0 : F 0 = T0)
    (hF : ∀ (i : Nat) (o : Oper), ops[i]? = some o → OpOk P ops w0 (F i) o (vs i) ∧ F (i + 1) = putA (F i) o.dst (vs i))
    (k : ∀ a w, a.tmps = F ops.size → a.defers = [] → Ext w0 w → Q .normal a w) :
    ∀ (fuel : Nat) (listed : Array Bool) (a : Act) (w : World), RInv ops w0 vs T0 listed a w → (∀ i, ops.size ≤ i + fuel → True) →
      (List.range ops.size).countP (fun i : Nat => listed[i]? != some true) ≤ fuel → wpAny P .any ops Q fuel listed a w := by
  have hFs : ∀ m, m ≤ ops.size → (F m).size = T0.size := by
    intro m
    induction m with
    | zero => intro _; rw [hF0]
    | succ m ih =>
      intro hm
      rw [(hF m ops[m] (Array.getElem?_eq_getElem (by omega))).2, putA_size, ih (by omega)]
  have hFB : ∀ m t, m ≤ ops.size → (∀ (i : Nat) (o : Oper), i < m → ops[i]? = some o → o.dst ≠ some t) → (F m)[t]? = T0[t]? := by
    intro m t
    induction m with
    | zero => intro _ _; rw [hF0]
    | succ m ih =>
      intro hm h
      have hm' : ops[m]? = some ops[m] := Array.getElem?_eq_getElem (by omega)
      rw [(hF m _ hm').2, putA_ne _ _ _ _ (h m _ (by omega) hm')]
      exact ih (by omega) fun i o hi ho => h i o (by omega) ho
  have hFC : ∀ m t i o, m ≤ ops.size → i < m → ops[i]? = some o → o.dst = some t → t < T0.size → (F m)[t]? = some (vs i) := by
    intro m t i o
    induction m with
    | zero => intro _ h; omega
    | succ m ih =>
      intro hm hi ho hd ht
      have hm' : ops[m]? = some ops[m] := Array.getElem?_eq_getElem (by omega)
      rw [(hF m _ hm').2]
      by_cases him : i = m
      · subst him
        rw [hm'] at ho
        cases ho
        rw [putA_get _ _ _ _ (by rw [hFs _ (by omega)]; exact ht), if_pos hd]
      · rw [putA_ne _ _ _ _ (fun h => him (chk_uniq hc ho hm' hd h))]
        exact ih (by omega) (by omega) ho hd ht
  have hend : ∀ listed a w, RInv ops w0 vs T0 listed a w → (∀ i, i < ops.size → listed[i]? = some true) → Q .normal a w := by
    intro listed a w hI hall
    refine k a w ?_ hI.defers hI.ext
    apply Array.ext_getElem?
    intro t
    by_cases hw : ∃ (i : Nat) (o : Oper), ops[i]? = some o ∧ o.dst = some t
    · obtain ⟨i, o, ho, hd⟩ := hw
      have hin : i < ops.size := (Array.getElem?_eq_some_iff.1 ho).1
      by_cases ht : t < T0.size
      · rw [hI.got t i o ho hd (hall i hin) ht, hFC ops.size t i o (Nat.le_refl _) hin ho hd ht]
      · rw [Array.getElem?_eq_none (by rw [hI.tsize]; omega), Array.getElem?_eq_none (by rw [hFs _ (Nat.le_refl _)]; omega)]
    · rw [hI.old t (fun i o ho hd => absurd ⟨i, o, ho, hd⟩ hw), hFB ops.size t (Nat.le_refl _) (fun i o _ ho hd => hw ⟨i, o, ho, hd⟩)]
  have hallOf : ∀ listed a w, RInv ops w0 vs T0 listed a w → Region.ready .any ops listed = [] → ∀ i, i < ops.size → listed[i]? = some true := by
    intro listed a w hI hr i
    induction i using Nat.strongRecOn with
    | _ i ih =>
      intro hi
      have hi' : ops[i]? = some ops[i] := Array.getElem?_eq_getElem hi
      have hli : i < listed.size := by rw [hI.size]; exact hi
      cases hl : listed[i] with
      | true => rw [Array.getElem?_eq_getElem hli, hl]
      | false =>
        exfalso
        have : i ∈ Region.ready .any ops listed := by
          unfold Region.ready
          rw [List.mem_filter]
          refine ⟨List.mem_range.2 hi, ?_⟩
          simp only [hi', Option.map_some, Option.getD_some, Bool.and_eq_true, Bool.not_eq_true']
          refine ⟨by rw [Array.getD_eq_getD_getElem?, Array.getElem?_eq_getElem hli, hl]; rfl, ?_⟩
          rw [Array.all_eq_true']
          intro e he
          cases hb : Region.binds .any e with
          | false => rfl
          | true =>
            have hlt := hc.ahead i _ hi' e (by simpa using he) hb
            have := ih e.on hlt (by omega)
            simp [Array.getD_eq_getD_getElem?, this]
        rw [hr] at this
        cases this
  intro fuel
  induction fuel with
  | zero =>
    intro listed a w hI _ hcount
    have hall : ∀ i, i < ops.size → listed[i]? = some true := by
      intro i hi
      have := List.countP_eq_zero.1 (Nat.le_zero.1 hcount) i (List.mem_range.2 hi)
      simpa using this
    refine ⟨?_, hend listed a w hI hall⟩
    unfold Region.ready
    rw [List.filter_eq_nil_iff]
    intro i hi
    have := hall i (List.mem_range.1 hi)
    simp [Array.getD_eq_getD_getElem?, this]
  | succ fuel ih =>
    intro listed a w hI _ hcount
    refine ⟨fun hr => hend listed a w hI (hallOf listed a w hI hr), fun i hi => ?_⟩
    unfold Region.ready at hi
    rw [List.mem_filter] at hi
    obtain ⟨hin, hrd⟩ := hi
    have hin := List.mem_range.1 hin
    have hi' : ops[i]? = some ops[i] := Array.getElem?_eq_getElem hin
    simp only [hi', Option.map_some, Option.getD_some, Bool.and_eq_true, Bool.not_eq_true'] at hrd
    obtain ⟨hun, haf⟩ := hrd
    have hli : i < listed.size := by rw [hI.size]; exact hin
    have hun' : listed[i]? = some false := by
      rw [Array.getD_eq_getD_getElem?, Array.getElem?_eq_getElem hli] at hun
      rw [Array.getElem?_eq_getElem hli]
      simpa using hun
    have hdeps : ∀ e ∈ ops[i].after.toList, Region.binds .any e = true → listed[e.on]? = some true := by
      intro e he hb
      have := Array.all_eq_true'.1 haf e (by simpa using he)
      simp only [hb, Bool.not_true, Bool.false_or, Array.getD_eq_getD_getElem?] at this
      cases h : listed[e.on]? with
      | none => simp [h] at this
      | some b => simp only [h, Option.getD_some] at this; rw [this]
    -- the slots that are looked at are as in the text's order
    have hlook : ∀ t ∈ looks ops ops[i], a.tmps[t]? = (F i)[t]? := by
      intro t ht
      by_cases hlt : t < T0.size
      · by_cases hw : ∃ (j : Nat) (o : Oper), ops[j]? = some o ∧ o.dst = some t
        · obtain ⟨j, o, ho, hd⟩ := hw
          rcases Nat.lt_trichotomy j i with h | h | h
          · have hb := chk_fwd hc h ho hi' hd ht
            have hlj := dep_listed hc hI.closed i _ hi' hdeps j hb
            rw [hI.got t j o ho hd hlj hlt, hFC i t j o (by omega) h ho hd hlt]
          · subst h
            rw [hI.old t (fun i' o' ho' hd' hl' => by
              have := chk_uniq hc ho' ho hd' hd
              subst this
              rw [hun'] at hl'
              cases hl'), hFB j t (by omega) (fun i' o' hlt' ho' hd' => by
              have := chk_uniq hc ho' ho hd' hd
              omega)]
          · have hb := chk_bwd hc h hi' ho hd ht
            have hnl : listed[j]? ≠ some true := fun hl => by
              have := dep_listed hc hI.closed j o ho (hI.closed j o hl ho) i hb
              rw [hun'] at this
              cases this
            rw [hI.old t (fun i' o' ho' hd' hl' => by
              have := chk_uniq hc ho' ho hd' hd
              subst this
              exact hnl hl'), hFB i t (by omega) (fun i' o' hlt' ho' hd' => by
              have := chk_uniq hc ho' ho hd' hd
              omega)]
        · rw [hI.old t (fun i o ho hd => absurd ⟨i, o, ho, hd⟩ hw), hFB i t (by omega) (fun i o _ ho hd => hw ⟨i, o, ho, hd⟩)]
      · rw [Array.getElem?_eq_none (by rw [hI.tsize]; omega), Array.getElem?_eq_none (by rw [hFs _ (by omega)]; omega)]
    have hexec : execOp a.eval ops[i] = execOp (evT (F i)) ops[i] := by
      rw [evT_eq]
      refine execOp_congr _ (fun cs b he => ?_) (fun x hx => ?_)
      · have := hsel i _ hi'
        rw [he] at this
        simp [notSelect] at this
      · cases x with
        | tmp t =>
          have hm : t ∈ looks ops ops[i] := by
            unfold looks Oper.looksAt
            exact List.mem_append.2 (.inl (List.mem_filterMap.2 ⟨.tmp t, by simpa using hx, rfl⟩))
          simp only [evT, Array.getD_eq_getD_getElem?, hlook t hm]
        | _ => rfl
    have hwant : Region.wanted ops[i] (yielded ops a.tmps) = Region.wanted ops[i] (yielded ops (F i)) := by
      unfold Region.wanted
      cases hg : ops[i].guard with
      | none => rfl
      | some g =>
        simp only
        congr 1
        apply yielded_frame
        intro c hcs
        refine hlook c ?_
        unfold looks Oper.looksAt
        refine List.mem_append.2 (.inr ?_)
        simp only [hg]
        unfold slotOf at hcs
        rw [hcs]
        simp
    have hnext : ∀ w', Ext w w' → wpAny P .any ops Q fuel (listed.setIfInBounds i true) (a.put ops[i].dst (vs i)) w' := by
      intro w' hw'
      have hset : ∀ j, (listed.setIfInBounds i true)[j]? = if i = j then some true else listed[j]? := by
        intro j
        rw [Array.getElem?_setIfInBounds]
        by_cases h : i = j
        · simp [h]; omega
        · simp [h]
      refine ih _ _ _ ⟨by simp [hI.size], ?_, by rw [put_defers, hI.defers], by rw [put_tmps, putA_size, hI.tsize], hI.ext.tr hw', ?_, ?_⟩ (fun _ _ => trivial) ?_
      · intro j o hl ho e he hb
        rw [hset] at hl ⊢
        by_cases hie : i = e.on
        · simp [hie]
        · rw [if_neg hie]
          by_cases hij : i = j
          · subst hij
            rw [hi'] at ho
            cases ho
            exact hdeps e he hb
          · rw [if_neg hij] at hl
            exact hI.closed j o hl ho e he hb
      · intro t j o ho hd hl ht
        rw [hset] at hl
        rw [put_tmps]
        by_cases hij : i = j
        · subst hij
          rw [hi'] at ho
          cases ho
          rw [putA_get _ _ _ _ (by rw [hI.tsize]; exact ht), if_pos hd]
        · rw [if_neg hij] at hl
          rw [putA_ne _ _ _ _ (fun h => hij (chk_uniq hc hi' ho h hd))]
          exact hI.got t j o ho hd hl ht
      · intro t h
        rw [put_tmps, putA_ne _ _ _ _ (fun hd => h i _ hi' hd (by rw [hset, if_pos rfl]))]
        refine hI.old t fun j o ho hd hl => h j o ho hd ?_
        rw [hset]
        split
        · rfl
        · exact hl
      · have hlt : (List.range ops.size).countP (fun j : Nat => (listed.setIfInBounds i true)[j]? != some true) < (List.range ops.size).countP (fun j : Nat => listed[j]? != some true) := by
          have himp : ∀ j : Nat, ((listed.setIfInBounds i true)[j]? != some true) = true → (listed[j]? != some true) = true := by
            intro j hj
            rw [hset] at hj
            split at hj
            · simp at hj
            · exact hj
          exact countP_lt himp (List.mem_range.2 hin) (by rw [hun']; rfl) (by rw [hset, if_pos rfl]; rfl)
        omega
    unfold wpOp
    rw [hi']
    simp only
    have hok := (hF i _ hi').1
    unfold OpOk at hok
    rw [hwant]
    split
    · rename_i hww
      rw [if_pos hww] at hok
      left
      refine oper_wp (w0 := w0) (v := vs i) ?_ hI.ext hnext
      rw [evT_eq] at hexec ⊢
      exact hok.congr hexec
    · rename_i hww
      rw [if_neg hww] at hok
      rw [← hok]
      exact hnext w (Ext.rfl' w)
end
end Go.Kn
