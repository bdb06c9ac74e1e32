/- The engine, fifteenth part: regions that draw their order and write, by phases: some operations (the chain) each turn the world's tale; all others make new memory alone. -/
import Derived.Test.YtihmegmambmljaaDoorEngN
set_option linter.unusedSimpArgs false
set_option linter.unusedVariables false
set_option linter.unusedSectionVars false
namespace Go.Kn
open Go.RowKit (Below)

def opAt (ops : Array Oper) (i : Nat) : Oper := match ops[i]? with | some o => o | none => { dst := none, op := .move (.tmp 0), type := 0, pos := "", after := #[], guard := none }
def dOf : List (Nat × (Value → World → Prop)) → Nat → Value → World → Prop
  | [], _, _, _ => True
  | (k, p) :: r, j, u, w => match Nat.beq k j with | true => p u w | false => dOf r j u w
def jAt (Js : List (World → Prop)) (p : Nat) (w : World) : Prop := match Js[p]? with | some J => J w | none => False
/-- how many of the chain are done -/
def ph : List Nat → (Nat → Bool) → Nat
  | [], _ => 0
  | e :: r, L => bif L e then ph r L + 1 else 0
/-- how many of the chain may be done when operation i comes -/
def phN (ops : Array Oper) : List Nat → Nat → Nat → List Nat
  | [], _, b => [b]
  | e :: r, i, b => bif dep ops i e then phN ops r i (b + 1) else bif dep ops e i then [b] else b :: phN ops r i (b + 1)
def chainB (ops : Array Oper) : List Nat → Bool
  | [] => true
  | e :: r => r.all (fun f => dep ops f e && !Nat.beq f e) && chainB ops r
def sameL : List Nat → List Nat → Bool
  | [], [] => true
  | a :: l, b :: m => Nat.beq a b && sameL l m
  | _, _ => false
theorem sameL_eq : ∀ {l m : List Nat}, sameL l m = true → l = m := by
  intro l
  induction l with
  | nil => intro m h; cases m with | nil => rfl | cons _ _ => simp [sameL] at h
  | cons a l ih =>
    intro m h
    cases m with
    | nil => simp [sameL] at h
    | cons b m =>
      simp only [sameL, Bool.and_eq_true] at h
      rw [Nat.eq_of_beq_eq_true h.1, ih h.2]
def AllPi {α : Type} (p : Nat → α → Prop) : Nat → List α → Prop
  | _, [] => True
  | n, x :: l => p n x ∧ AllPi p (n + 1) l
theorem AllPi.at {α : Type} {p : Nat → α → Prop} : ∀ {l : List α} {n : Nat}, AllPi p n l → ∀ k x, l[k]? = some x → p (n + k) x := by
  intro l
  induction l with
  | nil => intro n _ k x hx; simp at hx
  | cons y l ih =>
    intro n h k x hx
    cases k with
    | zero => simp only [List.getElem?_cons_zero, Option.some.injEq] at hx; subst hx; exact h.1
    | succ k =>
      have := ih h.2 k x (by simpa using hx)
      rwa [show n + (k + 1) = n + 1 + k by omega]
theorem AllP.of {α : Type} {p : α → Prop} : ∀ {l : List α}, (∀ x ∈ l, p x) → AllP p l := by
  intro l
  induction l with
  | nil => intro _; trivial
  | cons y l ih => intro h; exact ⟨h y (by simp), ih fun x hx => h x (by simp [hx])⟩
theorem withDes_imp {D : Nat → Value → World → Prop} {w : World} {K K' : Env → Prop} (hk : ∀ σ, K σ → K' σ) : ∀ (l : List (Nat × Nat)) (ρ : Env), withDes D w l K ρ → withDes D w l K' ρ := by
  intro l
  induction l with
  | nil => intro ρ h; exact hk _ h
  | cons x r ih => intro ρ h u hu; exact ih _ (h u hu)
theorem dOf_ext : ∀ {Ds : List (Nat × (Value → World → Prop))}, AllP (fun d => ∀ u w1 w2, d.2 u w1 → Ext w1 w2 → d.2 u w2) Ds → ∀ j u w1 w2, dOf Ds j u w1 → Ext w1 w2 → dOf Ds j u w2 := by
  intro Ds
  induction Ds with
  | nil => intro _ _ _ _ _ _ _; trivial
  | cons d r ih =>
    intro h j u w1 w2 h1 he
    unfold dOf at h1 ⊢
    split at h1
    · exact h.1 u w1 w2 h1 he
    · exact ih h.2 j u w1 w2 h1 he
theorem jAt_ext {Js : List (World → Prop)} (h : AllP (fun J => ∀ w1 w2, J w1 → Ext w1 w2 → J w2) Js) : ∀ p w1 w2, jAt Js p w1 → Ext w1 w2 → jAt Js p w2 := by
  intro p w1 w2 h1 he
  unfold jAt at h1 ⊢
  split at h1
  · rename_i J hJ; exact h.at J (List.mem_of_getElem? hJ) w1 w2 h1 he
  · exact h1.elim
theorem ph_upd_other {e : Nat} : ∀ {es : List Nat} {L : Nat → Bool}, (es.any fun f => Nat.beq f e) = false → ph es (updL L e) = ph es L := by
  intro es
  induction es with
  | nil => intro _ _; rfl
  | cons f r ih =>
    intro L h
    simp only [List.any_cons, Bool.or_eq_false_iff] at h
    have hne : e ≠ f := fun h' => by rw [h', Nat.beq_refl] at h; cases h.1
    simp only [ph, updL, if_neg hne]
    rw [ih h.2]
section
variable {ops : Array Oper}
theorem phN_of {L : Nat → Bool} (hcl : Cl ops L) {i : Nat} (hi : L i = false) (hd : ∀ k, dep ops i k = true → L k = true) : ∀ (es : List Nat) (b : Nat), b + ph es L ∈ phN ops es i b := by
  intro es
  induction es with
  | nil => intro b; simp [phN, ph]
  | cons e r ih =>
    intro b
    unfold phN
    cases h1 : dep ops i e with
    | true =>
      simp only [cond_true, ph, hd e h1]
      have := ih (b + 1)
      rwa [show b + 1 + ph r L = b + (ph r L + 1) by omega] at this
    | false =>
      simp only [cond_false]
      cases h2 : dep ops e i with
      | true =>
        have : L e = false := by
          cases hL : L e with
          | false => rfl
          | true => rw [hcl e i h2 hL] at hi; cases hi
        simp [ph, this]
      | false =>
        simp only [cond_false, List.mem_cons, ph]
        cases hL : L e with
        | false => simp
        | true =>
          right
          have := ih (b + 1)
          rwa [show b + 1 + ph r L = b + (ph r L + 1) by omega] at this
theorem chain_at {L : Nat → Bool} (hcl : Cl ops L) : ∀ {es : List Nat} {k e : Nat}, chainB ops es = true → es[k]? = some e → L e = false → (∀ j, dep ops e j = true → L j = true) → ph es L = k ∧ ph es (updL L e) = k + 1 := by
  intro es
  induction es with
  | nil => intro k e _ h; simp at h
  | cons f r ih =>
    intro k e hc hk he hd
    simp only [chainB, Bool.and_eq_true] at hc
    cases k with
    | zero =>
      simp only [List.getElem?_cons_zero, Option.some.injEq] at hk
      subst hk
      refine ⟨by simp [ph, he], ?_⟩
      have h0 : ∀ (l : List Nat), (∀ x ∈ l, dep ops x f = true ∧ x ≠ f) → ph l (updL L f) = 0 := by
        intro l hl
        cases l with
        | nil => rfl
        | cons x l =>
          have hx := hl x (by simp)
          have : L x = false := by
            cases hL : L x with
            | false => rfl
            | true => rw [hcl x f hx.1 hL] at he; cases he
          simp [ph, updL, Ne.symm hx.2, this]
      have := h0 r (fun x hx => by
        have := List.all_eq_true.1 hc.1 x hx
        simp only [Bool.and_eq_true, Bool.not_eq_true'] at this
        exact ⟨this.1, fun h' => by rw [h', Nat.beq_refl] at this; cases this.2⟩)
      simp [ph, updL] at this ⊢
      exact this
    | succ k =>
      have hk' : r[k]? = some e := by simpa using hk
      have hm := List.mem_of_getElem? hk'
      have := List.all_eq_true.1 hc.1 e hm
      simp only [Bool.and_eq_true, Bool.not_eq_true'] at this
      have hf := hd f this.1
      obtain ⟨h1, h2⟩ := ih hc.2 hk' he hd
      refine ⟨by simp [ph, hf, h1], ?_⟩
      have : updL L e f = true := by unfold updL; split; rfl; exact hf
      simp [ph, this, h2]
end
/-- what is said of an operation that is stepped by hand: which, how, its phases (of the chain: whose descriptions it keeps), the described slots that it looks at -/
structure So where
  i : Nat
  sp : Sp
  l : List Nat
  d : List (Nat × Nat)
def plainSp (l : List So) : List (Nat × Sp) := l.map fun s => (s.i, s.sp)
def sameP : List (Nat × Nat) → List (Nat × Nat) → Bool
  | [], [] => true
  | a :: l, b :: m => Nat.beq a.1 b.1 && Nat.beq a.2 b.2 && sameP l m
  | _, _ => false
theorem sameP_eq : ∀ {l m : List (Nat × Nat)}, sameP l m = true → l = m := by
  intro l
  induction l with
  | nil => intro m h; cases m with | nil => rfl | cons _ _ => simp [sameP] at h
  | cons a l ih =>
    intro m h
    cases m with
    | nil => simp [sameP] at h
    | cons b m =>
      simp only [sameP, Bool.and_eq_true] at h
      obtain ⟨a1, a2⟩ := a
      obtain ⟨b1, b2⟩ := b
      have h1 := Nat.eq_of_beq_eq_true h.1.1
      have h2 := Nat.eq_of_beq_eq_true h.1.2
      simp only at h1 h2
      rw [h1, h2, ih h.2]
def okM (ops : Array Oper) (spA spE : List So) (cs : List (Nat × List Nat)) : Bool :=
  let es := spE.map (·.i)
  chainB ops es && spA.all (fun s => sameL (phN ops es s.i 0) s.l && !(es.any fun f => Nat.beq f s.i)) && cs.all (fun c => sameL (phN ops es c.1 0) c.2) &&
    spE.all (fun s => (plainSp spA ++ plainSp spE).all fun t => !isDes (some t.2) || Nat.beq t.1 s.i || dep ops t.1 s.i || s.l.any (Nat.beq t.1)) &&
    es.all (fun e => match spAt (plainSp spA ++ plainSp spE) e with | some _ => true | none => false) &&
    (spA ++ spE).all (fun s => sameP (dl ops (plainSp spA ++ plainSp spE) s.i) s.d)
def DV (Ds : List (Nat × (Value → World → Prop))) (i : Nat) (s : Sp) (v : Value) (w : World) : Prop := match s with | .des => dOf Ds i v w | .val x => v = x
section
variable {P : Program} {Q : Exit → Act → World → Prop} {a : Act} {w : World} {N : Nat} {ρ : Env}
theorem regM {id : Nat} {ops : Array Oper} (hm : P.follows .mixedOrders = true) (ha : On N ρ a) (ms : List (Nat × M)) (spA spE : List So) (live : List (Nat × Nat)) {ρ' : Env}
    (Ds : List (Nat × (Value → World → Prop))) (Js : List (World → Prop)) (Cf : List (Nat × List Nat × (World → List Prop)))
    (hchk : (chk ops && ops.toList.all (fun o => notSelect o.op) && okSp N ops (plainSp spA ++ plainSp spE) (xsp P w N (lk ms) (spAt (plainSp spA ++ plainSp spE)) 0 ops.toList ρ) && okLive ops (plainSp spA ++ plainSp spE) live && okM ops spA spE (Cf.map fun c => (c.1, c.2.1))) = true)
    (hV : ∀ w', dropC (xsp P w' N (lk ms) (spAt (plainSp spA ++ plainSp spE)) 0 ops.toList ρ) = dropC (xsp P w N (lk ms) (spAt (plainSp spA ++ plainSp spE)) 0 ops.toList ρ))
    (hCs : ∀ w', condsOf (xsp P w' N (lk ms) (spAt (plainSp spA ++ plainSp spE)) 0 ops.toList ρ) = Cf.map fun c => (c.1, c.2.2 w'))
    (hfin : finOf (xsp P w N (lk ms) (spAt (plainSp spA ++ plainSp spE)) 0 ops.toList ρ) (ρ'.map Prod.fst) = some ρ')
    (hJ0 : ∀ w', Ext w w' → jAt Js 0 w') (hJE : AllP (fun J => ∀ w1 w2, J w1 → Ext w1 w2 → J w2) Js)
    (hDE : AllP (fun d => ∀ u w1 w2, d.2 u w1 → Ext w1 w2 → d.2 u w2) Ds)
    (hC : AllP (fun c => AllP (fun p => ∀ w', jAt Js p w' → All (c.2.2 w')) c.2.1) Cf)
    (hA : AllP (fun s => AllP (fun p => ∀ w', jAt Js p w' → withDes (dOf Ds) w' s.d (fun σ => OpStep P σ.ev (opAt ops s.i) w' fun v w'' => DV Ds s.i s.sp v w'' ∧ Ext w' w'')
      (envAt (xsp P w N (lk ms) (spAt (plainSp spA ++ plainSp spE)) 0 ops.toList ρ) s.i)) s.l) spA)
    (hE : AllPi (fun k s => ∀ w', jAt Js k w' → withDes (dOf Ds) w' s.d (fun σ => OpStep P σ.ev (opAt ops s.i) w' fun v w'' => DV Ds s.i s.sp v w'' ∧ jAt Js (k + 1) w'' ∧ AllP (fun j => ∀ u, dOf Ds j u w' → dOf Ds j u w'') s.l)
      (envAt (xsp P w N (lk ms) (spAt (plainSp spA ++ plainSp spE)) 0 ops.toList ρ) s.i)) 0 spE)
    (k : ∀ a' w', jAt Js spE.length w' → withDes (dOf Ds) w' live (fun σ => On N σ a' → Q .normal a' w') ρ') : (Code.region id ops true).wp P Q a w := by
  simp only [Bool.and_eq_true] at hchk
  obtain ⟨hchk, hM⟩ := hchk
  unfold okM at hM
  simp only [Bool.and_eq_true] at hM
  obtain ⟨⟨⟨⟨⟨hM1, hM2⟩, hM3⟩, hM4⟩, hM5⟩, hM6⟩ := hM
  refine regI hm ha ms (plainSp spA ++ plainSp spE) live (C := fun w' => Cf.map fun c => (c.1, c.2.2 w')) (dOf Ds) (fun L w' => jAt Js (ph (spE.map (·.i)) L) w') (by simp only [Bool.and_eq_true]; exact hchk) hV hCs hfin ?_ ?_ (dOf_ext hDE) ?_ ?_ ?_ ?_
  · intro w' he
    have : ph (spE.map (·.i)) (fun _ => false) = 0 := by cases spE <;> rfl
    show jAt Js (ph (spE.map (·.i)) fun _ => false) w'
    rw [this]; exact hJ0 w' he
  · intro L w1 w2 h he; exact jAt_ext hJE _ _ _ h he
  · intro L i w' hi h
    show jAt Js (ph (spE.map (·.i)) (updL L i)) w'
    rw [ph_upd_other]; · exact h
    cases hb : (spE.map (·.i)).any fun f => Nat.beq f i with
    | false => rfl
    | true =>
      obtain ⟨f, hf, hfi⟩ := List.any_eq_true.1 hb
      have := List.all_eq_true.1 hM5 f hf
      rw [Nat.eq_of_beq_eq_true hfi, hi] at this
      cases this
  · intro L w' hcl hI
    refine AllP.of fun c hc => ?_
    obtain ⟨c0, hc0, rfl⟩ := List.mem_map.1 hc
    intro hL hd
    have h1 := List.all_eq_true.1 hM3 (c0.1, c0.2.1) (List.mem_map.2 ⟨c0, hc0, rfl⟩)
    have h2 := phN_of hcl hL hd (spE.map (·.i)) 0
    rw [sameL_eq h1, Nat.zero_add] at h2
    exact (hC.at c0 hc0).at _ h2 w' hI
  · refine AllP.of fun s hs => ?_
    intro L w' hcl hL hd hI
    have hstep : ∀ {K : Env → Value → World → Prop} {ρ0 : Env} {l : List (Nat × Nat)}, withDes (dOf Ds) w' l (fun σ => OpStep P σ.ev (opAt ops s.1) w' (K σ)) ρ0 → withDes (dOf Ds) w' l (fun σ => ∀ o, ops[s.1]? = some o → OpStep P σ.ev o w' (K σ)) ρ0 := by
      intro K ρ0 l h
      refine withDes_imp (fun σ h o ho => ?_) l ρ0 h
      have : opAt ops s.1 = o := by unfold opAt; rw [ho]
      rw [← this]; exact h
    refine hstep ?_
    rcases List.mem_append.1 hs with hs | hs
    · obtain ⟨s0, hs0, rfl⟩ := List.mem_map.1 hs
      have h1 := List.all_eq_true.1 hM2 s0 hs0
      simp only [Bool.and_eq_true, Bool.not_eq_true'] at h1
      have h2 := phN_of hcl hL hd (spE.map (·.i)) 0
      rw [sameL_eq h1.1, Nat.zero_add] at h2
      have hdl : dl ops (plainSp spA ++ plainSp spE) s0.i = s0.d := sameP_eq (List.all_eq_true.1 hM6 s0 (by simp [hs0]))
      rw [hdl]
      refine withDes_imp (fun σ h => ?_) _ _ ((hA.at s0 hs0).at _ h2 w' hI)
      have himp : ∀ v w'', DV Ds s0.i s0.sp v w'' ∧ Ext w' w'' → (match s0.sp with | .des => dOf Ds s0.i v w'' | .val x => v = x) ∧ jAt Js (ph (spE.map (·.i)) (updL L s0.i)) w'' ∧ ∀ j, L j = true → spAt (plainSp spA ++ plainSp spE) j = some .des → ∀ u, dOf Ds j u w' → dOf Ds j u w'' := by
        intro v w'' ⟨h3, h4⟩
        refine ⟨h3, ?_, fun j _ _ u hu => dOf_ext hDE j u _ _ hu h4⟩
        rw [ph_upd_other h1.2]
        exact jAt_ext hJE _ _ _ hI h4
      rcases h with ⟨v, w1, h3, h4⟩ | ⟨w1, h3, h4⟩ | ⟨f, args, w1, h3, h4⟩
      · exact .inl ⟨v, w1, h3, himp _ _ h4⟩
      · exact .inr (.inl ⟨w1, h3, himp _ _ h4⟩)
      · exact .inr (.inr ⟨f, args, w1, h3, h4.imp himp⟩)
    · obtain ⟨s0, hs0, rfl⟩ := List.mem_map.1 hs
      obtain ⟨n, hn⟩ := List.mem_iff_getElem?.1 hs0
      have hn' : (spE.map (·.i))[n]? = some s0.i := by simp [hn]
      obtain ⟨h1, h2⟩ := chain_at hcl hM1 hn' hL hd
      have hI' : jAt Js n w' := by have := hI; rwa [h1] at this
      have h0 := hE.at n s0 hn
      rw [Nat.zero_add] at h0
      have hdl : dl ops (plainSp spA ++ plainSp spE) s0.i = s0.d := sameP_eq (List.all_eq_true.1 hM6 s0 (by simp [hs0]))
      rw [hdl]
      refine withDes_imp (fun σ h => ?_) _ _ (h0 w' hI')
      have hpres := List.all_eq_true.1 hM4 s0 hs0
      have himp : ∀ v w'', DV Ds s0.i s0.sp v w'' ∧ jAt Js (n + 1) w'' ∧ AllP (fun j => ∀ u, dOf Ds j u w' → dOf Ds j u w'') s0.l → (match s0.sp with | .des => dOf Ds s0.i v w'' | .val x => v = x) ∧ jAt Js (ph (spE.map (·.i)) (updL L s0.i)) w'' ∧ ∀ j, L j = true → spAt (plainSp spA ++ plainSp spE) j = some .des → ∀ u, dOf Ds j u w' → dOf Ds j u w'' := by
        intro v w'' ⟨h3, h4, h5⟩
        refine ⟨h3, by rw [h2]; exact h4, fun j hj hsj u hu => ?_⟩
        have h6 := List.all_eq_true.1 hpres (j, .des) (spAt_mem hsj)
        simp only [isDes, Bool.not_true, Bool.false_or, Bool.or_eq_true] at h6
        rcases h6 with (h6 | h6) | h6
        · rw [Nat.eq_of_beq_eq_true h6, hL] at hj; cases hj
        · have : L s0.i = true := hcl j s0.i h6 hj
          rw [this] at hL; cases hL
        · obtain ⟨j', hj', hb⟩ := List.any_eq_true.1 h6
          have := Nat.eq_of_beq_eq_true hb
          subst this
          exact h5.at _ hj' u hu
      rcases h with ⟨v, w1, h3, h4⟩ | ⟨w1, h3, h4⟩ | ⟨f, args, w1, h3, h4⟩
      · exact .inl ⟨v, w1, h3, himp _ _ h4⟩
      · exact .inr (.inl ⟨w1, h3, himp _ _ h4⟩)
      · exact .inr (.inr ⟨f, args, w1, h3, h4.imp himp⟩)
  · intro a' w' L hall hI
    have : ∀ es : List Nat, (∀ e ∈ es, L e = true) → ph es L = es.length := by
      intro es
      induction es with
      | nil => intro _; rfl
      | cons e r ih => intro h; simp [ph, h e (by simp), ih fun x hx => h x (by simp [hx])]
    have h1 : ph (spE.map (·.i)) L = spE.length := by
      rw [this]; · simp
      intro e he
      by_cases hlt : e < ops.size
      · exact hall e hlt
      · exfalso
        have h7 := List.all_eq_true.1 hM5 e he
        have hS := hchk.1.2
        unfold okSp at hS
        split at h7
        · rename_i q hq
          have h8 := List.all_eq_true.1 hS _ (spAt_mem hq)
          simp only [Array.getElem?_eq_none (by omega : ops.size ≤ e)] at h8
          cases h8
        · cases h7
    exact k a' w' (by have := hI; rwa [h1] at this)
/-! ### one operation each -/
variable {e : Operand → Value} {o : Oper} {K : Value → World → Prop}
theorem orun {v : Value} {w' : World} (h : (execOp e o).run P w = .ok (.value v) w') (k : K v w') : OpStep P e o w K := .inl ⟨_, _, h, k⟩
theorem onew (cs : Array Value) (T : TypeId) (hrun : (execOp e o).run P w = .ok (.value (.pointer (some ⟨w.heap.size, 0, none⟩))) { w with heap := w.heap.push (.cells cs T (0, 0)) })
    (k : ∀ b w', Ext w w' → w.heap.size ≤ b → w'.heap[b]? = some (.cells cs T (0, 0)) → K (.pointer (some ⟨b, 0, none⟩)) w') : OpStep P e o w K := by
  refine orun hrun (k w.heap.size _ ⟨rfl, rfl, rfl, by simp, fun i hi => ?_⟩ (Nat.le_refl _) ?_)
  · show (w.heap.push _)[i]? = _
    rw [Array.getElem?_push, if_neg (by omega)]
  · show (w.heap.push _)[w.heap.size]? = _
    simp
theorem onewS (cs : Array Value) (T m : Nat) (hrun : (execOp e o).run P w = .ok (.value (.slice (some ⟨w.heap.size, 0, none⟩) m m)) { w with heap := w.heap.push (.cells cs T (0, 0)) })
    (k : ∀ b w', Ext w w' → w.heap.size ≤ b → w'.heap[b]? = some (.cells cs T (0, 0)) → K (.slice (some ⟨b, 0, none⟩) m m) w') : OpStep P e o w K := by
  refine orun hrun (k w.heap.size _ ⟨rfl, rfl, rfl, by simp, fun i hi => ?_⟩ (Nat.le_refl _) ?_)
  · show (w.heap.push _)[i]? = _
    rw [Array.getElem?_push, if_neg (by omega)]
  · show (w.heap.push _)[w.heap.size]? = _
    simp
/-- a call by its contract -/
theorem ocall {f : Operand} {args : Array Operand} {ts : Array TypeId} {g : FuncId} {first caps vs : Array Value} {S' : Value → World → Prop}
    (ho : o.op = .call { callee := .value f, args := args, argTypes := ts }) (hf : e f = .func (.func g) first caps) (hb : hasBody P g = true)
    (hv : first ++ args.map e ++ caps = vs) (hc : Fn P g vs w S') (k : ∀ v w', S' v w' → K v w') : OpStep P e o w K := by
  refine .inr (.inr ⟨g, vs, w, ?_, hc.imp k⟩)
  simp only [execOp, ho, resolve, hf, Deferred.ofValue, Sem.run_bind, Sem.run_pure, Result.andThen_ok, invoke]
  rw [callFunc_ok hb, hv]
/-- append(v, ys...) -/
theorem oapp {B sz n c : Nat} {A : Option Addr} {et : TypeId} {xs : List Value} {s x : Operand} {t by_ m c' : Nat} {ad : Addr}
    (ho : o.op = .call { callee := .builtin .append, args := #[s, x], argTypes := #[t, t] }) (ht : appB P t = some (et, sz, by_)) (hs : e s = .slice A n c) (hown : Own w B et sz A n c xs)
    (hx : e x = .slice (some ad) m c') (news : List Value) (hl : news.length = m * sz) (hnews : ∀ j u, news[j]? = some u → w.cell? (ad.add j) = some u) (h1 : news.all oneB = true)
    (hbytes : (n + m) * by_ ≤ 140737488355328) (hn : n + m ≤ 140737488355328) (hbase : B ≤ w.heap.size)
    (k : ∀ A' cap w', Own w' B et sz A' (n + m) cap (xs ++ news) → w.grownBy w' (Value.slice A n c).ownBlock → K (.slice A' (n + m) cap) w') : OpStep P e o w K := by
  obtain ⟨i, z, hu, hi, hz, hsz, hby, hzs, hpos⟩ := appB_spec ht
  obtain ⟨v', w', hrun, h2, h3, _, _⟩ := run_append_own_at (P := P) w B t o.type et i z sz by_ hu hi hz hsz hby hzs hpos (.slice A n c) n xs hown ad m c' news hl hnews
    (fun u hu => one_of (List.all_eq_true.1 h1 u hu)) (by unfold maxLen; omega) hbytes hbase
  obtain ⟨A', cap, rfl⟩ := own_shape h2
  refine orun (v := .slice A' (n + m) cap) (w' := w') ?_ (k A' cap w' h2 h3)
  have hargs : (#[s, x] : Array Operand).map e = #[.slice A n c, .slice (some ad) m c'] := by simp [hs, hx]
  simp only [execOp, ho, resolve, hargs, Sem.run_bind, Sem.run_pure, Result.andThen_ok, invoke, builtin, hrun]
/-- a value that is told by the reckoning -/
theorem ox {σ : Env} {m : Option M} {v : Value} {C : List Prop} (hx : xop P w m σ o = some (v, C)) (hC : All C) (k : ∀ w', Ext w w' → K v w') : OpStep P σ.ev o w K := by
  rcases xop_ok hx hC with h | ⟨_, f, args, h1, h2⟩
  · exact .inl ⟨v, w, h w (Ext.rfl' w), k w (Ext.rfl' w)⟩
  · exact .inr (.inr ⟨f, args, w, h1 w (Ext.rfl' w), (h2 w (Ext.rfl' w)).imp fun x w' ⟨hx, he⟩ => hx ▸ k w' he⟩)
theorem keepGn {w0 w' : World} {B e sz n b : Nat} {v : Value} {xs : List Value} {o : Obj} (hg : w.grownBy w' v.ownBlock) (hv : w0.ownsRow B e sz v n xs) (hb : w0.heap.size ≤ b) (hB : w.heap[b]? = some o) : w'.heap[b]? = some o := by
  rw [hg.block b (lt_of_at hB) ?_]; · exact hB
  intro he
  have := (hv.lt b he.symm).1
  have := (hv.lt b he.symm).2
  omega
/-- a store into a block that is known whole -/
theorem ostore {t b off : Nat} {x y : Operand} {cs : Array Value} {T : TypeId} (hB : w.heap[b]? = some (.cells cs T (0, 0))) (cs' : Array Value) (ho : o.op = .store t x y)
    (hrun : (match e x, sizeB P t with
      | .pointer (some ad), some n => bif Nat.beq n (e y).cells.size && Nat.ble (ad.off + n) cs.size && (e y).cells.toList.all oneB then some (ad.off, putL cs ad.off (e y).cells.toList) else none
      | _, _ => none) = some (off, cs'))
    (hp : e x = .pointer (some ⟨b, off, none⟩))
    (k : ∀ w', Chg w w' b (.cells cs' T (0, 0)) → K undef w') : OpStep P e o w K := by
  rw [hp] at hrun
  cases hn : sizeB P t with
  | none => simp [hn] at hrun
  | some n =>
    simp only [hn] at hrun
    cases hq : Nat.beq n (e y).cells.size && Nat.ble (off + n) cs.size && (e y).cells.toList.all oneB with
    | false => rw [hq] at hrun; simp at hrun
    | true =>
      simp only [hq, cond_true, Option.some.injEq, Prod.mk.injEq, true_and] at hrun
      simp only [Bool.and_eq_true] at hq
      obtain ⟨⟨h1, h2⟩, h3⟩ := hq
      have h1 := beqN h1
      have h2 := Nat.le_of_ble_eq_true h2
      obtain ⟨w', hr, hc⟩ := storeCells_run (P := P) (b := b) (off := off) (T := T) (e y).cells.toList 0 w cs hB (by simp only [Nat.add_zero, Array.length_toList]; omega) h3
      simp only [Nat.add_zero] at hc
      rw [hrun] at hc
      refine .inr (.inl ⟨w', ?_, k w' hc⟩)
      simp only [execOp, ho, hp, Instr.storeAt, Instr.sureAddr, storeVar, Sem.run_bind, Sem.run_pure, Result.andThen_ok, sizeOf_run hn, h1]
      simp only [ne_eq, not_true_eq_false, if_false, Sem.run_bind, Sem.run_pure, Result.andThen_ok, hr]
end
end Go.Kn
#print axioms Go.Kn.regM
