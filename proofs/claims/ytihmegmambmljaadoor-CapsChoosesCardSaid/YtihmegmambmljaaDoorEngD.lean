/- The engine, fourth part: branches, loops, calls, entry and return. -/
import Derived.Test.YtihmegmambmljaaDoorEngC
set_option linter.unusedSimpArgs false
set_option linter.unusedVariables false
namespace Go.Kn
open Go.RowKit (Below)

section
variable {P : Program} {Q : Exit → Act → World → Prop} {a : Act} {w : World} {N : Nat} {ρ : Env}

theorem On.eval_tmp (h : On N ρ a) {c : Nat} {v : Value} (hc : ρ.get? c = some v) : a.eval (.tmp c) = v := by
  have := h.ag.slots c v hc
  simp [Act.eval, Array.getD_eq_getD_getElem?, this]
/-- if -/
theorem wif {c : Nat} {t : Bool} {x y : Code} (ha : On N ρ a) (hc : ρ.get? c = some (.bool t)) (ht : t = true → x.wp P Q a w) (hf : t = false → y.wp P Q a w) : (Code.cond (.tmp c) x y).wp P Q a w :=
  wp_cond_split (ha.eval_tmp hc) ht hf
theorem wseq {x y : Code} (h : x.wp P (Exit.then (y.wp P Q) Q) a w) : (Code.seq x y).wp P Q a w := wp_seq h
/-- a cut: what stands behind is gone through once -/
theorem wcut {x y : Code} (M : Act → World → Prop) (hx : x.wp P (Exit.then M Q) a w) (hy : ∀ a w, M a w → y.wp P Q a w) : (Code.seq x y).wp P Q a w := by
  refine wp_seq (wp_mono hx ?_)
  intro e a w h
  cases e <;> first | exact hy _ _ h | exact h
theorem wblk {id : Nat} {c : Code} (h : c.wp P (Exit.inBlock id Q) a w) : (Code.block id c).wp P Q a w := wp_block h
theorem wret (h : Q .ret a w) : Code.ret.wp P Q a w := wp_ret h
theorem wskip (h : Q .normal a w) : Code.skip.wp P Q a w := wp_skip h
theorem wexit {id : Nat} (h : Q (.exit id) a w) : (Code.exit id).wp P Q a w := wp_exit h
-- where an exit leads
theorem tn {n : Act → World → Prop} (h : n a w) : Exit.then n Q .normal a w := h
theorem te {n : Act → World → Prop} {i : Nat} (h : Q (.exit i) a w) : Exit.then n Q (.exit i) a w := h
theorem tr {n : Act → World → Prop} (h : Q .ret a w) : Exit.then n Q .ret a w := h
theorem bn {id : Nat} (h : Q .normal a w) : Exit.inBlock id Q .normal a w := h
theorem br {id : Nat} (h : Q .ret a w) : Exit.inBlock id Q .ret a w := h
theorem be {id : Nat} (h : Q .normal a w) : Exit.inBlock id Q (.exit id) a w := by
  simp only [Exit.inBlock, if_true]; exact h
theorem bx {id j : Nat} (hne : Nat.beq j id = false) (h : Q (.exit j) a w) : Exit.inBlock id Q (.exit j) a w := by
  have : j ≠ id := beqN_ne hne
  simp only [Exit.inBlock]; rw [if_neg this]; exact h
theorem lnil {ops : Array Oper} (h : Q .normal a w) : wpList P ops Q [] a w := wpList_nil h

/-- a loop: the relation bears a number that every round lowers -/
theorem wloop {c : Code} (I : Nat → Act → World → Prop) (n0 : Nat) (h0 : I n0 a w)
    (round : ∀ n a w, I n a w → c.wp P (Exit.then (fun a' w' => ∃ n', n' < n ∧ I n' a' w') Q) a w) : (Code.loop c).wp P Q a w := by
  intro b k cs
  have key : ∀ n a w, I n a w →
      ∃ e a' w', Q e a' w' ∧ Arrives P (lone (b.at a (.code c :: .inLoop c :: k)) cs w) b k cs e a' w' := by
    intro n
    induction n using Nat.strongRecOn with
    | _ n ih =>
      intro a w hI
      obtain ⟨e, a₁, w₁, hq, harr⟩ := round n a w hI b (.inLoop c :: k) cs
      cases e with
      | normal =>
        obtain ⟨n', hlt, hI₁⟩ := hq
        obtain ⟨e₂, a₂, w₂, hq₂, harr₂⟩ := ih n' hlt a₁ w₁ hI₁
        exact ⟨e₂, a₂, w₂, hq₂, .of_steps (Steps.trans harr (.one step_inLoop)) harr₂⟩
      | exit id => exact ⟨_, a₁, w₁, hq, .pass (x := .inLoop c) rfl (fun _ _ => .inl (by simp)) harr⟩
      | goto l => exact ⟨_, a₁, w₁, hq, .pass (x := .inLoop c) rfl (fun _ _ => .inl (by simp)) harr⟩
      | ret => exact ⟨_, a₁, w₁, hq, .pass (x := .inLoop c) rfl (fun _ _ => .inl (by simp)) harr⟩
      | panic ch => exact ⟨_, a₁, w₁, hq, .pass (x := .inLoop c) rfl (fun _ _ => .inl (by simp)) harr⟩
      | outgrown => exact ⟨_, a₁, w₁, hq, .pass (x := .inLoop c) rfl (fun _ _ => .inl (by simp)) harr⟩
  obtain ⟨e, a', w', hq, harr⟩ := key _ a w h0
  exact ⟨e, a', w', hq, .of_steps (.one step_loop) harr⟩

/-- one operation whose run is told -/
theorem lrun {ops : Array Oper} {o : Oper} {l : List Oper} {v : Value} {w' : World} (ha : On N ρ a) (hg : o.guard = none) (hok : okOp N ρ o = true) (hrun : (execOp ρ.ev o).run P w = .ok (.value v) w')
    (k : ∀ a', On N (ρ.set o.dst v) a' → wpList P ops Q l a' w') : wpList P ops Q (o :: l) a w := by
  unfold wpList
  rw [if_pos (by simp [Region.wanted, hg])]
  left
  unfold Oper.wp
  rw [evT_eq, exec_ev ha.ag hok, hrun]
  have : okDst N o.dst = true := by simp only [okOp, Bool.and_eq_true] at hok; exact hok.2
  exact k _ (ha.set _ this v)
theorem lskip {ops : Array Oper} {o : Oper} {l : List Oper} {w' : World} (ha : On N ρ a) (hg : o.guard = none) (hd : o.dst = none) (hok : okOp N ρ o = true) (hrun : (execOp ρ.ev o).run P w = .ok .skip w')
    (k : ∀ a', On N ρ a' → wpList P ops Q l a' w') : wpList P ops Q (o :: l) a w := by
  unfold wpList
  rw [if_pos (by simp [Region.wanted, hg])]
  left
  unfold Oper.wp
  rw [evT_eq, exec_ev ha.ag hok, hrun, Oper.upon_skip, hd]
  exact k _ ha
/-- a call by its contract -/
theorem lcall {ops : Array Oper} {o : Oper} {l : List Oper} {f : Operand} {args : Array Operand} {ts : Array TypeId} {g : FuncId} {first caps vs : Array Value} {S' : Value → World → Prop}
    (ha : On N ρ a) (hg : o.guard = none) (hok : okOp N ρ o = true) (ho : o.op = .call { callee := .value f, args := args, argTypes := ts }) (hf : ρ.ev f = .func (.func g) first caps) (hb : hasBody P g = true)
    (hv : first ++ args.map ρ.ev ++ caps = vs) (hc : Fn P g vs w S') (k : ∀ v w', S' v w' → ∀ a', On N (ρ.set o.dst v) a' → wpList P ops Q l a' w') : wpList P ops Q (o :: l) a w := by
  unfold wpList
  rw [if_pos (by simp [Region.wanted, hg])]
  left
  unfold Oper.wp
  rw [evT_eq, exec_ev ha.ag hok]
  have hrun : (execOp ρ.ev o).run P w = .ok (.enter g vs) w := by
    simp only [execOp, ho, resolve, hf, Deferred.ofValue, Sem.run_bind, Sem.run_pure, Result.andThen_ok, invoke]
    rw [callFunc_ok hb, hv]
  rw [hrun, Oper.upon_enter]
  refine Calls.mono hc ?_
  rintro e w' ⟨v, rfl, hs⟩
  have : okDst N o.dst = true := by simp only [okOp, Bool.and_eq_true] at hok; exact hok.2
  exact k v w' hs _ (ha.set _ this v)
end

/-! ## entry and return -/
abbrev Post (S : Value → World → Prop) : Ending → World → Prop := fun e w' => ∃ v, e = .returned v ∧ S v w'
def argEnv : Nat → List Value → Env
  | _, [] => []
  | i, v :: l => (i, v) :: argEnv (i + 1) l
theorem argEnv_get : ∀ (l : List Value) (i t : Nat) (v : Value), (argEnv i l).get? t = some v → i ≤ t ∧ l[t - i]? = some v := by
  intro l
  induction l with
  | nil => intro i t v h; simp [argEnv, Env.get?] at h
  | cons u l ih =>
    intro i t v h
    simp only [argEnv, Env.get?_cons] at h
    split at h
    · rename_i hit
      subst hit
      simpa using h
    · rename_i hit
      obtain ⟨h1, h2⟩ := ih (i + 1) t v h
      refine ⟨by omega, ?_⟩
      rw [show t - i = (t - (i + 1)) + 1 by omega, List.getElem?_cons_succ]
      exact h2
theorem enter {P : Program} {f : FuncId} {fn : Func} {c : Code} {args : List Value} {w : World} {S : Value → World → Prop} {N : Nat} (hf : P.funcs[f]? = some fn) (hb : fn.body = some c) (hn : fn.ntmps = N)
    (hsz : Nat.ble args.length N = true) (k : ∀ a, On N (argEnv 0 args) a → c.wp P (bodyPost P fn (Post S)) a w) : Fn P f args.toArray w S := by
  refine calls_of_wp hf hb (k _ ⟨rfl, ?_, ?_⟩)
  · simp [hn]; have := Nat.le_of_ble_eq_true hsz; omega
  · intro t v h
    obtain ⟨_, h2⟩ := argEnv_get _ _ _ _ h
    simp only [Nat.sub_zero] at h2
    have hlt : t < args.length := (List.getElem?_eq_some_iff.1 h2).1
    rw [Array.getElem?_append_left (by simpa using hlt)]
    simpa using h2
inductive RetL (P : Program) (w : World) (ρ : Env) : List ResultVar → List Value → Prop
  | nil : RetL P w ρ [] []
  | tmp {t : Nat} {v : Value} {rs : List ResultVar} {vs : List Value} (h : ρ.get? t = some v) (r : RetL P w ρ rs vs) : RetL P w ρ (.tmp t :: rs) (v :: vs)
  | cell {t : Nat} {ad : Addr} {ty : TypeId} {v : Value} {rs : List ResultVar} {vs : List Value} (h : ρ.get? t = some (.pointer (some ad))) (hl : (loadVar ty ad).run P w = .ok v w) (r : RetL P w ρ rs vs) : RetL P w ρ (.cell t ty :: rs) (v :: vs)
def mkRes : List Value → Value
  | [v] => v
  | vs => .tuple vs.toArray
theorem mapM_run {P : Program} {w : World} {f : ResultVar → Sem Value} : ∀ {rs : List ResultVar} {vs : List Value}, rs.length = vs.length → (∀ (i : Nat) (r : ResultVar) (v : Value), rs[i]? = some r → vs[i]? = some v → (f r).run P w = .ok v w) →
    (rs.mapM f).run P w = .ok vs w := by
  intro rs
  induction rs with
  | nil => intro vs hl _; cases vs with | nil => rfl | cons => simp at hl
  | cons r rs ih =>
    intro vs hl h
    cases vs with
    | nil => simp at hl
    | cons v vs =>
      rw [List.mapM_cons]
      simp only [Sem.run_bind]
      rw [h 0 r v rfl rfl]
      simp only [Result.andThen_ok]
      rw [ih (by simpa using hl) fun i r' v' h1 h2 => h (i + 1) r' v' (by simpa using h1) (by simpa using h2)]
      rfl
theorem RetL.run {P : Program} {w : World} {ρ : Env} {N : Nat} {T : Array Value} (hag : Ag N ρ T) {fn : Func} {vs : List Value} (h : RetL P w ρ fn.results.toList vs) : (results fn T).run P w = .ok (mkRes vs) w := by
  have key : ∀ {rs : List ResultVar} {vs : List Value}, RetL P w ρ rs vs → rs.length = vs.length ∧ ∀ (i : Nat) (r : ResultVar) (v : Value), rs[i]? = some r → vs[i]? = some v →
      ((match r with | .tmp t => (Pure.pure (T.getD t undef) : Sem Value) | .cell a t => do loadVar t (← asAddr (T.getD a undef))).run P w = .ok v w) := by
    intro rs vs h
    induction h with
    | nil => exact ⟨rfl, by simp⟩
    | @tmp t v rs vs hg _ ih =>
      refine ⟨by simp [ih.1], fun i r v' h1 h2 => ?_⟩
      cases i with
      | zero =>
        simp at h1 h2
        subst h1; subst h2
        simp [Array.getD_eq_getD_getElem?, hag.slots t _ hg]
      | succ i => exact ih.2 i r v' (by simpa using h1) (by simpa using h2)
    | @cell t ad ty v rs vs hg hl _ ih =>
      refine ⟨by simp [ih.1], fun i r v' h1 h2 => ?_⟩
      cases i with
      | zero =>
        simp at h1 h2
        subst h1; subst h2
        simp [Array.getD_eq_getD_getElem?, hag.slots t _ hg, asAddr, hl]
      | succ i => exact ih.2 i r v' (by simpa using h1) (by simpa using h2)
  obtain ⟨h1, h2⟩ := key h
  unfold results
  simp only [Sem.run_bind]
  rw [← Array.toArray_toList (xs := fn.results), List.mapM_toArray]
  simp only [Sem.run_map]
  erw [mapM_run h1 h2]
  simp only [Result.andThen_ok, Sem.run_pure]
  match vs with
  | [] => rfl
  | [v] => rfl
  | v :: u :: r =>
    rw [dif_neg (by simp)]
    rfl
theorem fin {P : Program} {fn : Func} {S : Value → World → Prop} {N : Nat} {ρ : Env} {a : Act} {w : World} {vs : List Value} (ha : On N ρ a) (hr : RetL P w ρ fn.results.toList vs) (hS : S (mkRes vs) w) : bodyPost P fn (Post S) .ret a w :=
  ⟨ha.defers, _, hr.run ha.ag, _, rfl, hS⟩
theorem finN {P : Program} {fn : Func} {S : Value → World → Prop} {N : Nat} {ρ : Env} {a : Act} {w : World} {vs : List Value} (ha : On N ρ a) (hr : RetL P w ρ fn.results.toList vs) (hS : S (mkRes vs) w) : bodyPost P fn (Post S) .normal a w :=
  ⟨ha.defers, _, hr.run ha.ag, _, rfl, hS⟩
end Go.Kn
