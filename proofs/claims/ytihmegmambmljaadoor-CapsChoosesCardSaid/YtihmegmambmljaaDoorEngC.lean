/- The engine, third part: regions, calls, branches, loops, entry and return. -/
import Derived.Test.YtihmegmambmljaaDoorEngB
import Derived.Tactics
set_option linter.unusedSimpArgs false
set_option linter.unusedVariables false
namespace Go.Kn
open Go.RowKit (Below)

structure On (N : Nat) (ρ : Env) (a : Act) : Prop where
  defers : a.defers = []
  ag : Ag N ρ a.tmps
theorem On.sub {N : Nat} {ρ : Env} {a : Act} (h : On N ρ a) {ρ' : Env} (hs : ρ.pick (ρ'.map Prod.fst) = some ρ') : On N ρ' a :=
  ⟨h.defers, h.ag.sub fun t v hv => Env.get?_pick hs t v hv⟩
theorem On.set {N : Nat} {ρ : Env} {a : Act} (h : On N ρ a) (d : Option Nat) (hd : okDst N d = true) (v : Value) : On N (ρ.set d v) (a.put d v) := by
  refine ⟨by rw [put_defers]; exact h.defers, ?_⟩
  rw [put_tmps]
  refine h.ag.put d (fun t ht => ?_) v
  subst ht
  simp only [okDst, Nat.blt_eq] at hd
  exact hd
/-- What is in the slots, told otherwise. -/
theorem On.eqs {N : Nat} {ρ ρ' : Env} {a : Act} (h : On N ρ a) (e : ρ = ρ') : On N ρ' a := e ▸ h

def lk : List (Nat × M) → Nat → Option M
  | [], _ => none
  | (k, m) :: r, i => bif Nat.beq k i then some m else lk r i
def xreg (P : Program) (w0 : World) (N : Nat) (ops : Array Oper) (draw : Bool) (ms : List (Nat × M)) (ρ : Env) (ks : List Nat) : Option (Env × List Prop) :=
  bif !draw || (chk ops && ops.toList.all fun o => notSelect o.op) then
    match xrun P w0 N ops (lk ms) 1000 [] none 0 ops.toList ρ with
    | some (_, _, ρ1, C) => (match ρ1.pick ks with | some r => some (r, C) | none => none)
    | none => none
  else none
def xpure (P : Program) (w0 : World) (N : Nat) (ops : Array Oper) (draw : Bool) (ms : List (Nat × M)) (ρ : Env) (ks : List Nat) : Option (Env × List Prop) :=
  bif draw || ops.toList.any isCall then none else xreg P w0 N ops false ms ρ ks

theorem xrun_end {P : Program} {w0 : World} {N : Nat} {ops : Array Oper} {ms : Nat → Option M} : ∀ (fuel : Nat) (gs : List (Nat × Bool)) (i : Nat) (l : List Oper) (ρ : Env) {rest : List Oper} {i' : Nat} {ρ1 : Env} {C : List Prop},
    xrun P w0 N ops ms fuel gs none i l ρ = some (rest, i', ρ1, C) → rest = [] := by
  intro fuel
  induction fuel with
  | zero => intro gs i l ρ rest i' ρ1 C h; simp [xrun] at h
  | succ fuel ih =>
    intro gs i l ρ rest i' ρ1 C h
    cases l with
    | nil => simp only [xrun, Option.some.injEq, Prod.mk.injEq] at h; exact h.1.symm
    | cons o l =>
      simp only [xrun, isStop, cond_false] at h
      cases hk : knownG gs o.guard with
      | true =>
        simp only [hk, cond_true] at h
        cases ho : okOp N ρ o && apartG ops gs o.dst with
        | false => simp [ho] at h
        | true =>
          simp only [ho, cond_true] at h
          split at h
          · split at h
            · rename_i r i2 ρ2 C2 hr
              simp only [Option.some.injEq, Prod.mk.injEq] at h
              exact h.1 ▸ ih _ _ _ _ hr
            · simp at h
          · simp at h
      | false =>
        simp only [hk, cond_false] at h
        split at h
        · simp at h
        · split at h
          · simp at h
          · split at h
            · split at h
              · rename_i p r ib ρb Cb hb
                generalize (skipOk ops _ _ [] ((o :: l).take (ib - i)) && knownG gs p.guard && apartG ops gs p.dst && okDst N p.dst) = q at h
                cases q with
                | false => simp at h
                | true =>
                  simp only [cond_true] at h
                  split at h
                  · split at h
                    · rename_i r2 i2 ρ3 C3 hr
                      simp only [Option.some.injEq, Prod.mk.injEq] at h
                      exact h.1 ▸ ih _ _ _ _ hr
                    · simp at h
                  · simp at h
              · simp at h
            · simp at h

section
variable {P : Program} {Q : Exit → Act → World → Prop} {a : Act} {w : World} {N : Nat} {ρ : Env}

theorem Exec.wps {ops : Array Oper} {w0 : World} {l rest : List Oper} {T T1 : Array Value} (h : Exec P ops w0 l T T1) : ∀ {a : Act} {w : World}, a.tmps = T → a.defers = [] → Ext w0 w →
    (∀ a' w', a'.tmps = T1 → a'.defers = [] → Ext w w' → wpList P ops Q rest a' w') → wpList P ops Q (l ++ rest) a w := by
  induction h with
  | nil T => intro a w ha hd hw k; exact k a w ha hd (Ext.rfl' w)
  | @cons o l T T' v hok _ ih =>
    intro a w ha hd hw k
    show wpList P ops Q (o :: (l ++ rest)) a w
    unfold wpList
    subst ha
    unfold OpOk at hok
    split
    · rename_i hww
      rw [if_pos hww] at hok
      left
      refine oper_wp (w0 := w0) (v := v) (by rw [evT_eq]; exact hok) hw fun w' hw' => ?_
      exact ih (by rw [put_tmps]) (by rw [put_defers, hd]) (hw.tr hw') fun a' w'' h1 h2 h3 => k a' w'' h1 h2 (hw'.tr h3)
    · rename_i hww
      rw [if_neg hww] at hok
      subst hok
      exact ih (by rw [put_tmps]) (by rw [put_defers, hd]) hw k
theorem oper_wp_pure {w0 w : World} {o : Oper} {v : Value} {K : Act → World → Prop} (h : OpRun P w0 a.eval o v) (hn : isCall o = false) (hw : Ext w0 w) (k : K (a.put o.dst v) w) : o.wp P a w K Q := by
  unfold Oper.wp
  rcases h with h | ⟨hc, _⟩
  · rw [h w hw]
    exact k
  · rw [hn] at hc; cases hc
theorem Exec.wps_pure {ops : Array Oper} {w0 : World} {l rest : List Oper} {T T1 : Array Value} (h : Exec P ops w0 l T T1) (hn : l.any isCall = false) : ∀ {a : Act}, a.tmps = T → a.defers = [] →
    (∀ a', a'.tmps = T1 → a'.defers = [] → wpList P ops Q rest a' w0) → wpList P ops Q (l ++ rest) a w0 := by
  induction h with
  | nil T => intro a ha hd k; exact k a ha hd
  | @cons o l T T' v hok _ ih =>
    intro a ha hd k
    simp only [List.any_cons, Bool.or_eq_false_iff] at hn
    show wpList P ops Q (o :: (l ++ rest)) a w0
    unfold wpList
    subst ha
    unfold OpOk at hok
    split
    · rename_i hww
      rw [if_pos hww] at hok
      left
      refine oper_wp_pure (w0 := w0) (v := v) (by rw [evT_eq]; exact hok) hn.1 (Ext.rfl' _) ?_
      exact ih hn.2 (by rw [put_tmps]) (by rw [put_defers, hd]) k
    · rename_i hww
      rw [if_neg hww] at hok
      subst hok
      exact ih hn.2 (by rw [put_tmps]) (by rw [put_defers, hd]) k

/-- A region whose calls' values are told, whatever its order. -/
theorem reg {id : Nat} {ops : Array Oper} {draw : Bool} (hm : P.follows .mixedOrders = true) (ha : On N ρ a) (ms : List (Nat × M)) {ρ' : Env} {C : List Prop}
    (hx : xreg P w N ops draw ms ρ (ρ'.map Prod.fst) = some (ρ', C)) (hC : All C) (k : ∀ a' w', On N ρ' a' → Ext w w' → Q .normal a' w') : (Code.region id ops draw).wp P Q a w := by
  unfold xreg at hx
  cases hd : !draw || (chk ops && ops.toList.all fun o => notSelect o.op) with
  | false => rw [hd] at hx; simp at hx
  | true =>
    simp only [hd, cond_true] at hx
    split at hx
    · rename_i rest i' ρ1 C1 hrun
      split at hx
      · rename_i r hp
        simp only [Option.some.injEq, Prod.mk.injEq] at hx
        obtain ⟨rfl, rfl⟩ := hx
        cases draw with
        | false =>
          obtain ⟨pre, T1, hl, hi, he, hag⟩ := xrun_ok _ _ _ _ _ _ hrun hC a.tmps ha.ag (by simp)
          have hrest : rest = [] := xrun_end _ _ _ _ _ hrun
          subst hrest
          refine wp_region_list ?_
          rw [hl]
          refine he.wps rfl ha.defers (Ext.rfl' w) fun a' w' h1 h2 h3 => ?_
          exact k a' w' ⟨h2, h1 ▸ hag.sub fun t v hv => Env.get?_pick hp t v hv⟩ h3
        | true =>
          simp only [Bool.not_true, Bool.false_or, Bool.and_eq_true] at hd
          obtain ⟨ms', hc⟩ := chk_spec hd.1
          obtain ⟨pre, T1, hl, hi, he, hag⟩ := xrun_ok _ _ _ _ _ _ hrun hC a.tmps ha.ag (by simp)
          have hrest : rest = [] := xrun_end _ _ _ _ _ hrun
          subst hrest
          rw [List.append_nil] at hl
          rw [← hl] at he
          obtain ⟨vs, F, h0, h1, h2⟩ := he.seq
          refine wp_region_any hm ?_
          refine any_order (w0 := w) (T0 := a.tmps) (vs := vs) (F := F) hc (fun i o ho => ?_) h0 (fun i o ho => h2 i o (by simpa using ho)) (fun a' w' e1 e2 e3 => ?_) _ _ _ _ ?_ (fun _ _ => trivial) ?_
          · have := List.all_eq_true.1 hd.2 o (by rw [List.mem_iff_getElem?]; exact ⟨i, by simpa using ho⟩)
            exact this
          · refine k a' w' ⟨e2, ?_⟩ e3
            rw [e1]
            have : F ops.size = T1 := by rw [← h1]; simp
            rw [this]
            exact hag.sub fun t v hv => Env.get?_pick hp t v hv
          · refine ⟨by simp, fun j o h => ?_, ha.defers, rfl, (Ext.rfl' w).drew_, fun t i o _ _ h => ?_, fun t _ => rfl⟩
            · rw [Array.getElem?_replicate] at h
              split at h <;> simp at h
            · rw [Array.getElem?_replicate] at h
              split at h <;> simp at h
          · exact Nat.le_trans List.countP_le_length (by simp)
      · cases hx
    · cases hx
/-- A region without calls, in the text's order: the world stays. -/
theorem regp {id : Nat} {ops : Array Oper} {draw : Bool} (ha : On N ρ a) (ms : List (Nat × M)) {ρ' : Env} {C : List Prop}
    (hx : xpure P w N ops draw ms ρ (ρ'.map Prod.fst) = some (ρ', C)) (hC : All C) (k : ∀ a', On N ρ' a' → Q .normal a' w) : (Code.region id ops draw).wp P Q a w := by
  unfold xpure at hx
  cases hd : draw || ops.toList.any isCall with
  | true => rw [hd] at hx; simp at hx
  | false =>
    simp only [hd, cond_false] at hx
    simp only [Bool.or_eq_false_iff] at hd
    obtain ⟨rfl, hn⟩ := hd
    unfold xreg at hx
    simp only [Bool.not_false, Bool.true_or, cond_true] at hx
    split at hx
    · rename_i rest i' ρ1 C1 hrun
      split at hx
      · rename_i r hp
        simp only [Option.some.injEq, Prod.mk.injEq] at hx
        obtain ⟨rfl, rfl⟩ := hx
        obtain ⟨pre, T1, hl, hi, he, hag⟩ := xrun_ok _ _ _ _ _ _ hrun hC a.tmps ha.ag (by simp)
        have hrest : rest = [] := xrun_end _ _ _ _ _ hrun
        subst hrest
        refine wp_region_list ?_
        rw [hl] at hn ⊢
        refine he.wps_pure (by simpa using hn) rfl ha.defers fun a' h1 h2 => ?_
        exact k a' ⟨h2, h1 ▸ hag.sub fun t v hv => Env.get?_pick hp t v hv⟩
      · cases hx
    · cases hx
/-- A region that is gone through piece by piece. -/
theorem reg_list {id : Nat} {ops : Array Oper} (h : wpList P ops Q ops.toList a w) : (Code.region id ops false).wp P Q a w := wp_region_list h
def xseg (P : Program) (w0 : World) (N : Nat) (ops : Array Oper) (n : Nat) (l : List Oper) (ms : List (Nat × M)) (ρ : Env) (ks : List Nat) : Option (Env × List Prop) :=
  match xrun P w0 N ops (lk ms) 1000 [] none 0 (l.take n) ρ with
  | some (_, _, ρ1, C) => (match ρ1.pick ks with | some r => some (r, C) | none => none)
  | none => none
theorem seg {ops : Array Oper} {l : List Oper} (ha : On N ρ a) (n : Nat) (ms : List (Nat × M)) {ρ' : Env} {C : List Prop}
    (hx : xseg P w N ops n l ms ρ (ρ'.map Prod.fst) = some (ρ', C)) (hC : All C) (k : ∀ a' w', On N ρ' a' → Ext w w' → wpList P ops Q (l.drop n) a' w') : wpList P ops Q l a w := by
  unfold xseg at hx
  split at hx
  · rename_i rest i' ρ1 C1 hrun
    split at hx
    · rename_i r hp
      simp only [Option.some.injEq, Prod.mk.injEq] at hx
      obtain ⟨rfl, rfl⟩ := hx
      obtain ⟨pre, T1, hl, hi, he, hag⟩ := xrun_ok _ _ _ _ _ _ hrun hC a.tmps ha.ag (by simp)
      have hrest : rest = [] := xrun_end _ _ _ _ _ hrun
      subst hrest
      rw [List.append_nil] at hl
      suffices hs : wpList P ops Q (pre ++ l.drop n) a w by
        rw [← hl, List.take_append_drop] at hs
        exact hs
      exact he.wps rfl ha.defers (Ext.rfl' w) fun a' w' h1 h2 h3 => k a' w' ⟨h2, h1 ▸ hag.sub fun t v hv => Env.get?_pick hp t v hv⟩ h3
    · cases hx
  · cases hx
theorem segp {ops : Array Oper} {l : List Oper} (ha : On N ρ a) (n : Nat) (ms : List (Nat × M)) (hn : (l.take n).any isCall = false) {ρ' : Env} {C : List Prop}
    (hx : xseg P w N ops n l ms ρ (ρ'.map Prod.fst) = some (ρ', C)) (hC : All C) (k : ∀ a', On N ρ' a' → wpList P ops Q (l.drop n) a' w) : wpList P ops Q l a w := by
  unfold xseg at hx
  split at hx
  · rename_i rest i' ρ1 C1 hrun
    split at hx
    · rename_i r hp
      simp only [Option.some.injEq, Prod.mk.injEq] at hx
      obtain ⟨rfl, rfl⟩ := hx
      obtain ⟨pre, T1, hl, hi, he, hag⟩ := xrun_ok _ _ _ _ _ _ hrun hC a.tmps ha.ag (by simp)
      have hrest : rest = [] := xrun_end _ _ _ _ _ hrun
      subst hrest
      rw [List.append_nil] at hl
      have hn' : pre.any isCall = false := hl ▸ hn
      suffices hs : wpList P ops Q (pre ++ l.drop n) a w by
        rw [← hl, List.take_append_drop] at hs
        exact hs
      exact he.wps_pure hn' rfl ha.defers fun a' h1 h2 => k a' ⟨h2, h1 ▸ hag.sub fun t v hv => Env.get?_pick hp t v hv⟩
    · cases hx
  · cases hx
end
end Go.Kn
