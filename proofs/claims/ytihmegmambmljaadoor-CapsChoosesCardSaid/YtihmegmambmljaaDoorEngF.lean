/- The engine, sixth part: slices of the call's own: append, reading, texts out of bytes. -/
import Derived.Test.YtihmegmambmljaaDoorEngE
import Derived.Maps.AppendAt
import Derived.Lib.AppendStr
import Derived.Laws.BytesArg
import Derived.Laws.OwnMore
set_option linter.unusedSimpArgs false
set_option linter.unusedVariables false
namespace Go.Kn
open Go.RowKit (Below)

abbrev bys (l : List UInt8) : List Value := l.map fun b => .int .u8 (b.toNat : Int)
theorem bys_len (l : List UInt8) : (bys l).length = l.length := by simp
theorem one_of {v : Value} (h : oneB v = true) : v.oneCell' = true := by cases v <;> first | rfl | simp [oneB] at h

section
variable {P : Program} {Q : Exit → Act → World → Prop} {a : Act} {w w' : World} {N : Nat} {ρ : Env}
variable {B e sz n c : Nat} {A : Option Addr} {xs : List Value}
/-- the slice value owns a row of the call's own -/
abbrev Own (w : World) (B : Nat) (e : TypeId) (sz : Nat) (A : Option Addr) (n c : Nat) (xs : List Value) : Prop := w.ownsRow B e sz (.slice A n c) n xs
theorem own_nil (w : World) (B e sz : Nat) : Own w B e sz none 0 0 [] := w.ownsRow_nil B e sz
theorem ownE (he : Ext w w') (h : Own w B e sz A n c xs) : Own w' B e sz A n c xs := by
  refine ⟨h.1, ?_⟩
  rcases h.2 with h0 | ⟨g, cap, cur, hv, hb, hg, hr⟩
  · exact .inl h0
  · exact .inr ⟨g, cap, cur, hv, hb, keepB he hg, hr⟩
theorem ownC {b : Nat} {o : Obj} {cs : Array Value} {T : TypeId} {fz : Nat × Nat} (hc : Chg w w' b o) (hB : w.heap[b]? = some (.cells cs T fz)) (hne : Nat.beq T e = false) (h : Own w B e sz A n c xs) : Own w' B e sz A n c xs := by
  refine ⟨h.1, ?_⟩
  rcases h.2 with h0 | ⟨g, cap, cur, hv, hb, hg, hr⟩
  · exact .inl h0
  · refine .inr ⟨g, cap, cur, hv, hb, hc.keep hg ?_, hr⟩
    rintro rfl
    rw [hB] at hg
    simp only [Option.some.injEq, Obj.cells.injEq] at hg
    exact beqN_ne hne hg.2.1
theorem ownG {v : Value} {e' sz' n' : Nat} {xs' : List Value} {B' : Nat} (hg : w.grownBy w' v.ownBlock) (hv : w.ownsRow B' e' sz' v n' xs') (hne : Nat.beq e e' = false) (h : Own w B e sz A n c xs) : Own w' B e sz A n c xs := by
  refine ⟨h.1, ?_⟩
  rcases h.2 with h0 | ⟨g, cap, cur, hv1, hb, hgg, hr⟩
  · exact .inl h0
  · refine .inr ⟨g, cap, cur, hv1, hb, ?_, hr⟩
    rw [hg.block g (lt_of_at hgg) ?_]; · exact hgg
    intro he
    rcases hv.2 with ⟨rfl, _⟩ | ⟨g', cap', cur', rfl, _, hg', _⟩
    · simp [Value.ownBlock] at he
    · simp only [Value.ownBlock, Option.some.injEq] at he
      subst he
      rw [hgg] at hg'
      simp only [Option.some.injEq, Obj.cells.injEq] at hg'
      exact beqN_ne hne hg'.2.1
theorem keepG {v : Value} {e' sz' n' : Nat} {xs' : List Value} {B' b : Nat} {cs : Array Value} {T : TypeId} {fz : Nat × Nat} (hg : w.grownBy w' v.ownBlock) (hv : w.ownsRow B' e' sz' v n' xs') (hne : Nat.beq T e' = false)
    (hB : w.heap[b]? = some (.cells cs T fz)) : w'.heap[b]? = some (.cells cs T fz) := by
  rw [hg.block b (lt_of_at hB) ?_]; · exact hB
  intro he
  rcases hv.2 with ⟨rfl, _⟩ | ⟨g', cap', cur', rfl, _, hg', _⟩
  · simp [Value.ownBlock] at he
  · simp only [Value.ownBlock, Option.some.injEq] at he
    subst he
    rw [hB] at hg'
    simp only [Option.some.injEq, Obj.cells.injEq] at hg'
    exact beqN_ne hne hg'.2.1
theorem extG {w0 : World} {v : Value} {e' sz' n' : Nat} {xs' : List Value} {B' : Nat} (hx : Ext w0 w) (hg : w.grownBy w' v.ownBlock) (hv : w.ownsRow B' e' sz' v n' xs') (hb : w0.heap.size ≤ B') : Ext w0 w' :=
  Below.grown hx hg hx.size fun k hk => Nat.le_trans hb (hv.lt k hk).1
theorem own_size (h : Own w B e sz A n c xs) : xs.length = n * sz := h.1
theorem own_some (h : Own w B e sz A n c xs) (hn : 0 < n) : ∃ g, A = some ⟨g, 0, none⟩ := by
  rcases h.2 with ⟨h0, h1⟩ | ⟨g, cap, cur, hv, _⟩
  · omega
  · injection hv with h1 _ _
    exact ⟨g, h1⟩
theorem own_cap (h : Own w B e sz A n c xs) : n ≤ c := by
  rcases h.2 with ⟨h0, h1⟩ | ⟨g, cap, cur, hv, _, _, h2, _⟩
  · omega
  · injection hv with _ _ h3
    omega
theorem own_cell {g : Nat} (h : Own w B e sz (some ⟨g, 0, none⟩) n c xs) (j : Nat) (hj : j < xs.length) : w.cell? ⟨g, j, none⟩ = some xs[j] := by
  rcases h.2 with ⟨h0, h1⟩ | ⟨g', cap, cur, hv, _, hg, _, _, hs, ht⟩
  · cases h0
  · injection hv with h1 h2 h3
    simp only [Option.some.injEq, Addr.mk.injEq, and_true] at h1
    subst h1
    rw [cell_at hg]
    subst ht
    have : j < cur.toList.length := by
      have := hj
      rw [List.length_take] at this
      omega
    rw [List.getElem_take]
    rw [Array.getElem?_eq_getElem (by simpa using this)]
    simp
/-- what append has to know of its slice type -/
def appB (P : Program) (t : TypeId) : Option (TypeId × Nat × Nat) :=
  match P.underlying t with
  | some (.slice e) => match P.info? e with
    | some i => match i.zero with
      | some z => bif Nat.beq z.cells.size i.size && Nat.blt 0 i.size then some (e, i.size, i.bytes) else none
      | none => none
    | none => none
  | _ => none
theorem appB_spec {t e sz by_ : Nat} (h : appB P t = some (e, sz, by_)) : ∃ i z, P.underlying t = some (.slice e) ∧ P.info? e = some i ∧ i.zero = some z ∧ i.size = sz ∧ i.bytes = by_ ∧ z.cells.size = sz ∧ 0 < sz := by
  unfold appB at h
  split at h
  · rename_i e' hu
    split at h
    · rename_i i hi
      split at h
      · rename_i z hz
        cases hb : Nat.beq z.cells.size i.size && Nat.blt 0 i.size with
        | false => simp [hb] at h
        | true =>
          simp only [hb, cond_true, Option.some.injEq, Prod.mk.injEq] at h
          obtain ⟨rfl, rfl, rfl⟩ := h
          simp only [Bool.and_eq_true, Nat.blt_eq] at hb
          exact ⟨i, z, hu, hi, hz, rfl, rfl, beqN hb.1, hb.2⟩
      · cases h
    · cases h
  · cases h
theorem own_shape {v : Value} (h : w.ownsRow B e sz v n xs) : ∃ A c, v = .slice A n c := by
  rcases h.2 with ⟨rfl, rfl⟩ | ⟨g, cap, cur, rfl, _⟩
  · exact ⟨_, _, rfl⟩
  · exact ⟨_, _, rfl⟩
/-- append(v, ys...) -/
theorem lapp {ops : Array Oper} {o : Oper} {l : List Oper} {s x : Operand} {t by_ m c' : Nat} {ad : Addr} (ha : On N ρ a) (hg : o.guard = none) (hok : okOp N ρ o = true)
    (ho : o.op = .call { callee := .builtin .append, args := #[s, x], argTypes := #[t, t] }) (ht : appB P t = some (e, sz, by_)) (hs : ρ.ev s = .slice A n c) (hown : Own w B e sz A n c xs)
    (hx : ρ.ev x = .slice (some ad) m c') (news : List Value) (hl : news.length = m * sz) (hnews : ∀ j u, news[j]? = some u → w.cell? (ad.add j) = some u) (h1 : news.all oneB = true)
    (hbytes : (n + m) * by_ ≤ 140737488355328) (hn : n + m ≤ 140737488355328) (hbase : B ≤ w.heap.size)
    (k : ∀ A' cap w', Own w' B e sz A' (n + m) cap (xs ++ news) → w.grownBy w' (Value.slice A n c).ownBlock → ∀ a', On N (ρ.set o.dst (.slice A' (n + m) cap)) a' → wpList P ops Q l a' w') : wpList P ops Q (o :: l) a w := by
  obtain ⟨i, z, hu, hi, hz, hsz, hby, hzs, hpos⟩ := appB_spec ht
  obtain ⟨v', w', hrun, h2, h3, _, _⟩ := run_append_own_at (P := P) w B t o.type e i z sz by_ hu hi hz hsz hby hzs hpos (.slice A n c) n xs hown ad m c' news hl hnews
    (fun u hu => one_of (List.all_eq_true.1 h1 u hu)) (by unfold maxLen; omega) hbytes hbase
  obtain ⟨A', cap, rfl⟩ := own_shape h2
  refine lrun ha hg hok (v := .slice A' (n + m) cap) (w' := w') ?_ fun a' ha' => k A' cap w' h2 h3 a' ha'
  have hargs : (#[s, x] : Array Operand).map ρ.ev = #[.slice A n c, .slice (some ad) m c'] := by simp [hs, hx]
  simp only [execOp, ho, resolve, hargs, Sem.run_bind, Sem.run_pure, Result.andThen_ok, invoke, builtin, hrun]
/-- append(v, text...) -/
theorem lappS {ops : Array Oper} {o : Oper} {l : List Oper} {s x : Operand} {t u : Nat} {q : List UInt8} (ha : On N ρ a) (hg : o.guard = none) (hok : okOp N ρ o = true)
    (ho : o.op = .call { callee := .builtin .append, args := #[s, x], argTypes := #[t, u] }) (ht : appB P t = some (e, 1, 1)) (hz : (P.info? e).bind (·.zero) = some (.int .u8 0)) (hu : P.underlying u = some .string) (hs : ρ.ev s = .slice A n c) (hown : Own w B e 1 A n c xs)
    (hx : ρ.ev x = .string (S q)) (hn : n + q.length ≤ 140737488355328) (hbase : B ≤ w.heap.size)
    (k : ∀ A' cap w', Own w' B e 1 A' (n + q.length) cap (xs ++ bys q) → w.grownBy w' (Value.slice A n c).ownBlock → ∀ a', On N (ρ.set o.dst (.slice A' (n + q.length) cap)) a' → wpList P ops Q l a' w') : wpList P ops Q (o :: l) a w := by
  obtain ⟨i, z, hun, hi, hz', hsz, hby, hzs, hpos⟩ := appB_spec ht
  have hzz : i.zero = some (.int .u8 0) := by simpa [hi] using hz
  obtain ⟨v', w', hrun, h2, h3, _⟩ := Lib.run_append_own_string (P := P) w B t u o.type e i hun hu hi hzz hsz hby (.slice A n c) n xs hown (S q)
    (by rw [S_size]; unfold maxLen; omega) (by rw [S_size]; exact hn) hbase
  rw [S_size] at h2
  obtain ⟨A', cap, rfl⟩ := own_shape h2
  refine lrun ha hg hok (v := .slice A' (n + q.length) cap) (w' := w') ?_ fun a' ha' => k A' cap w' h2 h3 a' ha'
  have hargs : (#[s, x] : Array Operand).map ρ.ev = #[.slice A n c, .string (S q)] := by simp [hs, hx]
  simp only [execOp, ho, resolve, hargs, Sem.run_bind, Sem.run_pure, Result.andThen_ok, invoke, builtin, hrun]
/-- a new row: []T{..} -/
theorem lnewS {ops : Array Oper} {o : Oper} {l : List Oper} (ha : On N ρ a) (hg : o.guard = none) (hok : okOp N ρ o = true) (cs : Array Value) (T m : Nat)
    (hrun : (execOp ρ.ev o).run P w = .ok (.value (.slice (some ⟨w.heap.size, 0, none⟩) m m)) { w with heap := w.heap.push (.cells cs T (0, 0)) })
    (k : ∀ b w', Ext w w' → w.heap.size ≤ b → w'.heap[b]? = some (.cells cs T (0, 0)) → ∀ a', On N (ρ.set o.dst (.slice (some ⟨b, 0, none⟩) m m)) a' → wpList P ops Q l a' w') : wpList P ops Q (o :: l) a w := by
  refine lrun ha hg hok hrun fun a' ha' => k w.heap.size { w with heap := w.heap.push (.cells cs T (0, 0)) } ⟨rfl, rfl, rfl, by simp, fun i hi => ?_⟩ (Nat.le_refl _) ?_ a' ha'
  · show (w.heap.push _)[i]? = _
    rw [Array.getElem?_push, if_neg (by omega)]
  · show (w.heap.push _)[w.heap.size]? = _
    simp
theorem news_blk {b : Nat} {cs : Array Value} {T : TypeId} {fz : Nat × Nat} (hB : w.heap[b]? = some (.cells cs T fz)) : ∀ j u, cs.toList[j]? = some u → w.cell? ((⟨b, 0, none⟩ : Addr).add j) = some u := by
  intro j u h
  rw [add_at, Nat.zero_add, cell_at hB]
  simpa using h
/-- a row of the call's own out of a literal -/
theorem own_lit {b : Nat} {cs : Array Value} {T m sz : Nat} (hB : w.heap[b]? = some (.cells cs T (0, 0))) (hb : B ≤ b) (hs : cs.size = m * sz) (hm : m ≤ 9223372036854775807) : Own w B T sz (some ⟨b, 0, none⟩) m m cs.toList := by
  refine ⟨by simpa using hs, .inr ⟨b, m, cs, rfl, hb, hB, Nat.le_refl _, by unfold maxLen; omega, hs, ?_⟩⟩
  rw [List.take_of_length_le (by simp [hs])]

theorem strOf_bys (l : List UInt8) : strOfNums (l.map fun b => (b.toNat : Int)) = S l := by
  apply ByteArray.ext
  apply Array.ext'
  rw [strOfNums_data, List.map_map]
  have : ((fun n : Int => UInt8.ofNat n.toNat) ∘ fun b : UInt8 => (b.toNat : Int)) = id := by
    funext b
    simp
  rw [this, List.map_id]
/-- string(bytes) -/
theorem cvOwn {src dst : TypeId} {l : List UInt8} (hs : P.underlying src = some (.slice e)) (hd : P.underlying dst = some .string) (he : P.underlying e = some (.int .u8)) (hown : Own w B e 1 A l.length c (bys l)) :
    RunOk P w (convert src dst (.slice A l.length c)) (.string (S l)) := by
  intro w' hx
  have ho := ownE hx hown
  rcases Nat.eq_zero_or_pos l.length with h0 | h0
  · have : l = [] := List.eq_nil_of_length_eq_zero h0
    subst this
    cases A with
    | none => exact run_convert_bytes_nil w' src e hs he 0 c dst hd
    | some ad =>
      obtain ⟨b, off, sp⟩ := ad
      rcases ho.2 with ⟨h1, _⟩ | ⟨g, cap, cur, hv, _⟩
      · cases h1
      · injection hv with h1 h2 h3
        simp only [Option.some.injEq, Addr.mk.injEq] at h1
        obtain ⟨rfl, rfl, rfl⟩ := h1
        have := run_convert_bytes_arg (P := P) w' src e hs he b 0 0 c [] rfl (fun i hi => by omega) dst hd
        exact this
  · obtain ⟨g, rfl⟩ := own_some hown h0
    have := run_convert_bytes_arg (P := P) w' src e hs he g 0 l.length c (l.map fun b => (b.toNat : Int)) (by simp) (fun i hi => by
      rw [Nat.zero_add, own_cell ho i (by simpa using hi)]
      simp [List.getD_eq_getElem?_getD, hi]) dst hd
    rw [strOf_bys] at this
    exact this
/-- the address of an element, and the element, of a row of one-cell elements -/
theorem idxOwn {t g i : Nat} {k : IntKind} (ht : P.underlying t = some (.slice e)) (hz : sizeB P e = some sz) (hi : i < n) : RunOk P w (Instr.indexAt t (.slice (some ⟨g, 0, none⟩) n c) (.int k (i : Int))) (.pointer (some ⟨g, i * sz, none⟩)) := by
  intro w' _
  simp only [Instr.indexAt, asIntOf, Sem.run_bind, Sem.run_pure, Result.andThen_ok, run_underlying ht]
  rw [if_pos ⟨by omega, by omega⟩]
  simp only [Sem.run_bind, sizeOf_run hz, Result.andThen_ok, Sem.run_pure, add_at, Int.toNat_natCast, Nat.zero_add]
theorem idxOwnI {t g : Nat} {i : Int} {k : IntKind} (ht : P.underlying t = some (.slice e)) (hz : sizeB P e = some sz) (hi : 0 ≤ i ∧ i < (n : Int)) : RunOk P w (Instr.indexAt t (.slice (some ⟨g, 0, none⟩) n c) (.int k i)) (.pointer (some ⟨g, i.toNat * sz, none⟩)) := by
  have := idxOwn (P := P) (w := w) (c := c) (g := g) (k := k) ht hz (i := i.toNat) (n := n) (by omega)
  rwa [Int.toNat_of_nonneg hi.1] at this
theorem ldOwn {t g i : Nat} {v : Value} (ht : plainB P t = true) (hown : Own w B e 1 (some ⟨g, 0, none⟩) n c xs) (hv : xs[i]? = some v) : RunOk P w (Instr.loadAt t (.pointer (some ⟨g, i * 1, none⟩))) v := by
  intro w' hx
  unfold Instr.loadAt
  simp only [Instr.sureAddr, Sem.run_bind, Sem.run_pure, Result.andThen_ok]
  unfold loadVar
  have hlt : i < xs.length := (List.getElem?_eq_some_iff.1 hv).1
  have hc := own_cell (ownE hx hown) i hlt
  have : xs[i] = v := (List.getElem?_eq_some_iff.1 hv).2
  rw [Nat.mul_one]
  simp only [Sem.run_bind, isAgg_plain ht, Result.andThen_ok, Bool.false_eq_true, if_false, run_load, hc, this]
end
end Go.Kn
namespace Go.Kn
section
variable {w w' : World} {B e sz n c b : Nat} {A : Option Addr} {xs : List Value} {o : Obj}
theorem own_ne (h : Own w B e sz A n c xs) (hb : w.heap.size ≤ b) : (Value.slice A n c).ownBlock ≠ some b := fun he => by
  have h1 := (World.ownsRow.lt h b he).1
  have h2 := (World.ownsRow.lt h b he).2
  omega
theorem ownCn (hc : Chg w w' b o) (hne : (Value.slice A n c).ownBlock ≠ some b) (h : Own w B e sz A n c xs) : Own w' B e sz A n c xs := by
  refine ⟨h.1, ?_⟩
  rcases h.2 with h0 | ⟨g, cap, cur, hv, hb, hg, hr⟩
  · exact .inl h0
  · refine .inr ⟨g, cap, cur, hv, hb, hc.keep hg ?_, hr⟩
    rintro rfl
    exact hne (by rw [hv]; rfl)
theorem keepGo {v : Value} (hg : w.grownBy w' v.ownBlock) (hne : v.ownBlock ≠ some b) (hB : w.heap[b]? = some o) : w'.heap[b]? = some o := by
  rw [hg.block b (lt_of_at hB) (fun he => hne he.symm)]; exact hB
end
end Go.Kn
