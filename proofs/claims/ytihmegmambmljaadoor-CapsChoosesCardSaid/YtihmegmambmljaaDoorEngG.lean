/- The engine, seventh part: slices that are read. -/
import Derived.Test.YtihmegmambmljaaDoorEngF
set_option linter.unusedSimpArgs false
set_option linter.unusedVariables false
namespace Go.Kn
open Go.RowKit (Below)

def ab : Option Addr → Nat
  | some a => a.block
  | none => 0
def ao : Option Addr → Nat
  | some a => a.off
  | none => 0
/-- the slice reads as the cells xs, size sz each -/
structure Rd (w : World) (sz : Nat) (A : Option Addr) (n : Nat) (xs : List Value) : Prop where
  len : xs.length = n * sz
  addr : 0 < n → A = some ⟨ab A, ao A, none⟩
  cell : ∀ (j : Nat) (v : Value), xs[j]? = some v → w.cell? ⟨ab A, ao A + j, none⟩ = some v
section
variable {P : Program} {w w' : World} {sz n c : Nat} {A : Option Addr} {xs : List Value}
theorem blk_lt {a : Addr} {v : Value} (h : w.cell? a = some v) : a.block < w.heap.size := by
  unfold World.cell? at h
  rcases Nat.lt_or_ge a.block w.heap.size with hlt | hge
  · exact hlt
  · rw [Array.getElem?_eq_none hge] at h; cases h
theorem cellE {a : Addr} {v : Value} (he : Ext w w') (h : w.cell? a = some v) : w'.cell? a = some v := by
  have := he.block a.block (blk_lt h)
  unfold World.cell? at h ⊢
  rw [this]; exact h
theorem rdE (he : Ext w w') (h : Rd w sz A n xs) : Rd w' sz A n xs := ⟨h.len, h.addr, fun j v hv => cellE he (h.cell j v hv)⟩
theorem rd_nil (w : World) (sz : Nat) : Rd w sz none 0 [] := ⟨by simp, fun h => absurd h (by omega), fun j v h => by simp at h⟩
theorem rd_zero (w : World) (sz : Nat) (A : Option Addr) : Rd w sz A 0 [] := ⟨by simp, fun h => absurd h (by omega), fun j v h => by simp at h⟩
theorem own_rd {B e : Nat} (h : Own w B e sz A n c xs) : Rd w sz A n xs := by
  rcases h.2 with ⟨h0, h1⟩ | ⟨g, cap, cur, hv, hb, hg, hn, hm, hs, ht⟩
  · have hx : xs = [] := List.eq_nil_of_length_eq_zero (by rw [h.1, h1]; simp)
    subst hx; subst h1
    exact rd_zero w sz A
  · injection hv with h1 h2 h3
    subst h1
    refine ⟨h.1, fun _ => rfl, fun j v hj => ?_⟩
    obtain ⟨hlt, he⟩ := List.getElem?_eq_some_iff.1 hj
    have := own_cell h j hlt
    simp only [ab, ao, Nat.zero_add]
    rw [this, he]
theorem rd_blk {b : Nat} {cs : Array Value} {T m : Nat} {fz : Nat × Nat} (hB : w.heap[b]? = some (.cells cs T fz)) (hs : cs.size = m * sz) : Rd w sz (some ⟨b, 0, none⟩) m cs.toList :=
  ⟨by simpa using hs, fun _ => rfl, fun j v hj => by simp only [ab, ao, Nat.zero_add]; rw [cell_at hB]; simpa using hj⟩
theorem rd_take (h : Rd w sz A n xs) {k : Nat} (hk : k ≤ n) : Rd w sz A k (xs.take (k * sz)) := by
  refine ⟨?_, fun h0 => h.addr (by omega), fun j v hj => ?_⟩
  · rw [List.length_take, h.len]; exact Nat.min_eq_left (Nat.mul_le_mul hk (Nat.le_refl _))
  · rw [List.getElem?_take] at hj
    split at hj
    · exact h.cell j v hj
    · cases hj
/-- the address of an element -/
theorem ixRd {t e i : Nat} {k : IntKind} (ht : P.underlying t = some (.slice e)) (hz : sizeB P e = some sz) (h : Rd w sz A n xs) (hi : i < n) :
    RunOk P w (Instr.indexAt t (.slice A n c) (.int k (i : Int))) (.pointer (some ⟨ab A, ao A + i * sz, none⟩)) := by
  intro w' _
  have ha := h.addr (by omega)
  rw [ha]
  simp only [Instr.indexAt, asIntOf, Sem.run_bind, Sem.run_pure, Result.andThen_ok, run_underlying ht]
  rw [if_pos ⟨by omega, by omega⟩]
  simp only [Sem.run_bind, sizeOf_run hz, Result.andThen_ok, Sem.run_pure, add_at, Int.toNat_natCast, ab, ao]
theorem ixRdI {t e : Nat} {i : Int} {k : IntKind} (ht : P.underlying t = some (.slice e)) (hz : sizeB P e = some sz) (h : Rd w sz A n xs) (hi : 0 ≤ i ∧ i < (n : Int)) :
    RunOk P w (Instr.indexAt t (.slice A n c) (.int k i)) (.pointer (some ⟨ab A, ao A + i.toNat * sz, none⟩)) := by
  have := ixRd (P := P) (w := w) (c := c) (k := k) ht hz h (i := i.toNat) (by omega)
  rwa [Int.toNat_of_nonneg hi.1] at this
/-- one cell of an element -/
theorem ldRd {t off : Nat} {v : Value} (ht : plainB P t = true) (h : Rd w sz A n xs) {j : Nat} (hj : off = ao A + j) (hv : xs[j]? = some v) : RunOk P w (Instr.loadAt t (.pointer (some ⟨ab A, off, none⟩))) v := by
  intro w' hx
  subst hj
  unfold Instr.loadAt
  simp only [Instr.sureAddr, Sem.run_bind, Sem.run_pure, Result.andThen_ok]
  unfold loadVar
  have hc := cellE hx (h.cell j v hv)
  simp only [Sem.run_bind, isAgg_plain ht, Result.andThen_ok, Bool.false_eq_true, if_false, run_load, hc]
theorem loadCells_list {b off : Nat} : ∀ (l : List Value) (i : Nat) (acc : Array Value), (∀ (j : Nat) (v : Value), l[j]? = some v → w.cell? ⟨b, off + i + j, none⟩ = some v) →
    (loadCellsFrom ⟨b, off, none⟩ i l.length acc).run P w = .ok (acc ++ l.toArray) w := by
  intro l
  induction l with
  | nil => intro i acc _; simp [loadCellsFrom]
  | cons v l ih =>
    intro i acc h
    unfold loadCellsFrom
    have h0 := h 0 v rfl
    simp only [Nat.add_zero] at h0
    simp only [List.length_cons, Sem.run_bind, run_load, add_at, h0, Result.andThen_ok]
    rw [ih (i + 1) _ fun j u hj => by
      have := h (j + 1) u (by simpa using hj)
      rw [show off + (i + 1) + j = off + i + (j + 1) by omega]; exact this]
    simp
/-- a whole element -/
theorem ldRdN {t off : Nat} {vs : List Value} (ht : aggB P t = true) (hs : sizeB P t = some vs.length) (h : Rd w sz A n xs) {j : Nat} (hj : off = ao A + j) (hv : (xs.drop j).take vs.length = vs) :
    RunOk P w (Instr.loadAt t (.pointer (some ⟨ab A, off, none⟩))) (.agg vs.toArray) := by
  intro w' hx
  subst hj
  unfold Instr.loadAt
  simp only [Instr.sureAddr, Sem.run_bind, Sem.run_pure, Result.andThen_ok]
  unfold loadVar
  simp only [Sem.run_bind, isAgg_agg ht, Result.andThen_ok, if_true, sizeOf_run hs]
  unfold loadCells
  rw [loadCells_list vs 0 #[] fun i u hi => by
    rw [Nat.add_zero, Nat.add_assoc]
    refine cellE hx (h.cell (j + i) u ?_)
    have hlt : i < vs.length := (List.getElem?_eq_some_iff.1 hi).1
    rw [← hv, List.getElem?_take, if_pos hlt, List.getElem?_drop] at hi
    exact hi]
  simp only [Result.andThen_ok, Sem.run_pure]
  simp
/-- string([]byte{..}) -/
theorem cvBlk {src dst e b m c : Nat} {zs : List Int} {cs : Array Value} {T : TypeId} {fz : Nat × Nat} (hs : P.underlying src = some (.slice e)) (hd : P.underlying dst = some .string) (he : P.underlying e = some (.int .u8))
    (hB : w.heap[b]? = some (.cells cs T fz)) (hcs : cs.toList = zs.map fun z => .int .u8 z) (hm : zs.length = m) : RunOk P w (convert src dst (.slice (some ⟨b, 0, none⟩) m c)) (.string (S (zs.map fun z => UInt8.ofNat z.toNat))) := by
  intro w' hx
  have hB' := keepB hx hB
  exact run_convert_bytes_arg (P := P) w' src e hs he b 0 m c zs hm (fun i hi => by
    rw [Nat.zero_add, cell_at hB']
    have : cs[i]? = (cs.toList)[i]? := by simp
    rw [this, hcs]
    simp [List.getD_eq_getElem?_getD, show i < zs.length by omega]) dst hd
end
/-! ## lists of things, a row of cells each -/
theorem flat_len {α : Type} {enc : α → List Value} {k : Nat} (hk : ∀ x, (enc x).length = k) : ∀ l : List α, (l.flatMap enc).length = l.length * k := by
  intro l
  induction l with
  | nil => simp
  | cons x l ih => rw [List.flatMap_cons, List.length_append, hk, ih, List.length_cons, Nat.add_mul]; omega
theorem flat_drop {α : Type} {enc : α → List Value} {k : Nat} (hk : ∀ x, (enc x).length = k) : ∀ (l : List α) (i : Nat), (l.flatMap enc).drop (i * k) = (l.drop i).flatMap enc := by
  intro l
  induction l with
  | nil => intro i; simp
  | cons x l ih =>
    intro i
    cases i with
    | zero => simp
    | succ i =>
      rw [List.flatMap_cons, List.drop_succ_cons, ← ih i, Nat.succ_mul]
      have h1 : (enc x).length ≤ i * k + k := by rw [hk]; omega
      rw [List.drop_append, List.drop_of_length_le h1, hk, Nat.add_sub_cancel]; simp
theorem flat_seg {α : Type} {enc : α → List Value} {k : Nat} (hk : ∀ x, (enc x).length = k) (l : List α) (d : α) (i : Nat) (hi : i < l.length) : ((l.flatMap enc).drop (i * k)).take k = enc (l.getD i d) := by
  rw [flat_drop hk, List.drop_eq_getElem_cons hi, List.flatMap_cons, List.getD_eq_getElem?_getD, List.getElem?_eq_getElem hi, Option.getD_some, List.take_append_of_le_length (by rw [hk]; exact Nat.le_refl _), List.take_of_length_le (by rw [hk]; exact Nat.le_refl _)]
theorem flat_get {α : Type} {enc : α → List Value} {k : Nat} (hk : ∀ x, (enc x).length = k) (l : List α) (d : α) (i j : Nat) {v : Value} (hi : i < l.length) (hv : (enc (l.getD i d))[j]? = some v) : (l.flatMap enc)[i * k + j]? = some v := by
  have hj : j < k := by have := (List.getElem?_eq_some_iff.1 hv).1; rwa [hk] at this
  rw [← flat_seg hk l d i hi, List.getElem?_take, if_pos hj, List.getElem?_drop] at hv
  exact hv
theorem flat_get0 {α : Type} {enc : α → List Value} {k : Nat} (hk : ∀ x, (enc x).length = k) (l : List α) (d : α) (i : Nat) {v : Value} (hi : i < l.length) (hv : (enc (l.getD i d))[0]? = some v) : (l.flatMap enc)[i * k]? = some v := flat_get hk l d i 0 hi hv
end Go.Kn
