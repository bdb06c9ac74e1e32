/- The engine, eleventh part: calls that change blocks of their caller's; text builders. -/
import Derived.Test.YtihmegmambmljaaDoorEngJ
import Derived.Test.YtihmegmambmljaaDoorEngH
import Derived.Lib.Builder
import Derived.Lib.OthersKept
set_option linter.unusedSimpArgs false
set_option linter.unusedVariables false
set_option linter.unusedSectionVars false
namespace Go.Kn
open Go.RowKit (Below)

/-- nothing that was there has turned, but the blocks X -/
structure Fr (X : List Nat) (w w' : World) : Prop where
  os : w'.os = w.os
  tape : w'.tape = w.tape
  output : w'.output = w.output
  size : w.heap.size ≤ w'.heap.size
  block : ∀ k, k < w.heap.size → (∀ x ∈ X, k ≠ x) → w'.heap[k]? = w.heap[k]?
namespace Fr
variable {X : List Nat} {a b c : World}
theorem rfl' (X : List Nat) (w : World) : Fr X w w := ⟨rfl, rfl, rfl, Nat.le_refl _, fun _ _ _ => rfl⟩
theorem ext (h : Fr X a b) (e : Ext b c) : Fr X a c :=
  ⟨e.os.trans h.os, e.tape.trans h.tape, e.output.trans h.output, Nat.le_trans h.size e.size, fun k hk hx => (e.block k (Nat.lt_of_lt_of_le hk h.size)).trans (h.block k hk hx)⟩
theorem of_ext (e : Ext a b) : Fr X a b := (rfl' X a).ext e
theorem tr {Y : List Nat} (h : Fr X a b) (k : Fr Y b c) (hY : ∀ y ∈ Y, y ∈ X ∨ a.heap.size ≤ y) : Fr X a c :=
  ⟨k.os.trans h.os, k.tape.trans h.tape, k.output.trans h.output, Nat.le_trans h.size k.size, fun i hi hx => (k.block i (Nat.lt_of_lt_of_le hi h.size) fun y hy => by
    rcases hY y hy with h1 | h1
    · exact hx y h1
    · omega).trans (h.block i hi hx)⟩
theorem chg {o : Obj} {k : Nat} (h : Fr X a b) (e : Chg b c k o) (hk : k ∈ X ∨ a.heap.size ≤ k) : Fr X a c :=
  ⟨e.os.trans h.os, e.tape.trans h.tape, e.output.trans h.output, Nat.le_trans h.size e.size, fun i hi hx => (e.rest i (Nat.lt_of_lt_of_le hi h.size) (by
    rcases hk with h1 | h1
    · exact hx k h1
    · omega)).trans (h.block i hi hx)⟩
theorem grown {v : Value} {e sz n B : Nat} {xs : List Value} (h : Fr X a b) (hg : b.grownBy c v.ownBlock) (hv : b.ownsRow B e sz v n xs) (hB : a.heap.size ≤ B) : Fr X a c :=
  ⟨hg.os.trans h.os, hg.tape.trans h.tape, hg.output.trans h.output, Nat.le_trans h.size hg.size, fun i hi hx => (hg.block i (Nat.lt_of_lt_of_le hi h.size) (fun e => by
    have := (hv.lt i e.symm).1
    omega)).trans (h.block i hi hx)⟩
/-- what its caller has -/
theorem toExt {w0 : World} (h : Fr X a b) (hx : Ext w0 a) (hX : ∀ x ∈ X, w0.heap.size ≤ x) : Ext w0 b :=
  ⟨h.os.trans hx.os, h.tape.trans hx.tape, h.output.trans hx.output, Nat.le_trans hx.size h.size, fun k hk => (h.block k (Nat.lt_of_lt_of_le hk hx.size) fun x hxX => by have := hX x hxX; omega).trans (hx.block k hk)⟩
theorem keep {k : Nat} {o : Obj} (h : Fr X a b) (hk : a.heap[k]? = some o) (hne : ∀ x ∈ X, k ≠ x) : b.heap[k]? = some o := by
  rw [h.block k (lt_of_at hk) hne]; exact hk
end Fr
theorem Chg.toFr {w w' : World} {b : Nat} {o : Obj} (h : Chg w w' b o) : Fr [b] w w' := (Fr.rfl' [b] w).chg h (.inl (by simp))

/-! ## builders -/
/-- below B nothing has turned; nor has what is neither the builder nor a row of bytes -/
structure Oth (B b : Nat) (w w' : World) : Prop where
  below : Below B w w'
  others : Go.Lib.OthersKept 5 (some b) w w'
namespace Oth
variable {B d : Nat} {a b c : World}
theorem rfl' (B d : Nat) (w : World) : Oth B d w w := ⟨Below.refl _ _, Go.Lib.OthersKept.refl _ _ _⟩
theorem keepO {k : Nat} {o : Obj} (h : Oth B d a b) (hk : a.heap[k]? = some o) (hd : k ≠ d) (ho : ∀ c fz, o ≠ .cells c 5 fz) : b.heap[k]? = some o :=
  h.others k o hk (fun e => hd (Option.some.inj e)) ho
theorem ext (h : Oth B d a b) (e : Ext b c) (hB : B ≤ b.heap.size) : Oth B d a c :=
  ⟨Below.trans h.below (e.mono hB), fun k o hk hd ho => keepB e (h.others k o hk hd ho)⟩
theorem chg {o : Obj} (h : Oth B d a b) (e : Chg b c d o) (hB : B ≤ d) (hs : B ≤ b.heap.size) : Oth B d a c :=
  ⟨Below.trans h.below ⟨e.os, e.tape, e.output, e.size, fun k hk => e.rest k (by omega) (by omega)⟩, fun k o hk hd ho => e.keep (h.others k o hk hd ho) (fun e => hd (by rw [e]))⟩
theorem grown {v : Value} {sz n : Nat} {xs : List Value} (h : Oth B d a b) (hg : b.grownBy c v.ownBlock) (hv : b.ownsRow B 5 sz v n xs) (hs : B ≤ b.heap.size) : Oth B d a c :=
  ⟨Below.trans h.below ⟨hg.os, hg.tape, hg.output, hg.size, fun k hk => hg.block k (by omega) (fun e => by have := (hv.lt k e.symm).1; omega)⟩, fun k o hk hd ho => by
    have h1 := h.others k o hk hd ho
    rw [hg.block k (lt_of_at h1) ?_]; · exact h1
    intro e
    rcases hv.2 with ⟨rfl, _⟩ | ⟨g', cap', cur', rfl, _, hg', _⟩
    · simp [Value.ownBlock] at e
    · simp only [Value.ownBlock, Option.some.injEq] at e
      subst e
      rw [h1] at hg'
      cases hg'
      exact ho _ _ rfl⟩
end Oth
/-- b is a builder that holds l; p is its own address, or nil -/
def Bd (T : Nat) (w : World) (B b : Nat) (l : List UInt8) : Prop :=
  ∃ p A c, (p = none ∨ p = some (⟨b, 0, none⟩ : Addr)) ∧ B ≤ b ∧ w.heap[b]? = some (.cells #[.pointer p, .slice A l.length c] T (0, 0)) ∧ Own w B 5 1 A l.length c (bys l)
section
variable {P : Program} {w w' : World} {T B b : Nat} {l : List UInt8}
theorem bdE (he : Ext w w') (h : Bd T w B b l) : Bd T w' B b l := by
  obtain ⟨p, A, c, h1, h2, h3, h4⟩ := h
  exact ⟨p, A, c, h1, h2, keepB he h3, ownE he h4⟩
theorem bd_new {T : Nat} {fz : Nat × Nat} (hb : B ≤ b) (h : w.heap[b]? = some (.cells #[.pointer none, .slice none 0 0] T (0, 0))) : Bd T w B b [] := ⟨none, none, 0, .inl rfl, hb, h, own_nil _ _ _ _⟩
theorem bdC {k : Nat} {o : Obj} {cs : Array Value} {S : TypeId} {fz : Nat × Nat} (hc : Chg w w' k o) (hB : w.heap[k]? = some (.cells cs S fz)) (hne : Nat.beq S T = false) (hne5 : Nat.beq S 5 = false) (h : Bd T w B b l) : Bd T w' B b l := by
  obtain ⟨p, A, c, h1, h2, h3, h4⟩ := h
  refine ⟨p, A, c, h1, h2, hc.keep h3 ?_, ownC hc hB hne5 h4⟩
  rintro rfl
  rw [hB] at h3
  cases h3
  exact beqN_ne hne rfl
/-- conversions of a builder's address -/
theorem toUnsafe {src dst t : TypeId} {cs : Array Value} {S : TypeId} {fz : Nat × Nat} (hB : w.heap[b]? = some (.cells cs S fz)) (hs : P.underlying src = some (.pointer t)) (hd : P.underlying dst = some .unsafePointer) (ht : (match P.info? t with | some j => Nat.blt 0 j.size | none => false) = true) (hc : 0 < cs.size) :
    RunOk P w (convert src dst (.pointer (some ⟨b, 0, none⟩))) (.pointer (some ⟨b, 0, none⟩)) := by
  intro w' he
  have hB := keepB he hB
  cases hj : P.info? t with
  | none => simp [hj] at ht
  | some j =>
    simp only [hj, Nat.blt_eq] at ht
    exact Go.Lib.run_to_unsafe w' ⟨b, 0, none⟩ hs hd hj (by omega) (e := S) (cells := cs.size) (by simp [World.shape?, hB]) hc
theorem fromUnsafe {src dst u : TypeId} {cs : Array Value} {S : TypeId} {fz : Nat × Nat} (hB : w.heap[b]? = some (.cells cs S fz)) (hs : P.underlying src = some .unsafePointer) (hd : P.underlying dst = some (.pointer u)) (hu : (P.info? u).isSome = true) (hl : liesAt P P.depth S (cs.size / P.cellsOf S) 0 u 1 = true) :
    RunOk P w (convert src dst (.pointer (some ⟨b, 0, none⟩))) (.pointer (some ⟨b, 0, none⟩)) := by
  intro w' he
  have hB := keepB he hB
  cases hj : P.info? u with
  | none => simp [hj] at hu
  | some j => exact Go.Lib.run_from_unsafe w' ⟨b, 0, none⟩ hs hd hj (e := S) (cells := cs.size) (by simp [World.shape?, hB]) hl
theorem neqPtr {tp te : TypeId} (a : Addr) (hp : P.underlying tp = some (.pointer te)) (hte : (P.info? te).isSome = true) : BinOk P .neq tp (.pointer (some a)) (.pointer (some a)) (.bool false) := by
  intro xo yo w
  cases hj : P.info? te with
  | none => simp [hj] at hte
  | some j =>
    simp only [Sem.run_bind]
    rw [eqGuard_ok (by intro c; simp) (by simp)]
    simp only [Result.andThen_ok]
    exact Go.Lib.run_neq_ptr_same w a hp hj
end
end Go.Kn
