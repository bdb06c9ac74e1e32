/- The engine, fourteenth part: facts carried over a call that changes blocks of its caller's. -/
import Derived.Test.YtihmegmambmljaaDoorEngM
set_option linter.unusedSimpArgs false
set_option linter.unusedVariables false
set_option linter.unusedSectionVars false
namespace Go.Kn
open Go.RowKit (Below)
section
variable {w w' : World} {X : List Nat}
theorem ownFr {B e sz n c : Nat} {A : Option Addr} {xs : List Value} (hf : Fr X w w') (hX : ∀ x ∈ X, ∃ cs T fz, w.heap[x]? = some (.cells cs T fz) ∧ Nat.beq T e = false) (h : Own w B e sz A n c xs) : Own w' B e sz A n c xs := by
  refine ⟨h.1, ?_⟩
  rcases h.2 with h0 | ⟨g, cap, cur, hv, hb, hg, hr⟩
  · exact .inl h0
  · refine .inr ⟨g, cap, cur, hv, hb, hf.keep hg ?_, hr⟩
    rintro x hx rfl
    obtain ⟨cs, T, fz, h1, h2⟩ := hX _ hx
    rw [hg] at h1
    cases h1
    exact beqN_ne h2 rfl
theorem ownFr1 {B e sz n c b T : Nat} {A : Option Addr} {xs : List Value} {cs : Array Value} {fz : Nat × Nat} (hf : Fr [b] w w') (hB : w.heap[b]? = some (.cells cs T fz)) (hne : Nat.beq T e = false) (h : Own w B e sz A n c xs) : Own w' B e sz A n c xs :=
  ownFr hf (fun x hx => by simp only [List.mem_singleton] at hx; subst hx; exact ⟨cs, T, fz, hB, hne⟩) h
theorem mapFr1 {α β : Type} {ek : α → Value} {ev : β → Value} {b m T : Nat} {l : List (α × β)} {cs : Array Value} {fz : Nat × Nat} (hf : Fr [b] w w') (hB : w.heap[b]? = some (.cells cs T fz)) (h : MapR ek ev w m l) : MapR ek ev w' m l := by
  obtain ⟨es, q, h1, h2⟩ := h
  exact ⟨es, q, hf.keep h1 (fun x hx e => by simp only [List.mem_singleton] at hx; subst hx; subst e; rw [hB] at h1; cases h1), h2⟩
theorem Oth.fr {B d : Nat} {a b c : World} (h : Oth B d a b) (k : Fr [d] b c) (hd : B ≤ d) (hs : B ≤ b.heap.size) : Oth B d a c :=
  ⟨Below.trans h.below ⟨k.os, k.tape, k.output, k.size, fun i hi => k.block i (by omega) (fun x hx => by simp only [List.mem_singleton] at hx; omega)⟩, fun i o hi hne ho => k.keep (h.others i o hi hne ho) (fun x hx => by simp only [List.mem_singleton] at hx; subst hx; exact fun e => hne (by rw [e]))⟩
/-- a builder over what turns neither it nor rows of bytes -/
theorem Oth.toExt {B d : Nat} {w0 a b : World} (h : Oth B d a b) (hx : Ext w0 a) (hB : w0.heap.size ≤ B) : Ext w0 b :=
  ⟨h.below.os.trans hx.os, h.below.tape.trans hx.tape, h.below.output.trans hx.output, Nat.le_trans hx.size h.below.size, fun k hk => (h.below.block k (by omega)).trans (hx.block k hk)⟩
theorem Oth.cells {B d k T : Nat} {cs : Array Value} {a b : World} {fz : Nat × Nat} (h : Oth B d a b) (hk : a.heap[k]? = some (.cells cs T fz)) (hd : k ≠ d) (h5 : Nat.beq T 5 = false) : b.heap[k]? = some (.cells cs T fz) :=
  h.keepO hk hd (fun c fz e => by cases e; exact beqN_ne h5 rfl)
end
end Go.Kn
namespace Go.Kn
theorem news_rd {w : World} {g off n : Nat} {xs : List Value} (h : Rd w 1 (some ⟨g, off, none⟩) n xs) : ∀ j u, xs[j]? = some u → w.cell? ((⟨g, off, none⟩ : Addr).add j) = some u := by
  intro j u hj
  rw [add_at]
  exact h.cell j u hj
theorem bys_one (l : List UInt8) : (bys l).all oneB = true := by
  rw [List.all_eq_true]
  intro v hv
  obtain ⟨b, _, rfl⟩ := List.mem_map.1 hv
  rfl
end Go.Kn
namespace Go.Kn
theorem Ext.below {w0 a b : World} (hx : Ext w0 a) (h : Go.RowKit.Below w0.heap.size a b) : Ext w0 b := Go.RowKit.Below.trans hx h
end Go.Kn
namespace Go.Kn
theorem bd_ne {T B b k : Nat} {w : World} {l : List UInt8} (h : Bd T w B b l) (hk : w.heap.size ≤ k) : k ≠ b := by
  obtain ⟨p, A, c, _, _, h3, _⟩ := h
  have := lt_of_at h3
  omega
end Go.Kn
