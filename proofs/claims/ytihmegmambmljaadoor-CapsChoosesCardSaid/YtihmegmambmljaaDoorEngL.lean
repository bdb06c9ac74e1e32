/- The engine, twelfth part: ids (32 bytes), and what holds them. -/
import Derived.Test.YtihmegmambmljaaDoorEngK
import Derived.DeepKeys
set_option linter.unusedSimpArgs false
set_option linter.unusedVariables false
set_option linter.unusedSectionVars false
set_option maxRecDepth 10000
namespace Go.Kn
open Go.RowKit (Below)

/-- an id: 32 bytes -/
structure Id where
  l : List UInt8
  h : l.length = 32
deriving DecidableEq
def idZ : Id := ⟨List.replicate 32 0, by simp⟩
instance : Inhabited Id := ⟨idZ⟩
theorem Id.ext {x y : Id} (h : x.l = y.l) : x = y := by cases x; cases y; cases h; rfl
def u8c (l : List UInt8) (i : Nat) : Value := .int .u8 (((l.getD i 0).toNat : Nat) : Int)
/-- 32 cells out of a list -/
def cells32 (l : List UInt8) : List Value := [u8c l 0, u8c l 1, u8c l 2, u8c l 3, u8c l 4, u8c l 5, u8c l 6, u8c l 7, u8c l 8, u8c l 9, u8c l 10, u8c l 11, u8c l 12, u8c l 13, u8c l 14, u8c l 15, u8c l 16, u8c l 17, u8c l 18, u8c l 19, u8c l 20, u8c l 21, u8c l 22, u8c l 23, u8c l 24, u8c l 25, u8c l 26, u8c l 27, u8c l 28, u8c l 29, u8c l 30, u8c l 31]
def idc (x : Id) : List Value := cells32 x.l
theorem cells32_eq (l : List UInt8) (h : l.length = 32) : cells32 l = bys l := by
  match l, h with
  | [a0, a1, a2, a3, a4, a5, a6, a7, a8, a9, a10, a11, a12, a13, a14, a15, a16, a17, a18, a19, a20, a21, a22, a23, a24, a25, a26, a27, a28, a29, a30, a31], _ => rfl
theorem idc_eq (x : Id) : idc x = bys x.l := cells32_eq x.l x.h
theorem idc_len (x : Id) : (idc x).length = 32 := rfl
theorem map_inj {α β : Type} {f : α → β} (hf : ∀ x y, f x = f y → x = y) : ∀ {a b : List α}, a.map f = b.map f → a = b := by
  intro a
  induction a with
  | nil => intro b h; cases b with | nil => rfl | cons _ _ => simp at h
  | cons x a ih =>
    intro b h
    cases b with
    | nil => simp at h
    | cons y b =>
      simp only [List.map_cons, List.cons.injEq] at h
      rw [hf _ _ h.1, ih h.2]
theorem bys_inj {a b : List UInt8} (h : bys a = bys b) : a = b := by
  have : ∀ x y : UInt8, (Value.int .u8 (x.toNat : Int)) = .int .u8 (y.toNat : Int) → x = y := fun x y h => by
    injection h with _ h
    exact UInt8.toNat_inj.1 (by omega)
  exact map_inj this h
/-- the id whose bytes these are; none where they are not 32 -/
def mkId (l : List UInt8) : Id := if h : l.length = 32 then ⟨l, h⟩ else idZ
theorem mkId_l {l : List UInt8} (h : l.length = 32) : (mkId l).l = l := by unfold mkId; rw [dif_pos h]
theorem mkId_self (x : Id) : mkId x.l = x := by unfold mkId; rw [dif_pos x.h]

/-! ## are two ids one? -/
theorem mapM_some_map {α β : Type} {f : α → Option β} {g : α → β} : ∀ (l : List α), (∀ x ∈ l, f x = some (g x)) → l.mapM f = some (l.map g) := by
  intro l
  induction l with
  | nil => intro _; rfl
  | cons x l ih =>
    intro h
    rw [List.mapM_cons, h x (by simp), ih fun y hy => h y (by simp [hy])]; rfl
def lits (l : List UInt8) : List Lit := l.map fun b => .int .u8 (b.toNat : Int)
theorem u8_wf (b : UInt8) : (Lit.int .u8 (b.toNat : Int)).wf = true := by
  have := UInt8.toNat_lt b
  simp [Lit.wf, IntKind.min, IntKind.max, IntKind.signed, IntKind.bits]
  omega
theorem lits_inj {a b : List UInt8} (h : lits a = lits b) : a = b := by
  refine map_inj (fun x y h => ?_) h
  injection h with _ h
  exact UInt8.toNat_inj.1 (by omega)
theorem flat_one {α β : Type} (f : α → β) (l : List α) : (l.map fun i => [f i]).flatten = l.map f := by
  induction l with
  | nil => rfl
  | cons x l ih => simp [ih]
theorem keyLits_bytes {P : Program} {t e n : Nat} (ht : P.underlying t = some (.array n e)) (he : P.underlying e = some (.int .u8)) (hc : P.cellsOf e = 1) (hct : P.cellsOf t = n) (l : List UInt8) (hl : l.length = n) (d : Nat) :
    P.keyLits (d + 2) t (bys l) = some (lits l) := by
  unfold Program.keyLits
  simp only [ht]
  rw [if_pos (by rw [hct]; simp [hl])]
  have hm : (List.range n).mapM (fun i => P.keyLits (d + 1) e (((bys l).drop (i * P.cellsOf e)).take (P.cellsOf e))) = some ((List.range n).map fun i => [Lit.int .u8 ((l.getD i 0).toNat : Int)]) := by
    refine mapM_some_map _ fun i hi => ?_
    have hi := List.mem_range.1 hi
    rw [hc, Nat.mul_one]
    have : ((bys l).drop i).take 1 = [.int .u8 (((l.getD i 0).toNat : Nat) : Int)] := by
      have hlt : i < (bys l).length := by simp [hl, hi]
      rw [List.drop_eq_getElem_cons hlt]
      simp [List.getD_eq_getElem?_getD, hl, hi]
    rw [this]
    unfold Program.keyLits
    simp only [he]
    rw [if_pos ⟨trivial, u8_wf _⟩]
  rw [hm]
  simp only [Option.map_some, Option.some.injEq]
  apply List.ext_getElem?
  intro j
  have : ((List.range n).map fun i => [Lit.int .u8 ((l.getD i 0).toNat : Int)]).flatten = (List.range n).map fun i => Lit.int .u8 ((l.getD i 0).toNat : Int) := by
    exact flat_one _ _
  rw [this]
  simp only [lits, List.getElem?_map, List.getElem?_range]
  by_cases hj : j < n
  · simp [hj, List.getD_eq_getElem?_getD, hl]
  · simp [hj, List.getElem?_eq_none (show l.length ≤ j by omega)]
section
variable {P : Program}
theorem eqAgg {op : BinOp} {t : TypeId} {xs ys : Array Value} {lx ly : List Lit} {D D' : Nat} {b : Bool} (hop : op = .eql ∨ op = .neq) (hk : P.keyTypeAt 10 t = true) (hg : P.eqGuardType P.depth t = false) (fx : (Value.agg xs).formed P t = true) (fy : (Value.agg ys).formed P t = true)
    (hx : P.keyLits D t xs.toList = some lx) (hy : P.keyLits D' t ys.toList = some ly) (hb : b = true ↔ lx = ly) : BinOk P op t (.agg xs) (.agg ys) (.bool (match op with | .eql => b | _ => !b)) := by
  intro xo yo w
  obtain ⟨r, hr, hri⟩ := run_equalIn_deep (P := P) 9990 10 t hk w D D' (.agg xs) (.agg ys) lx ly fx fy hx hy
  have hrb : r = b := by
    cases r <;> cases b <;> simp_all
  subst hrb
  have hguard : (eqGuard op t xo yo (.agg xs) (.agg ys)).run P w = .ok () w := by
    unfold eqGuard
    rcases hop with rfl | rfl <;> simp [Sem.run_bind, hg]
  simp only [Sem.run_bind, hguard, Result.andThen_ok]
  have hr' : (Op.equal t (.agg xs) (.agg ys)).run P w = .ok r w := hr
  rcases hop with rfl | rfl
  · simp only [binOp]; simp [hr']
  · simp only [binOp]; simp [hr']
theorem eqId {op : BinOp} {t e : TypeId} {x y : Id} (hop : op = .eql ∨ op = .neq) (ht : P.underlying t = some (.array 32 e)) (he : P.underlying e = some (.int .u8)) (hc : P.cellsOf e = 1) (hct : P.cellsOf t = 32) (hk : P.keyTypeAt 10 t = true) (hg : P.eqGuardType P.depth t = false) :
    BinOk P op t (.agg ⟨idc x⟩) (.agg ⟨idc y⟩) (.bool (match op with | .eql => decide (x = y) | _ => !decide (x = y))) := by
  refine eqAgg (lx := lits x.l) (ly := lits y.l) (D := 2) (D' := 2) hop hk hg ?_ ?_ ?_ ?_ ?_
  · simp [Value.formed, ht, hct, idc_len]
  · simp [Value.formed, ht, hct, idc_len]
  · show P.keyLits 2 t (idc x) = _
    rw [idc_eq]; exact keyLits_bytes ht he hc hct x.l x.h 0
  · show P.keyLits 2 t (idc y) = _
    rw [idc_eq]; exact keyLits_bytes ht he hc hct y.l y.h 0
  · rw [decide_eq_true_iff]
    exact ⟨fun h => by rw [h], fun h => Id.ext (lits_inj h)⟩
end
end Go.Kn
