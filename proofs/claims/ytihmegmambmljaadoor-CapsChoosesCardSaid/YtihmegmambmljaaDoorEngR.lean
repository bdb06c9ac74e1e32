/- The engine, eighteenth part: arrays (of words, of bytes), looked at and written at any place. -/
import Derived.Test.YtihmegmambmljaaDoorEngP
import Derived.Laws.CopyRow
set_option linter.unusedSimpArgs false
set_option linter.unusedVariables false
set_option linter.unusedSectionVars false
namespace Go.Kn
open Go.RowKit (Below)
/-- n words of 32 bits -/
structure Wn (n : Nat) where
  l : List Nat
  h : l.length = n
  b : ∀ x ∈ l, x < 4294967296
namespace Wn
variable {n : Nat}
theorem ext {x y : Wn n} (h : x.l = y.l) : x = y := by cases x; cases y; cases h; rfl
/-- the word at a place -/
def at_ (x : Wn n) (i : Nat) : Nat := x.l.getD i 0
theorem at_lt (x : Wn n) (i : Nat) : x.at_ i < 4294967296 := by
  unfold at_
  rw [List.getD_eq_getElem?_getD]
  by_cases hi : i < x.l.length
  · rw [List.getElem?_eq_getElem hi]; exact x.b _ (List.getElem_mem hi)
  · rw [List.getElem?_eq_none (by omega)]; simp
def set (x : Wn n) (i v : Nat) : Wn n := ⟨x.l.set i (v % 4294967296), by rw [List.length_set, x.h], fun y hy => by
  rcases List.mem_or_eq_of_mem_set hy with h | h
  · exact x.b _ h
  · rw [h]; exact Nat.mod_lt _ (by omega)⟩
theorem at_set (x : Wn n) (i v j : Nat) (hv : v < 4294967296) : (x.set i v).at_ j = if i = j ∧ i < n then v else x.at_ j := by
  unfold at_ set
  simp only [List.getD_eq_getElem?_getD, List.getElem?_set, Nat.mod_eq_of_lt hv]
  have := x.h
  by_cases h : i = j
  · subst h
    by_cases h2 : i < n
    · rw [if_pos rfl, if_pos (by omega), if_pos ⟨rfl, h2⟩]; rfl
    · rw [if_pos rfl, if_neg (by omega), if_neg (fun h => h2 h.2), List.getElem?_eq_none (by omega)]
  · rw [if_neg h, if_neg (fun h2 => h h2.1)]
theorem ext_at {x y : Wn n} (h : ∀ i < n, x.at_ i = y.at_ i) : x = y := by
  apply ext
  apply List.ext_getElem (by rw [x.h, y.h])
  intro i h1 h2
  have := h i (by rw [← x.h]; exact h1)
  unfold at_ at this
  rwa [List.getD_eq_getElem?_getD, List.getD_eq_getElem?_getD, List.getElem?_eq_getElem h1, List.getElem?_eq_getElem h2] at this
end Wn
def wz (n : Nat) : Wn n := ⟨List.replicate n 0, by simp, fun x hx => by rw [List.eq_of_mem_replicate hx]; omega⟩
instance {n : Nat} : Inhabited (Wn n) := ⟨wz n⟩
def wcv (v : Nat) : Value := .int .u32 ((v : Nat) : Int)
def wc {n : Nat} (x : Wn n) : List Value := x.l.map wcv
section
variable {n : Nat}
theorem wc_len (x : Wn n) : (wc x).length = n := by simp [wc, x.h]
theorem wc_at {x : Wn n} {i : Nat} (hi : i < n) : (⟨wc x⟩ : Array Value)[i]? = some (.int .u32 ((x.at_ i : Nat) : Int)) := by
  have := x.h
  show (wc x).toArray[i]? = _
  rw [List.getElem?_toArray]
  unfold wc Wn.at_
  rw [List.getElem?_map, List.getD_eq_getElem?_getD, List.getElem?_eq_getElem (by omega)]; rfl
theorem wc_set (x : Wn n) (i v : Nat) (hv : v < 4294967296) : (wc x).set i (.int .u32 ((v : Nat) : Int)) = wc (x.set i v) := by
  unfold wc Wn.set
  rw [List.map_set, Nat.mod_eq_of_lt hv]; rfl
theorem wc_one (x : Wn n) : (wc x).all oneB = true := by
  rw [List.all_eq_true]
  intro v hv
  obtain ⟨a, _, rfl⟩ := List.mem_map.1 hv
  rfl
/-! ids, byte by byte -/
theorem Id.at_lt (x : Id) (i : Nat) : (x.l.getD i 0).toNat < 256 := UInt8.toNat_lt _
def Id.set (x : Id) (i v : Nat) : Id := ⟨x.l.set i (UInt8.ofNat v), by rw [List.length_set, x.h]⟩
theorem idc_at {x : Id} {i : Nat} (hi : i < 32) : (⟨idc x⟩ : Array Value)[i]? = some (.int .u8 (((x.l.getD i 0).toNat : Nat) : Int)) := by
  have := x.h
  show (idc x).toArray[i]? = _
  rw [List.getElem?_toArray]
  rw [idc_eq]
  simp [bys, List.getD_eq_getElem?_getD, this, hi]
theorem idc_set (x : Id) (i v : Nat) (hv : v < 256) : (idc x).set i (.int .u8 ((v : Nat) : Int)) = idc (x.set i v) := by
  have e : (UInt8.ofNat v).toNat = v := by simp [Nat.mod_eq_of_lt hv]
  rw [idc_eq, idc_eq]
  unfold Id.set bys
  rw [List.map_set, e]
theorem idc_one (x : Id) : (idc x).all oneB = true := by rw [idc_eq]; exact bys_one _
end
section
variable {P : Program} {w : World}
/-- an array type: how many, of one cell each -/
def arrB (P : Program) (t : TypeId) : Option Nat := match P.underlying t with | some (.array n e) => (match P.info? e with | some i => bif Nat.beq i.size 1 then some n else none | none => none) | _ => none
theorem arrB_spec {t n : Nat} (h : arrB P t = some n) : ∃ e, P.underlying t = some (.array n e) ∧ sizeB P e = some 1 := by
  unfold arrB at h
  split at h
  · rename_i m e hu
    split at h
    · rename_i i hi
      cases hb : Nat.beq i.size 1 with
      | false => simp [hb] at h
      | true =>
        simp only [hb, cond_true, Option.some.injEq] at h
        subst h
        exact ⟨e, hu, by simp [sizeB, hi, Nat.eq_of_beq_eq_true hb]⟩
    · cases h
  · cases h
theorem ldVAll {t n b : Nat} {cs : List Value} {T : TypeId} {fz : Nat × Nat} (hB : w.heap[b]? = some (.cells ⟨cs⟩ T fz)) (ht : aggB P t = true) (hs : sizeB P t = some n) (hn : cs.length = n) : (loadVar t ⟨b, 0, none⟩).run P w = .ok (.agg ⟨cs⟩) w := by
  refine ldVN (n := n) hB ht hs ⟨by show 0 + n ≤ cs.length; omega, ?_⟩
  rw [Nat.zero_add]
  apply Array.ext'
  rw [Array.toList_extract]
  simp [List.extract_eq_take_drop, ← hn]
/-! shifts and differences of numbers that are not told -/
theorem shrN {t a n : Nat} {k k' : IntKind} (hn : n ≤ k.bits) : BinOk P .shr t (.int k ((a : Nat) : Int)) (.int k' ((n : Nat) : Int)) (.int k ((a / 2 ^ n : Nat) : Int)) := by
  intro xo yo w
  simp only [Sem.run_bind]
  rw [eqGuard_ok (by intro c; simp) (by simp)]
  simp only [Result.andThen_ok, binOp, Op.shift]
  rw [if_neg (by omega)]
  simp only [Sem.run_pure, Int.toNat_natCast, Nat.min_eq_left hn]
  rw [Int.fdiv_eq_ediv_of_nonneg _ (Int.pow_nonneg (by omega))]
  simp
theorem shl32 {t a n : Nat} {k' : IntKind} (hn : n ≤ 32) : BinOk P .shl t (.int .u32 ((a : Nat) : Int)) (.int k' ((n : Nat) : Int)) (.int .u32 ((a * 2 ^ n % 4294967296 : Nat) : Int)) := by
  intro xo yo w
  simp only [Sem.run_bind]
  rw [eqGuard_ok (by intro c; simp) (by simp)]
  simp only [Result.andThen_ok, binOp, Op.shift]
  rw [if_neg (by omega)]
  have : min n IntKind.u32.bits = n := Nat.min_eq_left hn
  simp only [Sem.run_pure, Int.toNat_natCast, this, wrap_mod (show IntKind.u32.signed = false from rfl)]
  congr 2
theorem shrC {t a n p : Nat} {k k' : IntKind} (hn : n ≤ k.bits) (hp : 2 ^ n = p) : BinOk P .shr t (.int k ((a : Nat) : Int)) (.int k' ((n : Nat) : Int)) (.int k ((a / p : Nat) : Int)) := by
  subst hp; exact shrN hn
theorem shl32c {t a n p : Nat} {k' : IntKind} (hn : n ≤ 32) (hp : 2 ^ n = p) : BinOk P .shl t (.int .u32 ((a : Nat) : Int)) (.int k' ((n : Nat) : Int)) (.int .u32 ((a * p % 4294967296 : Nat) : Int)) := by
  subst hp; exact shl32 hn
theorem addW_u32 {t a n : Nat} : BinOk P .add t (.int .u32 ((a : Nat) : Int)) (.int .u32 ((n : Nat) : Int)) (.int .u32 (((a + n) % 4294967296 : Nat) : Int)) := by
  intro xo yo w
  simp only [Sem.run_bind]
  rw [eqGuard_ok (by intro c; simp) (by simp)]
  simp only [Result.andThen_ok, binOp, ne_eq, not_true_eq_false, if_false, Op.intArith, Sem.run_pure, wrap_mod (show IntKind.u32.signed = false from rfl)]
  congr 2
theorem mulW_u32 {t a n : Nat} : BinOk P .mul t (.int .u32 ((a : Nat) : Int)) (.int .u32 ((n : Nat) : Int)) (.int .u32 (((a * n) % 4294967296 : Nat) : Int)) := by
  intro xo yo w
  simp only [Sem.run_bind]
  rw [eqGuard_ok (by intro c; simp) (by simp)]
  simp only [Result.andThen_ok, binOp, ne_eq, not_true_eq_false, if_false, Op.intArith, Sem.run_pure, wrap_mod (show IntKind.u32.signed = false from rfl)]
  congr 2
theorem andW_u32 {t a n : Nat} (ha : a < 4294967296) (hn : n < 4294967296) : BinOk P .and t (.int .u32 ((a : Nat) : Int)) (.int .u32 ((n : Nat) : Int)) (.int .u32 ((a &&& n : Nat) : Int)) := by
  intro xo yo w
  simp only [Sem.run_bind]
  rw [eqGuard_ok (by intro c; simp) (by simp)]
  have h1 : NN .u32 ((a : Nat) : Int) := by unfold NN InR; omega
  have h2 : NN .u32 ((n : Nat) : Int) := by unfold NN InR; omega
  simp only [Result.andThen_ok, binOp, ne_eq, not_true_eq_false, if_false, (bits_ok h1 h2 w P).1, Int.toNat_natCast]
theorem orW_u32 {t a n : Nat} (ha : a < 4294967296) (hn : n < 4294967296) : BinOk P .or t (.int .u32 ((a : Nat) : Int)) (.int .u32 ((n : Nat) : Int)) (.int .u32 ((a ||| n : Nat) : Int)) := by
  intro xo yo w
  simp only [Sem.run_bind]
  rw [eqGuard_ok (by intro c; simp) (by simp)]
  have h1 : NN .u32 ((a : Nat) : Int) := by unfold NN InR; omega
  have h2 : NN .u32 ((n : Nat) : Int) := by unfold NN InR; omega
  simp only [Result.andThen_ok, binOp, ne_eq, not_true_eq_false, if_false, (bits_ok h1 h2 w P).2.1, Int.toNat_natCast]
theorem xorW_u32 {t a n : Nat} (ha : a < 4294967296) (hn : n < 4294967296) : BinOk P .xor t (.int .u32 ((a : Nat) : Int)) (.int .u32 ((n : Nat) : Int)) (.int .u32 ((a ^^^ n : Nat) : Int)) := by
  intro xo yo w
  simp only [Sem.run_bind]
  rw [eqGuard_ok (by intro c; simp) (by simp)]
  have h1 : NN .u32 ((a : Nat) : Int) := by unfold NN InR; omega
  have h2 : NN .u32 ((n : Nat) : Int) := by unfold NN InR; omega
  simp only [Result.andThen_ok, binOp, ne_eq, not_true_eq_false, if_false, (bits_ok h1 h2 w P).2.2, Int.toNat_natCast]
theorem addW_u64 {t a n : Nat} : BinOk P .add t (.int .u64 ((a : Nat) : Int)) (.int .u64 ((n : Nat) : Int)) (.int .u64 (((a + n) % 18446744073709551616 : Nat) : Int)) := by
  intro xo yo w
  simp only [Sem.run_bind]
  rw [eqGuard_ok (by intro c; simp) (by simp)]
  simp only [Result.andThen_ok, binOp, ne_eq, not_true_eq_false, if_false, Op.intArith, Sem.run_pure, wrap_mod (show IntKind.u64.signed = false from rfl)]
  congr 2
theorem mulW_u64 {t a n : Nat} : BinOk P .mul t (.int .u64 ((a : Nat) : Int)) (.int .u64 ((n : Nat) : Int)) (.int .u64 (((a * n) % 18446744073709551616 : Nat) : Int)) := by
  intro xo yo w
  simp only [Sem.run_bind]
  rw [eqGuard_ok (by intro c; simp) (by simp)]
  simp only [Result.andThen_ok, binOp, ne_eq, not_true_eq_false, if_false, Op.intArith, Sem.run_pure, wrap_mod (show IntKind.u64.signed = false from rfl)]
  congr 2
theorem andW_u64 {t a n : Nat} (ha : a < 18446744073709551616) (hn : n < 18446744073709551616) : BinOk P .and t (.int .u64 ((a : Nat) : Int)) (.int .u64 ((n : Nat) : Int)) (.int .u64 ((a &&& n : Nat) : Int)) := by
  intro xo yo w
  simp only [Sem.run_bind]
  rw [eqGuard_ok (by intro c; simp) (by simp)]
  have h1 : NN .u64 ((a : Nat) : Int) := by unfold NN InR; omega
  have h2 : NN .u64 ((n : Nat) : Int) := by unfold NN InR; omega
  simp only [Result.andThen_ok, binOp, ne_eq, not_true_eq_false, if_false, (bits_ok h1 h2 w P).1, Int.toNat_natCast]
theorem orW_u64 {t a n : Nat} (ha : a < 18446744073709551616) (hn : n < 18446744073709551616) : BinOk P .or t (.int .u64 ((a : Nat) : Int)) (.int .u64 ((n : Nat) : Int)) (.int .u64 ((a ||| n : Nat) : Int)) := by
  intro xo yo w
  simp only [Sem.run_bind]
  rw [eqGuard_ok (by intro c; simp) (by simp)]
  have h1 : NN .u64 ((a : Nat) : Int) := by unfold NN InR; omega
  have h2 : NN .u64 ((n : Nat) : Int) := by unfold NN InR; omega
  simp only [Result.andThen_ok, binOp, ne_eq, not_true_eq_false, if_false, (bits_ok h1 h2 w P).2.1, Int.toNat_natCast]
theorem xorW_u64 {t a n : Nat} (ha : a < 18446744073709551616) (hn : n < 18446744073709551616) : BinOk P .xor t (.int .u64 ((a : Nat) : Int)) (.int .u64 ((n : Nat) : Int)) (.int .u64 ((a ^^^ n : Nat) : Int)) := by
  intro xo yo w
  simp only [Sem.run_bind]
  rw [eqGuard_ok (by intro c; simp) (by simp)]
  have h1 : NN .u64 ((a : Nat) : Int) := by unfold NN InR; omega
  have h2 : NN .u64 ((n : Nat) : Int) := by unfold NN InR; omega
  simp only [Result.andThen_ok, binOp, ne_eq, not_true_eq_false, if_false, (bits_ok h1 h2 w P).2.2, Int.toNat_natCast]
theorem subN {t a n : Nat} {k : IntKind} (hn : n ≤ a) (hr : InR k ((a : Nat) : Int)) : BinOk P .sub t (.int k ((a : Nat) : Int)) (.int k ((n : Nat) : Int)) (.int k ((a - n : Nat) : Int)) := by
  intro xo yo w
  simp only [Sem.run_bind]
  rw [eqGuard_ok (by intro c; simp) (by simp)]
  have h : InR k (((a : Nat) : Int) - ((n : Nat) : Int)) := by cases k <;> (unfold InR at *; omega)
  have := xint_ok (P := P) (op := .sub) (k := k) (a := (a : Int)) (b := (n : Int)) (t := t) rfl rfl (.cons h .nil) w
  simp only [Result.andThen_ok, this]
  congr 2; omega
theorem subC {t m n : Nat} {a : Int} {k : IntKind} (ha : a = ((m : Nat) : Int)) (hn : n ≤ m) (hr : InR k ((m : Nat) : Int)) : BinOk P .sub t (.int k a) (.int k ((n : Nat) : Int)) (.int k ((m - n : Nat) : Int)) := by
  subst ha; exact subN hn hr
def arrP (P : Program) (t : TypeId) : Bool := match P.underlying t with | some (.array _ e) => plainB P e | _ => false
theorem part1 {t off : Nat} {cs : Array Value} {v : Value} (ht : plainB P t = true) (h : cs[off]? = some v) : (part t cs off).run P w = .ok v w := by
  unfold part
  simp only [Sem.run_bind, isAgg_plain ht, Result.andThen_ok, Bool.false_eq_true, if_false, h, Sem.run_pure]
theorem ixA {t n b i : Nat} {k : IntKind} (ht : arrB P t = some n) (hi : i < n) : RunOk P w (Instr.indexAt t (.pointer (some ⟨b, 0, none⟩)) (.int k ((i : Nat) : Int))) (.pointer (some ⟨b, i, none⟩)) := by
  obtain ⟨e, hu, hs⟩ := arrB_spec ht
  intro w' _
  unfold Instr.indexAt
  simp only [asIntOf, Sem.run_bind, Sem.run_pure, Result.andThen_ok, run_underlying hu, Instr.sureAddr]
  rw [if_pos (by omega)]
  simp only [Sem.run_bind, sizeOf_run hs, Result.andThen_ok, Sem.run_pure, Int.toNat_natCast]
  rw [add_at]; simp
theorem ixAI {t n b : Nat} {i : Int} {k : IntKind} (ht : arrB P t = some n) (hi : 0 ≤ i ∧ i < n) : RunOk P w (Instr.indexAt t (.pointer (some ⟨b, 0, none⟩)) (.int k i)) (.pointer (some ⟨b, i.toNat, none⟩)) := by
  have := ixA (P := P) (w := w) (b := b) (i := i.toNat) (k := k) ht (by omega)
  rwa [Int.toNat_of_nonneg hi.1] at this
/-- a[i], a an array's value -/
theorem ixV {t n : Nat} {cs : List Value} {i : Nat} {k : IntKind} {v : Value} (ht : arrB P t = some n) (hp : arrP P t = true) (hi : i < n) (hv : (⟨cs⟩ : Array Value)[i]? = some v) : RunOk P w (Instr.index t (.agg ⟨cs⟩) (.int k ((i : Nat) : Int))) v := by
  obtain ⟨e, hu, hs⟩ := arrB_spec ht
  intro w' _
  have he : plainB P e = true := by unfold arrP at hp; rw [hu] at hp; exact hp
  unfold Instr.index
  simp only [asIntOf, Sem.run_bind, Sem.run_pure, Result.andThen_ok, run_underlying hu]
  rw [if_pos (by omega)]
  simp only [Sem.run_bind, sizeOf_run hs, Result.andThen_ok, Int.toNat_natCast, Nat.mul_one]
  exact part1 he hv
/-- a whole block -/
theorem ldAll {t n b : Nat} {cs : List Value} {T : TypeId} {fz : Nat × Nat} (hB : w.heap[b]? = some (.cells ⟨cs⟩ T fz)) (ht : aggB P t = true) (hs : sizeB P t = some n) (hn : cs.length = n) : RunOk P w (Instr.loadAt t (.pointer (some ⟨b, 0, none⟩))) (.agg ⟨cs⟩) := by
  refine ldN (n := n) hB ht hs ⟨by show 0 + n ≤ cs.length; omega, ?_⟩
  rw [Nat.zero_add]
  apply Array.ext'
  rw [Array.toList_extract]
  simp [List.extract_eq_take_drop, ← hn]
theorem putL_list : ∀ (vs : List Value) (cs : List Value) (off : Nat), off + vs.length ≤ cs.length → putL (⟨cs⟩ : Array Value) off vs = ⟨cs.take off ++ vs ++ cs.drop (off + vs.length)⟩ := by
  intro vs
  induction vs with
  | nil => intro cs off _; simp [putL]
  | cons v vs ih =>
    intro cs off h
    simp only [List.length_cons] at h
    unfold putL
    have e : (⟨cs⟩ : Array Value).setIfInBounds off v = ⟨cs.set off v⟩ := by apply Array.ext'; simp
    rw [e, ih (cs.set off v) (off + 1) (by rw [List.length_set]; omega)]
    congr 1
    rw [List.drop_set, if_pos (by omega), List.set_eq_take_append_cons_drop, if_pos (by omega)]
    simp only [List.length_cons, List.append_assoc, List.cons_append]
    rw [List.take_append, List.length_take, Nat.min_eq_left (by omega), List.take_take, Nat.min_eq_right (by omega), show off + 1 - off = 1 by omega]
    simp only [List.take_succ_cons, List.take_zero, List.append_assoc, List.cons_append, List.nil_append]
    rw [show off + (vs.length + 1) = off + 1 + vs.length by omega]
end
section
variable {P : Program} {Q : Exit → Act → World → Prop} {a : Act} {w : World} {N : Nat} {ρ : Env} {e : Operand → Value} {o : Oper} {K : Value → World → Prop}
theorem run_storeL {t b off : Nat} {cs cs' vs : List Value} {T : TypeId} {v : Value} (hB : w.heap[b]? = some (.cells ⟨cs⟩ T (0, 0))) (hs : sizeB P t = some vs.length) (hv : v.cells = ⟨vs⟩) (h1 : vs.all oneB = true) (hi : off + vs.length ≤ cs.length)
    (hcs : cs.take off ++ vs ++ cs.drop (off + vs.length) = cs') :
    ∃ w', (Instr.storeAt t (.pointer (some ⟨b, off, none⟩)) v).run P w = .ok () w' ∧ Chg w w' b (.cells ⟨cs'⟩ T (0, 0)) := by
  obtain ⟨w', hr, hc⟩ := storeCells_run (P := P) (b := b) (off := off) (T := T) vs 0 w ⟨cs⟩ hB (by show off + 0 + vs.length ≤ cs.length; omega) h1
  refine ⟨w', ?_, ?_⟩
  · simp only [Instr.storeAt, Instr.sureAddr, storeVar, Sem.run_bind, Sem.run_pure, Result.andThen_ok, sizeOf_run hs, hv]
    simp only [List.size_toArray, ne_eq, not_true_eq_false, if_false, Sem.run_bind, Sem.run_pure, Result.andThen_ok]
    exact hr
  · rw [Nat.add_zero, putL_list _ _ _ hi, hcs] at hc
    exact hc
theorem put_one {cs : List Value} {i : Nat} {v : Value} (hi : i < cs.length) : cs.take i ++ [v] ++ cs.drop (i + [v].length) = cs.set i v := by
  rw [List.set_eq_take_append_cons_drop, if_pos hi]; simp
theorem put_all {cs vs : List Value} (h : vs.length = cs.length) : cs.take 0 ++ vs ++ cs.drop (0 + vs.length) = vs := by
  rw [Nat.zero_add, h]; simp
theorem lstoreL {ops : Array Oper} {l : List Oper} {t b off : Nat} {x y : Operand} {cs cs' vs : List Value} {T : TypeId} (ha : On N ρ a) (hg : o.guard = none) (hd : o.dst = none) (hok : okOp N ρ o = true)
    (ho : o.op = .store t x y) (hp : ρ.ev x = .pointer (some ⟨b, off, none⟩)) (hB : w.heap[b]? = some (.cells ⟨cs⟩ T (0, 0))) (hs : sizeB P t = some vs.length) (hv : (ρ.ev y).cells = ⟨vs⟩) (h1 : vs.all oneB = true) (hi : off + vs.length ≤ cs.length)
    (hcs : cs.take off ++ vs ++ cs.drop (off + vs.length) = cs')
    (k : ∀ w', Chg w w' b (.cells ⟨cs'⟩ T (0, 0)) → ∀ a', On N ρ a' → wpList P ops Q l a' w') : wpList P ops Q (o :: l) a w := by
  obtain ⟨w', hr, hc⟩ := run_storeL (P := P) hB hs hv h1 hi hcs
  refine lskip ha hg hd hok (w' := w') ?_ fun a' ha' => k w' hc a' ha'
  simp only [execOp, ho, hp, Sem.run_bind, hr, Result.andThen_ok, Sem.run_pure]
theorem ostoreL {t b off : Nat} {x y : Operand} {cs cs' vs : List Value} {T : TypeId}
    (ho : o.op = .store t x y) (hp : e x = .pointer (some ⟨b, off, none⟩)) (hB : w.heap[b]? = some (.cells ⟨cs⟩ T (0, 0))) (hs : sizeB P t = some vs.length) (hv : (e y).cells = ⟨vs⟩) (h1 : vs.all oneB = true) (hi : off + vs.length ≤ cs.length)
    (hcs : cs.take off ++ vs ++ cs.drop (off + vs.length) = cs')
    (k : ∀ w', Chg w w' b (.cells ⟨cs'⟩ T (0, 0)) → K undef w') : OpStep P e o w K := by
  obtain ⟨w', hr, hc⟩ := run_storeL (P := P) hB hs hv h1 hi hcs
  refine .inr (.inl ⟨w', ?_, k w' hc⟩)
  simp only [execOp, ho, hp, Sem.run_bind, hr, Result.andThen_ok, Sem.run_pure]
theorem run_copyRow {dT sT ty b of_ n c sc T : Nat} {ad : Addr} {cur cs cs' : List Value} (hu : cpB P dT = true) (hB : w.heap[b]? = some (.cells ⟨cur⟩ T (0, 0))) (hn : cs.length = n) (hsrc : ∀ j v, cs[j]? = some v → w.cell? (ad.add j) = some v)
    (hfit : of_ + n ≤ cur.length) (h1 : cs.all oneB = true) (hcs : cur.take of_ ++ cs ++ cur.drop (of_ + n) = cs') :
    (Builtin.copy_ #[dT, sT] ty #[.slice (some ⟨b, of_, none⟩) n c, .slice (some ad) n sc]).run P w = .ok (.int .i64 (n : Nat)) (w.setRow b ⟨cs'⟩) := by
  obtain ⟨el, h2, h3⟩ := cpB_spec hu
  rw [run_copy_row (P := P) (w := w) (dT := dT) (sT := sT) (ty := ty) (elem := el) (g := b) (o := of_) (dLen := n) (dCap := c) (a := ad) (sLen := n) (sCap := sc) (cur := ⟨cur⟩) (t := T) (cs := cs) h2 h3 hB (by rw [hn]; exact (Nat.min_self n).symm) hsrc (by rw [hn]; exact hfit) (fun v hv => one_of (List.all_eq_true.1 h1 v hv))]
  subst hn
  rw [← hcs]
  rfl
theorem lcopyRow {ops : Array Oper} {lo : List Oper} {s q : Operand} {dT sT b of_ n c sc T : Nat} {ad : Addr} {cur cs cs' : List Value} (ha : On N ρ a) (hg : o.guard = none) (hok : okOp N ρ o = true)
    (ho : o.op = .call { callee := .builtin .copy, args := #[s, q], argTypes := #[dT, sT] }) (hu : cpB P dT = true) (hs : ρ.ev s = .slice (some ⟨b, of_, none⟩) n c) (hq : ρ.ev q = .slice (some ad) n sc) (hB : w.heap[b]? = some (.cells ⟨cur⟩ T (0, 0))) (hn : cs.length = n)
    (hsrc : ∀ j v, cs[j]? = some v → w.cell? (ad.add j) = some v) (hfit : of_ + n ≤ cur.length) (h1 : cs.all oneB = true) (hcs : cur.take of_ ++ cs ++ cur.drop (of_ + n) = cs')
    (k : ∀ w', Chg w w' b (.cells ⟨cs'⟩ T (0, 0)) → ∀ a', On N (ρ.set o.dst (.int .i64 (n : Nat))) a' → wpList P ops Q lo a' w') : wpList P ops Q (o :: lo) a w := by
  refine lrun ha hg hok (v := .int .i64 (n : Nat)) (w' := w.setRow b ⟨cs'⟩) ?_ fun a' ha' => k _ (chg_setRow hB) a' ha'
  have hargs : (#[s, q] : Array Operand).map ρ.ev = #[.slice (some ⟨b, of_, none⟩) n c, .slice (some ad) n sc] := by simp [hs, hq]
  simp only [execOp, ho, resolve, hargs, Sem.run_bind, Sem.run_pure, Result.andThen_ok, invoke, builtin, run_copyRow hu hB hn hsrc hfit h1 hcs]
theorem ocopyRow {s q : Operand} {dT sT b of_ n c sc T : Nat} {ad : Addr} {cur cs cs' : List Value}
    (ho : o.op = .call { callee := .builtin .copy, args := #[s, q], argTypes := #[dT, sT] }) (hu : cpB P dT = true) (hs : e s = .slice (some ⟨b, of_, none⟩) n c) (hq : e q = .slice (some ad) n sc) (hB : w.heap[b]? = some (.cells ⟨cur⟩ T (0, 0))) (hn : cs.length = n)
    (hsrc : ∀ j v, cs[j]? = some v → w.cell? (ad.add j) = some v) (hfit : of_ + n ≤ cur.length) (h1 : cs.all oneB = true) (hcs : cur.take of_ ++ cs ++ cur.drop (of_ + n) = cs')
    (k : ∀ w', Chg w w' b (.cells ⟨cs'⟩ T (0, 0)) → K (.int .i64 (n : Nat)) w') : OpStep P e o w K := by
  refine orun (v := .int .i64 (n : Nat)) (w' := w.setRow b ⟨cs'⟩) ?_ (k _ (chg_setRow hB))
  have hargs : (#[s, q] : Array Operand).map e = #[.slice (some ⟨b, of_, none⟩) n c, .slice (some ad) n sc] := by simp [hs, hq]
  simp only [execOp, ho, resolve, hargs, Sem.run_bind, Sem.run_pure, Result.andThen_ok, invoke, builtin, run_copyRow hu hB hn hsrc hfit h1 hcs]
end
end Go.Kn
namespace Go.Kn
/-! ## guards that are known -/
/-- an operation without that guard -/
def ung (g : Nat) (b : Bool) (o : Oper) : Oper := match o.guard with
  | some q => bif Nat.beq q.1 g && (q.2 == b) then { o with guard := none } else o
  | none => o
section
variable {P : Program} {Q : Exit → Act → World → Prop} {ops : Array Oper}
theorem wp_keep {o : Oper} {a : Act} {w : World} {K K' : Act → World → Prop} {c : Nat} {u : Value} (hc : a.tmps[c]? = some u) (hd : o.dst ≠ some c) (h : ∀ a' w', a'.tmps[c]? = some u → K a' w' → K' a' w')
    (hh : o.wp P a w K Q) : o.wp P a w K' Q := by
  have hp : ∀ (a' : Act) (v : Value), a'.tmps = a.tmps → (a'.put o.dst v).tmps[c]? = some u := by
    intro a' v e; rw [put_tmps, putA_ne _ _ _ _ hd, e]; exact hc
  unfold Oper.wp at *
  generalize (execOp a.eval o).run P w = r at *
  cases r with
  | ok n w' =>
    cases n <;> simp only [Oper.upon] at hh ⊢ <;>
      first
        | exact h _ _ (hp _ _ rfl) hh
        | exact Calls.mono hh (fun e w'' he => by cases e <;> first | exact h _ _ (hp _ _ rfl) he | exact he)
        | exact Rows.mono hh (fun _ _ he => h _ _ (hp _ _ rfl) he)
  | halt x w' => cases x <;> simp only [Oper.upon] at hh ⊢ <;> exact hh
theorem lung {g c : Nat} {b : Bool} (hs : slotOf ops g = some c) : ∀ (l : List Oper) (a : Act) (w : World), a.tmps[c]? = some (.bool b) → (l.all fun o => match o.dst with | some d => !Nat.beq d c | none => true) = true →
    wpList P ops Q (l.map (ung g b)) a w → wpList P ops Q l a w := by
  intro l
  induction l with
  | nil => intro a w _ _ h; exact h
  | cons o l ih =>
    intro a w hc hl h
    simp only [List.all_cons, Bool.and_eq_true] at hl
    have hd : o.dst ≠ some c := by
      intro e
      have := hl.1
      rw [e] at this
      simp [Nat.beq_refl] at this
    have hy := yielded_of (T := a.tmps) hs hc
    have hput : ∀ v, (a.put o.dst v).tmps[c]? = some (.bool b) := by intro v; rw [put_tmps, putA_ne _ _ _ _ hd]; exact hc
    have hk : ∀ a' w', a'.tmps[c]? = some (Value.bool b) → wpList P ops Q (l.map (ung g b)) a' w' → wpList P ops Q l a' w' := fun a' w' h1 h2 => ih a' w' h1 hl.2 h2
    rw [List.map_cons] at h
    have hsame : Region.wanted (ung g b o) (yielded ops a.tmps) = Region.wanted o (yielded ops a.tmps) ∧ (∀ K, (ung g b o).wp P a w K Q = o.wp P a w K Q) ∧ ((ung g b o).asks P a w = o.asks P a w) ∧ (ung g b o).dst = o.dst := by
      unfold ung
      cases hg : o.guard with
      | none => exact ⟨rfl, fun _ => rfl, rfl, rfl⟩
      | some q =>
        simp only
        cases hb : Nat.beq q.1 g && (q.2 == b) with
        | false => exact ⟨rfl, fun _ => rfl, rfl, rfl⟩
        | true =>
          simp only [Bool.and_eq_true] at hb
          have e1 := Nat.eq_of_beq_eq_true hb.1
          have e2 := eq_of_beq hb.2
          refine ⟨?_, fun _ => rfl, rfl, rfl⟩
          simp [Region.wanted, hg, e1, e2, hy]
    obtain ⟨h1, h2, h3, h4⟩ := hsame
    unfold wpList at h ⊢
    rw [h1, h2, h3, h4] at h
    split at h
    · rename_i hw
      rw [if_pos hw]
      exact h.imp (wp_keep hc hd hk) id
    · rename_i hw
      rw [if_neg hw]
      exact hk _ _ (hput _) h
theorem lunguard {N : Nat} {ρ : Env} {a : Act} {w : World} {l : List Oper} (g c : Nat) (b : Bool) (ha : On N ρ a) (hc : ρ.get? c = some (.bool b)) (hs : slotOf ops g = some c) (hl : (l.all fun o => match o.dst with | some d => !Nat.beq d c | none => true) = true)
    (h : wpList P ops Q (l.map (ung g b)) a w) : wpList P ops Q l a w := lung hs l a w (ha.ag.slots c _ hc) hl h
end
end Go.Kn
