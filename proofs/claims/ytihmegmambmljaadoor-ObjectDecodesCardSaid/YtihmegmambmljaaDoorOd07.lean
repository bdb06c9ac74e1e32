import Derived.Test.YtihmegmambmljaaDoorOd03
import Derived.Test.YtihmegmambmljaaDoorOd06
section
set_option linter.unusedSimpArgs false
set_option linter.unusedVariables false
set_option maxRecDepth 100000
namespace Go.Kn
open Go.Proofs
theorem eqEnt_eql {x y : EntR} (hx : x.Name.length ≤ 9223372036854775807 ∧ InR .i64 x.Kind) (hy : y.Name.length ≤ 9223372036854775807 ∧ InR .i64 y.Kind) : BinOk Tryd.prog .eql 89 (.agg ⟨encEnt x⟩) (.agg ⟨encEnt y⟩) (.bool (decide (x = y))) := by
  have hl : ∀ z : EntR, (z.Name.length ≤ 9223372036854775807 ∧ InR .i64 z.Kind) → Tryd.prog.keyLits 3 89 (encEnt z) = some [[.string z.Name], [.int .i64 z.Kind], lits z.I.l].flatten := fun z hz =>
    keyLits_fs (n := 34) (l := [(9, 0, 1), (3, 1, 1), (24, 2, 32)]) (by kernel_rfl) (by kernel_rfl) rfl (.cons (keyLits_str (by kernel_rfl) hz.1) (.cons (keyLits_i64 (by kernel_rfl) hz.2) (.cons (keyLits_id z.I (by kernel_rfl)) .nil)))
  refine eqAgg (op := .eql) (b := decide (x = y)) (.inl rfl) (by kernel_rfl) (by kernel_rfl) (by kernel_rfl) (by kernel_rfl) (hl x hx) (hl y hy) ?_
  rw [decide_eq_true_iff]
  refine ⟨fun h => by rw [h], fun h => ?_⟩
  simp only [List.flatten_cons, List.flatten_nil, List.append_nil, List.cons_append, List.nil_append, List.cons.injEq, Lit.int.injEq, Lit.string.injEq, true_and] at h
  cases x; cases y
  rw [EntR.mk.injEq]
  exact ⟨h.1, h.2.1, Id.ext (lits_inj h.2.2)⟩
theorem eqEnt_neq {x y : EntR} (hx : x.Name.length ≤ 9223372036854775807 ∧ InR .i64 x.Kind) (hy : y.Name.length ≤ 9223372036854775807 ∧ InR .i64 y.Kind) : BinOk Tryd.prog .neq 89 (.agg ⟨encEnt x⟩) (.agg ⟨encEnt y⟩) (.bool (!decide (x = y))) := by
  have hl : ∀ z : EntR, (z.Name.length ≤ 9223372036854775807 ∧ InR .i64 z.Kind) → Tryd.prog.keyLits 3 89 (encEnt z) = some [[.string z.Name], [.int .i64 z.Kind], lits z.I.l].flatten := fun z hz =>
    keyLits_fs (n := 34) (l := [(9, 0, 1), (3, 1, 1), (24, 2, 32)]) (by kernel_rfl) (by kernel_rfl) rfl (.cons (keyLits_str (by kernel_rfl) hz.1) (.cons (keyLits_i64 (by kernel_rfl) hz.2) (.cons (keyLits_id z.I (by kernel_rfl)) .nil)))
  refine eqAgg (op := .neq) (b := decide (x = y)) (.inr rfl) (by kernel_rfl) (by kernel_rfl) (by kernel_rfl) (by kernel_rfl) (hl x hx) (hl y hy) ?_
  rw [decide_eq_true_iff]
  refine ⟨fun h => by rw [h], fun h => ?_⟩
  simp only [List.flatten_cons, List.flatten_nil, List.append_nil, List.cons_append, List.nil_append, List.cons.injEq, Lit.int.injEq, Lit.string.injEq, true_and] at h
  cases x; cases y
  rw [EntR.mk.injEq]
  exact ⟨h.1, h.2.1, Id.ext (lits_inj h.2.2)⟩
def kn0 : ObjL := ⟨1, [104, 105], [], idZ, [], 0, [], idZ, 0, []⟩
theorem kn0_ok : ObjOk kn0 := ⟨by unfold InR kn0; simp, by unfold InR kn0; simp, by simp [kn0], by simp [kn0], fun i hi => by simp [kn0] at hi, fun i hi => by simp [kn0] at hi, by simp [kn0], by simp [kn0], by simp [kn0], by simp [kn0]⟩
theorem kn0_few : FewOk kn0 := ⟨by simp [kn0], by simp [kn0], by simp [kn0], by simp [kn0], by simp [kn0], fun i hi => by simp [kn0] at hi⟩
theorem enc0_ok (w : World) : FnV Tryd.prog 50 #[.agg ⟨.int .i64 1 :: (.string (S [104, 105]) :: (.slice none 0 0 :: ((idc idZ) ++ (.slice none 0 0 :: (.int .u32 0 :: (.string (S []) :: ((idc idZ) ++ (.int .i64 0 :: ([.string (S [])])))))))))⟩] w (.tuple #[.string (S (oEnc kn0).1), .int .i64 (oEnc kn0).2]) := by
  have e : (#[.agg ⟨.int .i64 1 :: (.string (S [104, 105]) :: (.slice none 0 0 :: ((idc idZ) ++ (.slice none 0 0 :: (.int .u32 0 :: (.string (S []) :: ((idc idZ) ++ (.int .i64 0 :: ([.string (S [])])))))))))⟩] : Array Value) = #[.agg ⟨objC kn0 none 0 none 0⟩] := by kernel_rfl
  rw [e]
  exact oenc_ok kn0 none none 0 0 w (rd_nil _ _) (rd_nil _ _) kn0_ok kn0_few
theorem same_ok (x y : ObjL) (Aex Apx Aey Apy : Option Addr) (cex cpx cey cpy : Nat) (w : World) (hxe : Rd w 34 Aex x.Entries.length (x.Entries.flatMap encEnt)) (hxp : Rd w 32 Apx x.Parents.length (x.Parents.flatMap idc)) (hye : Rd w 34 Aey y.Entries.length (y.Entries.flatMap encEnt)) (hyp : Rd w 32 Apy y.Parents.length (y.Parents.flatMap idc)) (hokx : ObjOk x) (hoky : ObjOk y) :
    Fn Tryd.prog 34 #[.agg ⟨objC x Aex cex Apx cpx⟩, .agg ⟨objC y Aey cey Apy cpy⟩] w (fun v w' => v = .bool (decide (x = y)) ∧ Ext w w') := by
  have hx : Ext w w := Ext.rfl' w
  refine enter (N := 113) (args := [.agg ⟨objC x Aex cex Apx cpx⟩, .agg ⟨objC y Aey cey Apy cpy⟩]) Tryd.func34 rfl rfl rfl ?_
  intro a ha
  simp only [argEnv, Nat.zero_add, Nat.reduceAdd] at ha
  refine wseq ?_
  refine reg_list ?_
  refine lnew ha rfl (by kernel_rfl) ⟨objC x Aex cex Apx cpx⟩ 54 (by kernel_rfl) ?_
  clear ha a; intro bx w1 he hb_bx hB_bx a ha
  replace hb_bx := Nat.le_trans hx.size hb_bx
  replace hx := hx.tr he
  clear he
  refine lnew ha rfl (by kernel_rfl) ⟨objC y Aey cey Apy cpy⟩ 54 (by kernel_rfl) ?_
  clear ha a; intro by_ w2 he hb_by_ hB_by_ a ha
  have hne_bx_by_ : bx ≠ by_ := ne_new hB_bx hb_by_
  replace hB_bx := keepB he hB_bx
  replace hb_by_ := Nat.le_trans hx.size hb_by_
  replace hx := hx.tr he
  clear he
  refine segp (ρ' := [(2, .pointer (some ⟨bx, 0, none⟩)), (3, .pointer (some ⟨by_, 0, none⟩))]) (C := []) ha 1 [] rfl (by kernel_rfl) .nil ?_
  clear ha a; intro a ha
  refine lnil ?_
  replace ha := ha.sub (ρ' := [(2, .pointer (some ⟨bx, 0, none⟩)), (3, .pointer (some ⟨by_, 0, none⟩))]) (by kernel_rfl)
  refine tn ?_
  refine wseq ?_
  refine wseq ?_
  refine regp (ρ' := [(2, .pointer (some ⟨bx, 0, none⟩)), (3, .pointer (some ⟨by_, 0, none⟩)), (60, .bool ((((((((!decide ((x.Kind : Int) = y.Kind)) || (!decide ((x.Data : List UInt8) = (y.Data : List UInt8)))) || (!decide (x.Tree = y.Tree))) || (!decide (((x.Time : Nat) : Int) = ((y.Time : Nat) : Int)))) || (!decide ((x.Text : List UInt8) = (y.Text : List UInt8)))) || (!decide (x.Target = y.Target))) || (!decide ((x.Of : Int) = y.Of))) || (!decide ((x.Name : List UInt8) = (y.Name : List UInt8)))))]) (C := [RunOk Tryd.prog w2 (Instr.loadAt 3 (.pointer (some ⟨bx, 0, none⟩))) (.int .i64 x.Kind), RunOk Tryd.prog w2 (Instr.loadAt 3 (.pointer (some ⟨by_, 0, none⟩))) (.int .i64 y.Kind), (!decide ((x.Kind : Int) = y.Kind)) = false → All [RunOk Tryd.prog w2 (Instr.loadAt 9 (.pointer (some ⟨bx, 1, none⟩))) (.string (S x.Data)), RunOk Tryd.prog w2 (Instr.loadAt 9 (.pointer (some ⟨by_, 1, none⟩))) (.string (S y.Data))], ((!decide ((x.Kind : Int) = y.Kind)) || (!decide ((x.Data : List UInt8) = (y.Data : List UInt8)))) = false → All [RunOk Tryd.prog w2 (Instr.loadAt 24 (.pointer (some ⟨bx, 3, none⟩))) (.agg ⟨idc x.Tree⟩), RunOk Tryd.prog w2 (Instr.loadAt 24 (.pointer (some ⟨by_, 3, none⟩))) (.agg ⟨idc y.Tree⟩), BinOk Tryd.prog .neq 24 (.agg ⟨idc x.Tree⟩) (.agg ⟨idc y.Tree⟩) (.bool (!decide (x.Tree = y.Tree)))], (((!decide ((x.Kind : Int) = y.Kind)) || (!decide ((x.Data : List UInt8) = (y.Data : List UInt8)))) || (!decide (x.Tree = y.Tree))) = false → All [RunOk Tryd.prog w2 (Instr.loadAt 52 (.pointer (some ⟨bx, 36, none⟩))) (.int .u32 ((x.Time : Nat) : Int)), RunOk Tryd.prog w2 (Instr.loadAt 52 (.pointer (some ⟨by_, 36, none⟩))) (.int .u32 ((y.Time : Nat) : Int))], ((((!decide ((x.Kind : Int) = y.Kind)) || (!decide ((x.Data : List UInt8) = (y.Data : List UInt8)))) || (!decide (x.Tree = y.Tree))) || (!decide (((x.Time : Nat) : Int) = ((y.Time : Nat) : Int)))) = false → All [RunOk Tryd.prog w2 (Instr.loadAt 9 (.pointer (some ⟨bx, 37, none⟩))) (.string (S x.Text)), RunOk Tryd.prog w2 (Instr.loadAt 9 (.pointer (some ⟨by_, 37, none⟩))) (.string (S y.Text))], (((((!decide ((x.Kind : Int) = y.Kind)) || (!decide ((x.Data : List UInt8) = (y.Data : List UInt8)))) || (!decide (x.Tree = y.Tree))) || (!decide (((x.Time : Nat) : Int) = ((y.Time : Nat) : Int)))) || (!decide ((x.Text : List UInt8) = (y.Text : List UInt8)))) = false → All [RunOk Tryd.prog w2 (Instr.loadAt 24 (.pointer (some ⟨bx, 38, none⟩))) (.agg ⟨idc x.Target⟩), RunOk Tryd.prog w2 (Instr.loadAt 24 (.pointer (some ⟨by_, 38, none⟩))) (.agg ⟨idc y.Target⟩), BinOk Tryd.prog .neq 24 (.agg ⟨idc x.Target⟩) (.agg ⟨idc y.Target⟩) (.bool (!decide (x.Target = y.Target)))], ((((((!decide ((x.Kind : Int) = y.Kind)) || (!decide ((x.Data : List UInt8) = (y.Data : List UInt8)))) || (!decide (x.Tree = y.Tree))) || (!decide (((x.Time : Nat) : Int) = ((y.Time : Nat) : Int)))) || (!decide ((x.Text : List UInt8) = (y.Text : List UInt8)))) || (!decide (x.Target = y.Target))) = false → All [RunOk Tryd.prog w2 (Instr.loadAt 3 (.pointer (some ⟨bx, 70, none⟩))) (.int .i64 x.Of), RunOk Tryd.prog w2 (Instr.loadAt 3 (.pointer (some ⟨by_, 70, none⟩))) (.int .i64 y.Of)], (((((((!decide ((x.Kind : Int) = y.Kind)) || (!decide ((x.Data : List UInt8) = (y.Data : List UInt8)))) || (!decide (x.Tree = y.Tree))) || (!decide (((x.Time : Nat) : Int) = ((y.Time : Nat) : Int)))) || (!decide ((x.Text : List UInt8) = (y.Text : List UInt8)))) || (!decide (x.Target = y.Target))) || (!decide ((x.Of : Int) = y.Of))) = false → All [RunOk Tryd.prog w2 (Instr.loadAt 9 (.pointer (some ⟨bx, 71, none⟩))) (.string (S x.Name)), RunOk Tryd.prog w2 (Instr.loadAt 9 (.pointer (some ⟨by_, 71, none⟩))) (.string (S y.Name))]]) ha [(1, .val (.int .i64 x.Kind)), (3, .val (.int .i64 y.Kind)), (7, .val (.string (S x.Data))), (9, .val (.string (S y.Data))), (14, .val (.agg ⟨idc x.Tree⟩)), (16, .val (.agg ⟨idc y.Tree⟩)), (17, .val (.bool (!decide (x.Tree = y.Tree)))), (21, .val (.int .u32 ((x.Time : Nat) : Int))), (23, .val (.int .u32 ((y.Time : Nat) : Int))), (28, .val (.string (S x.Text))), (30, .val (.string (S y.Text))), (35, .val (.agg ⟨idc x.Target⟩)), (37, .val (.agg ⟨idc y.Target⟩)), (38, .val (.bool (!decide (x.Target = y.Target)))), (42, .val (.int .i64 x.Of)), (44, .val (.int .i64 y.Of)), (49, .val (.string (S x.Name))), (51, .val (.string (S y.Name)))] (by kernel_rfl) (.cons (ld1 hB_bx (by kernel_rfl) (by kernel_rfl)) (.cons (ld1 hB_by_ (by kernel_rfl) (by kernel_rfl)) (.cons (fun hg6 => by simp only [Bool.not_eq_true', Bool.not_eq_false', Bool.and_eq_true, Bool.or_eq_true, Bool.and_eq_false_iff, Bool.or_eq_false_iff, decide_eq_true_eq, decide_eq_false_iff_not, Bool.not_eq_true, Decidable.not_not] at hg6; exact (.cons (ld1 hB_bx (by kernel_rfl) (by kernel_rfl)) (.cons (ld1 hB_by_ (by kernel_rfl) (by kernel_rfl)) .nil))) (.cons (fun hg13 => by simp only [Bool.not_eq_true', Bool.not_eq_false', Bool.and_eq_true, Bool.or_eq_true, Bool.and_eq_false_iff, Bool.or_eq_false_iff, decide_eq_true_eq, decide_eq_false_iff_not, Bool.not_eq_true, Decidable.not_not] at hg13; exact (.cons (ldN (n := 32) hB_bx (by kernel_rfl) (by kernel_rfl) ⟨Nat.le_of_ble_eq_true (by kernel_rfl), (by kernel_rfl)⟩) (.cons (ldN (n := 32) hB_by_ (by kernel_rfl) (by kernel_rfl) ⟨Nat.le_of_ble_eq_true (by kernel_rfl), (by kernel_rfl)⟩) (.cons (eqIdN (x := x.Tree) (y := y.Tree) (by kernel_rfl)) .nil)))) (.cons (fun hg20 => by simp only [Bool.not_eq_true', Bool.not_eq_false', Bool.and_eq_true, Bool.or_eq_true, Bool.and_eq_false_iff, Bool.or_eq_false_iff, decide_eq_true_eq, decide_eq_false_iff_not, Bool.not_eq_true, Decidable.not_not] at hg20; exact (.cons (ld1 hB_bx (by kernel_rfl) (by kernel_rfl)) (.cons (ld1 hB_by_ (by kernel_rfl) (by kernel_rfl)) .nil))) (.cons (fun hg27 => by simp only [Bool.not_eq_true', Bool.not_eq_false', Bool.and_eq_true, Bool.or_eq_true, Bool.and_eq_false_iff, Bool.or_eq_false_iff, decide_eq_true_eq, decide_eq_false_iff_not, Bool.not_eq_true, Decidable.not_not] at hg27; exact (.cons (ld1 hB_bx (by kernel_rfl) (by kernel_rfl)) (.cons (ld1 hB_by_ (by kernel_rfl) (by kernel_rfl)) .nil))) (.cons (fun hg34 => by simp only [Bool.not_eq_true', Bool.not_eq_false', Bool.and_eq_true, Bool.or_eq_true, Bool.and_eq_false_iff, Bool.or_eq_false_iff, decide_eq_true_eq, decide_eq_false_iff_not, Bool.not_eq_true, Decidable.not_not] at hg34; exact (.cons (ldN (n := 32) hB_bx (by kernel_rfl) (by kernel_rfl) ⟨Nat.le_of_ble_eq_true (by kernel_rfl), (by kernel_rfl)⟩) (.cons (ldN (n := 32) hB_by_ (by kernel_rfl) (by kernel_rfl) ⟨Nat.le_of_ble_eq_true (by kernel_rfl), (by kernel_rfl)⟩) (.cons (eqIdN (x := x.Target) (y := y.Target) (by kernel_rfl)) .nil)))) (.cons (fun hg41 => by simp only [Bool.not_eq_true', Bool.not_eq_false', Bool.and_eq_true, Bool.or_eq_true, Bool.and_eq_false_iff, Bool.or_eq_false_iff, decide_eq_true_eq, decide_eq_false_iff_not, Bool.not_eq_true, Decidable.not_not] at hg41; exact (.cons (ld1 hB_bx (by kernel_rfl) (by kernel_rfl)) (.cons (ld1 hB_by_ (by kernel_rfl) (by kernel_rfl)) .nil))) (.cons (fun hg48 => by simp only [Bool.not_eq_true', Bool.not_eq_false', Bool.and_eq_true, Bool.or_eq_true, Bool.and_eq_false_iff, Bool.or_eq_false_iff, decide_eq_true_eq, decide_eq_false_iff_not, Bool.not_eq_true, Decidable.not_not] at hg48; exact (.cons (ld1 hB_bx (by kernel_rfl) (by kernel_rfl)) (.cons (ld1 hB_by_ (by kernel_rfl) (by kernel_rfl)) .nil))) .nil))))))))) ?_
  clear ha a; intro a ha
  have fex := hokx.el
  have fpx := hokx.pl
  have fey := hoky.el
  have fpy := hoky.pl
  refine tn ?_
  refine wif ha rfl (fun h60 => ?_) (fun h60 => ?_)
  · simp only [Bool.not_eq_true', Bool.not_eq_false', Bool.and_eq_true, Bool.or_eq_true, Bool.and_eq_false_iff, Bool.or_eq_false_iff, decide_eq_true_eq, decide_eq_false_iff_not, Bool.not_eq_true, Decidable.not_not] at h60
    have hres : decide (x = y) = false := decide_eq_false (fun e => by subst e; simp at h60)
    refine wseq ?_
    refine regp (ρ' := [(4, .bool false)]) (C := []) ha [] (by kernel_rfl) .nil ?_
    clear ha a; intro a ha
    refine tn ?_
    refine wret ?_
    refine (tr ?_)
    refine fin ha (.tmp rfl .nil) ?_
    exact ⟨congrArg Value.bool hres.symm, hx⟩
  · simp only [Bool.not_eq_true', Bool.not_eq_false', Bool.and_eq_true, Bool.or_eq_true, Bool.and_eq_false_iff, Bool.or_eq_false_iff, decide_eq_true_eq, decide_eq_false_iff_not, Bool.not_eq_true, Decidable.not_not] at h60
    refine wskip ?_
    refine tn ?_
    refine wseq ?_
    refine wseq ?_
    refine regp (ρ' := [(2, .pointer (some ⟨bx, 0, none⟩)), (3, .pointer (some ⟨by_, 0, none⟩)), (76, .bool ((!decide (((x.Entries.length : Nat) : Int) = ((y.Entries.length : Nat) : Int))) || (!decide (((x.Parents.length : Nat) : Int) = ((y.Parents.length : Nat) : Int)))))]) (C := [RunOk Tryd.prog w2 (Instr.loadAt 50 (.pointer (some ⟨bx, 2, none⟩))) (.slice Aex x.Entries.length cex), RunOk Tryd.prog w2 (Instr.loadAt 50 (.pointer (some ⟨by_, 2, none⟩))) (.slice Aey y.Entries.length cey), (!decide (((x.Entries.length : Nat) : Int) = ((y.Entries.length : Nat) : Int))) = false → All [RunOk Tryd.prog w2 (Instr.loadAt 51 (.pointer (some ⟨bx, 35, none⟩))) (.slice Apx x.Parents.length cpx), RunOk Tryd.prog w2 (Instr.loadAt 51 (.pointer (some ⟨by_, 35, none⟩))) (.slice Apy y.Parents.length cpy)]]) ha [(1, .val (.slice Aex x.Entries.length cex)), (4, .val (.slice Aey y.Entries.length cey)), (9, .val (.slice Apx x.Parents.length cpx)), (12, .val (.slice Apy y.Parents.length cpy))] (by kernel_rfl) (.cons (ld1 hB_bx (by kernel_rfl) (by kernel_rfl)) (.cons (ld1 hB_by_ (by kernel_rfl) (by kernel_rfl)) (.cons (fun hg8 => by simp only [Bool.not_eq_true', Bool.not_eq_false', Bool.and_eq_true, Bool.or_eq_true, Bool.and_eq_false_iff, Bool.or_eq_false_iff, decide_eq_true_eq, decide_eq_false_iff_not, Bool.not_eq_true, Decidable.not_not] at hg8; exact (.cons (ld1 hB_bx (by kernel_rfl) (by kernel_rfl)) (.cons (ld1 hB_by_ (by kernel_rfl) (by kernel_rfl)) .nil))) .nil))) ?_
    clear ha a; intro a ha
    refine tn ?_
    refine wif ha rfl (fun h76 => ?_) (fun h76 => ?_)
    · simp only [Bool.not_eq_true', Bool.not_eq_false', Bool.and_eq_true, Bool.or_eq_true, Bool.and_eq_false_iff, Bool.or_eq_false_iff, decide_eq_true_eq, decide_eq_false_iff_not, Bool.not_eq_true, Decidable.not_not] at h76
      have hres : decide (x = y) = false := decide_eq_false (fun e => by subst e; simp at h76)
      refine wseq ?_
      refine regp (ρ' := [(4, .bool false)]) (C := []) ha [] (by kernel_rfl) .nil ?_
      clear ha a; intro a ha
      refine tn ?_
      refine wret ?_
      refine (tr ?_)
      refine fin ha (.tmp rfl .nil) ?_
      exact ⟨congrArg Value.bool hres.symm, hx⟩
    · simp only [Bool.not_eq_true', Bool.not_eq_false', Bool.and_eq_true, Bool.or_eq_true, Bool.and_eq_false_iff, Bool.or_eq_false_iff, decide_eq_true_eq, decide_eq_false_iff_not, Bool.not_eq_true, Decidable.not_not] at h76
      refine wskip ?_
      refine tn ?_
      refine wseq ?_
      refine wseq ?_
      refine regp (ρ' := [(2, .pointer (some ⟨bx, 0, none⟩)), (3, .pointer (some ⟨by_, 0, none⟩)), (5, .int .i64 0)]) (C := []) ha [] (by kernel_rfl) .nil ?_
      clear ha a; intro a ha
      refine tn ?_
      refine wblk ?_
      refine wloop (fun zz a w3 => ∃ (i : Nat), zz = x.Entries.length - i ∧ On 113 [(2, .pointer (some ⟨bx, 0, none⟩)), (3, .pointer (some ⟨by_, 0, none⟩)), (5, .int .i64 ((i : Nat) : Int))] a ∧ Ext w w3 ∧ w3.heap[bx]? = some (.cells ⟨objC x Aex cex Apx cpx⟩ 54 (0, 0)) ∧ w3.heap[by_]? = some (.cells ⟨objC y Aey cey Apy cpy⟩ 54 (0, 0)) ∧ (i ≤ x.Entries.length) ∧ (x.Entries.take i = y.Entries.take i)) _ ⟨0, rfl, ha.sub (ρ' := [(2, .pointer (some ⟨bx, 0, none⟩)), (3, .pointer (some ⟨by_, 0, none⟩)), (5, .int .i64 ((0 : Nat) : Int))]) (by kernel_rfl), hx, hB_bx, hB_by_, by omega, rfl⟩ ?_
      clear ha hx hB_bx hB_by_
      rintro zz a w4 ⟨i, hzz, ha, hx, hB_bx, hB_by_, hi, hs⟩
      refine wseq ?_
      refine wseq ?_
      refine regp (ρ' := [(2, .pointer (some ⟨bx, 0, none⟩)), (3, .pointer (some ⟨by_, 0, none⟩)), (5, .int .i64 ((i : Nat) : Int)), (81, .bool (decide (((i : Nat) : Int) < ((x.Entries.length : Nat) : Int))))]) (C := [RunOk Tryd.prog w4 (Instr.loadAt 50 (.pointer (some ⟨bx, 2, none⟩))) (.slice Aex x.Entries.length cex)]) ha [(2, .val (.slice Aex x.Entries.length cex))] (by kernel_rfl) (.cons (ld1 hB_bx (by kernel_rfl) (by kernel_rfl)) .nil) ?_
      clear ha a; intro a ha
      refine tn ?_
      refine wif ha rfl (fun h81 => ?_) (fun h81 => ?_)
      · replace h81 := of_decide_eq_true h81
        have hil : i < x.Entries.length := by omega
        have hk1 := And.intro (hokx.en i hil) (hokx.ek i hil)
        have hk2 := And.intro (hoky.en i (by omega)) (hoky.ek i (by omega))
        refine wskip ?_
        refine tn ?_
        refine wseq ?_
        refine wblk ?_
        refine wseq ?_
        refine reg hmix (ρ' := [(2, .pointer (some ⟨bx, 0, none⟩)), (3, .pointer (some ⟨by_, 0, none⟩)), (5, .int .i64 ((i : Nat) : Int)), (94, .bool (!decide ((x.Entries.getD i default) = (y.Entries.getD i default))))]) (C := [RunOk Tryd.prog w4 (Instr.loadAt 50 (.pointer (some ⟨bx, 2, none⟩))) (.slice Aex x.Entries.length cex), RunOk Tryd.prog w4 (Instr.indexAt 50 (.slice Aex x.Entries.length cex) (.int .i64 ((i : Nat) : Int))) (.pointer (some ⟨ab Aex, ao Aex + i * 34, none⟩)), RunOk Tryd.prog w4 (Instr.loadAt 89 (.pointer (some ⟨ab Aex, ao Aex + i * 34, none⟩))) (.agg ⟨encEnt (x.Entries.getD i default)⟩), RunOk Tryd.prog w4 (Instr.loadAt 50 (.pointer (some ⟨by_, 2, none⟩))) (.slice Aey y.Entries.length cey), RunOk Tryd.prog w4 (Instr.indexAt 50 (.slice Aey y.Entries.length cey) (.int .i64 ((i : Nat) : Int))) (.pointer (some ⟨ab Aey, ao Aey + i * 34, none⟩)), RunOk Tryd.prog w4 (Instr.loadAt 89 (.pointer (some ⟨ab Aey, ao Aey + i * 34, none⟩))) (.agg ⟨encEnt (y.Entries.getD i default)⟩), BinOk Tryd.prog .neq 89 (.agg ⟨encEnt (x.Entries.getD i default)⟩) (.agg ⟨encEnt (y.Entries.getD i default)⟩) (.bool (!decide ((x.Entries.getD i default) = (y.Entries.getD i default))))]) ha [(1, .val (.slice Aex x.Entries.length cex)), (3, .val (.pointer (some ⟨ab Aex, ao Aex + i * 34, none⟩))), (4, .val (.agg ⟨encEnt (x.Entries.getD i default)⟩)), (6, .val (.slice Aey y.Entries.length cey)), (8, .val (.pointer (some ⟨ab Aey, ao Aey + i * 34, none⟩))), (9, .val (.agg ⟨encEnt (y.Entries.getD i default)⟩)), (10, .val (.bool (!decide ((x.Entries.getD i default) = (y.Entries.getD i default)))))] (by kernel_rfl) (.cons (ld1 hB_bx (by kernel_rfl) (by kernel_rfl)) (.cons (ixRd (e := 89) (by kernel_rfl) (by kernel_rfl) (rdE hx hxe) (by omega)) (.cons (ldRdN (vs := encEnt (x.Entries.getD i default)) (j := i * 34) (by kernel_rfl) (by kernel_rfl) (rdE hx hxe) (by omega) (flat_seg encEnt_len x.Entries default i (by omega))) (.cons (ld1 hB_by_ (by kernel_rfl) (by kernel_rfl)) (.cons (ixRd (e := 89) (by kernel_rfl) (by kernel_rfl) (rdE hx hye) (by omega)) (.cons (ldRdN (vs := encEnt (y.Entries.getD i default)) (j := i * 34) (by kernel_rfl) (by kernel_rfl) (rdE hx hye) (by omega) (flat_seg encEnt_len y.Entries default i (by omega))) (.cons (eqEnt_neq (x := (x.Entries.getD i default)) (y := (y.Entries.getD i default)) (by assumption) (by assumption)) .nil))))))) ?_
        clear ha a; intro a w5 ha he
        replace hx := hx.tr he
        replace hB_bx := keepB he hB_bx
        replace hB_by_ := keepB he hB_by_
        clear he
        refine tn ?_
        refine wif ha rfl (fun h94 => ?_) (fun h94 => ?_)
        · simp only [Bool.not_eq_true', Bool.not_eq_false', Bool.and_eq_true, Bool.or_eq_true, Bool.and_eq_false_iff, Bool.or_eq_false_iff, decide_eq_true_eq, decide_eq_false_iff_not, Bool.not_eq_true, Decidable.not_not] at h94
          have hres : decide (x = y) = false := decide_eq_false (fun e => h94 (by rw [e]))
          refine wseq ?_
          refine regp (ρ' := [(4, .bool false)]) (C := []) ha [] (by kernel_rfl) .nil ?_
          clear ha a; intro a ha
          refine tn ?_
          refine wret ?_
          refine (br (tr (tr (br (tr ?_)))))
          refine fin ha (.tmp rfl .nil) ?_
          exact ⟨congrArg Value.bool hres.symm, hx⟩
        · simp only [Bool.not_eq_true', Bool.not_eq_false', Bool.and_eq_true, Bool.or_eq_true, Bool.and_eq_false_iff, Bool.or_eq_false_iff, decide_eq_true_eq, decide_eq_false_iff_not, Bool.not_eq_true, Decidable.not_not] at h94
          refine wskip ?_
          refine bn ?_
          refine tn ?_
          refine regp (ρ' := [(2, .pointer (some ⟨bx, 0, none⟩)), (3, .pointer (some ⟨by_, 0, none⟩)), (5, .int .i64 ((i + 1 : Nat) : Int))]) (C := [InR .i64 ((i + 1 : Nat) : Int)]) ha [] (by kernel_rfl) (.cons (by unfold InR; omega) .nil) ?_
          clear ha a; intro a ha
          exact tn ⟨x.Entries.length - ((i + 1)), by omega, (i + 1), rfl, ha.sub (ρ' := [(2, .pointer (some ⟨bx, 0, none⟩)), (3, .pointer (some ⟨by_, 0, none⟩)), (5, .int .i64 (((i + 1) : Nat) : Int))]) (by kernel_rfl), hx, hB_bx, hB_by_, by omega, by rw [take_snoc _ i hil, take_snoc _ i (by omega), hs, h94]⟩
      · replace h81 := of_decide_eq_false h81
        have hee : x.Entries = y.Entries := by rw [List.take_of_length_le (by omega), List.take_of_length_le (by omega)] at hs; exact hs
        refine wexit ?_
        refine (te (te (be ?_)))
        refine tn ?_
        refine wseq ?_
        refine wseq ?_
        refine regp (ρ' := [(2, .pointer (some ⟨bx, 0, none⟩)), (3, .pointer (some ⟨by_, 0, none⟩)), (6, .int .i64 0)]) (C := []) ha [] (by kernel_rfl) .nil ?_
        clear ha a; intro a ha
        refine tn ?_
        refine wblk ?_
        refine wloop (fun zz a w6 => ∃ (i : Nat), zz = x.Parents.length - i ∧ On 113 [(2, .pointer (some ⟨bx, 0, none⟩)), (3, .pointer (some ⟨by_, 0, none⟩)), (6, .int .i64 ((i : Nat) : Int))] a ∧ Ext w w6 ∧ w6.heap[bx]? = some (.cells ⟨objC x Aex cex Apx cpx⟩ 54 (0, 0)) ∧ w6.heap[by_]? = some (.cells ⟨objC y Aey cey Apy cpy⟩ 54 (0, 0)) ∧ (i ≤ x.Parents.length) ∧ (x.Parents.take i = y.Parents.take i)) _ ⟨0, rfl, ha.sub (ρ' := [(2, .pointer (some ⟨bx, 0, none⟩)), (3, .pointer (some ⟨by_, 0, none⟩)), (6, .int .i64 ((0 : Nat) : Int))]) (by kernel_rfl), hx, hB_bx, hB_by_, by omega, rfl⟩ ?_
        clear ha hx hB_bx hB_by_
        rintro zz a w7 ⟨i, hzz, ha, hx, hB_bx, hB_by_, hi2, hs2⟩
        refine wseq ?_
        refine wseq ?_
        refine regp (ρ' := [(2, .pointer (some ⟨bx, 0, none⟩)), (3, .pointer (some ⟨by_, 0, none⟩)), (6, .int .i64 ((i : Nat) : Int)), (99, .bool (decide (((i : Nat) : Int) < ((x.Parents.length : Nat) : Int))))]) (C := [RunOk Tryd.prog w7 (Instr.loadAt 51 (.pointer (some ⟨bx, 35, none⟩))) (.slice Apx x.Parents.length cpx)]) ha [(2, .val (.slice Apx x.Parents.length cpx))] (by kernel_rfl) (.cons (ld1 hB_bx (by kernel_rfl) (by kernel_rfl)) .nil) ?_
        clear ha a; intro a ha
        refine tn ?_
        refine wif ha rfl (fun h99 => ?_) (fun h99 => ?_)
        · replace h99 := of_decide_eq_true h99
          have hjl : i < x.Parents.length := by omega
          refine wskip ?_
          refine tn ?_
          refine wseq ?_
          refine wblk ?_
          refine wseq ?_
          refine reg hmix (ρ' := [(2, .pointer (some ⟨bx, 0, none⟩)), (3, .pointer (some ⟨by_, 0, none⟩)), (6, .int .i64 ((i : Nat) : Int)), (112, .bool (!decide ((x.Parents.getD i default) = (y.Parents.getD i default))))]) (C := [RunOk Tryd.prog w7 (Instr.loadAt 51 (.pointer (some ⟨bx, 35, none⟩))) (.slice Apx x.Parents.length cpx), RunOk Tryd.prog w7 (Instr.indexAt 51 (.slice Apx x.Parents.length cpx) (.int .i64 ((i : Nat) : Int))) (.pointer (some ⟨ab Apx, ao Apx + i * 32, none⟩)), RunOk Tryd.prog w7 (Instr.loadAt 24 (.pointer (some ⟨ab Apx, ao Apx + i * 32, none⟩))) (.agg ⟨idc (x.Parents.getD i default)⟩), RunOk Tryd.prog w7 (Instr.loadAt 51 (.pointer (some ⟨by_, 35, none⟩))) (.slice Apy y.Parents.length cpy), RunOk Tryd.prog w7 (Instr.indexAt 51 (.slice Apy y.Parents.length cpy) (.int .i64 ((i : Nat) : Int))) (.pointer (some ⟨ab Apy, ao Apy + i * 32, none⟩)), RunOk Tryd.prog w7 (Instr.loadAt 24 (.pointer (some ⟨ab Apy, ao Apy + i * 32, none⟩))) (.agg ⟨idc (y.Parents.getD i default)⟩), BinOk Tryd.prog .neq 24 (.agg ⟨idc (x.Parents.getD i default)⟩) (.agg ⟨idc (y.Parents.getD i default)⟩) (.bool (!decide ((x.Parents.getD i default) = (y.Parents.getD i default))))]) ha [(1, .val (.slice Apx x.Parents.length cpx)), (3, .val (.pointer (some ⟨ab Apx, ao Apx + i * 32, none⟩))), (4, .val (.agg ⟨idc (x.Parents.getD i default)⟩)), (6, .val (.slice Apy y.Parents.length cpy)), (8, .val (.pointer (some ⟨ab Apy, ao Apy + i * 32, none⟩))), (9, .val (.agg ⟨idc (y.Parents.getD i default)⟩)), (10, .val (.bool (!decide ((x.Parents.getD i default) = (y.Parents.getD i default)))))] (by kernel_rfl) (.cons (ld1 hB_bx (by kernel_rfl) (by kernel_rfl)) (.cons (ixRd (e := 24) (by kernel_rfl) (by kernel_rfl) (rdE hx hxp) (by omega)) (.cons (ldRdN (vs := idc (x.Parents.getD i default)) (j := i * 32) (by kernel_rfl) (by kernel_rfl) (rdE hx hxp) (by omega) (flat_seg idc_len x.Parents default i (by omega))) (.cons (ld1 hB_by_ (by kernel_rfl) (by kernel_rfl)) (.cons (ixRd (e := 24) (by kernel_rfl) (by kernel_rfl) (rdE hx hyp) (by omega)) (.cons (ldRdN (vs := idc (y.Parents.getD i default)) (j := i * 32) (by kernel_rfl) (by kernel_rfl) (rdE hx hyp) (by omega) (flat_seg idc_len y.Parents default i (by omega))) (.cons (eqIdN (x := (x.Parents.getD i default)) (y := (y.Parents.getD i default)) (by kernel_rfl)) .nil))))))) ?_
          clear ha a; intro a w8 ha he
          replace hx := hx.tr he
          replace hB_bx := keepB he hB_bx
          replace hB_by_ := keepB he hB_by_
          clear he
          refine tn ?_
          refine wif ha rfl (fun h112 => ?_) (fun h112 => ?_)
          · simp only [Bool.not_eq_true', Bool.not_eq_false', Bool.and_eq_true, Bool.or_eq_true, Bool.and_eq_false_iff, Bool.or_eq_false_iff, decide_eq_true_eq, decide_eq_false_iff_not, Bool.not_eq_true, Decidable.not_not] at h112
            have hres : decide (x = y) = false := decide_eq_false (fun e => h112 (by rw [e]))
            refine wseq ?_
            refine regp (ρ' := [(4, .bool false)]) (C := []) ha [] (by kernel_rfl) .nil ?_
            clear ha a; intro a ha
            refine tn ?_
            refine wret ?_
            refine (br (tr (tr (br (tr ?_)))))
            refine fin ha (.tmp rfl .nil) ?_
            exact ⟨congrArg Value.bool hres.symm, hx⟩
          · simp only [Bool.not_eq_true', Bool.not_eq_false', Bool.and_eq_true, Bool.or_eq_true, Bool.and_eq_false_iff, Bool.or_eq_false_iff, decide_eq_true_eq, decide_eq_false_iff_not, Bool.not_eq_true, Decidable.not_not] at h112
            refine wskip ?_
            refine bn ?_
            refine tn ?_
            refine regp (ρ' := [(2, .pointer (some ⟨bx, 0, none⟩)), (3, .pointer (some ⟨by_, 0, none⟩)), (6, .int .i64 ((i + 1 : Nat) : Int))]) (C := [InR .i64 ((i + 1 : Nat) : Int)]) ha [] (by kernel_rfl) (.cons (by unfold InR; omega) .nil) ?_
            clear ha a; intro a ha
            exact tn ⟨x.Parents.length - ((i + 1)), by omega, (i + 1), rfl, ha.sub (ρ' := [(2, .pointer (some ⟨bx, 0, none⟩)), (3, .pointer (some ⟨by_, 0, none⟩)), (6, .int .i64 (((i + 1) : Nat) : Int))]) (by kernel_rfl), hx, hB_bx, hB_by_, by omega, by rw [take_snoc _ i hjl, take_snoc _ i (by omega), hs2, h112]⟩
        · replace h99 := of_decide_eq_false h99
          have hpp : x.Parents = y.Parents := by rw [List.take_of_length_le (by omega), List.take_of_length_le (by omega)] at hs2; exact hs2
          have hres : decide (x = y) = true := decide_eq_true (by
            cases x; cases y
            simp only at h60 hee hpp
            rw [ObjL.mk.injEq]
            simp [h60, hee, hpp]
            omega)
          refine wexit ?_
          refine (te (te (be ?_)))
          refine tn ?_
          refine wseq ?_
          refine regp (ρ' := [(4, .bool true)]) (C := []) ha [] (by kernel_rfl) .nil ?_
          clear ha a; intro a ha
          refine tn ?_
          refine wret ?_
          refine fin ha (.tmp rfl .nil) ?_
          exact ⟨congrArg Value.bool hres.symm, hx⟩
theorem knows4_ok (w : World) :
    Fn Tryd.prog 31 #[] w (fun x w' => x = .bool true ∧ Ext w w') := by
  obtain ⟨q, hq⟩ : ∃ q, q = oEnc kn0 := ⟨_, rfl⟩
  have hx : Ext w w := Ext.rfl' w
  refine enter (N := 35) (args := []) Tryd.func31 rfl rfl rfl ?_
  intro a ha
  simp only [argEnv, Nat.zero_add, Nat.reduceAdd] at ha
  refine wseq ?_
  refine regp (ρ' := []) (C := []) ha [] (by kernel_rfl) .nil ?_
  clear ha a; intro a ha
  refine tn ?_
  refine wseq ?_
  refine reg hmix (ρ' := [(1, .string (S q.1)), (2, .int .i64 q.2)]) (C := [CallOk Tryd.prog w 50 #[.agg ⟨.int .i64 1 :: (.string (S [104, 105]) :: (.slice none 0 0 :: ((idc idZ) ++ (.slice none 0 0 :: (.int .u32 0 :: (.string (S []) :: ((idc idZ) ++ (.int .i64 0 :: ([.string (S [])])))))))))⟩] (.tuple #[.string (S q.1), .int .i64 q.2])]) ha [(1, .val (.tuple #[.string (S q.1), .int .i64 q.2]))] (by kernel_rfl) (.cons (fun w2 h2 => by rw [hq]; exact enc0_ok w2) .nil) ?_
  clear ha a; intro a w1 ha he
  replace hx := hx.tr he
  clear he
  refine tn ?_
  refine wseq ?_
  refine reg_list ?_
  refine lcall (vs := #[.string (S [1, 3, 104, 105])]) ha rfl (by kernel_rfl) rfl rfl (by kernel_rfl) (by kernel_rfl) (odec_ok _ _ (by first | omega | (simp; done) | (simp; omega))) ?_
  clear ha a; rintro _ w8 ⟨Ae2, ce3, Ap4, cp5, rfl, hoe6, hop7, he⟩ a ha
  replace hoe6 := own_base hx.size hoe6
  replace hop7 := own_base hx.size hop7
  replace hx := hx.tr he
  clear he
  refine segp (ρ' := [(1, .string (S q.1)), (2, .int .i64 q.2), (12, .agg ⟨objC ((oDec [1, 3, 104, 105]).1) Ae2 ce3 Ap4 cp5⟩), (13, .int .i64 ((oDec [1, 3, 104, 105]).2))]) (C := []) ha 3 [] rfl (by kernel_rfl) .nil ?_
  clear ha a; intro a ha
  refine lnew ha rfl (by kernel_rfl) ⟨.int .i64 0 :: (.string (S []) :: (.slice none 0 0 :: ((idc idZ) ++ (.slice none 0 0 :: (.int .u32 0 :: (.string (S []) :: ((idc idZ) ++ (.int .i64 0 :: ([.string (S [])])))))))))⟩ 54 (by kernel_rfl) ?_
  clear ha a; intro bd w9 he hb_bd hB_bd a ha
  replace hoe6 := ownE he hoe6
  replace hop7 := ownE he hop7
  replace hb_bd := Nat.le_trans hx.size hb_bd
  replace hx := hx.tr he
  clear he
  refine lstore (off := 0) ha rfl rfl (by kernel_rfl) hB_bd ⟨objC ((oDec [1, 3, 104, 105]).1) Ae2 ce3 Ap4 cp5⟩ rfl (by kernel_rfl) (by kernel_rfl) ?_
  clear ha a; intro w10 hc a ha
  replace hoe6 := ownC hc hB_bd rfl hoe6
  replace hop7 := ownC hc hB_bd rfl hop7
  replace hx := hc.ext hx hb_bd
  replace hB_bd := hc.at_; clear hc
  refine segp (ρ' := [(1, .string (S q.1)), (2, .int .i64 q.2), (4, .int .i64 ((oDec [1, 3, 104, 105]).2))]) (C := []) ha 1 [] rfl (by kernel_rfl) .nil ?_
  clear ha a; intro a ha
  refine lnil ?_
  replace ha := ha.sub (ρ' := [(1, .string (S q.1)), (2, .int .i64 q.2), (4, .int .i64 ((oDec [1, 3, 104, 105]).2))]) (by kernel_rfl)
  refine tn ?_
  refine wseq ?_
  refine reg hmix (ρ' := [(0, .bool ((((((decide ((q.1 : List UInt8) = ([1, 2, 104, 105] : List UInt8))) && (decide ((q.2 : Int) = 0))) && (decide (((oDec [1, 3, 104, 105]).2 : Int) = 2))) && (!(oName [97, 47, 98]))) && (!(oName []))) && (oName [97])))]) (C := [(((decide ((q.1 : List UInt8) = ([1, 2, 104, 105] : List UInt8))) && (decide ((q.2 : Int) = 0))) && (decide (((oDec [1, 3, 104, 105]).2 : Int) = 2))) = true → All [CallOk Tryd.prog w10 51 #[.string (S [97, 47, 98])] (.bool (oName [97, 47, 98]))], ((((decide ((q.1 : List UInt8) = ([1, 2, 104, 105] : List UInt8))) && (decide ((q.2 : Int) = 0))) && (decide (((oDec [1, 3, 104, 105]).2 : Int) = 2))) && (!(oName [97, 47, 98]))) = true → All [CallOk Tryd.prog w10 51 #[.string (S [])] (.bool (oName []))], (((((decide ((q.1 : List UInt8) = ([1, 2, 104, 105] : List UInt8))) && (decide ((q.2 : Int) = 0))) && (decide (((oDec [1, 3, 104, 105]).2 : Int) = 2))) && (!(oName [97, 47, 98]))) && (!(oName []))) = true → All [CallOk Tryd.prog w10 51 #[.string (S [97])] (.bool (oName [97]))]]) ha [(11, .val (.bool (oName [97, 47, 98]))), (15, .val (.bool (oName []))), (19, .val (.bool (oName [97])))] (by kernel_rfl) (.cons (fun hg11 => by simp only [Bool.not_eq_true', Bool.not_eq_false', Bool.and_eq_true, Bool.or_eq_true, Bool.and_eq_false_iff, Bool.or_eq_false_iff, decide_eq_true_eq, decide_eq_false_iff_not, Bool.not_eq_true, Decidable.not_not] at hg11; exact (.cons (fun w _ => name_ok _ w (by first | omega | (simp; done))) .nil)) (.cons (fun hg15 => by simp only [Bool.not_eq_true', Bool.not_eq_false', Bool.and_eq_true, Bool.or_eq_true, Bool.and_eq_false_iff, Bool.or_eq_false_iff, decide_eq_true_eq, decide_eq_false_iff_not, Bool.not_eq_true, Decidable.not_not] at hg15; exact (.cons (fun w _ => name_ok _ w (by first | omega | (simp; done))) .nil)) (.cons (fun hg19 => by simp only [Bool.not_eq_true', Bool.not_eq_false', Bool.and_eq_true, Bool.or_eq_true, Bool.and_eq_false_iff, Bool.or_eq_false_iff, decide_eq_true_eq, decide_eq_false_iff_not, Bool.not_eq_true, Decidable.not_not] at hg19; exact (.cons (fun w _ => name_ok _ w (by first | omega | (simp; done))) .nil)) .nil))) ?_
  clear ha a; intro a w11 ha he
  replace hx := hx.tr he
  replace hB_bd := keepB he hB_bd
  replace hoe6 := ownE he hoe6
  replace hop7 := ownE he hop7
  clear he
  refine tn ?_
  refine wret ?_
  refine fin ha (.tmp rfl .nil) ?_
  refine ⟨congrArg Value.bool ?_, hx⟩
  rw [hq]
  decide +kernel
end Go.Kn
end
