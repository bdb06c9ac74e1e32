/- caps.Choose's deletion: the shelf's contract at the five words. -/
import Derived.Test.YtihmegmambmljaaDoorCa
import Derived.Lib.OwnBridge
set_option linter.unusedSimpArgs false
set_option linter.unusedVariables false
set_option maxRecDepth 100000
namespace Go.Kn
open Go.Proofs Go.Shelf Go.RowKit Go.Lib Go.Sort
def known5 : List (List UInt8) := [[97, 116, 111, 109, 105, 99], [98, 97, 110, 100], [100, 101, 101, 112, 101, 110], [111, 102, 115], [116, 104, 105, 110]]
/-- the words of the five that are in both lists -/
def cChosen (l1 l2 : List (List UInt8)) : List (List UInt8) := known5.filter fun t => decide (t ∈ l1) && decide (t ∈ l2)
theorem cell_sort {w : World} {kb n : Nat} {dk : Array ByteArray} {os : Array Obj} {a : Addr} {v : Value} (hv : w.cell? a = some v) (hne : a.block ≠ kb) : (sortWorld Value.string w kb 0 n dk os).cell? a = some v := by
  unfold sortWorld
  rw [cell?_grow _ _ _ (by rw [size_putRow]; exact blk_lt hv), cell?_putRow_other _ _ _ _ _ _ (Or.inl hne)]
  exact hv
theorem del_ok (l1 l2 : List (List UInt8)) (A1 A2 : Option Addr) (c1 c2 b2 b3 kb T : Nat) (w0 w : World) (hx : Ext w0 w) (hkb : w0.heap.size ≤ kb) (hn2 : b2 ≠ kb) (hn3 : b3 ≠ kb)
    (hb2 : w.cell? ⟨b2, 0, none⟩ = some (.slice A1 l1.length c1)) (hb3 : w.cell? ⟨b3, 0, none⟩ = some (.slice A2 l2.length c2))
    (r1 : Rd w0 1 A1 l1.length (l1.flatMap encS)) (r2 : Rd w0 1 A2 l2.length (l2.flatMap encS)) (hl1 : l1.length ≤ 9223372036854775807) (hl2 : l2.length ≤ 9223372036854775807)
    (hK : w.heap[kb]? = some (.cells ⟨known5.map fun t => .string (S t)⟩ T (0, 0))) :
    Calls Tryd.prog 44 #[.slice (some ⟨kb, 0, none⟩) 5 5, .func (.func 45) #[] #[.pointer (some ⟨b2, 0, none⟩), .pointer (some ⟨b3, 0, none⟩)]] w fun e w' =>
      e = .returned (.slice (some ⟨kb, 0, none⟩) (cChosen l1 l2).length 5) ∧ Rd w' 1 (some ⟨kb, 0, none⟩) (cChosen l1 l2).length ((cChosen l1 l2).flatMap encS) ∧ Ext w0 w' := by
  have q1 := rdE hx r1
  have q2 := rdE hx r2
  have hp : PredAt Tryd.prog 45 #[.pointer (some ⟨b2, 0, none⟩), .pointer (some ⟨b3, 0, none⟩)] Value.string (fun x : ByteArray => !decide (x.data.toList ∈ l1) || !decide (x.data.toList ∈ l2)) w := fun W x hb =>
    choose1_ok l1 l2 A1 A2 c1 c2 b2 b3 x W ((hb.cell (p := ⟨b2, 0, none⟩) (blk_lt hb2)).trans hb2) ((hb.cell (p := ⟨b3, 0, none⟩) (blk_lt hb3)).trans hb3) (rdE hb q1) (rdE hb q2) hl1 hl2
  have hpo : PredOver Tryd.prog 45 #[.pointer (some ⟨b2, 0, none⟩), .pointer (some ⟨b3, 0, none⟩)] Value.string (fun x : ByteArray => !decide (x.data.toList ∈ l1) || !decide (x.data.toList ∈ l2)) kb 0 5 w := fun n os dk x _ =>
    choose1_ok l1 l2 A1 A2 c1 c2 b2 b3 x _ (cell_sort hb2 hn2) (cell_sort hb3 hn3)
      ⟨r1.len, r1.addr, fun j v hj => cell_sort (q1.cell j v hj) (Nat.ne_of_lt (Nat.lt_of_lt_of_le (blk_lt (r1.cell j v hj)) hkb))⟩
      ⟨r2.len, r2.addr, fun j v hj => cell_sort (q2.cell j v hj) (Nat.ne_of_lt (Nat.lt_of_lt_of_le (blk_lt (r2.cell j v hj)) hkb))⟩ hl1 hl2
  have hH : ∀ q, Holds Value.string (Sort.ahead w q) kb 0 (known5.map S).toArray := fun q j hj => by
    have hj5 : j < 5 := hj
    have : j = 0 ∨ j = 1 ∨ j = 2 ∨ j = 3 ∨ j = 4 := by omega
    rcases this with rfl | rfl | rfl | rfl | rfl <;> exact ⟨by simp [World.cell?, Sort.ahead, hK, known5], by simp [World.frozen?, Sort.ahead, hK]⟩
  have eg : ∀ args w, (callFunc 45 args).run Tryd.prog w = .ok (.enter 45 args) w := enters_of Tryd.func45 (by kernel_rfl) rfl
  have hcon := AnyE.slices_DeleteFunc laysHd Value.string (fun _ => rfl) _ 45 #[.pointer (some ⟨b2, 0, none⟩), .pointer (some ⟨b3, 0, none⟩)] eg ByteArray.empty (fun w => by kernel_rfl) kb 0 5 (known5.map S).toArray w hp hpo (hH 0) (by decide) (by decide)
  change Calls Tryd.prog 44 _ _ _ at hcon
  have hf : ((known5.map S).toArray.toList.filter fun x => !(!decide (x.data.toList ∈ l1) || !decide (x.data.toList ∈ l2))) = (cChosen l1 l2).map S := by
    show (known5.map S).filter _ = _
    rw [List.filter_map]
    unfold cChosen
    congr 1
    refine List.filter_congr fun t _ => ?_
    simp [Function.comp, S_list]
  rw [hf, List.length_map] at hcon
  have hm : (cChosen l1 l2).length ≤ 5 := by
    have := List.length_filter_le (fun t => decide (t ∈ l1) && decide (t ∈ l2)) known5
    exact this
  refine Calls.mono hcon ?_
  rintro e w' ⟨rfl, q, rfl⟩
  refine ⟨rfl, ?_, below_putRow hx hkb⟩
  generalize cChosen l1 l2 = ch at *
  refine ⟨by rw [encS_flat]; simp, fun _ => rfl, fun j v hj => ?_⟩
  have hjl : j < ch.length := by
    have := (List.getElem?_eq_some_iff.1 hj).1
    rw [encS_flat, List.length_map] at this; exact this
  have hsz : ((ch.map S ++ List.replicate ((known5.map S).toArray.size - ch.length) ByteArray.empty).toArray).size = (known5.map S).toArray.size := by
    have : (known5.map S).toArray.size = 5 := rfl
    rw [this]; simp; omega
  have h := cell?_putRow Value.string (Sort.ahead w q) kb 0 (known5.map S).toArray _ (hH q) hsz j (by rw [hsz]; exact Nat.lt_of_lt_of_le hjl hm)
  refine h.trans ?_
  rw [← hj, encS_flat, List.getElem?_map, List.getElem?_eq_getElem hjl]
  simp [List.getElem?_append_left, hjl, getElem!_pos]
end Go.Kn
