import Derived.Test.YtihmegmambmljaaDoorCb
set_option linter.unusedSimpArgs false
set_option linter.unusedVariables false
set_option maxRecDepth 100000
namespace Go.Kn
open Go.Proofs
theorem del_okF (l1 l2 : List (List UInt8)) (A1 A2 : Option Addr) (c1 c2 b2 b3 kb T : Nat) (w0 w : World) (hx : Ext w0 w) (hkb : w0.heap.size ≤ kb) (hn2 : b2 ≠ kb) (hn3 : b3 ≠ kb)
    (hb2 : w.cell? ⟨b2, 0, none⟩ = some (.slice A1 l1.length c1)) (hb3 : w.cell? ⟨b3, 0, none⟩ = some (.slice A2 l2.length c2))
    (r1 : Rd w0 1 A1 l1.length (l1.flatMap encS)) (r2 : Rd w0 1 A2 l2.length (l2.flatMap encS)) (hl1 : l1.length ≤ 9223372036854775807) (hl2 : l2.length ≤ 9223372036854775807)
    (hK : w.heap[kb]? = some (.cells ⟨known5.map fun t => .string (S t)⟩ T (0, 0))) :
    Fn Tryd.prog 44 #[.slice (some ⟨kb, 0, none⟩) 5 5, (.func (.func 45) #[] #[.pointer (some ⟨b2, 0, none⟩), .pointer (some ⟨b3, 0, none⟩)])] w fun v w' =>
      v = .slice (some ⟨kb, 0, none⟩) (cChosen l1 l2).length 5 ∧ Rd w' 1 (some ⟨kb, 0, none⟩) (cChosen l1 l2).length ((cChosen l1 l2).flatMap encS) ∧ Ext w0 w' :=
  Calls.mono (del_ok l1 l2 A1 A2 c1 c2 b2 b3 kb T w0 w hx hkb hn2 hn3 hb2 hb3 r1 r2 hl1 hl2 hK) fun e w' ⟨h1, h2, h3⟩ => ⟨_, h1, rfl, h2, h3⟩
theorem known_ok (w : World) :
    Fn Tryd.prog 43 #[] w (fun v w' => ∃ kb, v = .slice (some ⟨kb, 0, none⟩) 5 5 ∧ w.heap.size ≤ kb ∧ w'.heap[kb]? = some (.cells ⟨known5.map fun t => .string (S t)⟩ 9 (0, 0)) ∧ Ext w w') := by
  have hx : Ext w w := Ext.rfl' w
  refine enter (N := 2) (args := []) Tryd.func43 rfl rfl rfl ?_
  intro a ha
  simp only [argEnv, Nat.zero_add, Nat.reduceAdd] at ha
  refine wseq ?_
  refine regp (ρ' := []) (C := []) ha [] (by kernel_rfl) .nil ?_
  clear ha a; intro a ha
  refine tn ?_
  refine wseq ?_
  refine reg_list ?_
  refine lnewS ha rfl (by kernel_rfl) #[.string (S [97, 116, 111, 109, 105, 99]), .string (S [98, 97, 110, 100]), .string (S [100, 101, 101, 112, 101, 110]), .string (S [111, 102, 115]), .string (S [116, 104, 105, 110])] 9 5 (by kernel_rfl) ?_
  clear ha a; intro kb w1 he hb_kb hB_kb a ha
  replace hb_kb := Nat.le_trans hx.size hb_kb
  replace hx := hx.tr he
  clear he
  refine segp (ρ' := [(0, .slice (some ⟨kb, 0, none⟩) 5 5)]) (C := []) ha 1 [] rfl (by kernel_rfl) .nil ?_
  clear ha a; intro a ha
  refine lnil ?_
  replace ha := ha.sub (ρ' := [(0, .slice (some ⟨kb, 0, none⟩) 5 5)]) (by kernel_rfl)
  refine tn ?_
  refine wret ?_
  refine fin ha (.tmp rfl .nil) ?_
  exact ⟨kb, rfl, hb_kb, hB_kb, hx⟩
theorem choose_ok (A1 A2 : Option Addr) (c1 c2 : Nat) (l1 l2 : List (List UInt8)) (w : World) (hr1 : Rd w 1 A1 l1.length (l1.flatMap encS)) (hr2 : Rd w 1 A2 l2.length (l2.flatMap encS)) (hl1 : l1.length ≤ 9223372036854775807) (hl2 : l2.length ≤ 9223372036854775807) :
    Fn Tryd.prog 20 #[.slice A1 l1.length c1, .slice A2 l2.length c2] w (fun v w' => ∃ A c, v = .slice A (cChosen l1 l2).length c ∧ Rd w' 1 A (cChosen l1 l2).length ((cChosen l1 l2).flatMap encS) ∧ Ext w w') := by
  have hx : Ext w w := Ext.rfl' w
  refine enter (N := 8) (args := [.slice A1 l1.length c1, .slice A2 l2.length c2]) Tryd.func20 rfl rfl rfl ?_
  intro a ha
  simp only [argEnv, Nat.zero_add, Nat.reduceAdd] at ha
  refine wseq ?_
  refine reg_list ?_
  refine lnew ha rfl (by kernel_rfl) #[.slice A1 l1.length c1] 29 (by kernel_rfl) ?_
  clear ha a; intro b2 w1 he hb_b2 hB_b2 a ha
  replace hb_b2 := Nat.le_trans hx.size hb_b2
  replace hx := hx.tr he
  clear he
  refine lnew ha rfl (by kernel_rfl) #[.slice A2 l2.length c2] 29 (by kernel_rfl) ?_
  clear ha a; intro b3 w2 he hb_b3 hB_b3 a ha
  have hne_b2_b3 : b2 ≠ b3 := ne_new hB_b2 hb_b3
  replace hB_b2 := keepB he hB_b2
  replace hb_b3 := Nat.le_trans hx.size hb_b3
  replace hx := hx.tr he
  clear he
  refine segp (ρ' := [(2, .pointer (some ⟨b2, 0, none⟩)), (3, .pointer (some ⟨b3, 0, none⟩))]) (C := []) ha 1 [] rfl (by kernel_rfl) .nil ?_
  clear ha a; intro a ha
  refine lnil ?_
  replace ha := ha.sub (ρ' := [(2, .pointer (some ⟨b2, 0, none⟩)), (3, .pointer (some ⟨b3, 0, none⟩))]) (by kernel_rfl)
  refine tn ?_
  refine wseq ?_
  refine reg_list ?_
  refine lcall (vs := #[]) ha rfl (by kernel_rfl) rfl rfl (by kernel_rfl) (by kernel_rfl) (known_ok _) ?_
  clear ha a; rintro _ w3 ⟨kb, rfl, hb_kb, hB_kb, he⟩ a ha
  have hne_b2_kb : b2 ≠ kb := ne_new hB_b2 hb_kb
  have hne_b3_kb : b3 ≠ kb := ne_new hB_b3 hb_kb
  replace hB_b2 := keepB he hB_b2
  replace hB_b3 := keepB he hB_b3
  replace hb_kb := Nat.le_trans hx.size hb_kb
  replace hx := hx.tr he
  clear he
  refine lrun (v := (.func (.func 45) #[] #[.pointer (some ⟨b2, 0, none⟩), .pointer (some ⟨b3, 0, none⟩)])) (w' := w3) ha rfl (by kernel_rfl) (by first | rfl | kernel_rfl) ?_
  clear ha a; intro a ha
  refine lcall (vs := #[.slice (some ⟨kb, 0, none⟩) 5 5, (.func (.func 45) #[] #[.pointer (some ⟨b2, 0, none⟩), .pointer (some ⟨b3, 0, none⟩)])]) ha rfl (by kernel_rfl) rfl rfl (by kernel_rfl) (by kernel_rfl) (del_okF l1 l2 A1 A2 c1 c2 b2 b3 kb _ w w3 hx hb_kb hne_b2_kb hne_b3_kb (by simp [World.cell?, hB_b2]) (by simp [World.cell?, hB_b3]) hr1 hr2 hl1 hl2 hB_kb) ?_
  clear ha a hx hB_b2 hB_b3 hB_kb; rintro _ w4 ⟨rfl, hrk, hx⟩ a ha
  refine segp (ρ' := [(4, .slice (some ⟨kb, 0, none⟩) ((cChosen l1 l2).length) 5)]) (C := []) ha 1 [] rfl (by kernel_rfl) .nil ?_
  clear ha a; intro a ha
  refine lnil ?_
  replace ha := ha.sub (ρ' := [(4, .slice (some ⟨kb, 0, none⟩) ((cChosen l1 l2).length) 5)]) (by kernel_rfl)
  refine tn ?_
  refine wret ?_
  refine fin ha (.tmp rfl .nil) ?_
  exact ⟨_, _, rfl, hrk, hx⟩
end Go.Kn
