import Derived.Test.YtihmegmambmljaaDoorOd03
import Derived.Test.YtihmegmambmljaaDoorProg
section
/- The document's decoding is the program's: plain. -/
set_option linter.unusedVariables false
namespace Go.Kn
theorem gCom_time (t : List UInt8) : (gCom t).Time < 4294967296 := Nat.mod_lt _ (by omega)
theorem gGuess_time (s : List UInt8) : (gGuess s).Time < 4294967296 := by
  have := gCom_time (rTake (s.drop 1)).1
  unfold gGuess gBody
  generalize gCom (rTake (s.drop 1)).1 = c at *
  repeat' split
  all_goals first | exact this | (show (0 : Nat) < 4294967296; omega)
theorem gGuess_ents (s : List UInt8) : (gGuess s).Entries = [] ∨ (gGuess s).Entries = gEnts 65 (rTake (s.drop 1)).1 := by
  unfold gGuess gBody
  repeat' split
  all_goals first | exact .inr rfl | exact .inl rfl
theorem gGuess_rest (s : List UInt8) : (gGuess s).Parents.length ≤ 9 ∧ (gGuess s).Data.length ≤ s.length ∧ (gGuess s).Text.length ≤ s.length ∧ (gGuess s).Name.length ≤ s.length ∧ (0 ≤ (gGuess s).Kind ∧ (gGuess s).Kind < 256) ∧ (0 ≤ (gGuess s).Of ∧ (gGuess s).Of < 256) := by
  have h1 := (rTake_le (s.drop 1)).1
  rw [List.length_drop] at h1
  have h2 : (s.getD 0 0).toNat < 256 := UInt8.toNat_lt _
  generalize ht : (rTake (s.drop 1)).1 = t at *
  have h3 : 0 ≤ gOf t ∧ gOf t < 256 := by
    have : (t.getD 0 0).toNat < 256 := UInt8.toNat_lt _
    unfold gOf; split <;> omega
  have h4 : (gCom t).Parents.length ≤ 9 ∧ (gCom t).Text.length ≤ t.length := by
    unfold gCom
    simp only
    generalize hu : (List.drop 32 t).drop (rGet (t.drop 32)).2 = u
    have hul : u.length ≤ t.length := by rw [← hu]; simp only [List.length_drop]; omega
    have g := gIds_len (min (rGet (t.drop 32)).1 9) u
    have k := (rTake_le ((gIds (min (rGet (t.drop 32)).1 9) u).2.drop (rGet (gIds (min (rGet (t.drop 32)).1 9) u).2).2)).1
    rw [List.length_drop] at k
    omega
  have h5 := (rTake_le ((t.drop 1).drop 32)).1
  simp only [List.length_drop] at h5
  unfold gGuess gBody
  rw [ht]
  repeat' split
  all_goals simp only [obj0, List.length_nil]
  all_goals omega
theorem gGuess_ok {s : List UInt8} (hs : s.length ≤ 1000000) : ObjOk (gGuess s) := by
  obtain ⟨h1, h2, h3, h4, h5, h6⟩ := gGuess_rest s
  have h7 := gGuess_time s
  have h8 : (gGuess s).Entries.length ≤ 65 ∧ ∀ e ∈ (gGuess s).Entries, e.Name.length ≤ 1000000 ∧ 0 ≤ e.Kind ∧ e.Kind < 256 := by
    rcases gGuess_ents s with h | h
    · rw [h]; simp
    · rw [h]
      refine ⟨gEnts_len _ _, fun e he => ?_⟩
      have := gEnts_ok _ _ e he
      have hl := (rTake_le (s.drop 1)).1
      rw [List.length_drop] at hl
      omega
  have h9 : ∀ i, i < (gGuess s).Entries.length → ((gGuess s).Entries.getD i default).Name.length ≤ 1000000 ∧ 0 ≤ ((gGuess s).Entries.getD i default).Kind ∧ ((gGuess s).Entries.getD i default).Kind < 256 := fun i hi => by
    rw [List.getD_eq_getElem?_getD, List.getElem?_eq_getElem hi]
    exact h8.2 _ (List.getElem_mem hi)
  constructor
  all_goals first | (unfold InR; omega) | omega | (intro i hi; have := h9 i hi; first | omega | (unfold InR; omega))
theorem gGuess_few {s : List UInt8} (hs : s.length ≤ 5000) (hm : oMay (gGuess s) = true) : FewOk (gGuess s) := by
  obtain ⟨h1, h2, h3, h4, h5, h6⟩ := gGuess_rest s
  rw [oMay_iff] at hm
  obtain ⟨k, d, e, c, t, n, l1, l2, l3⟩ := hm
  have hn : (gGuess s).Name.length ≤ 100 := by
    by_cases h : (gGuess s).Kind = 4
    · have := oName_len (n h).2; omega
    · rw [(t h).2.2]; simp
  constructor
  · omega
  · omega
  · omega
  · omega
  · exact hn
  · intro i hi
    have := ents_spec l3 _ (List.getElem_mem hi)
    rw [List.getD_eq_getElem?_getD, List.getElem?_eq_getElem hi]
    show ((gGuess s).Entries[i]).Name.length ≤ 100
    omega
theorem oDec_bad {s : List UInt8} (h : (oDec s).2 ≠ 0) : oDec s = (obj0, 2) := by
  unfold oDec at h ⊢
  split at h
  · rename_i h1; rw [if_pos h1]
  · rename_i h1
    rw [if_neg h1]
    split at h
    · rename_i h2; rw [if_pos h2]
    · rename_i h2
      rw [if_neg h2]
      simp only at h ⊢
      split at h
      · rename_i h3; rw [if_pos h3]
      · exact absurd rfl h
theorem rdec_yes {s : List UInt8} (h1 : (rEnc (gGuess s)).2 = true) (h2 : (rEnc (gGuess s)).1 = s) : oDec s = (gGuess s, 0) := by
  rw [enc_same] at h1 h2
  simp only [decide_eq_true_eq] at h1 h2
  have := (dec_enc (gGuess_time s) h1).1
  rwa [h2] at this
theorem rdec_no {s : List UInt8} (h : (rEnc (gGuess s)).2 = false ∨ (rEnc (gGuess s)).1 ≠ s) : oDec s = (obj0, 2) := by
  by_cases h0 : (oDec s).2 = 0
  · exfalso
    obtain ⟨hm, hs, hl⟩ := oDec_may h0
    have he := enc_dec h0
    have hg : gGuess s = (oDec s).1 := by
      conv => lhs; rw [hs]
      exact gGuess_put hm (by rw [← hs]; exact hl) (oDec_ok s).time
    rw [hg, enc_same, he] at h
    rcases h with h | h
    · simp at h
    · exact h rfl
  · exact oDec_bad h0
theorem rdec_nil : oDec [] = (obj0, 2) := rfl
end Go.Kn
end
section
set_option linter.unusedSimpArgs false
set_option linter.unusedVariables false
set_option maxRecDepth 100000
namespace Go.Kn
open Go.Proofs
theorem hmix : Tryd.prog.follows .mixedOrders = true := by kernel_rfl
theorem get_ok (l : List UInt8) (w : World) (hl : l.length ≤ 9223372036854775807) :
    Fn Tryd.prog 77 #[.string (S l)] w (fun x w' => x = .tuple #[.int .u64 (((vget l).1 : Nat) : Int), .string (S ((vget l).2.1)), .int .i64 (((vget l).2.2 : Nat) : Int)] ∧ Ext w w') := by
  have hx : Ext w w := Ext.rfl' w
  refine enter (N := 45) (args := [.string (S l)]) Tryd.func77 rfl rfl rfl ?_
  intro a ha
  simp only [argEnv, Nat.zero_add, Nat.reduceAdd] at ha
  refine wseq ?_
  refine regp (ρ' := [(0, .string (S l))]) (C := []) ha [] (by kernel_rfl) .nil ?_
  clear ha a; intro a ha
  refine tn ?_
  refine wseq ?_
  refine regp (ρ' := [(0, .string (S l)), (5, .int .u64 0)]) (C := []) ha [] (by kernel_rfl) .nil ?_
  clear ha a; intro a ha
  refine tn ?_
  refine wcut (fun a w1 => On 45 [] a ∧ Ext w w1 ∧ (vget l = (0, [], 2))) ?_ ?_
  ·
    refine wseq ?_
    refine regp (ρ' := [(0, .string (S l)), (5, .int .u64 0), (10, .int .i64 (if (10 : Int) < ((l.length : Nat) : Int) then 10 else ((l.length : Nat) : Int))), (11, .int .i64 0)]) (C := []) ha [] (by kernel_rfl) .nil ?_
    clear ha a; intro a ha
    rw [show ((if (10 : Int) < ((l.length : Nat) : Int) then 10 else ((l.length : Nat) : Int)) : Int) = ((min l.length 10 : Nat) : Int) from by split <;> omega] at ha
    refine tn ?_
    refine wblk ?_
    refine wloop (fun zz a w2 => ∃ (k n : Nat), zz = 10 - k ∧ On 45 [(0, .string (S l)), (5, .int .u64 ((n : Nat) : Int)), (10, .int .i64 ((min l.length 10 : Nat) : Int)), (11, .int .i64 ((k : Nat) : Int))] a ∧ Ext w w2 ∧ (k ≤ l.length) ∧ (k ≤ 10) ∧ (n < 2 ^ (7 * k)) ∧ (vget l = vgo (l.drop k) k n)) _ ⟨0, 0, rfl, ha.sub (ρ' := [(0, .string (S l)), (5, .int .u64 ((0 : Nat) : Int)), (10, .int .i64 ((min l.length 10 : Nat) : Int)), (11, .int .i64 ((0 : Nat) : Int))]) (by kernel_rfl), hx, by omega, by omega, by decide, rfl⟩ ?_
    clear ha hx
    rintro zz a w3 ⟨k, n, hzz, ha, hx, hk, hk10, hn, hv⟩
    refine wseq ?_
    refine regp (ρ' := [(0, .string (S l)), (5, .int .u64 ((n : Nat) : Int)), (10, .int .i64 ((min l.length 10 : Nat) : Int)), (11, .int .i64 ((k : Nat) : Int)), (12, .bool (decide (((k : Nat) : Int) < ((min l.length 10 : Nat) : Int))))]) (C := []) ha [] (by kernel_rfl) .nil ?_
    clear ha a; intro a ha
    refine tn ?_
    refine wseq ?_
    refine wif ha rfl (fun h12 => ?_) (fun h12 => ?_)
    · replace h12 := of_decide_eq_true h12
      have hk1 : k < l.length := by omega
      have hk2 : k < 10 := by omega
      rw [drop_cons l k hk1] at hv
      have hcb : (l.getD k 0).toNat < 256 := UInt8.toNat_lt _
      refine wskip ?_
      refine tn ?_
      refine wseq ?_
      refine wblk ?_
      refine wseq ?_
      refine regp (ρ' := [(0, .string (S l)), (5, .int .u64 ((n : Nat) : Int)), (6, .int .i64 ((k : Nat) : Int)), (10, .int .i64 ((min l.length 10 : Nat) : Int)), (11, .int .i64 ((k : Nat) : Int))]) (C := []) ha [] (by kernel_rfl) .nil ?_
      clear ha a; intro a ha
      refine tn ?_
      refine wseq ?_
      refine regp (ρ' := [(0, .string (S l)), (5, .int .u64 ((n : Nat) : Int)), (6, .int .i64 ((k : Nat) : Int)), (7, .int .u8 (((l.getD k 0).toNat : Nat) : Int)), (10, .int .i64 ((min l.length 10 : Nat) : Int)), (11, .int .i64 ((k : Nat) : Int))]) (C := [0 ≤ ((k : Nat) : Int) ∧ ((k : Nat) : Int) < (l.length : Int)]) ha [] (by kernel_rfl) (.cons ⟨by omega, by omega⟩ .nil) ?_
      clear ha a; intro a ha
      refine tn ?_
      refine wseq ?_
      refine wseq ?_
      refine regp (ρ' := [(0, .string (S l)), (5, .int .u64 ((n : Nat) : Int)), (6, .int .i64 ((k : Nat) : Int)), (7, .int .u8 (((l.getD k 0).toNat : Nat) : Int)), (10, .int .i64 ((min l.length 10 : Nat) : Int)), (11, .int .i64 ((k : Nat) : Int)), (22, .bool ((decide (((k : Nat) : Int) = 9)) && (decide ((1 : Int) < (((l.getD k 0).toNat : Nat) : Int)))))]) (C := []) ha [] (by kernel_rfl) .nil ?_
      clear ha a; intro a ha
      refine tn ?_
      refine wif ha rfl (fun h22 => ?_) (fun h22 => ?_)
      · simp only [Bool.not_eq_true', Bool.not_eq_false', Bool.and_eq_true, Bool.or_eq_true, Bool.and_eq_false_iff, Bool.or_eq_false_iff, decide_eq_true_eq, decide_eq_false_iff_not, Bool.not_eq_true, Decidable.not_not] at h22
        have hz : vget l = (0, [], 2) := by rw [hv, vgo, if_neg (by omega), if_pos (by omega)]
        refine wexit ?_
        refine (te (bx rfl (te (te (be ?_)))))
        exact tn ⟨ha.sub (ρ' := []) (by kernel_rfl), hx, hz⟩
      · simp only [Bool.not_eq_true', Bool.not_eq_false', Bool.and_eq_true, Bool.or_eq_true, Bool.and_eq_false_iff, Bool.or_eq_false_iff, decide_eq_true_eq, decide_eq_false_iff_not, Bool.not_eq_true, Decidable.not_not] at h22
        replace h22 : ¬ (k = 9 ∧ 1 < (l.getD k 0).toNat) := by omega
        refine wskip ?_
        refine tn ?_
        refine wseq ?_
        refine regp (ρ' := [(0, .string (S l)), (5, .int .u64 ((n ||| ((((((l.getD k 0).toNat) &&& 127 : Nat) : Int) * 2 ^ (min (7 * k) 64)) : Int).toNat : Nat) : Int)), (6, .int .i64 ((k : Nat) : Int)), (7, .int .u8 (((l.getD k 0).toNat : Nat) : Int)), (10, .int .i64 ((min l.length 10 : Nat) : Int)), (11, .int .i64 ((k : Nat) : Int))]) (C := [NN .u8 (((l.getD k 0).toNat : Nat) : Int), NN .u8 127, InR .u64 ((((l.getD k 0).toNat) &&& 127 : Nat) : Int), InR .i64 ((7 * k : Nat) : Int), 0 ≤ ((7 * k : Nat) : Int), InR .u64 (((((l.getD k 0).toNat) &&& 127 : Nat) : Int) * 2 ^ (min (7 * k) 64)), NN .u64 ((n : Nat) : Int), NN .u64 (((((l.getD k 0).toNat) &&& 127 : Nat) : Int) * 2 ^ (min (7 * k) 64))]) ha [] (by kernel_rfl) (.cons (by unfold NN InR; omega) (.cons (by unfold NN InR; omega) (.cons (by rw [and127]; unfold InR; omega) (.cons (by unfold InR; omega) (.cons (by omega) (.cons (vshl hk2 h22) (.cons (by have := vgo_63 hk2 hn; unfold NN InR; omega) (.cons (vshl' hk2 h22) .nil)))))))) ?_
        clear ha a; intro a ha
        rw [show (((n ||| ((((((l.getD k 0).toNat) &&& 127 : Nat) : Int) * 2 ^ (min (7 * k) 64)) : Int).toNat : Nat) : Int) : Int) = ((n + (l.getD k 0).toNat % 128 * 2 ^ (7 * k) : Nat) : Int) from vor hk2 hn] at ha
        refine tn ?_
        refine wseq ?_
        refine wseq ?_
        refine regp (ρ' := [(0, .string (S l)), (5, .int .u64 ((n + (l.getD k 0).toNat % 128 * 2 ^ (7 * k) : Nat) : Int)), (6, .int .i64 ((k : Nat) : Int)), (7, .int .u8 (((l.getD k 0).toNat : Nat) : Int)), (10, .int .i64 ((min l.length 10 : Nat) : Int)), (11, .int .i64 ((k : Nat) : Int)), (32, .bool (decide ((128 : Int) ≤ (((l.getD k 0).toNat : Nat) : Int))))]) (C := []) ha [] (by kernel_rfl) .nil ?_
        clear ha a; intro a ha
        refine tn ?_
        refine wif ha rfl (fun h32 => ?_) (fun h32 => ?_)
        · replace h32 := of_decide_eq_true h32
          refine wexit ?_
          refine (te (be ?_))
          refine tn ?_
          refine regp (ρ' := [(0, .string (S l)), (5, .int .u64 ((n + (l.getD k 0).toNat % 128 * 2 ^ (7 * k) : Nat) : Int)), (10, .int .i64 ((min l.length 10 : Nat) : Int)), (11, .int .i64 ((k + 1 : Nat) : Int))]) (C := [InR .i64 ((k + 1 : Nat) : Int)]) ha [] (by kernel_rfl) (.cons (by unfold InR; omega) .nil) ?_
          clear ha a; intro a ha
          exact tn ⟨10 - ((k + 1)), by omega, (k + 1), (n + (l.getD k 0).toNat % 128 * 2 ^ (7 * k)), rfl, ha.sub (ρ' := [(0, .string (S l)), (5, .int .u64 (((n + (l.getD k 0).toNat % 128 * 2 ^ (7 * k)) : Nat) : Int)), (10, .int .i64 ((min l.length 10 : Nat) : Int)), (11, .int .i64 (((k + 1) : Nat) : Int))]) (by kernel_rfl), hx, by omega, by omega, vgo_lt hn, by rw [hv, vgo, if_neg (by omega), if_neg h22, if_pos (by omega)]⟩
        · replace h32 := of_decide_eq_false h32
          refine wskip ?_
          refine tn ?_
          refine wseq ?_
          refine wseq ?_
          refine regp (ρ' := [(0, .string (S l)), (5, .int .u64 ((n + (l.getD k 0).toNat % 128 * 2 ^ (7 * k) : Nat) : Int)), (6, .int .i64 ((k : Nat) : Int)), (38, .bool ((decide ((((l.getD k 0).toNat : Nat) : Int) = 0)) && (decide ((0 : Int) < ((k : Nat) : Int)))))]) (C := []) ha [] (by kernel_rfl) .nil ?_
          clear ha a; intro a ha
          refine tn ?_
          refine wif ha rfl (fun h38 => ?_) (fun h38 => ?_)
          · simp only [Bool.not_eq_true', Bool.not_eq_false', Bool.and_eq_true, Bool.or_eq_true, Bool.and_eq_false_iff, Bool.or_eq_false_iff, decide_eq_true_eq, decide_eq_false_iff_not, Bool.not_eq_true, Decidable.not_not] at h38
            have hz : vget l = (0, [], 2) := by rw [hv, vgo, if_neg (by omega), if_neg h22, if_neg (by omega), if_pos (by omega)]
            refine wexit ?_
            refine (te (bx rfl (te (te (be ?_)))))
            exact tn ⟨ha.sub (ρ' := []) (by kernel_rfl), hx, hz⟩
          · simp only [Bool.not_eq_true', Bool.not_eq_false', Bool.and_eq_true, Bool.or_eq_true, Bool.and_eq_false_iff, Bool.or_eq_false_iff, decide_eq_true_eq, decide_eq_false_iff_not, Bool.not_eq_true, Decidable.not_not] at h38
            refine wskip ?_
            refine tn ?_
            refine wseq ?_
            refine reg hmix (ρ' := [(2, .int .u64 ((n + (l.getD k 0).toNat % 128 * 2 ^ (7 * k) : Nat) : Int)), (3, .string (S (l.drop (k + 1)))), (4, .int .i64 0)]) (C := [InR .i64 ((k + 1 : Nat) : Int), 0 ≤ ((k + 1 : Nat) : Int) ∧ ((k + 1 : Nat) : Int) ≤ (l.length : Int)]) ha [] (by kernel_rfl) (.cons (by unfold InR; omega) (.cons ⟨by omega, by omega⟩ .nil)) ?_
            clear ha a; intro a w4 ha he
            replace hx := hx.tr he
            clear he
            refine tn ?_
            refine wret ?_
            refine (br (tr (tr (br (tr ?_)))))
            refine fin ha (.tmp rfl (.tmp rfl (.tmp rfl .nil))) ?_
            refine ⟨?_, hx⟩
            rw [hv, vgo, if_neg (by omega), if_neg h22, if_neg (by omega), if_neg (by omega)]; rfl
    · replace h12 := of_decide_eq_false h12
      have hz : vget l = (0, [], 2) := by
        rcases Nat.lt_or_ge k l.length with h | h
        · rw [hv, drop_cons l k h, vgo, if_pos (by omega)]
        · rw [hv, List.drop_of_length_le h]; rfl
      refine wexit ?_
      refine (te (te (be ?_)))
      exact tn ⟨ha.sub (ρ' := []) (by kernel_rfl), hx, hz⟩
  clear ha hx
  rintro a w5 ⟨ha, hx, hz⟩
  refine wseq ?_
  refine regp (ρ' := [(2, .int .u64 0), (3, .string (S [])), (4, .int .i64 2)]) (C := []) ha [] (by kernel_rfl) .nil ?_
  clear ha a; intro a ha
  refine tn ?_
  refine wret ?_
  refine fin ha (.tmp rfl (.tmp rfl (.tmp rfl .nil))) ?_
  refine ⟨?_, hx⟩
  rw [hz]; rfl
end Go.Kn
end
section
set_option linter.unusedSimpArgs false
set_option linter.unusedVariables false
set_option maxRecDepth 100000
namespace Go.Kn
open Go.Proofs
end Go.Kn
end
section
set_option linter.unusedSimpArgs false
set_option linter.unusedVariables false
set_option maxRecDepth 100000
namespace Go.Kn
open Go.Proofs
theorem rget_ok (l : List UInt8) (w : World) (hl : l.length ≤ 9223372036854775807) :
    Fn Tryd.prog 89 #[.string (S l)] w (fun x w' => x = .tuple #[.int .u64 (((vget l).1 : Nat) : Int), .int .i64 ((vk l : Nat) : Int)] ∧ Ext w w') := by
  have hx : Ext w w := Ext.rfl' w
  refine enter (N := 64) (args := [.string (S l)]) Tryd.func89 rfl rfl rfl ?_
  intro a ha
  simp only [argEnv, Nat.zero_add, Nat.reduceAdd] at ha
  refine wseq ?_
  refine regp (ρ' := [(0, .string (S l))]) (C := []) ha [] (by kernel_rfl) .nil ?_
  clear ha a; intro a ha
  refine tn ?_
  refine wseq ?_
  refine regp (ρ' := [(0, .string (S l)), (4, .int .i64 0)]) (C := []) ha [] (by kernel_rfl) .nil ?_
  clear ha a; intro a ha
  refine tn ?_
  refine wseq ?_
  refine wblk ?_
  refine wloop (fun zz a w1 => ∃ (k : Nat), zz = 10 - k ∧ On 64 [(0, .string (S l)), (4, .int .i64 ((k : Nat) : Int))] a ∧ Ext w w1 ∧ (k ≤ l.length) ∧ (k ≤ 10) ∧ (vget l = vgo (l.drop k) k (sumv l k))) _ ⟨0, rfl, ha.sub (ρ' := [(0, .string (S l)), (4, .int .i64 ((0 : Nat) : Int))]) (by kernel_rfl), hx, by omega, by omega, rfl⟩ ?_
  clear ha hx
  rintro zz a w2 ⟨k, hzz, ha, hx, hk, hk10, hv⟩
  refine wseq ?_
  refine wseq ?_
  refine regp (ρ' := [(0, .string (S l)), (4, .int .i64 ((k : Nat) : Int)), (20, .bool (((decide (((k : Nat) : Int) < ((l.length : Nat) : Int))) && (decide (((k : Nat) : Int) < 10))) && (decide ((128 : Int) ≤ (((l.getD k 0).toNat : Nat) : Int)))))]) (C := [((decide (((k : Nat) : Int) < ((l.length : Nat) : Int))) && (decide (((k : Nat) : Int) < 10))) = true → All [0 ≤ ((k : Nat) : Int) ∧ ((k : Nat) : Int) < (l.length : Int)]]) ha [] (by kernel_rfl) (.cons (fun hg9 => by simp only [Bool.not_eq_true', Bool.not_eq_false', Bool.and_eq_true, Bool.or_eq_true, Bool.and_eq_false_iff, Bool.or_eq_false_iff, decide_eq_true_eq, decide_eq_false_iff_not, Bool.not_eq_true, Decidable.not_not] at hg9; exact (.cons ⟨by omega, by omega⟩ .nil)) .nil) ?_
  clear ha a; intro a ha
  refine tn ?_
  refine wif ha rfl (fun h20 => ?_) (fun h20 => ?_)
  · simp only [Bool.not_eq_true', Bool.not_eq_false', Bool.and_eq_true, Bool.or_eq_true, Bool.and_eq_false_iff, Bool.or_eq_false_iff, decide_eq_true_eq, decide_eq_false_iff_not, Bool.not_eq_true, Decidable.not_not] at h20
    refine wskip ?_
    refine tn ?_
    refine wblk ?_
    refine regp (ρ' := [(0, .string (S l)), (4, .int .i64 ((k + 1 : Nat) : Int))]) (C := [InR .i64 ((k + 1 : Nat) : Int)]) ha [] (by kernel_rfl) (.cons (by unfold InR; omega) .nil) ?_
    clear ha a; intro a ha
    refine bn ?_
    exact tn ⟨10 - ((k + 1)), by omega, (k + 1), rfl, ha.sub (ρ' := [(0, .string (S l)), (4, .int .i64 (((k + 1) : Nat) : Int))]) (by kernel_rfl), hx, by omega, by omega, by rw [hv, vstep (by omega) (by omega) (by omega)]; rfl⟩
  · simp only [Bool.not_eq_true', Bool.not_eq_false', Bool.and_eq_true, Bool.or_eq_true, Bool.and_eq_false_iff, Bool.or_eq_false_iff, decide_eq_true_eq, decide_eq_false_iff_not, Bool.not_eq_true, Decidable.not_not] at h20
    refine wexit ?_
    refine (te (te (be ?_)))
    refine tn ?_
    refine wseq ?_
    refine wseq ?_
    refine regp (ρ' := [(0, .string (S l)), (4, .int .i64 ((k : Nat) : Int)), (30, .bool ((decide (((l.length : Nat) : Int) ≤ ((k : Nat) : Int))) || (decide ((10 : Int) ≤ ((k : Nat) : Int)))))]) (C := []) ha [] (by kernel_rfl) .nil ?_
    clear ha a; intro a ha
    refine tn ?_
    refine wif ha rfl (fun h30 => ?_) (fun h30 => ?_)
    · simp only [Bool.not_eq_true', Bool.not_eq_false', Bool.and_eq_true, Bool.or_eq_true, Bool.and_eq_false_iff, Bool.or_eq_false_iff, decide_eq_true_eq, decide_eq_false_iff_not, Bool.not_eq_true, Decidable.not_not] at h30
      have hz : vget l = (0, [], 2) := by rw [hv, vstop (by omega)]
      refine wseq ?_
      refine regp (ρ' := [(2, .int .u64 0), (3, .int .i64 0)]) (C := []) ha [] (by kernel_rfl) .nil ?_
      clear ha a; intro a ha
      refine tn ?_
      refine wret ?_
      refine (tr ?_)
      refine fin ha (.tmp rfl (.tmp rfl .nil)) ?_
      exact ⟨by rw [hz, show vk l = 0 from (vk_zero l).2 (by rw [hz]; decide)]; rfl, hx⟩
    · simp only [Bool.not_eq_true', Bool.not_eq_false', Bool.and_eq_true, Bool.or_eq_true, Bool.and_eq_false_iff, Bool.or_eq_false_iff, decide_eq_true_eq, decide_eq_false_iff_not, Bool.not_eq_true, Decidable.not_not] at h30
      have h9 : k ≠ 9 ∨ (l.getD 9 0).toNat = (l.getD k 0).toNat := (Decidable.em (k = 9)).elim (fun h => .inr (by rw [h])) .inl
      have h128 : (l.getD k 0).toNat < 128 := by omega
      rw [vend (by omega) (by omega) h128] at hv
      refine wskip ?_
      refine tn ?_
      refine wseq ?_
      refine wseq ?_
      refine regp (ρ' := [(0, .string (S l)), (4, .int .i64 ((k : Nat) : Int)), (47, .bool (((decide (((k : Nat) : Int) = 9)) && (decide ((1 : Int) < (((l.getD 9 0).toNat : Nat) : Int)))) || ((decide ((0 : Int) < ((k : Nat) : Int))) && (decide ((((l.getD k 0).toNat : Nat) : Int) = 0)))))]) (C := [(decide (((k : Nat) : Int) = 9)) = true → All [0 ≤ (9 : Int) ∧ 9 < (l.length : Int)], ((decide (((k : Nat) : Int) = 9)) && (decide ((1 : Int) < (((l.getD 9 0).toNat : Nat) : Int)))) = false → All [(decide ((0 : Int) < ((k : Nat) : Int))) = true → All [0 ≤ ((k : Nat) : Int) ∧ ((k : Nat) : Int) < (l.length : Int)]]]) ha [] (by kernel_rfl) (.cons (fun hg3 => by replace hg3 := of_decide_eq_true hg3; exact (.cons ⟨by omega, by omega⟩ .nil)) (.cons (fun hg8 => by simp only [Bool.not_eq_true', Bool.not_eq_false', Bool.and_eq_true, Bool.or_eq_true, Bool.and_eq_false_iff, Bool.or_eq_false_iff, decide_eq_true_eq, decide_eq_false_iff_not, Bool.not_eq_true, Decidable.not_not] at hg8; exact (.cons (fun hg11 => by replace hg11 := of_decide_eq_true hg11; exact (.cons ⟨by omega, by omega⟩ .nil)) .nil)) .nil)) ?_
      clear ha a; intro a ha
      refine tn ?_
      refine wif ha rfl (fun h47 => ?_) (fun h47 => ?_)
      · simp only [Bool.not_eq_true', Bool.not_eq_false', Bool.and_eq_true, Bool.or_eq_true, Bool.and_eq_false_iff, Bool.or_eq_false_iff, decide_eq_true_eq, decide_eq_false_iff_not, Bool.not_eq_true, Decidable.not_not] at h47
        have hz : vget l = (0, [], 2) := by rw [hv, if_pos (by omega)]
        refine wseq ?_
        refine regp (ρ' := [(2, .int .u64 0), (3, .int .i64 0)]) (C := []) ha [] (by kernel_rfl) .nil ?_
        clear ha a; intro a ha
        refine tn ?_
        refine wret ?_
        refine (tr ?_)
        refine fin ha (.tmp rfl (.tmp rfl .nil)) ?_
        exact ⟨by rw [hz, show vk l = 0 from (vk_zero l).2 (by rw [hz]; decide)]; rfl, hx⟩
      · simp only [Bool.not_eq_true', Bool.not_eq_false', Bool.and_eq_true, Bool.or_eq_true, Bool.and_eq_false_iff, Bool.or_eq_false_iff, decide_eq_true_eq, decide_eq_false_iff_not, Bool.not_eq_true, Decidable.not_not] at h47
        have hv2 : vget l = (sumv l (k + 1), l.drop (k + 1), 0) := by rw [hv, if_neg (by omega)]; rfl
        have hlt : sumv l (k + 1) < 18446744073709551616 := by have := vget_lt l; rw [hv2] at this; exact this
        clear hv
        refine wskip ?_
        refine tn ?_
        refine wseq ?_
        refine regp (ρ' := [(0, .string (S l)), (4, .int .i64 ((k : Nat) : Int)), (5, .int .u64 0)]) (C := []) ha [] (by kernel_rfl) .nil ?_
        clear ha a; intro a ha
        refine tn ?_
        refine wseq ?_
        refine wseq ?_
        refine regp (ρ' := [(0, .string (S l)), (4, .int .i64 ((k : Nat) : Int)), (5, .int .u64 0), (6, .int .i64 ((k : Nat) : Int))]) (C := []) ha [] (by kernel_rfl) .nil ?_
        clear ha a; intro a ha
        refine tn ?_
        refine wblk ?_
        refine wloop (fun zz a w3 => ∃ (i n : Nat) (z : Int), zz = i ∧ On 64 [(0, .string (S l)), (4, .int .i64 ((k : Nat) : Int)), (5, .int .u64 ((n : Nat) : Int)), (6, .int .i64 z)] a ∧ Ext w w3 ∧ (z = (i : Int) - 1) ∧ (i ≤ k + 1) ∧ (sumv l (k + 1) = n * 2 ^ (7 * i) + sumv l i)) _ ⟨(k + 1), 0, ((k : Nat) : Int), rfl, ha.sub (ρ' := [(0, .string (S l)), (4, .int .i64 ((k : Nat) : Int)), (5, .int .u64 ((0 : Nat) : Int)), (6, .int .i64 ((k : Nat) : Int))]) (by kernel_rfl), hx, by omega, by omega, by simp⟩ ?_
        clear ha hx
        rintro zz a w4 ⟨i, n, z, hzz, ha, hx, hzi, hkq, hsum⟩
        refine wseq ?_
        refine wseq ?_
        refine regp (ρ' := [(0, .string (S l)), (4, .int .i64 ((k : Nat) : Int)), (5, .int .u64 ((n : Nat) : Int)), (6, .int .i64 z), (50, .bool (decide ((0 : Int) ≤ z)))]) (C := []) ha [] (by kernel_rfl) .nil ?_
        clear ha a; intro a ha
        refine tn ?_
        refine wif ha rfl (fun h50 => ?_) (fun h50 => ?_)
        · replace h50 := of_decide_eq_true h50
          obtain ⟨j, rfl⟩ : ∃ j, i = j + 1 := ⟨i - 1, by omega⟩
          obtain rfl : z = ((j : Nat) : Int) := by omega
          rw [sum_step] at hsum
          have hcb := getD_toNat_lt l j
          have hle := sum_le hsum
          refine wskip ?_
          refine tn ?_
          refine wseq ?_
          refine wblk ?_
          refine regp (ρ' := [(0, .string (S l)), (4, .int .i64 ((k : Nat) : Int)), (5, .int .u64 (((128 * n) + (((l.getD j 0).toNat) % 128) : Nat) : Int)), (6, .int .i64 ((j : Nat) : Int))]) (C := [InR .u64 ((128 * n : Nat) : Int), 0 ≤ ((j : Nat) : Int) ∧ ((j : Nat) : Int) < (l.length : Int), 0 ≤ (((l.getD j 0).toNat : Nat) : Int), 0 < (128 : Int), InR .u64 ((((l.getD j 0).toNat) % 128 : Nat) : Int), InR .u64 (((128 * n) + (((l.getD j 0).toNat) % 128) : Nat) : Int)]) ha [] (by kernel_rfl) (.cons (by unfold InR; omega) (.cons ⟨by omega, by omega⟩ (.cons (by omega) (.cons (by omega) (.cons (by unfold InR; omega) (.cons (by unfold InR; omega) .nil)))))) ?_
          clear ha a; intro a ha
          refine bn ?_
          refine tn ?_
          refine regp (ρ' := [(0, .string (S l)), (4, .int .i64 ((k : Nat) : Int)), (5, .int .u64 (((128 * n) + (((l.getD j 0).toNat) % 128) : Nat) : Int)), (6, .int .i64 (((j : Nat) : Int) - 1))]) (C := [InR .i64 (((j : Nat) : Int) - 1)]) ha [] (by kernel_rfl) (.cons (by unfold InR; omega) .nil) ?_
          clear ha a; intro a ha
          exact tn ⟨(j), by omega, j, (128 * n + (l.getD j 0).toNat % 128), (((j : Nat) : Int) - 1), rfl, ha.sub (ρ' := [(0, .string (S l)), (4, .int .i64 ((k : Nat) : Int)), (5, .int .u64 (((128 * n + (l.getD j 0).toNat % 128) : Nat) : Int)), (6, .int .i64 (((j : Nat) : Int) - 1))]) (by kernel_rfl), hx, by omega, by omega, hsum⟩
        · replace h50 := of_decide_eq_false h50
          obtain rfl : i = 0 := by omega
          simp only [Nat.mul_zero, Nat.pow_zero, Nat.mul_one, sumv, Nat.add_zero] at hsum
          refine wexit ?_
          refine (te (te (be ?_)))
          refine tn ?_
          refine wseq ?_
          refine regp (ρ' := [(2, .int .u64 ((n : Nat) : Int)), (3, .int .i64 ((k + 1 : Nat) : Int))]) (C := [InR .i64 ((k + 1 : Nat) : Int)]) ha [] (by kernel_rfl) (.cons (by unfold InR; omega) .nil) ?_
          clear ha a; intro a ha
          refine tn ?_
          refine wret ?_
          refine fin ha (.tmp rfl (.tmp rfl .nil)) ?_
          refine ⟨?_, hx⟩
          rw [hv2, ← hsum, show vk l = k + 1 from by unfold vk; rw [hv2]; simp; omega]; rfl
end Go.Kn
end
section
set_option linter.unusedSimpArgs false
set_option linter.unusedVariables false
set_option maxRecDepth 100000
namespace Go.Kn
open Go.Proofs
theorem rput_ok (n : Nat) (w : World) (hn : n < 18446744073709551616) :
    Fn Tryd.prog 108 #[.int .u64 ((n : Nat) : Int)] w (fun x w' => x = .string (S (vput n)) ∧ Ext w w') := by
  have hx : Ext w w := Ext.rfl' w
  refine enter (N := 22) (args := [.int .u64 ((n : Nat) : Int)]) Tryd.func108 rfl rfl rfl ?_
  intro a ha
  simp only [argEnv, Nat.zero_add, Nat.reduceAdd] at ha
  refine wseq ?_
  refine regp (ρ' := [(0, .int .u64 ((n : Nat) : Int))]) (C := []) ha [] (by kernel_rfl) .nil ?_
  clear ha a; intro a ha
  refine tn ?_
  refine wseq ?_
  refine regp (ρ' := [(0, .int .u64 ((n : Nat) : Int)), (3, .string (S []))]) (C := []) ha [] (by kernel_rfl) .nil ?_
  clear ha a; intro a ha
  refine tn ?_
  refine wseq ?_
  refine wblk ?_
  refine wloop (fun zz a w1 => ∃ (f m : Nat) (out : List UInt8), zz = f ∧ On 22 [(0, .int .u64 ((m : Nat) : Int)), (3, .string (S out))] a ∧ Ext w w1 ∧ (m < 2 ^ (1 + 7 * f)) ∧ (vput n = out ++ vputf f m) ∧ (out.length + f ≤ 9)) _ ⟨9, n, ([] : List UInt8), rfl, ha.sub (ρ' := [(0, .int .u64 ((n : Nat) : Int)), (3, .string (S ([] : List UInt8)))]) (by kernel_rfl), hx, by omega, rfl, by simp⟩ ?_
  clear ha hx
  rintro zz a w2 ⟨f, m, out, hzz, ha, hx, hf, hv, ho10⟩
  refine wseq ?_
  refine wseq ?_
  refine regp (ρ' := [(0, .int .u64 ((m : Nat) : Int)), (3, .string (S out)), (5, .bool (decide ((128 : Int) ≤ ((m : Nat) : Int))))]) (C := []) ha [] (by kernel_rfl) .nil ?_
  clear ha a; intro a ha
  refine tn ?_
  refine wif ha rfl (fun h5 => ?_) (fun h5 => ?_)
  · replace h5 := of_decide_eq_true h5
    have hf0 : 0 < f := Nat.pos_of_ne_zero (fun h => by subst h; simp at hf; omega)
    obtain ⟨f, rfl⟩ : ∃ f', f = f' + 1 := ⟨f - 1, by omega⟩
    have hm64 : m < 18446744073709551616 := Nat.lt_of_lt_of_le hf (Nat.pow_le_pow_right (n := 2) (by omega) (by omega : 1 + 7 * (f + 1) ≤ 64))
    refine wskip ?_
    refine tn ?_
    refine wblk ?_
    refine wseq ?_
    refine reg_list ?_
    refine segp (ρ' := [(0, .int .u64 ((m : Nat) : Int)), (6, .string (S out)), (10, .int .u8 ((128 + (m % 128) : Nat) : Int))]) (C := [0 ≤ ((m : Nat) : Int), 0 < (128 : Int), InR .u64 ((128 + (m % 128) : Nat) : Int), InR .u8 ((128 + (m % 128) : Nat) : Int)]) ha 5 [] rfl (by kernel_rfl) (.cons (by omega) (.cons (by omega) (.cons (by unfold InR; omega) (.cons (by unfold InR; omega) .nil)))) ?_
    clear ha a; intro a ha
    refine lnewS ha rfl (by kernel_rfl) #[.int .u8 ((128 + (m % 128) : Nat) : Int)] 5 1 (by kernel_rfl) ?_
    clear ha a; intro b3 w4 he hb_b3 hB_b3 a ha
    replace hb_b3 := Nat.le_trans hx.size hb_b3
    replace hx := hx.tr he
    clear he
    refine segp (ρ' := [(0, .int .u64 ((m : Nat) : Int)), (3, .string (S (out ++ [UInt8.ofNat (128 + (m % 128))])))]) (C := [RunOk Tryd.prog w4 (convert 63 9 (.slice (some ⟨b3, 0, none⟩) 1 1)) (.string (S [UInt8.ofNat (128 + (m % 128))])), (out : List UInt8).length + ([UInt8.ofNat (128 + (m % 128))] : List UInt8).length ≤ 9223372036854775807]) ha 3 [(0, .val (.string (S [UInt8.ofNat (128 + (m % 128))])))] rfl (by kernel_rfl) (.cons (cvBlk (e := 5) (zs := [((128 + (m % 128) : Nat) : Int)]) (by kernel_rfl) (by kernel_rfl) (by kernel_rfl) hB_b3 rfl rfl) (.cons (by first | omega | (simp only [List.length_cons, List.length_nil, List.length_append, List.length_take, List.length_drop]; omega)) .nil)) ?_
    clear ha a; intro a ha
    refine lnil ?_
    replace ha := ha.sub (ρ' := [(0, .int .u64 ((m : Nat) : Int)), (3, .string (S (out ++ [UInt8.ofNat (128 + (m % 128))])))]) (by kernel_rfl)
    refine tn ?_
    refine regp (ρ' := [(0, .int .u64 ((m / 128 : Nat) : Int)), (3, .string (S (out ++ [UInt8.ofNat (128 + (m % 128))])))]) (C := [0 ≤ ((m : Nat) : Int), 0 < (128 : Int), InR .u64 ((m / 128 : Nat) : Int)]) ha [] (by kernel_rfl) (.cons (by omega) (.cons (by omega) (.cons (by unfold InR; omega) .nil))) ?_
    clear ha a; intro a ha
    refine bn ?_
    exact tn ⟨f, by omega, f, (m / 128), (out ++ [UInt8.ofNat (128 + m % 128)]), rfl, ha.sub (ρ' := [(0, .int .u64 (((m / 128) : Nat) : Int)), (3, .string (S (out ++ [UInt8.ofNat (128 + m % 128)])))]) (by kernel_rfl), hx, vdiv_lt hf, by rw [hv, vputf, if_neg (by omega), List.append_assoc]; rfl, by simp; omega⟩
  · replace h5 := of_decide_eq_false h5
    have hlast : vputf f m = [UInt8.ofNat m] := by cases f with | zero => rfl | succ f => rw [vputf, if_pos (by omega)]
    rw [hlast] at hv
    refine wexit ?_
    refine (te (te (be ?_)))
    refine tn ?_
    refine wseq ?_
    refine reg_list ?_
    refine segp (ρ' := [(16, .string (S out)), (18, .int .u8 ((m : Nat) : Int))]) (C := [InR .u8 ((m : Nat) : Int)]) ha 3 [] rfl (by kernel_rfl) (.cons (by unfold InR; omega) .nil) ?_
    clear ha a; intro a ha
    refine lnewS ha rfl (by kernel_rfl) #[.int .u8 ((m : Nat) : Int)] 5 1 (by kernel_rfl) ?_
    clear ha a; intro b5 w6 he hb_b5 hB_b5 a ha
    replace hb_b5 := Nat.le_trans hx.size hb_b5
    replace hx := hx.tr he
    clear he
    refine segp (ρ' := [(2, .string (S (out ++ [UInt8.ofNat m])))]) (C := [RunOk Tryd.prog w6 (convert 63 9 (.slice (some ⟨b5, 0, none⟩) 1 1)) (.string (S [UInt8.ofNat m])), (out : List UInt8).length + ([UInt8.ofNat m] : List UInt8).length ≤ 9223372036854775807]) ha 3 [(0, .val (.string (S [UInt8.ofNat m])))] rfl (by kernel_rfl) (.cons (cvBlk (e := 5) (zs := [((m : Nat) : Int)]) (by kernel_rfl) (by kernel_rfl) (by kernel_rfl) hB_b5 rfl rfl) (.cons (by first | omega | (simp only [List.length_cons, List.length_nil, List.length_append, List.length_take, List.length_drop]; omega)) .nil)) ?_
    clear ha a; intro a ha
    refine lnil ?_
    replace ha := ha.sub (ρ' := [(2, .string (S (out ++ [UInt8.ofNat m])))]) (by kernel_rfl)
    refine tn ?_
    refine wret ?_
    refine fin ha (.tmp rfl .nil) ?_
    exact ⟨by rw [hv]; rfl, hx⟩
theorem put_ok (n : Nat) (w : World) (hn : n < 18446744073709551616) :
    Fn Tryd.prog 104 #[.int .u64 ((n : Nat) : Int)] w (fun x w' => x = .string (S (vput n)) ∧ Ext w w') := by
  have hx : Ext w w := Ext.rfl' w
  refine enter (N := 20) (args := [.int .u64 ((n : Nat) : Int)]) Tryd.func104 rfl rfl rfl ?_
  intro a ha
  simp only [argEnv, Nat.zero_add, Nat.reduceAdd] at ha
  refine wseq ?_
  refine regp (ρ' := [(0, .int .u64 ((n : Nat) : Int))]) (C := []) ha [] (by kernel_rfl) .nil ?_
  clear ha a; intro a ha
  refine tn ?_
  refine wseq ?_
  refine regp (ρ' := [(0, .int .u64 ((n : Nat) : Int)), (3, .slice none 0 0)]) (C := []) ha [] (by kernel_rfl) .nil ?_
  clear ha a; intro a ha
  refine tn ?_
  refine wseq ?_
  refine wblk ?_
  refine wloop (fun zz a w1 => ∃ (f m : Nat) (out : List UInt8) (A : Option Addr) (c : Nat), zz = f ∧ On 20 [(0, .int .u64 ((m : Nat) : Int)), (3, .slice A out.length c)] a ∧ Ext w w1 ∧ Own w1 w.heap.size 5 1 A out.length c (bys out) ∧ (m < 2 ^ (1 + 7 * f)) ∧ (vput n = out ++ vputf f m) ∧ (out.length + f ≤ 9)) _ ⟨9, n, ([] : List UInt8), none, 0, rfl, ha.sub (ρ' := [(0, .int .u64 ((n : Nat) : Int)), (3, .slice none (([] : List UInt8).length) 0)]) (by kernel_rfl), hx, own_nil _ _ _ _, by omega, rfl, by simp⟩ ?_
  clear ha hx
  rintro zz a w2 ⟨f, m, out, A, c, hzz, ha, hx, ho, hf, hv, ho10⟩
  refine wseq ?_
  refine wseq ?_
  refine regp (ρ' := [(0, .int .u64 ((m : Nat) : Int)), (3, .slice A out.length c), (5, .bool (decide ((128 : Int) ≤ ((m : Nat) : Int))))]) (C := []) ha [] (by kernel_rfl) .nil ?_
  clear ha a; intro a ha
  refine tn ?_
  refine wif ha rfl (fun h5 => ?_) (fun h5 => ?_)
  · replace h5 := of_decide_eq_true h5
    have hf0 : 0 < f := Nat.pos_of_ne_zero (fun h => by subst h; simp at hf; omega)
    obtain ⟨f, rfl⟩ : ∃ f', f = f' + 1 := ⟨f - 1, by omega⟩
    have hm64 : m < 18446744073709551616 := Nat.lt_of_lt_of_le hf (Nat.pow_le_pow_right (n := 2) (by omega) (by omega : 1 + 7 * (f + 1) ≤ 64))
    refine wskip ?_
    refine tn ?_
    refine wblk ?_
    refine wseq ?_
    refine reg_list ?_
    refine segp (ρ' := [(0, .int .u64 ((m : Nat) : Int)), (6, .slice A out.length c), (9, .int .u8 (((m % 256) ||| 128 : Nat) : Int))]) (C := [NN .u8 ((m % 256 : Nat) : Int), NN .u8 128]) ha 4 [(2, .mod)] rfl (by kernel_rfl) (.cons (by unfold NN InR; omega) (.cons (by unfold NN InR; omega) .nil)) ?_
    clear ha a; intro a ha
    refine lnewS ha rfl (by kernel_rfl) #[.int .u8 (((m % 256) ||| 128 : Nat) : Int)] 5 1 (by kernel_rfl) ?_
    clear ha a; intro b3 w4 he hb_b3 hB_b3 a ha
    have hno_ho_b3 : (Value.slice A out.length c).ownBlock ≠ some b3 := own_ne ho hb_b3
    replace ho := ownE he ho
    replace hb_b3 := Nat.le_trans hx.size hb_b3
    replace hx := hx.tr he
    clear he
    refine lapp (by_ := 1) ha rfl (by kernel_rfl) rfl (by kernel_rfl) rfl ho rfl [.int .u8 (((m % 256) ||| 128 : Nat) : Int)] rfl (news_blk hB_b3) rfl (by omega) (by omega) hx.size ?_
    clear ha a; intro A5 c6 w7 ho2 hg a ha
    clear hB_b3 hb_b3
    replace hx := extG hx hg ho (Nat.le_refl _)
    clear hg ho
    refine segp (ρ' := [(0, .int .u64 ((m : Nat) : Int)), (3, .slice A5 (out.length + 1) c6)]) (C := []) ha 1 [] rfl (by kernel_rfl) .nil ?_
    clear ha a; intro a ha
    refine lnil ?_
    replace ha := ha.sub (ρ' := [(0, .int .u64 ((m : Nat) : Int)), (3, .slice A5 (out.length + 1) c6)]) (by kernel_rfl)
    rw [show ((bys out ++ [.int .u8 (((m % 256) ||| 128 : Nat) : Int)]) : List Value) = bys (out ++ [UInt8.ofNat (128 + m % 128)]) from by rw [or128]; exact bys_pushN _ _ (by omega)] at ho2
    rw [show ((out.length + 1) : Nat) = (out ++ [UInt8.ofNat (128 + m % 128)]).length from by simp] at ha ho2
    refine tn ?_
    refine regp (ρ' := [(0, .int .u64 ((m / 128 : Nat) : Int)), (3, .slice A5 ((out ++ [UInt8.ofNat (128 + m % 128)]).length) c6)]) (C := [0 ≤ (7 : Int)]) ha [] (by kernel_rfl) (.cons (by omega) .nil) ?_
    clear ha a; intro a ha
    refine bn ?_
    exact tn ⟨f, by omega, f, (m / 128), (out ++ [UInt8.ofNat (128 + m % 128)]), A5, c6, rfl, ha.sub (ρ' := [(0, .int .u64 (((m / 128) : Nat) : Int)), (3, .slice A5 ((out ++ [UInt8.ofNat (128 + m % 128)]).length) c6)]) (by kernel_rfl), hx, ho2, vdiv_lt hf, by rw [hv, vputf, if_neg (by omega), List.append_assoc]; rfl, by simp; omega⟩
  · replace h5 := of_decide_eq_false h5
    have hlast : vputf f m = [UInt8.ofNat m] := by cases f with | zero => rfl | succ f => rw [vputf, if_pos (by omega)]
    rw [hlast] at hv
    refine wexit ?_
    refine (te (te (be ?_)))
    refine tn ?_
    refine wseq ?_
    refine reg_list ?_
    refine segp (ρ' := [(14, .slice A out.length c), (16, .int .u8 ((m % 256 : Nat) : Int))]) (C := []) ha 3 [(2, .mod)] rfl (by kernel_rfl) .nil ?_
    clear ha a; intro a ha
    refine lnewS ha rfl (by kernel_rfl) #[.int .u8 ((m % 256 : Nat) : Int)] 5 1 (by kernel_rfl) ?_
    clear ha a; intro b8 w9 he hb_b8 hB_b8 a ha
    have hno_ho_b8 : (Value.slice A out.length c).ownBlock ≠ some b8 := own_ne ho hb_b8
    replace ho := ownE he ho
    replace hb_b8 := Nat.le_trans hx.size hb_b8
    replace hx := hx.tr he
    clear he
    refine lapp (by_ := 1) ha rfl (by kernel_rfl) rfl (by kernel_rfl) rfl ho rfl [.int .u8 ((m % 256 : Nat) : Int)] rfl (news_blk hB_b8) rfl (by omega) (by omega) hx.size ?_
    clear ha a; intro A10 c11 w12 ho2 hg a ha
    clear hB_b8 hb_b8
    replace hx := extG hx hg ho (Nat.le_refl _)
    clear hg ho
    rw [show ((bys out ++ [.int .u8 ((m % 256 : Nat) : Int)]) : List Value) = bys (out ++ [UInt8.ofNat m]) from by rw [bys_pushN _ _ (by omega), ofNat_mod]] at ho2
    rw [show ((out.length + 1) : Nat) = (out ++ [UInt8.ofNat m]).length from by simp] at ha ho2
    refine segp (ρ' := [(2, .string (S (out ++ [UInt8.ofNat m])))]) (C := [RunOk Tryd.prog w12 (convert 63 9 (.slice A10 ((out ++ [UInt8.ofNat m]).length) c11)) (.string (S (out ++ [UInt8.ofNat m])))]) ha 2 [(0, .val (.string (S (out ++ [UInt8.ofNat m]))))] rfl (by kernel_rfl) (.cons (cvOwn (by kernel_rfl) (by kernel_rfl) (by kernel_rfl) ho2) .nil) ?_
    clear ha a; intro a ha
    refine lnil ?_
    replace ha := ha.sub (ρ' := [(2, .string (S (out ++ [UInt8.ofNat m])))]) (by kernel_rfl)
    refine tn ?_
    refine wret ?_
    refine fin ha (.tmp rfl .nil) ?_
    exact ⟨by rw [hv]; rfl, hx⟩
theorem put_okI (n : Int) (w : World) (h0 : 0 ≤ n) (hn : n < 18446744073709551616) : FnV Tryd.prog 104 (#[.int .u64 n]) w (.string (S (vput n.toNat))) := by
  have := put_ok n.toNat w (by omega)
  rwa [Int.toNat_of_nonneg h0] at this
theorem rput_okI (n : Int) (w : World) (h0 : 0 ≤ n) (hn : n < 18446744073709551616) : FnV Tryd.prog 108 (#[.int .u64 n]) w (.string (S (vput n.toNat))) := by
  have := rput_ok n.toNat w (by omega)
  rwa [Int.toNat_of_nonneg h0] at this
theorem text_ok (l : List UInt8) (w : World) (hl : l.length ≤ 140737488355328) :
    Fn Tryd.prog 75 #[.string (S l)] w (fun x w' => x = .string (S (vtext l)) ∧ Ext w w') := by
  have hx : Ext w w := Ext.rfl' w
  refine enter (N := 9) (args := [.string (S l)]) Tryd.func75 rfl rfl rfl ?_
  intro a ha
  simp only [argEnv, Nat.zero_add, Nat.reduceAdd] at ha
  refine wseq ?_
  refine regp (ρ' := [(0, .string (S l))]) (C := []) ha [] (by kernel_rfl) .nil ?_
  clear ha a; intro a ha
  refine tn ?_
  refine wseq ?_
  have hv := (vput_len l.length).1
  refine reg hmix (ρ' := [(2, .string (S ((vput l.length) ++ l)))]) (C := [InR .u64 ((l.length : Nat) : Int), CallOk Tryd.prog w 104 #[.int .u64 ((l.length : Nat) : Int)] (.string (S (vput l.length))), ((vput l.length) : List UInt8).length + (l : List UInt8).length ≤ 9223372036854775807]) ha [(3, .val (.string (S (vput l.length))))] (by kernel_rfl) (.cons (by unfold InR; omega) (.cons (fun w _ => put_ok _ w (by first | omega | (have := vget_lt; omega))) (.cons (by first | omega | (simp only [List.length_cons, List.length_nil, List.length_append, List.length_take, List.length_drop]; omega)) .nil))) ?_
  clear ha a; intro a w1 ha he
  replace hx := hx.tr he
  clear he
  refine tn ?_
  refine wret ?_
  refine fin ha (.tmp rfl .nil) ?_
  exact ⟨rfl, hx⟩
theorem rtext_ok (l : List UInt8) (w : World) (hl : l.length ≤ 140737488355328) :
    Fn Tryd.prog 92 #[.string (S l)] w (fun x w' => x = .string (S (vtext l)) ∧ Ext w w') := by
  have hx : Ext w w := Ext.rfl' w
  refine enter (N := 9) (args := [.string (S l)]) Tryd.func92 rfl rfl rfl ?_
  intro a ha
  simp only [argEnv, Nat.zero_add, Nat.reduceAdd] at ha
  refine wseq ?_
  refine regp (ρ' := [(0, .string (S l))]) (C := []) ha [] (by kernel_rfl) .nil ?_
  clear ha a; intro a ha
  refine tn ?_
  refine wseq ?_
  have hv := (vput_len l.length).1
  refine reg hmix (ρ' := [(2, .string (S ((vput l.length) ++ l)))]) (C := [InR .u64 ((l.length : Nat) : Int), CallOk Tryd.prog w 108 #[.int .u64 ((l.length : Nat) : Int)] (.string (S (vput l.length))), ((vput l.length) : List UInt8).length + (l : List UInt8).length ≤ 9223372036854775807]) ha [(3, .val (.string (S (vput l.length))))] (by kernel_rfl) (.cons (by unfold InR; omega) (.cons (fun w _ => rput_ok _ w (by first | omega | (have := vget_lt; omega))) (.cons (by first | omega | (simp only [List.length_cons, List.length_nil, List.length_append, List.length_take, List.length_drop]; omega)) .nil))) ?_
  clear ha a; intro a w1 ha he
  replace hx := hx.tr he
  clear he
  refine tn ?_
  refine wret ?_
  refine fin ha (.tmp rfl .nil) ?_
  exact ⟨rfl, hx⟩
end Go.Kn
end
section
set_option linter.unusedSimpArgs false
set_option linter.unusedVariables false
set_option maxRecDepth 100000
namespace Go.Kn
open Go.Proofs
end Go.Kn
end
section
set_option linter.unusedSimpArgs false
set_option linter.unusedVariables false
set_option maxRecDepth 100000
namespace Go.Kn
open Go.Proofs
theorem mkRes1 (v : Value) : mkRes [v] = v := rfl
theorem keyU32 : KeyOk (fun n : Nat => Value.int .u32 (n : Int)) (.int .u32) := ⟨fun x => by simp [Go.MapKept.IsKey], fun x y h => by injection h with _ h; omega⟩
end Go.Kn
end
section
set_option linter.unusedSimpArgs false
set_option linter.unusedVariables false
set_option maxRecDepth 100000
namespace Go.Kn
open Go.Proofs
end Go.Kn
end
section
set_option linter.unusedSimpArgs false
set_option linter.unusedVariables false
set_option maxRecDepth 100000
namespace Go.Kn
open Go.Proofs
theorem ixb_ok (l : List UInt8) (c : Int) (w : World) :
    Fn Tryd.prog 69 #[.string (S l), .int .u8 c] w (fun x w' => x = .int .i64 (Go.Lib.indexByte l c.toNat.toUInt8) ∧ Ext w w') := by
  have hx : Ext w w := Ext.rfl' w
  refine enter (N := 8) (args := [.string (S l), .int .u8 c]) Tryd.func69 rfl rfl rfl ?_
  intro a ha
  simp only [argEnv, Nat.zero_add, Nat.reduceAdd] at ha
  refine wseq ?_
  refine regp (ρ' := [(0, .string (S l)), (1, .int .u8 c)]) (C := []) ha [] (by kernel_rfl) .nil ?_
  clear ha a; intro a ha
  refine tn ?_
  refine wseq ?_
  refine reg_list ?_
  refine segp (ρ' := [(5, .string (S l)), (6, .int .u8 c)]) (C := []) ha 2 [] rfl (by kernel_rfl) .nil ?_
  clear ha a; intro a ha
  refine lext (e := Extern.BytealgIndexByte.indexByte) (vs := #[.string (S l), .int .u8 c]) (v := .int .i64 (Go.Lib.indexByte l (c : Int).toNat.toUInt8)) ha rfl (by kernel_rfl) rfl rfl (by kernel_rfl) Tryd.func99 (by kernel_rfl) (by kernel_rfl) (by kernel_rfl) (by kernel_rfl) (Go.Lib.run_indexByteString _ _ _) ?_
  clear ha a; intro a ha
  refine segp (ρ' := [(4, .int .i64 (Go.Lib.indexByte l (c : Int).toNat.toUInt8))]) (C := []) ha 1 [] rfl (by kernel_rfl) .nil ?_
  clear ha a; intro a ha
  refine lnil ?_
  replace ha := ha.sub (ρ' := [(4, .int .i64 (Go.Lib.indexByte l (c : Int).toNat.toUInt8))]) (by kernel_rfl)
  refine tn ?_
  refine wret ?_
  refine fin ha (.tmp rfl .nil) ?_
  exact ⟨rfl, hx⟩
theorem sixb_ok (l : List UInt8) (c : Int) (w : World) :
    Fn Tryd.prog 41 #[.string (S l), .int .u8 c] w (fun x w' => x = .int .i64 (Go.Lib.indexByte l c.toNat.toUInt8) ∧ Ext w w') := by
  have hx : Ext w w := Ext.rfl' w
  refine enter (N := 8) (args := [.string (S l), .int .u8 c]) Tryd.func41 rfl rfl rfl ?_
  intro a ha
  simp only [argEnv, Nat.zero_add, Nat.reduceAdd] at ha
  refine wseq ?_
  refine regp (ρ' := [(0, .string (S l)), (1, .int .u8 c)]) (C := []) ha [] (by kernel_rfl) .nil ?_
  clear ha a; intro a ha
  refine tn ?_
  refine wseq ?_
  refine reg hmix (ρ' := [(4, .int .i64 (Go.Lib.indexByte l (c : Int).toNat.toUInt8))]) (C := [CallOk Tryd.prog w 69 #[.string (S l), .int .u8 c] (.int .i64 (Go.Lib.indexByte l (c : Int).toNat.toUInt8))]) ha [(2, .val (.int .i64 (Go.Lib.indexByte l (c : Int).toNat.toUInt8)))] (by kernel_rfl) (.cons (fun w _ => ixb_ok _ _ w) .nil) ?_
  clear ha a; intro a w1 ha he
  replace hx := hx.tr he
  clear he
  refine tn ?_
  refine wret ?_
  refine fin ha (.tmp rfl .nil) ?_
  exact ⟨rfl, hx⟩
theorem name_ok (l : List UInt8) (w : World) (hl : l.length ≤ 9223372036854775807) :
    Fn Tryd.prog 51 #[.string (S l)] w (fun x w' => x = .bool (oName l) ∧ Ext w w') := by
  have hx : Ext w w := Ext.rfl' w
  refine enter (N := 20) (args := [.string (S l)]) Tryd.func51 rfl rfl rfl ?_
  intro a ha
  simp only [argEnv, Nat.zero_add, Nat.reduceAdd] at ha
  refine wseq ?_
  refine regp (ρ' := [(0, .string (S l))]) (C := []) ha [] (by kernel_rfl) .nil ?_
  clear ha a; intro a ha
  refine tn ?_
  refine wseq ?_
  refine reg hmix (ρ' := [(2, .bool ((((!decide ((l : List UInt8) = ([] : List UInt8))) && (decide (((l.length : Nat) : Int) ≤ 40))) && (decide (((Go.Lib.indexByte l (0 : Int).toNat.toUInt8) : Int) < 0))) && (decide (((Go.Lib.indexByte l (47 : Int).toNat.toUInt8) : Int) < 0))))]) (C := [((!decide ((l : List UInt8) = ([] : List UInt8))) && (decide (((l.length : Nat) : Int) ≤ 40))) = true → All [CallOk Tryd.prog w 41 #[.string (S l), .int .u8 0] (.int .i64 (Go.Lib.indexByte l (0 : Int).toNat.toUInt8))], (((!decide ((l : List UInt8) = ([] : List UInt8))) && (decide (((l.length : Nat) : Int) ≤ 40))) && (decide (((Go.Lib.indexByte l (0 : Int).toNat.toUInt8) : Int) < 0))) = true → All [CallOk Tryd.prog w 41 #[.string (S l), .int .u8 47] (.int .i64 (Go.Lib.indexByte l (47 : Int).toNat.toUInt8))]]) ha [(9, .val (.int .i64 (Go.Lib.indexByte l (0 : Int).toNat.toUInt8))), (14, .val (.int .i64 (Go.Lib.indexByte l (47 : Int).toNat.toUInt8)))] (by kernel_rfl) (.cons (fun hg8 => by simp only [Bool.not_eq_true', Bool.not_eq_false', Bool.and_eq_true, Bool.or_eq_true, Bool.and_eq_false_iff, Bool.or_eq_false_iff, decide_eq_true_eq, decide_eq_false_iff_not, Bool.not_eq_true, Decidable.not_not] at hg8; exact (.cons (fun w _ => sixb_ok _ _ w) .nil)) (.cons (fun hg13 => by simp only [Bool.not_eq_true', Bool.not_eq_false', Bool.and_eq_true, Bool.or_eq_true, Bool.and_eq_false_iff, Bool.or_eq_false_iff, decide_eq_true_eq, decide_eq_false_iff_not, Bool.not_eq_true, Decidable.not_not] at hg13; exact (.cons (fun w _ => sixb_ok _ _ w) .nil)) .nil)) ?_
  clear ha a; intro a w1 ha he
  replace hx := hx.tr he
  clear he
  refine tn ?_
  refine wret ?_
  refine fin ha (.tmp rfl .nil) ?_
  refine ⟨congrArg Value.bool ?_, hx⟩
  have h0 := indexByte_lt l 0
  have h1 := indexByte_lt l 47
  have e0 : ((0 : Int).toNat.toUInt8) = 0 := rfl
  have e1 : ((47 : Int).toNat.toUInt8) = 47 := rfl
  rw [e0, e1]
  unfold oName
  rw [Bool.eq_iff_iff]
  simp only [Bool.and_eq_true, Bool.not_eq_true', decide_eq_true_eq, decide_eq_false_iff_not, h0, h1, and_assoc]
  constructor
  · intro ⟨a1, a2, a3, a4⟩; exact ⟨a1, by omega, a3, a4⟩
  · intro ⟨a1, a2, a3, a4⟩; exact ⟨a1, by omega, a3, a4⟩
theorem kind_ok (n : Int) (w : World) :
    Fn Tryd.prog 85 #[.int .i64 n] w (fun x w' => x = .bool (decide (1 ≤ n ∧ n ≤ 4)) ∧ Ext w w') := by
  have hx : Ext w w := Ext.rfl' w
  refine enter (N := 9) (args := [.int .i64 n]) Tryd.func85 rfl rfl rfl ?_
  intro a ha
  simp only [argEnv, Nat.zero_add, Nat.reduceAdd] at ha
  refine wseq ?_
  refine regp (ρ' := [(0, .int .i64 n)]) (C := []) ha [] (by kernel_rfl) .nil ?_
  clear ha a; intro a ha
  refine tn ?_
  refine wseq ?_
  refine regp (ρ' := [(2, .bool ((decide ((1 : Int) ≤ n)) && (decide ((n : Int) ≤ 4))))]) (C := []) ha [] (by kernel_rfl) .nil ?_
  clear ha a; intro a ha
  refine tn ?_
  refine wret ?_
  refine fin ha (.tmp rfl .nil) ?_
  refine ⟨congrArg Value.bool ?_, hx⟩
  rw [Bool.eq_iff_iff]; simp
theorem alone_ok (o : ObjL) (Ae Ap : Option Addr) (ce cp : Nat) (w : World) (hoe : Rd w 34 Ae o.Entries.length (o.Entries.flatMap encEnt)) (hop : Rd w 32 Ap o.Parents.length (o.Parents.flatMap idc)) :
    Fn Tryd.prog 83 #[.agg ⟨objC o Ae ce Ap cp⟩] w (fun x w' => x = .bool (oAlone o) ∧ Ext w w') := by
  have hx : Ext w w := Ext.rfl' w
  refine enter (N := 84) (args := [.agg ⟨objC o Ae ce Ap cp⟩]) Tryd.func83 rfl rfl rfl ?_
  intro a ha
  simp only [argEnv, Nat.zero_add, Nat.reduceAdd] at ha
  refine wseq ?_
  refine reg_list ?_
  refine lnew ha rfl (by kernel_rfl) ⟨objC o Ae ce Ap cp⟩ 54 (by kernel_rfl) ?_
  clear ha a; intro b1 w2 he hb_b1 hB_b1 a ha
  replace hb_b1 := Nat.le_trans hx.size hb_b1
  replace hx := hx.tr he
  clear he
  refine segp (ρ' := [(1, .pointer (some ⟨b1, 0, none⟩))]) (C := []) ha 1 [] rfl (by kernel_rfl) .nil ?_
  clear ha a; intro a ha
  refine lnil ?_
  replace ha := ha.sub (ρ' := [(1, .pointer (some ⟨b1, 0, none⟩))]) (by kernel_rfl)
  refine tn ?_
  refine wseq ?_
  refine regp (ρ' := [(1, .pointer (some ⟨b1, 0, none⟩)), (3, .bool (decide ((o.Data : List UInt8) = ([] : List UInt8))))]) (C := [RunOk Tryd.prog w2 (Instr.loadAt 9 (.pointer (some ⟨b1, 1, none⟩))) (.string (S o.Data))]) ha [(1, .val (.string (S o.Data)))] (by kernel_rfl) (.cons (ld1 hB_b1 (by kernel_rfl) (by kernel_rfl)) .nil) ?_
  clear ha a; intro a ha
  refine tn ?_
  refine wseq ?_
  refine regp (ρ' := [(1, .pointer (some ⟨b1, 0, none⟩)), (3, .bool (decide ((o.Data : List UInt8) = ([] : List UInt8)))), (4, .bool (decide (((o.Entries.length : Nat) : Int) = 0)))]) (C := [RunOk Tryd.prog w2 (Instr.loadAt 50 (.pointer (some ⟨b1, 2, none⟩))) (.slice Ae o.Entries.length ce)]) ha [(1, .val (.slice Ae o.Entries.length ce))] (by kernel_rfl) (.cons (ld1 hB_b1 (by kernel_rfl) (by kernel_rfl)) .nil) ?_
  clear ha a; intro a ha
  refine tn ?_
  refine wseq ?_
  refine regp (ρ' := [(1, .pointer (some ⟨b1, 0, none⟩)), (3, .bool (decide ((o.Data : List UInt8) = ([] : List UInt8)))), (4, .bool (decide (((o.Entries.length : Nat) : Int) = 0))), (5, .bool ((((decide (o.Tree = idZ)) && (decide (((o.Parents.length : Nat) : Int) = 0))) && (decide (((o.Time : Nat) : Int) = 0))) && (decide ((o.Text : List UInt8) = ([] : List UInt8)))))]) (C := [RunOk Tryd.prog w2 (Instr.loadAt 24 (.pointer (some ⟨b1, 3, none⟩))) (.agg ⟨idc o.Tree⟩), BinOk Tryd.prog .eql 24 (.agg ⟨idc o.Tree⟩) (.agg ⟨idc idZ⟩) (.bool (decide (o.Tree = idZ))), (decide (o.Tree = idZ)) = true → All [RunOk Tryd.prog w2 (Instr.loadAt 51 (.pointer (some ⟨b1, 35, none⟩))) (.slice Ap o.Parents.length cp)], ((decide (o.Tree = idZ)) && (decide (((o.Parents.length : Nat) : Int) = 0))) = true → All [RunOk Tryd.prog w2 (Instr.loadAt 52 (.pointer (some ⟨b1, 36, none⟩))) (.int .u32 ((o.Time : Nat) : Int))], (((decide (o.Tree = idZ)) && (decide (((o.Parents.length : Nat) : Int) = 0))) && (decide (((o.Time : Nat) : Int) = 0))) = true → All [RunOk Tryd.prog w2 (Instr.loadAt 9 (.pointer (some ⟨b1, 37, none⟩))) (.string (S o.Text))]]) ha [(1, .val (.agg ⟨idc o.Tree⟩)), (3, .val (.bool (decide (o.Tree = idZ)))), (6, .val (.slice Ap o.Parents.length cp)), (12, .val (.int .u32 ((o.Time : Nat) : Int))), (17, .val (.string (S o.Text)))] (by kernel_rfl) (.cons (ldN (n := 32) hB_b1 (by kernel_rfl) (by kernel_rfl) ⟨Nat.le_of_ble_eq_true (by kernel_rfl), (by kernel_rfl)⟩) (.cons (eqIdE (x := o.Tree) (y := idZ) (by kernel_rfl)) (.cons (fun hg5 => by replace hg5 := of_decide_eq_true hg5; exact (.cons (ld1 hB_b1 (by kernel_rfl) (by kernel_rfl)) .nil)) (.cons (fun hg11 => by simp only [Bool.not_eq_true', Bool.not_eq_false', Bool.and_eq_true, Bool.or_eq_true, Bool.and_eq_false_iff, Bool.or_eq_false_iff, decide_eq_true_eq, decide_eq_false_iff_not, Bool.not_eq_true, Decidable.not_not] at hg11; exact (.cons (ld1 hB_b1 (by kernel_rfl) (by kernel_rfl)) .nil)) (.cons (fun hg16 => by simp only [Bool.not_eq_true', Bool.not_eq_false', Bool.and_eq_true, Bool.or_eq_true, Bool.and_eq_false_iff, Bool.or_eq_false_iff, decide_eq_true_eq, decide_eq_false_iff_not, Bool.not_eq_true, Decidable.not_not] at hg16; exact (.cons (ld1 hB_b1 (by kernel_rfl) (by kernel_rfl)) .nil)) .nil))))) ?_
  clear ha a; intro a ha
  refine tn ?_
  refine wseq ?_
  refine regp (ρ' := [(1, .pointer (some ⟨b1, 0, none⟩)), (3, .bool (decide ((o.Data : List UInt8) = ([] : List UInt8)))), (4, .bool (decide (((o.Entries.length : Nat) : Int) = 0))), (5, .bool ((((decide (o.Tree = idZ)) && (decide (((o.Parents.length : Nat) : Int) = 0))) && (decide (((o.Time : Nat) : Int) = 0))) && (decide ((o.Text : List UInt8) = ([] : List UInt8))))), (6, .bool (((decide (o.Target = idZ)) && (decide ((o.Of : Int) = 0))) && (decide ((o.Name : List UInt8) = ([] : List UInt8)))))]) (C := [RunOk Tryd.prog w2 (Instr.loadAt 24 (.pointer (some ⟨b1, 38, none⟩))) (.agg ⟨idc o.Target⟩), BinOk Tryd.prog .eql 24 (.agg ⟨idc o.Target⟩) (.agg ⟨idc idZ⟩) (.bool (decide (o.Target = idZ))), (decide (o.Target = idZ)) = true → All [RunOk Tryd.prog w2 (Instr.loadAt 3 (.pointer (some ⟨b1, 70, none⟩))) (.int .i64 o.Of)], ((decide (o.Target = idZ)) && (decide ((o.Of : Int) = 0))) = true → All [RunOk Tryd.prog w2 (Instr.loadAt 9 (.pointer (some ⟨b1, 71, none⟩))) (.string (S o.Name))]]) ha [(1, .val (.agg ⟨idc o.Target⟩)), (3, .val (.bool (decide (o.Target = idZ)))), (6, .val (.int .i64 o.Of)), (11, .val (.string (S o.Name)))] (by kernel_rfl) (.cons (ldN (n := 32) hB_b1 (by kernel_rfl) (by kernel_rfl) ⟨Nat.le_of_ble_eq_true (by kernel_rfl), (by kernel_rfl)⟩) (.cons (eqIdE (x := o.Target) (y := idZ) (by kernel_rfl)) (.cons (fun hg5 => by replace hg5 := of_decide_eq_true hg5; exact (.cons (ld1 hB_b1 (by kernel_rfl) (by kernel_rfl)) .nil)) (.cons (fun hg10 => by simp only [Bool.not_eq_true', Bool.not_eq_false', Bool.and_eq_true, Bool.or_eq_true, Bool.and_eq_false_iff, Bool.or_eq_false_iff, decide_eq_true_eq, decide_eq_false_iff_not, Bool.not_eq_true, Decidable.not_not] at hg10; exact (.cons (ld1 hB_b1 (by kernel_rfl) (by kernel_rfl)) .nil)) .nil)))) ?_
  clear ha a; intro a ha
  refine tn ?_
  refine wseq ?_
  refine wseq ?_
  refine regp (ρ' := [(3, .bool (decide ((o.Data : List UInt8) = ([] : List UInt8)))), (4, .bool (decide (((o.Entries.length : Nat) : Int) = 0))), (5, .bool ((((decide (o.Tree = idZ)) && (decide (((o.Parents.length : Nat) : Int) = 0))) && (decide (((o.Time : Nat) : Int) = 0))) && (decide ((o.Text : List UInt8) = ([] : List UInt8))))), (6, .bool (((decide (o.Target = idZ)) && (decide ((o.Of : Int) = 0))) && (decide ((o.Name : List UInt8) = ([] : List UInt8))))), (49, .int .i64 o.Kind)]) (C := [RunOk Tryd.prog w2 (Instr.loadAt 3 (.pointer (some ⟨b1, 0, none⟩))) (.int .i64 o.Kind)]) ha [(1, .val (.int .i64 o.Kind))] (by kernel_rfl) (.cons (ld1 hB_b1 (by kernel_rfl) (by kernel_rfl)) .nil) ?_
  clear ha a; intro a ha
  refine tn ?_
  refine wblk ?_
  refine wseq ?_
  refine regp (ρ' := [(3, .bool (decide ((o.Data : List UInt8) = ([] : List UInt8)))), (4, .bool (decide (((o.Entries.length : Nat) : Int) = 0))), (5, .bool ((((decide (o.Tree = idZ)) && (decide (((o.Parents.length : Nat) : Int) = 0))) && (decide (((o.Time : Nat) : Int) = 0))) && (decide ((o.Text : List UInt8) = ([] : List UInt8))))), (6, .bool (((decide (o.Target = idZ)) && (decide ((o.Of : Int) = 0))) && (decide ((o.Name : List UInt8) = ([] : List UInt8))))), (49, .int .i64 o.Kind), (50, .bool (decide ((o.Kind : Int) = 1)))]) (C := []) ha [] (by kernel_rfl) .nil ?_
  clear ha a; intro a ha
  refine tn ?_
  refine wif ha rfl (fun h50 => ?_) (fun h50 => ?_)
  · replace h50 := of_decide_eq_true h50
    refine wseq ?_
    refine regp (ρ' := [(2, .bool (((decide (((o.Entries.length : Nat) : Int) = 0)) && ((((decide (o.Tree = idZ)) && (decide (((o.Parents.length : Nat) : Int) = 0))) && (decide (((o.Time : Nat) : Int) = 0))) && (decide ((o.Text : List UInt8) = ([] : List UInt8))))) && (((decide (o.Target = idZ)) && (decide ((o.Of : Int) = 0))) && (decide ((o.Name : List UInt8) = ([] : List UInt8))))))]) (C := []) ha [] (by kernel_rfl) .nil ?_
    clear ha a; intro a ha
    refine tn ?_
    refine wret ?_
    refine (br (tr ?_))
    refine fin ha (.tmp rfl .nil) ?_
    refine ⟨congrArg Value.bool ?_, hx⟩
    unfold oAlone oTree oCommit oTag oBlob
    simp [*, Bool.and_assoc]
  · replace h50 := of_decide_eq_false h50
    refine wseq ?_
    refine regp (ρ' := [(3, .bool (decide ((o.Data : List UInt8) = ([] : List UInt8)))), (4, .bool (decide (((o.Entries.length : Nat) : Int) = 0))), (5, .bool ((((decide (o.Tree = idZ)) && (decide (((o.Parents.length : Nat) : Int) = 0))) && (decide (((o.Time : Nat) : Int) = 0))) && (decide ((o.Text : List UInt8) = ([] : List UInt8))))), (6, .bool (((decide (o.Target = idZ)) && (decide ((o.Of : Int) = 0))) && (decide ((o.Name : List UInt8) = ([] : List UInt8))))), (49, .int .i64 o.Kind), (59, .bool (decide ((o.Kind : Int) = 2)))]) (C := []) ha [] (by kernel_rfl) .nil ?_
    clear ha a; intro a ha
    refine tn ?_
    refine wif ha rfl (fun h59 => ?_) (fun h59 => ?_)
    · replace h59 := of_decide_eq_true h59
      refine wseq ?_
      refine regp (ρ' := [(2, .bool (((decide ((o.Data : List UInt8) = ([] : List UInt8))) && ((((decide (o.Tree = idZ)) && (decide (((o.Parents.length : Nat) : Int) = 0))) && (decide (((o.Time : Nat) : Int) = 0))) && (decide ((o.Text : List UInt8) = ([] : List UInt8))))) && (((decide (o.Target = idZ)) && (decide ((o.Of : Int) = 0))) && (decide ((o.Name : List UInt8) = ([] : List UInt8))))))]) (C := []) ha [] (by kernel_rfl) .nil ?_
      clear ha a; intro a ha
      refine tn ?_
      refine wret ?_
      refine (br (tr ?_))
      refine fin ha (.tmp rfl .nil) ?_
      refine ⟨congrArg Value.bool ?_, hx⟩
      unfold oAlone oTree oCommit oTag oBlob
      simp [*, Bool.and_assoc]
    · replace h59 := of_decide_eq_false h59
      refine wseq ?_
      refine regp (ρ' := [(3, .bool (decide ((o.Data : List UInt8) = ([] : List UInt8)))), (4, .bool (decide (((o.Entries.length : Nat) : Int) = 0))), (5, .bool ((((decide (o.Tree = idZ)) && (decide (((o.Parents.length : Nat) : Int) = 0))) && (decide (((o.Time : Nat) : Int) = 0))) && (decide ((o.Text : List UInt8) = ([] : List UInt8))))), (6, .bool (((decide (o.Target = idZ)) && (decide ((o.Of : Int) = 0))) && (decide ((o.Name : List UInt8) = ([] : List UInt8))))), (68, .bool (decide ((o.Kind : Int) = 3)))]) (C := []) ha [] (by kernel_rfl) .nil ?_
      clear ha a; intro a ha
      refine tn ?_
      refine wif ha rfl (fun h68 => ?_) (fun h68 => ?_)
      · replace h68 := of_decide_eq_true h68
        refine wseq ?_
        refine regp (ρ' := [(2, .bool (((decide ((o.Data : List UInt8) = ([] : List UInt8))) && (decide (((o.Entries.length : Nat) : Int) = 0))) && (((decide (o.Target = idZ)) && (decide ((o.Of : Int) = 0))) && (decide ((o.Name : List UInt8) = ([] : List UInt8))))))]) (C := []) ha [] (by kernel_rfl) .nil ?_
        clear ha a; intro a ha
        refine tn ?_
        refine wret ?_
        refine (br (tr ?_))
        refine fin ha (.tmp rfl .nil) ?_
        refine ⟨congrArg Value.bool ?_, hx⟩
        unfold oAlone oTree oCommit oTag oBlob
        simp [*, Bool.and_assoc]
      · replace h68 := of_decide_eq_false h68
        refine wskip ?_
        refine bn ?_
        refine tn ?_
        refine wseq ?_
        refine regp (ρ' := [(2, .bool (((decide ((o.Data : List UInt8) = ([] : List UInt8))) && (decide (((o.Entries.length : Nat) : Int) = 0))) && ((((decide (o.Tree = idZ)) && (decide (((o.Parents.length : Nat) : Int) = 0))) && (decide (((o.Time : Nat) : Int) = 0))) && (decide ((o.Text : List UInt8) = ([] : List UInt8))))))]) (C := []) ha [] (by kernel_rfl) .nil ?_
        clear ha a; intro a ha
        refine tn ?_
        refine wret ?_
        refine fin ha (.tmp rfl .nil) ?_
        refine ⟨congrArg Value.bool ?_, hx⟩
        unfold oAlone oTree oCommit oTag oBlob
        simp [*, Bool.and_assoc]
theorem entries_ok (A : Option Addr) (c : Nat) (l : List EntR) (w : World) (hr : Rd w 34 A l.length (l.flatMap encEnt)) (hl : l.length ≤ 9223372036854775807) (hn : ∀ i < l.length, (l.getD i default).Name.length ≤ 9223372036854775807) :
    Fn Tryd.prog 84 #[.slice A l.length c] w (fun x w' => x = .bool (oEntries l) ∧ Ext w w') := by
  have hx : Ext w w := Ext.rfl' w
  refine enter (N := 45) (args := [.slice A l.length c]) Tryd.func84 rfl rfl rfl ?_
  intro a ha
  simp only [argEnv, Nat.zero_add, Nat.reduceAdd] at ha
  refine wseq ?_
  refine regp (ρ' := [(0, .slice A l.length c)]) (C := []) ha [] (by kernel_rfl) .nil ?_
  clear ha a; intro a ha
  refine tn ?_
  refine wseq ?_
  refine wseq ?_
  refine regp (ρ' := [(0, .slice A l.length c), (5, .slice A l.length c), (6, .int .i64 ((l.length : Nat) : Int)), (7, .int .i64 0)]) (C := []) ha [] (by kernel_rfl) .nil ?_
  clear ha a; intro a ha
  refine tn ?_
  refine wblk ?_
  refine wloop (fun zz a w1 => ∃ (i : Nat), zz = l.length - i ∧ On 45 [(0, .slice A l.length c), (5, .slice A l.length c), (6, .int .i64 ((l.length : Nat) : Int)), (7, .int .i64 ((i : Nat) : Int))] a ∧ Ext w w1 ∧ (i ≤ l.length) ∧ (entsTo l i = true)) _ ⟨0, rfl, ha.sub (ρ' := [(0, .slice A l.length c), (5, .slice A l.length c), (6, .int .i64 ((l.length : Nat) : Int)), (7, .int .i64 ((0 : Nat) : Int))]) (by kernel_rfl), hx, by omega, rfl⟩ ?_
  clear ha hx
  rintro zz a w2 ⟨i, hzz, ha, hx, hi, hok⟩
  refine wseq ?_
  refine regp (ρ' := [(0, .slice A l.length c), (5, .slice A l.length c), (6, .int .i64 ((l.length : Nat) : Int)), (7, .int .i64 ((i : Nat) : Int)), (8, .bool (decide (((i : Nat) : Int) < ((l.length : Nat) : Int))))]) (C := []) ha [] (by kernel_rfl) .nil ?_
  clear ha a; intro a ha
  refine tn ?_
  refine wseq ?_
  refine wif ha rfl (fun h8 => ?_) (fun h8 => ?_)
  · replace h8 := of_decide_eq_true h8
    have hil : i < l.length := by omega
    refine wskip ?_
    refine tn ?_
    refine wseq ?_
    refine wblk ?_
    refine wseq ?_
    refine reg_list ?_
    refine segp (ρ' := [(0, .slice A l.length c), (5, .slice A l.length c), (6, .int .i64 ((l.length : Nat) : Int)), (7, .int .i64 ((i : Nat) : Int)), (9, .int .i64 ((i : Nat) : Int)), (11, .agg ⟨encEnt (l.getD i default)⟩)]) (C := [RunOk Tryd.prog w2 (Instr.indexAt 50 (.slice A l.length c) (.int .i64 ((i : Nat) : Int))) (.pointer (some ⟨ab A, ao A + i * 34, none⟩)), RunOk Tryd.prog w2 (Instr.loadAt 89 (.pointer (some ⟨ab A, ao A + i * 34, none⟩))) (.agg ⟨encEnt (l.getD i default)⟩)]) ha 3 [(1, .val (.pointer (some ⟨ab A, ao A + i * 34, none⟩))), (2, .val (.agg ⟨encEnt (l.getD i default)⟩))] rfl (by kernel_rfl) (.cons (ixRd (e := 89) (by kernel_rfl) (by kernel_rfl) (rdE hx hr) (by omega)) (.cons (ldRdN (vs := encEnt (l.getD i default)) (j := i * 34) (by kernel_rfl) (by kernel_rfl) (rdE hx hr) (by omega) (flat_seg encEnt_len l default i (by omega))) .nil)) ?_
    clear ha a; intro a ha
    refine lnew ha rfl (by kernel_rfl) ⟨.string (S []) :: (.int .i64 0 :: (idc idZ))⟩ 89 (by kernel_rfl) ?_
    clear ha a; intro b3 w4 he hb_b3 hB_b3 a ha
    replace hb_b3 := Nat.le_trans hx.size hb_b3
    replace hx := hx.tr he
    clear he
    refine segp (ρ' := [(0, .slice A l.length c), (3, .int .i64 ((i : Nat) : Int)), (4, .pointer (some ⟨b3, 0, none⟩)), (5, .slice A l.length c), (6, .int .i64 ((l.length : Nat) : Int)), (7, .int .i64 ((i : Nat) : Int)), (11, .agg ⟨encEnt (l.getD i default)⟩)]) (C := []) ha 1 [] rfl (by kernel_rfl) .nil ?_
    clear ha a; intro a ha
    refine lstore (off := 0) ha rfl rfl (by kernel_rfl) hB_b3 ⟨encEnt (l.getD i default)⟩ rfl (by kernel_rfl) (by kernel_rfl) ?_
    clear ha a; intro w5 hc a ha
    replace hx := hc.ext hx hb_b3
    replace hB_b3 := hc.at_; clear hc
    refine lnil ?_
    replace ha := ha.sub (ρ' := [(0, .slice A l.length c), (3, .int .i64 ((i : Nat) : Int)), (4, .pointer (some ⟨b3, 0, none⟩)), (5, .slice A l.length c), (6, .int .i64 ((l.length : Nat) : Int)), (7, .int .i64 ((i : Nat) : Int))]) (by kernel_rfl)
    refine tn ?_
    refine wseq ?_
    have hnl := hn i hil
    refine reg hmix (ρ' := [(0, .slice A l.length c), (5, .slice A l.length c), (6, .int .i64 ((l.length : Nat) : Int)), (7, .int .i64 ((i : Nat) : Int)), (40, .bool (((!(oName ((l.getD i default).Name))) || ((!decide (((l.getD i default).Kind : Int) = 1)) && (!decide (((l.getD i default).Kind : Int) = 2)))) || ((decide ((0 : Int) < ((i : Nat) : Int))) && (!Op.bytesLess ((l.getD (((((i : Nat) : Int) - 1) : Int).toNat) default).Name : List UInt8) ((l.getD i default).Name : List UInt8)))))]) (C := [RunOk Tryd.prog w5 (Instr.loadAt 9 (.pointer (some ⟨b3, 0, none⟩))) (.string (S ((l.getD i default).Name))), CallOk Tryd.prog w5 51 #[.string (S ((l.getD i default).Name))] (.bool (oName ((l.getD i default).Name))), (!(oName ((l.getD i default).Name))) = false → All [RunOk Tryd.prog w5 (Instr.loadAt 3 (.pointer (some ⟨b3, 1, none⟩))) (.int .i64 ((l.getD i default).Kind)), (!decide (((l.getD i default).Kind : Int) = 1)) = true → All [RunOk Tryd.prog w5 (Instr.loadAt 3 (.pointer (some ⟨b3, 1, none⟩))) (.int .i64 ((l.getD i default).Kind))]], ((!(oName ((l.getD i default).Name))) || ((!decide (((l.getD i default).Kind : Int) = 1)) && (!decide (((l.getD i default).Kind : Int) = 2)))) = false → All [(decide ((0 : Int) < ((i : Nat) : Int))) = true → All [InR .i64 (((i : Nat) : Int) - 1), RunOk Tryd.prog w5 (Instr.indexAt 50 (.slice A l.length c) (.int .i64 (((i : Nat) : Int) - 1))) (.pointer (some ⟨ab A, ao A + ((((i : Nat) : Int) - 1) : Int).toNat * 34, none⟩)), RunOk Tryd.prog w5 (Instr.loadAt 9 (.pointer (some ⟨ab A, ao A + ((((i : Nat) : Int) - 1) : Int).toNat * 34, none⟩))) (.string (S ((l.getD (((((i : Nat) : Int) - 1) : Int).toNat) default).Name))), RunOk Tryd.prog w5 (Instr.loadAt 9 (.pointer (some ⟨b3, 0, none⟩))) (.string (S ((l.getD i default).Name)))]]]) ha [(1, .val (.string (S ((l.getD i default).Name)))), (2, .val (.bool (oName ((l.getD i default).Name)))), (6, .val (.int .i64 ((l.getD i default).Kind))), (10, .val (.int .i64 ((l.getD i default).Kind))), (21, .val (.pointer (some ⟨ab A, ao A + ((((i : Nat) : Int) - 1) : Int).toNat * 34, none⟩))), (23, .val (.string (S ((l.getD (((((i : Nat) : Int) - 1) : Int).toNat) default).Name)))), (25, .val (.string (S ((l.getD i default).Name))))] (by kernel_rfl) (.cons (ld1 hB_b3 (by kernel_rfl) (by kernel_rfl)) (.cons (fun w _ => name_ok _ w (by first | omega | (simp; done))) (.cons (fun hg5 => by simp only [Bool.not_eq_true', Bool.not_eq_false', Bool.and_eq_true, Bool.or_eq_true, Bool.and_eq_false_iff, Bool.or_eq_false_iff, decide_eq_true_eq, decide_eq_false_iff_not, Bool.not_eq_true, Decidable.not_not] at hg5; exact (.cons (ld1 hB_b3 (by kernel_rfl) (by kernel_rfl)) (.cons (fun hg9 => by simp only [Bool.not_eq_true', Bool.not_eq_false', Bool.and_eq_true, Bool.or_eq_true, Bool.and_eq_false_iff, Bool.or_eq_false_iff, decide_eq_true_eq, decide_eq_false_iff_not, Bool.not_eq_true, Decidable.not_not] at hg9; exact (.cons (ld1 hB_b3 (by kernel_rfl) (by kernel_rfl)) .nil)) .nil))) (.cons (fun hg15 => by simp only [Bool.not_eq_true', Bool.not_eq_false', Bool.and_eq_true, Bool.or_eq_true, Bool.and_eq_false_iff, Bool.or_eq_false_iff, decide_eq_true_eq, decide_eq_false_iff_not, Bool.not_eq_true, Decidable.not_not] at hg15; exact (.cons (fun hg18 => by replace hg18 := of_decide_eq_true hg18; exact (.cons (by unfold InR; omega) (.cons (ixRdI (e := 89) (by kernel_rfl) (by kernel_rfl) (rdE hx hr) ⟨by omega, by omega⟩) (.cons (ldRd (j := ((((i : Nat) : Int) - 1) : Int).toNat * 34) (by kernel_rfl) (rdE hx hr) (by omega) (flat_get0 encEnt_len l default (((((i : Nat) : Int) - 1) : Int).toNat) (by omega) rfl)) (.cons (ld1 hB_b3 (by kernel_rfl) (by kernel_rfl)) .nil))))) .nil)) .nil)))) ?_
    clear ha a; intro a w6 ha he
    replace hx := hx.tr he
    replace hB_b3 := keepB he hB_b3
    clear he
    refine tn ?_
    refine wif ha rfl (fun h40 => ?_) (fun h40 => ?_)
    · simp only [Bool.not_eq_true', Bool.not_eq_false', Bool.and_eq_true, Bool.or_eq_true, Bool.and_eq_false_iff, Bool.or_eq_false_iff, decide_eq_true_eq, decide_eq_false_iff_not, Bool.not_eq_true, Decidable.not_not] at h40
      have hent : entOk l i = false := by unfold entOk; rw [← Bool.not_eq_true]; intro hc; simp at hc; rcases h40 with (h40 | h40) | h40 <;> simp_all <;> omega
      have hres : oEntries l = false := by unfold oEntries; rw [entsTo_false (n := i + 1) (by omega) (by rw [entsTo_succ, hent]; simp)]; rfl
      refine wseq ?_
      refine regp (ρ' := [(2, .bool false)]) (C := []) ha [] (by kernel_rfl) .nil ?_
      clear ha a; intro a ha
      refine tn ?_
      refine wret ?_
      refine (br (tr (tr (br (tr ?_)))))
      refine fin ha (.tmp rfl .nil) ?_
      exact ⟨congrArg Value.bool hres.symm, hx⟩
    · simp only [Bool.not_eq_true', Bool.not_eq_false', Bool.and_eq_true, Bool.or_eq_true, Bool.and_eq_false_iff, Bool.or_eq_false_iff, decide_eq_true_eq, decide_eq_false_iff_not, Bool.not_eq_true, Decidable.not_not] at h40
      have hent : entOk l i = true := by unfold entOk; simp at h40 ⊢; simp [h40] <;> omega
      refine wskip ?_
      refine bn ?_
      refine tn ?_
      refine regp (ρ' := [(0, .slice A l.length c), (5, .slice A l.length c), (6, .int .i64 ((l.length : Nat) : Int)), (7, .int .i64 ((i + 1 : Nat) : Int))]) (C := [InR .i64 ((i + 1 : Nat) : Int)]) ha [] (by kernel_rfl) (.cons (by unfold InR; omega) .nil) ?_
      clear ha a; intro a ha
      exact tn ⟨l.length - ((i + 1)), by omega, (i + 1), rfl, ha.sub (ρ' := [(0, .slice A l.length c), (5, .slice A l.length c), (6, .int .i64 ((l.length : Nat) : Int)), (7, .int .i64 (((i + 1) : Nat) : Int))]) (by kernel_rfl), hx, by omega, by rw [entsTo_succ, hok, hent]; rfl⟩
  · replace h8 := of_decide_eq_false h8
    obtain rfl : i = l.length := by omega
    refine wexit ?_
    refine (te (te (be ?_)))
    refine tn ?_
    refine wseq ?_
    refine regp (ρ' := [(2, .bool (decide (((l.length : Nat) : Int) ≤ 64)))]) (C := []) ha [] (by kernel_rfl) .nil ?_
    clear ha a; intro a ha
    refine tn ?_
    refine wret ?_
    refine fin ha (.tmp rfl .nil) ?_
    refine ⟨congrArg Value.bool ?_, hx⟩
    unfold oEntries; rw [hok]; simp; omega
theorem may_ok (o : ObjL) (Ae Ap : Option Addr) (ce cp : Nat) (w : World) (hoe : Rd w 34 Ae o.Entries.length (o.Entries.flatMap encEnt)) (hop : Rd w 32 Ap o.Parents.length (o.Parents.flatMap idc)) (hok : ObjOk o) :
    Fn Tryd.prog 57 #[.agg ⟨objC o Ae ce Ap cp⟩] w (fun x w' => x = .bool (oMay o) ∧ Ext w w') := by
  have hx : Ext w w := Ext.rfl' w
  refine enter (N := 45) (args := [.agg ⟨objC o Ae ce Ap cp⟩]) Tryd.func57 rfl rfl rfl ?_
  intro a ha
  simp only [argEnv, Nat.zero_add, Nat.reduceAdd] at ha
  refine wseq ?_
  refine reg_list ?_
  refine lnew ha rfl (by kernel_rfl) ⟨objC o Ae ce Ap cp⟩ 54 (by kernel_rfl) ?_
  clear ha a; intro b1 w2 he hb_b1 hB_b1 a ha
  replace hb_b1 := Nat.le_trans hx.size hb_b1
  replace hx := hx.tr he
  clear he
  refine segp (ρ' := [(1, .pointer (some ⟨b1, 0, none⟩))]) (C := []) ha 1 [] rfl (by kernel_rfl) .nil ?_
  clear ha a; intro a ha
  refine lnil ?_
  replace ha := ha.sub (ρ' := [(1, .pointer (some ⟨b1, 0, none⟩))]) (by kernel_rfl)
  refine tn ?_
  refine wseq ?_
  refine wseq ?_
  refine regp (ρ' := [(1, .pointer (some ⟨b1, 0, none⟩)), (4, .int .i64 o.Kind)]) (C := [RunOk Tryd.prog w2 (Instr.loadAt 3 (.pointer (some ⟨b1, 0, none⟩))) (.int .i64 o.Kind)]) ha [(1, .val (.int .i64 o.Kind))] (by kernel_rfl) (.cons (ld1 hB_b1 (by kernel_rfl) (by kernel_rfl)) .nil) ?_
  clear ha a; intro a ha
  refine tn ?_
  refine wblk ?_
  refine wseq ?_
  refine regp (ρ' := [(1, .pointer (some ⟨b1, 0, none⟩)), (4, .int .i64 o.Kind), (5, .bool (decide ((o.Kind : Int) = 2)))]) (C := []) ha [] (by kernel_rfl) .nil ?_
  clear ha a; intro a ha
  refine tn ?_
  refine wif ha rfl (fun h5 => ?_) (fun h5 => ?_)
  · replace h5 := of_decide_eq_true h5
    refine wseq ?_
    refine reg hmix (ρ' := [(2, .bool ((oAlone o) && (oEntries o.Entries)))]) (C := [RunOk Tryd.prog w2 (Instr.loadAt 54 (.pointer (some ⟨b1, 0, none⟩))) (.agg ⟨objC o Ae ce Ap cp⟩), CallOk Tryd.prog w2 83 #[.agg ⟨objC o Ae ce Ap cp⟩] (.bool (oAlone o)), (oAlone o) = true → All [RunOk Tryd.prog w2 (Instr.loadAt 50 (.pointer (some ⟨b1, 2, none⟩))) (.slice Ae o.Entries.length ce), CallOk Tryd.prog w2 84 #[.slice Ae o.Entries.length ce] (.bool (oEntries o.Entries))]]) ha [(0, .val (.agg ⟨objC o Ae ce Ap cp⟩)), (1, .val (.bool (oAlone o))), (4, .val (.slice Ae o.Entries.length ce)), (5, .val (.bool (oEntries o.Entries)))] (by kernel_rfl) (.cons (ldN (n := 72) hB_b1 (by kernel_rfl) (by kernel_rfl) ⟨Nat.le_of_ble_eq_true (by kernel_rfl), (by kernel_rfl)⟩) (.cons (fun w2 h2 => alone_ok o _ _ _ _ w2 (rdE h2 (rdE hx hoe)) (rdE h2 (rdE hx hop))) (.cons (fun hg3 => by exact (.cons (ld1 hB_b1 (by kernel_rfl) (by kernel_rfl)) (.cons (fun w2 h2 => entries_ok _ _ _ w2 (rdE h2 (rdE hx hoe)) hok.el hok.en) .nil))) .nil))) ?_
    clear ha a; intro a w3 ha he
    replace hx := hx.tr he
    replace hB_b1 := keepB he hB_b1
    clear he
    refine tn ?_
    refine wret ?_
    refine (br (tr ?_))
    refine fin ha (.tmp rfl .nil) ?_
    refine ⟨congrArg Value.bool ?_, hx⟩
    unfold oMay; simp [*] <;> (congr 1; exact decide_eq_decide.2 (by omega))
  · replace h5 := of_decide_eq_false h5
    refine wseq ?_
    refine regp (ρ' := [(1, .pointer (some ⟨b1, 0, none⟩)), (4, .int .i64 o.Kind), (14, .bool (decide ((o.Kind : Int) = 3)))]) (C := []) ha [] (by kernel_rfl) .nil ?_
    clear ha a; intro a ha
    refine tn ?_
    refine wif ha rfl (fun h14 => ?_) (fun h14 => ?_)
    · replace h14 := of_decide_eq_true h14
      refine wseq ?_
      refine reg hmix (ρ' := [(2, .bool ((oAlone o) && (decide (((o.Parents.length : Nat) : Int) ≤ 8))))]) (C := [RunOk Tryd.prog w2 (Instr.loadAt 54 (.pointer (some ⟨b1, 0, none⟩))) (.agg ⟨objC o Ae ce Ap cp⟩), CallOk Tryd.prog w2 83 #[.agg ⟨objC o Ae ce Ap cp⟩] (.bool (oAlone o)), (oAlone o) = true → All [RunOk Tryd.prog w2 (Instr.loadAt 51 (.pointer (some ⟨b1, 35, none⟩))) (.slice Ap o.Parents.length cp)]]) ha [(0, .val (.agg ⟨objC o Ae ce Ap cp⟩)), (1, .val (.bool (oAlone o))), (4, .val (.slice Ap o.Parents.length cp))] (by kernel_rfl) (.cons (ldN (n := 72) hB_b1 (by kernel_rfl) (by kernel_rfl) ⟨Nat.le_of_ble_eq_true (by kernel_rfl), (by kernel_rfl)⟩) (.cons (fun w2 h2 => alone_ok o _ _ _ _ w2 (rdE h2 (rdE hx hoe)) (rdE h2 (rdE hx hop))) (.cons (fun hg3 => by exact (.cons (ld1 hB_b1 (by kernel_rfl) (by kernel_rfl)) .nil)) .nil))) ?_
      clear ha a; intro a w4 ha he
      replace hx := hx.tr he
      replace hB_b1 := keepB he hB_b1
      clear he
      refine tn ?_
      refine wret ?_
      refine (br (tr ?_))
      refine fin ha (.tmp rfl .nil) ?_
      refine ⟨congrArg Value.bool ?_, hx⟩
      unfold oMay; simp [*] <;> (congr 1; exact decide_eq_decide.2 (by omega))
    · replace h14 := of_decide_eq_false h14
      refine wseq ?_
      refine regp (ρ' := [(1, .pointer (some ⟨b1, 0, none⟩)), (24, .bool (decide ((o.Kind : Int) = 4)))]) (C := []) ha [] (by kernel_rfl) .nil ?_
      clear ha a; intro a ha
      refine tn ?_
      refine wif ha rfl (fun h24 => ?_) (fun h24 => ?_)
      · replace h24 := of_decide_eq_true h24
        refine wseq ?_
        have hnl := hok.nl
        refine reg hmix (ρ' := [(2, .bool (((oAlone o) && (decide (1 ≤ o.Of ∧ o.Of ≤ 4))) && (oName o.Name)))]) (C := [RunOk Tryd.prog w2 (Instr.loadAt 54 (.pointer (some ⟨b1, 0, none⟩))) (.agg ⟨objC o Ae ce Ap cp⟩), CallOk Tryd.prog w2 83 #[.agg ⟨objC o Ae ce Ap cp⟩] (.bool (oAlone o)), (oAlone o) = true → All [RunOk Tryd.prog w2 (Instr.loadAt 3 (.pointer (some ⟨b1, 70, none⟩))) (.int .i64 o.Of), CallOk Tryd.prog w2 85 #[.int .i64 o.Of] (.bool (decide (1 ≤ o.Of ∧ o.Of ≤ 4)))], ((oAlone o) && (decide (1 ≤ o.Of ∧ o.Of ≤ 4))) = true → All [RunOk Tryd.prog w2 (Instr.loadAt 9 (.pointer (some ⟨b1, 71, none⟩))) (.string (S o.Name)), CallOk Tryd.prog w2 51 #[.string (S o.Name)] (.bool (oName o.Name))]]) ha [(0, .val (.agg ⟨objC o Ae ce Ap cp⟩)), (1, .val (.bool (oAlone o))), (4, .val (.int .i64 o.Of)), (5, .val (.bool (decide (1 ≤ o.Of ∧ o.Of ≤ 4)))), (9, .val (.string (S o.Name))), (10, .val (.bool (oName o.Name)))] (by kernel_rfl) (.cons (ldN (n := 72) hB_b1 (by kernel_rfl) (by kernel_rfl) ⟨Nat.le_of_ble_eq_true (by kernel_rfl), (by kernel_rfl)⟩) (.cons (fun w2 h2 => alone_ok o _ _ _ _ w2 (rdE h2 (rdE hx hoe)) (rdE h2 (rdE hx hop))) (.cons (fun hg3 => by exact (.cons (ld1 hB_b1 (by kernel_rfl) (by kernel_rfl)) (.cons (fun w _ => kind_ok _ w) .nil))) (.cons (fun hg8 => by simp only [Bool.not_eq_true', Bool.not_eq_false', Bool.and_eq_true, Bool.or_eq_true, Bool.and_eq_false_iff, Bool.or_eq_false_iff, decide_eq_true_eq, decide_eq_false_iff_not, Bool.not_eq_true, Decidable.not_not] at hg8; exact (.cons (ld1 hB_b1 (by kernel_rfl) (by kernel_rfl)) (.cons (fun w _ => name_ok _ w (by first | omega | (simp; done))) .nil))) .nil)))) ?_
        clear ha a; intro a w5 ha he
        replace hx := hx.tr he
        replace hB_b1 := keepB he hB_b1
        clear he
        refine tn ?_
        refine wret ?_
        refine (br (tr ?_))
        refine fin ha (.tmp rfl .nil) ?_
        refine ⟨congrArg Value.bool ?_, hx⟩
        unfold oMay; simp [*] <;> (congr 1; exact decide_eq_decide.2 (by omega))
      · replace h24 := of_decide_eq_false h24
        refine wskip ?_
        refine bn ?_
        refine tn ?_
        refine wseq ?_
        refine reg hmix (ρ' := [(2, .bool ((decide ((o.Kind : Int) = 1)) && (oAlone o)))]) (C := [RunOk Tryd.prog w2 (Instr.loadAt 3 (.pointer (some ⟨b1, 0, none⟩))) (.int .i64 o.Kind), (decide ((o.Kind : Int) = 1)) = true → All [RunOk Tryd.prog w2 (Instr.loadAt 54 (.pointer (some ⟨b1, 0, none⟩))) (.agg ⟨objC o Ae ce Ap cp⟩), CallOk Tryd.prog w2 83 #[.agg ⟨objC o Ae ce Ap cp⟩] (.bool (oAlone o))]]) ha [(1, .val (.int .i64 o.Kind)), (4, .val (.agg ⟨objC o Ae ce Ap cp⟩)), (5, .val (.bool (oAlone o)))] (by kernel_rfl) (.cons (ld1 hB_b1 (by kernel_rfl) (by kernel_rfl)) (.cons (fun hg4 => by replace hg4 := of_decide_eq_true hg4; exact (.cons (ldN (n := 72) hB_b1 (by kernel_rfl) (by kernel_rfl) ⟨Nat.le_of_ble_eq_true (by kernel_rfl), (by kernel_rfl)⟩) (.cons (fun w2 h2 => alone_ok o _ _ _ _ w2 (rdE h2 (rdE hx hoe)) (rdE h2 (rdE hx hop))) .nil))) .nil)) ?_
        clear ha a; intro a w6 ha he
        replace hx := hx.tr he
        replace hB_b1 := keepB he hB_b1
        clear he
        refine tn ?_
        refine wret ?_
        refine fin ha (.tmp rfl .nil) ?_
        refine ⟨congrArg Value.bool ?_, hx⟩
        unfold oMay; simp [*] <;> (congr 1; exact decide_eq_decide.2 (by omega))
theorem rname_ok (l : List UInt8) (w : World) (hl : l.length ≤ 9223372036854775807) :
    Fn Tryd.prog 107 #[.string (S l)] w (fun x w' => x = .bool (oName l) ∧ Ext w w') := by
  have hx : Ext w w := Ext.rfl' w
  refine enter (N := 28) (args := [.string (S l)]) Tryd.func107 rfl rfl rfl ?_
  intro a ha
  simp only [argEnv, Nat.zero_add, Nat.reduceAdd] at ha
  refine wseq ?_
  refine regp (ρ' := [(0, .string (S l))]) (C := []) ha [] (by kernel_rfl) .nil ?_
  clear ha a; intro a ha
  refine tn ?_
  refine wseq ?_
  refine wseq ?_
  refine regp (ρ' := [(0, .string (S l)), (3, .int .i64 0)]) (C := []) ha [] (by kernel_rfl) .nil ?_
  clear ha a; intro a ha
  refine tn ?_
  refine wblk ?_
  refine wloop (fun zz a w1 => ∃ (i : Nat), zz = l.length - i ∧ On 28 [(0, .string (S l)), (3, .int .i64 ((i : Nat) : Int))] a ∧ Ext w w1 ∧ (i ≤ l.length) ∧ (oNameTo l i = true)) _ ⟨0, rfl, ha.sub (ρ' := [(0, .string (S l)), (3, .int .i64 ((0 : Nat) : Int))]) (by kernel_rfl), hx, by omega, rfl⟩ ?_
  clear ha hx
  rintro zz a w2 ⟨i, hzz, ha, hx, hi, hf⟩
  refine wseq ?_
  refine wseq ?_
  refine regp (ρ' := [(0, .string (S l)), (3, .int .i64 ((i : Nat) : Int)), (7, .bool (decide (((i : Nat) : Int) < ((l.length : Nat) : Int))))]) (C := []) ha [] (by kernel_rfl) .nil ?_
  clear ha a; intro a ha
  refine tn ?_
  refine wif ha rfl (fun h7 => ?_) (fun h7 => ?_)
  · replace h7 := of_decide_eq_true h7
    have hil : i < l.length := by omega
    refine wskip ?_
    refine tn ?_
    refine wseq ?_
    refine wblk ?_
    refine wseq ?_
    refine regp (ρ' := [(0, .string (S l)), (3, .int .i64 ((i : Nat) : Int)), (19, .bool ((decide ((((l.getD i 0).toNat : Nat) : Int) = 0)) || (decide ((((l.getD i 0).toNat : Nat) : Int) = 47))))]) (C := [0 ≤ ((i : Nat) : Int) ∧ ((i : Nat) : Int) < (l.length : Int), (decide ((((l.getD i 0).toNat : Nat) : Int) = 0)) = false → All [0 ≤ ((i : Nat) : Int) ∧ ((i : Nat) : Int) < (l.length : Int)]]) ha [] (by kernel_rfl) (.cons ⟨by omega, by omega⟩ (.cons (fun hg5 => by replace hg5 := of_decide_eq_false hg5; exact (.cons ⟨by omega, by omega⟩ .nil)) .nil)) ?_
    clear ha a; intro a ha
    refine tn ?_
    refine wif ha rfl (fun h19 => ?_) (fun h19 => ?_)
    · simp only [Bool.not_eq_true', Bool.not_eq_false', Bool.and_eq_true, Bool.or_eq_true, Bool.and_eq_false_iff, Bool.or_eq_false_iff, decide_eq_true_eq, decide_eq_false_iff_not, Bool.not_eq_true, Decidable.not_not] at h19
      have hres : oName l = false := oNameTo_false hil (by rw [oNameTo_succ l i hil, hf, decide_eq_false (fun h => h19.elim (fun e => h.1 (u8_zero.1 e)) (fun e => h.2 (u8_slash.1 e)))]; rfl)
      refine wseq ?_
      refine regp (ρ' := [(2, .bool false)]) (C := []) ha [] (by kernel_rfl) .nil ?_
      clear ha a; intro a ha
      refine tn ?_
      refine wret ?_
      refine (br (tr (tr (br (tr ?_)))))
      refine fin ha (.tmp rfl .nil) ?_
      exact ⟨congrArg Value.bool hres.symm, hx⟩
    · simp only [Bool.not_eq_true', Bool.not_eq_false', Bool.and_eq_true, Bool.or_eq_true, Bool.and_eq_false_iff, Bool.or_eq_false_iff, decide_eq_true_eq, decide_eq_false_iff_not, Bool.not_eq_true, Decidable.not_not] at h19
      refine wskip ?_
      refine bn ?_
      refine tn ?_
      refine regp (ρ' := [(0, .string (S l)), (3, .int .i64 ((i + 1 : Nat) : Int))]) (C := [InR .i64 ((i + 1 : Nat) : Int)]) ha [] (by kernel_rfl) (.cons (by unfold InR; omega) .nil) ?_
      clear ha a; intro a ha
      exact tn ⟨l.length - ((i + 1)), by omega, (i + 1), rfl, ha.sub (ρ' := [(0, .string (S l)), (3, .int .i64 (((i + 1) : Nat) : Int))]) (by kernel_rfl), hx, by omega, by rw [oNameTo_succ l i hil, hf, decide_eq_true ⟨fun h => h19.1 (u8_zero.2 h), fun h => h19.2 (u8_slash.2 h)⟩]; rfl⟩
  · replace h7 := of_decide_eq_false h7
    obtain rfl : i = l.length := by omega
    have hres : oName l = decide (1 ≤ l.length ∧ l.length ≤ 40) := by rw [oName_all, hf]; simp
    refine wexit ?_
    refine (te (te (be ?_)))
    refine tn ?_
    refine wseq ?_
    refine regp (ρ' := [(2, .bool ((decide ((1 : Int) ≤ ((l.length : Nat) : Int))) && (decide (((l.length : Nat) : Int) ≤ 40))))]) (C := []) ha [] (by kernel_rfl) .nil ?_
    clear ha a; intro a ha
    refine tn ?_
    refine wret ?_
    refine fin ha (.tmp rfl .nil) ?_
    refine ⟨congrArg Value.bool ?_, hx⟩
    rw [hres, Bool.eq_iff_iff]; simp; omega
theorem one_ok (n : Int) (w : World) :
    Fn Tryd.prog 91 #[.int .i64 n] w (fun x w' => x = .string (S [UInt8.ofNat (n % 256).toNat]) ∧ Ext w w') := by
  have hx : Ext w w := Ext.rfl' w
  refine enter (N := 7) (args := [.int .i64 n]) Tryd.func91 rfl rfl rfl ?_
  intro a ha
  simp only [argEnv, Nat.zero_add, Nat.reduceAdd] at ha
  refine wseq ?_
  refine regp (ρ' := [(0, .int .i64 n)]) (C := []) ha [] (by kernel_rfl) .nil ?_
  clear ha a; intro a ha
  refine tn ?_
  refine wseq ?_
  refine reg_list ?_
  refine segp (ρ' := [(4, .int .u8 (n % 256))]) (C := []) ha 2 [(1, .mod)] rfl (by kernel_rfl) .nil ?_
  clear ha a; intro a ha
  refine lnewS ha rfl (by kernel_rfl) #[.int .u8 (n % 256)] 5 1 (by kernel_rfl) ?_
  clear ha a; intro b1 w2 he hb_b1 hB_b1 a ha
  replace hb_b1 := Nat.le_trans hx.size hb_b1
  replace hx := hx.tr he
  clear he
  refine segp (ρ' := [(2, .string (S [UInt8.ofNat ((n % 256) : Int).toNat]))]) (C := [RunOk Tryd.prog w2 (convert 63 9 (.slice (some ⟨b1, 0, none⟩) 1 1)) (.string (S [UInt8.ofNat ((n % 256) : Int).toNat]))]) ha 2 [(0, .val (.string (S [UInt8.ofNat ((n % 256) : Int).toNat])))] rfl (by kernel_rfl) (.cons (cvBlk (e := 5) (zs := [((n % 256) : Int)]) (by kernel_rfl) (by kernel_rfl) (by kernel_rfl) hB_b1 rfl rfl) .nil) ?_
  clear ha a; intro a ha
  refine lnil ?_
  replace ha := ha.sub (ρ' := [(2, .string (S [UInt8.ofNat ((n % 256) : Int).toNat]))]) (by kernel_rfl)
  refine tn ?_
  refine wret ?_
  refine fin ha (.tmp rfl .nil) ?_
  exact ⟨rfl, hx⟩
theorem idbytes_ok (x : Id) (w : World) :
    Fn Tryd.prog 109 #[.agg ⟨idc x⟩] w (fun v w' => v = .string (S x.l) ∧ Ext w w') := by
  have hx : Ext w w := Ext.rfl' w
  refine enter (N := 5) (args := [.agg ⟨idc x⟩]) Tryd.func109 rfl rfl rfl ?_
  intro a ha
  simp only [argEnv, Nat.zero_add, Nat.reduceAdd] at ha
  refine wseq ?_
  refine reg_list ?_
  refine lnew ha rfl (by kernel_rfl) ⟨idc x⟩ 24 (by kernel_rfl) ?_
  clear ha a; intro b1 w2 he hb_b1 hB_b1 a ha
  replace hb_b1 := Nat.le_trans hx.size hb_b1
  replace hx := hx.tr he
  clear he
  refine segp (ρ' := [(1, .pointer (some ⟨b1, 0, none⟩))]) (C := []) ha 1 [] rfl (by kernel_rfl) .nil ?_
  clear ha a; intro a ha
  refine lnil ?_
  replace ha := ha.sub (ρ' := [(1, .pointer (some ⟨b1, 0, none⟩))]) (by kernel_rfl)
  refine tn ?_
  refine wseq ?_
  refine regp (ρ' := [(2, .string (S x.l))]) (C := [RunOk Tryd.prog w2 (convert 63 9 (.slice (some ⟨b1, 0, none⟩) 32 32)) (.string (S x.l))]) ha [(0, .raw), (1, .val (.string (S x.l)))] (by kernel_rfl) (.cons (cvId (e := 5) (x := x) (by kernel_rfl) (by kernel_rfl) (by kernel_rfl) hB_b1 (by kernel_rfl)) .nil) ?_
  clear ha a; intro a ha
  refine tn ?_
  refine wret ?_
  refine fin ha (.tmp rfl .nil) ?_
  exact ⟨rfl, hx⟩
theorem rmay_ok (o : ObjL) (Ae Ap : Option Addr) (ce cp : Nat) (w : World) (hoe : Rd w 34 Ae o.Entries.length (o.Entries.flatMap encEnt)) (hop : Rd w 32 Ap o.Parents.length (o.Parents.flatMap idc)) (hok : ObjOk o) :
    Fn Tryd.prog 90 #[.agg ⟨objC o Ae ce Ap cp⟩] w (fun x w' => x = .bool (oMay o) ∧ Ext w w') := by
  have hx : Ext w w := Ext.rfl' w
  refine enter (N := 144) (args := [.agg ⟨objC o Ae ce Ap cp⟩]) Tryd.func90 rfl rfl rfl ?_
  intro a ha
  simp only [argEnv, Nat.zero_add, Nat.reduceAdd] at ha
  refine wseq ?_
  refine reg_list ?_
  refine lnew ha rfl (by kernel_rfl) ⟨objC o Ae ce Ap cp⟩ 54 (by kernel_rfl) ?_
  clear ha a; intro b1 w2 he hb_b1 hB_b1 a ha
  replace hb_b1 := Nat.le_trans hx.size hb_b1
  replace hx := hx.tr he
  clear he
  refine segp (ρ' := [(1, .pointer (some ⟨b1, 0, none⟩))]) (C := []) ha 1 [] rfl (by kernel_rfl) .nil ?_
  clear ha a; intro a ha
  refine lnil ?_
  replace ha := ha.sub (ρ' := [(1, .pointer (some ⟨b1, 0, none⟩))]) (by kernel_rfl)
  refine tn ?_
  refine wseq ?_
  refine wseq ?_
  refine regp (ρ' := [(1, .pointer (some ⟨b1, 0, none⟩)), (15, .bool ((decide ((o.Kind : Int) < 1)) || (decide ((4 : Int) < o.Kind))))]) (C := [RunOk Tryd.prog w2 (Instr.loadAt 3 (.pointer (some ⟨b1, 0, none⟩))) (.int .i64 o.Kind), (decide ((o.Kind : Int) < 1)) = false → All [RunOk Tryd.prog w2 (Instr.loadAt 3 (.pointer (some ⟨b1, 0, none⟩))) (.int .i64 o.Kind)]]) ha [(1, .val (.int .i64 o.Kind)), (5, .val (.int .i64 o.Kind))] (by kernel_rfl) (.cons (ld1 hB_b1 (by kernel_rfl) (by kernel_rfl)) (.cons (fun hg4 => by replace hg4 := of_decide_eq_false hg4; exact (.cons (ld1 hB_b1 (by kernel_rfl) (by kernel_rfl)) .nil)) .nil)) ?_
  clear ha a; intro a ha
  refine tn ?_
  refine wif ha rfl (fun h15 => ?_) (fun h15 => ?_)
  · simp only [Bool.not_eq_true', Bool.not_eq_false', Bool.and_eq_true, Bool.or_eq_true, Bool.and_eq_false_iff, Bool.or_eq_false_iff, decide_eq_true_eq, decide_eq_false_iff_not, Bool.not_eq_true, Decidable.not_not] at h15
    have hres : oMay o = false := by rw [← Bool.not_eq_true, oMay_iff]; rintro ⟨k1, k2, k3, k4, k5, k6, k7, k8, k9⟩; omega
    refine wseq ?_
    refine regp (ρ' := [(2, .bool false)]) (C := []) ha [] (by kernel_rfl) .nil ?_
    clear ha a; intro a ha
    refine tn ?_
    refine wret ?_
    refine (tr ?_)
    refine fin ha (.tmp rfl .nil) ?_
    exact ⟨congrArg Value.bool hres.symm, hx⟩
  · simp only [Bool.not_eq_true', Bool.not_eq_false', Bool.and_eq_true, Bool.or_eq_true, Bool.and_eq_false_iff, Bool.or_eq_false_iff, decide_eq_true_eq, decide_eq_false_iff_not, Bool.not_eq_true, Decidable.not_not] at h15
    refine wskip ?_
    refine tn ?_
    refine wseq ?_
    refine reg_list ?_
    refine segp (ρ' := [(1, .pointer (some ⟨b1, 0, none⟩)), (16, .agg ⟨idc idZ⟩)]) (C := []) ha 1 [] rfl (by kernel_rfl) .nil ?_
    clear ha a; intro a ha
    refine lnew ha rfl (by kernel_rfl) ⟨idc idZ⟩ 24 (by kernel_rfl) ?_
    clear ha a; intro b3 w4 he hb_b3 hB_b3 a ha
    have hne_b1_b3 : b1 ≠ b3 := ne_new hB_b1 hb_b3
    replace hB_b1 := keepB he hB_b1
    replace hb_b3 := Nat.le_trans hx.size hb_b3
    replace hx := hx.tr he
    clear he
    refine lstore (off := 0) ha rfl rfl (by kernel_rfl) hB_b3 ⟨idc idZ⟩ rfl (by kernel_rfl) (by kernel_rfl) ?_
    clear ha a; intro w5 hc a ha
    replace hB_b1 := hc.keep hB_b1 (by first | assumption | exact Ne.symm (by assumption))
    replace hx := hc.ext hx hb_b3
    replace hB_b3 := hc.at_; clear hc
    refine lnil ?_
    replace ha := ha.sub (ρ' := [(1, .pointer (some ⟨b1, 0, none⟩)), (3, .pointer (some ⟨b3, 0, none⟩))]) (by kernel_rfl)
    refine tn ?_
    refine wseq ?_
    refine wseq ?_
    refine regp (ρ' := [(1, .pointer (some ⟨b1, 0, none⟩)), (3, .pointer (some ⟨b3, 0, none⟩)), (35, .bool (((!decide ((o.Kind : Int) = 1)) && (!decide ((o.Data : List UInt8) = ([] : List UInt8)))) || ((!decide ((o.Kind : Int) = 2)) && (decide ((0 : Int) < ((o.Entries.length : Nat) : Int))))))]) (C := [RunOk Tryd.prog w5 (Instr.loadAt 3 (.pointer (some ⟨b1, 0, none⟩))) (.int .i64 o.Kind), (!decide ((o.Kind : Int) = 1)) = true → All [RunOk Tryd.prog w5 (Instr.loadAt 9 (.pointer (some ⟨b1, 1, none⟩))) (.string (S o.Data))], ((!decide ((o.Kind : Int) = 1)) && (!decide ((o.Data : List UInt8) = ([] : List UInt8)))) = false → All [RunOk Tryd.prog w5 (Instr.loadAt 3 (.pointer (some ⟨b1, 0, none⟩))) (.int .i64 o.Kind), (!decide ((o.Kind : Int) = 2)) = true → All [RunOk Tryd.prog w5 (Instr.loadAt 50 (.pointer (some ⟨b1, 2, none⟩))) (.slice Ae o.Entries.length ce)]]]) ha [(1, .val (.int .i64 o.Kind)), (5, .val (.string (S o.Data))), (10, .val (.int .i64 o.Kind)), (14, .val (.slice Ae o.Entries.length ce))] (by kernel_rfl) (.cons (ld1 hB_b1 (by kernel_rfl) (by kernel_rfl)) (.cons (fun hg4 => by simp only [Bool.not_eq_true', Bool.not_eq_false', Bool.and_eq_true, Bool.or_eq_true, Bool.and_eq_false_iff, Bool.or_eq_false_iff, decide_eq_true_eq, decide_eq_false_iff_not, Bool.not_eq_true, Decidable.not_not] at hg4; exact (.cons (ld1 hB_b1 (by kernel_rfl) (by kernel_rfl)) .nil)) (.cons (fun hg9 => by simp only [Bool.not_eq_true', Bool.not_eq_false', Bool.and_eq_true, Bool.or_eq_true, Bool.and_eq_false_iff, Bool.or_eq_false_iff, decide_eq_true_eq, decide_eq_false_iff_not, Bool.not_eq_true, Decidable.not_not] at hg9; exact (.cons (ld1 hB_b1 (by kernel_rfl) (by kernel_rfl)) (.cons (fun hg13 => by simp only [Bool.not_eq_true', Bool.not_eq_false', Bool.and_eq_true, Bool.or_eq_true, Bool.and_eq_false_iff, Bool.or_eq_false_iff, decide_eq_true_eq, decide_eq_false_iff_not, Bool.not_eq_true, Decidable.not_not] at hg13; exact (.cons (ld1 hB_b1 (by kernel_rfl) (by kernel_rfl)) .nil)) .nil))) .nil))) ?_
    clear ha a; intro a ha
    refine tn ?_
    refine wif ha rfl (fun h35 => ?_) (fun h35 => ?_)
    · simp only [Bool.not_eq_true', Bool.not_eq_false', Bool.and_eq_true, Bool.or_eq_true, Bool.and_eq_false_iff, Bool.or_eq_false_iff, decide_eq_true_eq, decide_eq_false_iff_not, Bool.not_eq_true, Decidable.not_not] at h35
      have hres : oMay o = false := by rw [← Bool.not_eq_true, oMay_iff]; rintro ⟨k1, k2, k3, k4, k5, k6, k7, k8, k9⟩; rcases h35 with ⟨h1, h2⟩ | ⟨h1, h2⟩; exact h2 (k2 h1); rw [k3 h1] at h2; simp at h2
      refine wseq ?_
      refine regp (ρ' := [(2, .bool false)]) (C := []) ha [] (by kernel_rfl) .nil ?_
      clear ha a; intro a ha
      refine tn ?_
      refine wret ?_
      refine (tr ?_)
      refine fin ha (.tmp rfl .nil) ?_
      exact ⟨congrArg Value.bool hres.symm, hx⟩
    · simp only [Bool.not_eq_true', Bool.not_eq_false', Bool.and_eq_true, Bool.or_eq_true, Bool.and_eq_false_iff, Bool.or_eq_false_iff, decide_eq_true_eq, decide_eq_false_iff_not, Bool.not_eq_true, Decidable.not_not] at h35
      have f35 : (o.Kind ≠ 1 → o.Data = []) ∧ (o.Kind ≠ 2 → o.Entries = []) := ⟨fun h => by rcases h35.1 with h1 | h1; exact absurd h1 h; exact h1, fun h => by rcases h35.2 with h1 | h1; exact absurd h1 h; exact List.eq_nil_of_length_eq_zero (by omega)⟩
      refine wskip ?_
      refine tn ?_
      refine wseq ?_
      refine wseq ?_
      refine regp (ρ' := [(1, .pointer (some ⟨b1, 0, none⟩)), (3, .pointer (some ⟨b3, 0, none⟩)), (60, .bool ((!decide ((o.Kind : Int) = 3)) && ((((!decide (o.Tree = idZ)) || (decide ((0 : Int) < ((o.Parents.length : Nat) : Int)))) || (!decide (((o.Time : Nat) : Int) = 0))) || (!decide ((o.Text : List UInt8) = ([] : List UInt8))))))]) (C := [RunOk Tryd.prog w5 (Instr.loadAt 3 (.pointer (some ⟨b1, 0, none⟩))) (.int .i64 o.Kind), (!decide ((o.Kind : Int) = 3)) = true → All [RunOk Tryd.prog w5 (Instr.loadAt 24 (.pointer (some ⟨b1, 3, none⟩))) (.agg ⟨idc o.Tree⟩), RunOk Tryd.prog w5 (Instr.loadAt 24 (.pointer (some ⟨b3, 0, none⟩))) (.agg ⟨idc idZ⟩), BinOk Tryd.prog .neq 24 (.agg ⟨idc o.Tree⟩) (.agg ⟨idc idZ⟩) (.bool (!decide (o.Tree = idZ))), (!decide (o.Tree = idZ)) = false → All [RunOk Tryd.prog w5 (Instr.loadAt 51 (.pointer (some ⟨b1, 35, none⟩))) (.slice Ap o.Parents.length cp)], ((!decide (o.Tree = idZ)) || (decide ((0 : Int) < ((o.Parents.length : Nat) : Int)))) = false → All [RunOk Tryd.prog w5 (Instr.loadAt 52 (.pointer (some ⟨b1, 36, none⟩))) (.int .u32 ((o.Time : Nat) : Int))], (((!decide (o.Tree = idZ)) || (decide ((0 : Int) < ((o.Parents.length : Nat) : Int)))) || (!decide (((o.Time : Nat) : Int) = 0))) = false → All [RunOk Tryd.prog w5 (Instr.loadAt 9 (.pointer (some ⟨b1, 37, none⟩))) (.string (S o.Text))]]]) ha [(1, .val (.int .i64 o.Kind)), (5, .val (.agg ⟨idc o.Tree⟩)), (6, .val (.agg ⟨idc idZ⟩)), (7, .val (.bool (!decide (o.Tree = idZ)))), (10, .val (.slice Ap o.Parents.length cp)), (16, .val (.int .u32 ((o.Time : Nat) : Int))), (21, .val (.string (S o.Text)))] (by kernel_rfl) (.cons (ld1 hB_b1 (by kernel_rfl) (by kernel_rfl)) (.cons (fun hg4 => by simp only [Bool.not_eq_true', Bool.not_eq_false', Bool.and_eq_true, Bool.or_eq_true, Bool.and_eq_false_iff, Bool.or_eq_false_iff, decide_eq_true_eq, decide_eq_false_iff_not, Bool.not_eq_true, Decidable.not_not] at hg4; exact (.cons (ldN (n := 32) hB_b1 (by kernel_rfl) (by kernel_rfl) ⟨Nat.le_of_ble_eq_true (by kernel_rfl), (by kernel_rfl)⟩) (.cons (ldN (n := 32) hB_b3 (by kernel_rfl) (by kernel_rfl) ⟨Nat.le_of_ble_eq_true (by kernel_rfl), (by kernel_rfl)⟩) (.cons (eqIdN (x := o.Tree) (y := idZ) (by kernel_rfl)) (.cons (fun hg9 => by simp only [Bool.not_eq_true', Bool.not_eq_false', Bool.and_eq_true, Bool.or_eq_true, Bool.and_eq_false_iff, Bool.or_eq_false_iff, decide_eq_true_eq, decide_eq_false_iff_not, Bool.not_eq_true, Decidable.not_not] at hg9; exact (.cons (ld1 hB_b1 (by kernel_rfl) (by kernel_rfl)) .nil)) (.cons (fun hg15 => by simp only [Bool.not_eq_true', Bool.not_eq_false', Bool.and_eq_true, Bool.or_eq_true, Bool.and_eq_false_iff, Bool.or_eq_false_iff, decide_eq_true_eq, decide_eq_false_iff_not, Bool.not_eq_true, Decidable.not_not] at hg15; exact (.cons (ld1 hB_b1 (by kernel_rfl) (by kernel_rfl)) .nil)) (.cons (fun hg20 => by simp only [Bool.not_eq_true', Bool.not_eq_false', Bool.and_eq_true, Bool.or_eq_true, Bool.and_eq_false_iff, Bool.or_eq_false_iff, decide_eq_true_eq, decide_eq_false_iff_not, Bool.not_eq_true, Decidable.not_not] at hg20; exact (.cons (ld1 hB_b1 (by kernel_rfl) (by kernel_rfl)) .nil)) .nil))))))) .nil)) ?_
      clear ha a; intro a ha
      refine tn ?_
      refine wif ha rfl (fun h60 => ?_) (fun h60 => ?_)
      · simp only [Bool.not_eq_true', Bool.not_eq_false', Bool.and_eq_true, Bool.or_eq_true, Bool.and_eq_false_iff, Bool.or_eq_false_iff, decide_eq_true_eq, decide_eq_false_iff_not, Bool.not_eq_true, Decidable.not_not] at h60
        have hres : oMay o = false := by rw [← Bool.not_eq_true, oMay_iff]; rintro ⟨k1, k2, k3, k4, k5, k6, k7, k8, k9⟩; obtain ⟨h1, h2⟩ := h60; obtain ⟨q1, q2, q3, q4⟩ := k4 h1; simp [q1, q2, q3, q4] at h2
        refine wseq ?_
        refine regp (ρ' := [(2, .bool false)]) (C := []) ha [] (by kernel_rfl) .nil ?_
        clear ha a; intro a ha
        refine tn ?_
        refine wret ?_
        refine (tr ?_)
        refine fin ha (.tmp rfl .nil) ?_
        exact ⟨congrArg Value.bool hres.symm, hx⟩
      · simp only [Bool.not_eq_true', Bool.not_eq_false', Bool.and_eq_true, Bool.or_eq_true, Bool.and_eq_false_iff, Bool.or_eq_false_iff, decide_eq_true_eq, decide_eq_false_iff_not, Bool.not_eq_true, Decidable.not_not] at h60
        have f60 : o.Kind ≠ 3 → o.Tree = idZ ∧ o.Parents = [] ∧ o.Time = 0 ∧ o.Text = [] := fun h => by rcases h60 with h1 | ⟨⟨⟨h1, h2⟩, h3⟩, h4⟩; exact absurd h1 h; exact ⟨h1, List.eq_nil_of_length_eq_zero (by omega), by omega, h4⟩
        refine wskip ?_
        refine tn ?_
        refine wcut (fun a w6 => On 144 [(1, .pointer (some ⟨b1, 0, none⟩))] a ∧ Ext w w6 ∧ w6.heap[b1]? = some (.cells ⟨objC o Ae ce Ap cp⟩ 54 (0, 0)) ∧ w6.heap[b3]? = some (.cells ⟨idc idZ⟩ 24 (0, 0)) ∧ ((o.Kind ≠ 4 → o.Target = idZ ∧ o.Of = 0 ∧ o.Name = []) ∧ (o.Kind = 4 → (1 ≤ o.Of ∧ o.Of ≤ 4) ∧ oName o.Name = true))) ?_ ?_
        ·
          refine wseq ?_
          refine regp (ρ' := [(1, .pointer (some ⟨b1, 0, none⟩)), (3, .pointer (some ⟨b3, 0, none⟩)), (63, .bool (!decide ((o.Kind : Int) = 4)))]) (C := [RunOk Tryd.prog w5 (Instr.loadAt 3 (.pointer (some ⟨b1, 0, none⟩))) (.int .i64 o.Kind)]) ha [(1, .val (.int .i64 o.Kind))] (by kernel_rfl) (.cons (ld1 hB_b1 (by kernel_rfl) (by kernel_rfl)) .nil) ?_
          clear ha a; intro a ha
          refine tn ?_
          refine wif ha rfl (fun h63 => ?_) (fun h63 => ?_)
          · simp only [Bool.not_eq_true', Bool.not_eq_false', Bool.and_eq_true, Bool.or_eq_true, Bool.and_eq_false_iff, Bool.or_eq_false_iff, decide_eq_true_eq, decide_eq_false_iff_not, Bool.not_eq_true, Decidable.not_not] at h63
            refine wseq ?_
            refine regp (ρ' := [(1, .pointer (some ⟨b1, 0, none⟩)), (77, .bool (((!decide (o.Target = idZ)) || (!decide ((o.Of : Int) = 0))) || (!decide ((o.Name : List UInt8) = ([] : List UInt8)))))]) (C := [RunOk Tryd.prog w5 (Instr.loadAt 24 (.pointer (some ⟨b1, 38, none⟩))) (.agg ⟨idc o.Target⟩), RunOk Tryd.prog w5 (Instr.loadAt 24 (.pointer (some ⟨b3, 0, none⟩))) (.agg ⟨idc idZ⟩), BinOk Tryd.prog .neq 24 (.agg ⟨idc o.Target⟩) (.agg ⟨idc idZ⟩) (.bool (!decide (o.Target = idZ))), (!decide (o.Target = idZ)) = false → All [RunOk Tryd.prog w5 (Instr.loadAt 3 (.pointer (some ⟨b1, 70, none⟩))) (.int .i64 o.Of)], ((!decide (o.Target = idZ)) || (!decide ((o.Of : Int) = 0))) = false → All [RunOk Tryd.prog w5 (Instr.loadAt 9 (.pointer (some ⟨b1, 71, none⟩))) (.string (S o.Name))]]) ha [(1, .val (.agg ⟨idc o.Target⟩)), (2, .val (.agg ⟨idc idZ⟩)), (3, .val (.bool (!decide (o.Target = idZ)))), (6, .val (.int .i64 o.Of)), (11, .val (.string (S o.Name)))] (by kernel_rfl) (.cons (ldN (n := 32) hB_b1 (by kernel_rfl) (by kernel_rfl) ⟨Nat.le_of_ble_eq_true (by kernel_rfl), (by kernel_rfl)⟩) (.cons (ldN (n := 32) hB_b3 (by kernel_rfl) (by kernel_rfl) ⟨Nat.le_of_ble_eq_true (by kernel_rfl), (by kernel_rfl)⟩) (.cons (eqIdN (x := o.Target) (y := idZ) (by kernel_rfl)) (.cons (fun hg5 => by simp only [Bool.not_eq_true', Bool.not_eq_false', Bool.and_eq_true, Bool.or_eq_true, Bool.and_eq_false_iff, Bool.or_eq_false_iff, decide_eq_true_eq, decide_eq_false_iff_not, Bool.not_eq_true, Decidable.not_not] at hg5; exact (.cons (ld1 hB_b1 (by kernel_rfl) (by kernel_rfl)) .nil)) (.cons (fun hg10 => by simp only [Bool.not_eq_true', Bool.not_eq_false', Bool.and_eq_true, Bool.or_eq_true, Bool.and_eq_false_iff, Bool.or_eq_false_iff, decide_eq_true_eq, decide_eq_false_iff_not, Bool.not_eq_true, Decidable.not_not] at hg10; exact (.cons (ld1 hB_b1 (by kernel_rfl) (by kernel_rfl)) .nil)) .nil))))) ?_
            clear ha a; intro a ha
            refine tn ?_
            refine wif ha rfl (fun h77 => ?_) (fun h77 => ?_)
            · simp only [Bool.not_eq_true', Bool.not_eq_false', Bool.and_eq_true, Bool.or_eq_true, Bool.and_eq_false_iff, Bool.or_eq_false_iff, decide_eq_true_eq, decide_eq_false_iff_not, Bool.not_eq_true, Decidable.not_not] at h77
              have hres : oMay o = false := by rw [← Bool.not_eq_true, oMay_iff]; rintro ⟨k1, k2, k3, k4, k5, k6, k7, k8, k9⟩; obtain ⟨q1, q2, q3⟩ := k5 h63; simp [q1, q2, q3] at h77
              refine wseq ?_
              refine regp (ρ' := [(2, .bool false)]) (C := []) ha [] (by kernel_rfl) .nil ?_
              clear ha a; intro a ha
              refine tn ?_
              refine wret ?_
              refine (tr ?_)
              refine fin ha (.tmp rfl .nil) ?_
              exact ⟨congrArg Value.bool hres.symm, hx⟩
            · simp only [Bool.not_eq_true', Bool.not_eq_false', Bool.and_eq_true, Bool.or_eq_true, Bool.and_eq_false_iff, Bool.or_eq_false_iff, decide_eq_true_eq, decide_eq_false_iff_not, Bool.not_eq_true, Decidable.not_not] at h77
              refine wskip ?_
              exact tn ⟨ha.sub (ρ' := [(1, .pointer (some ⟨b1, 0, none⟩))]) (by kernel_rfl), hx, hB_b1, hB_b3, ⟨fun h => ⟨h77.1.1, h77.1.2, h77.2⟩, fun h => absurd h h63⟩⟩
          · simp only [Bool.not_eq_true', Bool.not_eq_false', Bool.and_eq_true, Bool.or_eq_true, Bool.and_eq_false_iff, Bool.or_eq_false_iff, decide_eq_true_eq, decide_eq_false_iff_not, Bool.not_eq_true, Decidable.not_not] at h63
            refine wseq ?_
            have hnl := hok.nl
            refine reg hmix (ρ' := [(1, .pointer (some ⟨b1, 0, none⟩)), (4, .bool (oName o.Name))]) (C := [RunOk Tryd.prog w5 (Instr.loadAt 9 (.pointer (some ⟨b1, 71, none⟩))) (.string (S o.Name)), CallOk Tryd.prog w5 107 #[.string (S o.Name)] (.bool (oName o.Name))]) ha [(1, .val (.string (S o.Name))), (2, .val (.bool (oName o.Name)))] (by kernel_rfl) (.cons (ld1 hB_b1 (by kernel_rfl) (by kernel_rfl)) (.cons (fun w _ => rname_ok _ w (by first | omega | (simp; done))) .nil)) ?_
            clear ha a; intro a w7 ha he
            replace hx := hx.tr he
            replace hB_b1 := keepB he hB_b1
            replace hB_b3 := keepB he hB_b3
            clear he
            refine tn ?_
            refine wseq ?_
            refine regp (ρ' := [(1, .pointer (some ⟨b1, 0, none⟩)), (92, .bool (((decide ((o.Of : Int) < 1)) || (decide ((4 : Int) < o.Of))) || (!(oName o.Name))))]) (C := [RunOk Tryd.prog w7 (Instr.loadAt 3 (.pointer (some ⟨b1, 70, none⟩))) (.int .i64 o.Of), (decide ((o.Of : Int) < 1)) = false → All [RunOk Tryd.prog w7 (Instr.loadAt 3 (.pointer (some ⟨b1, 70, none⟩))) (.int .i64 o.Of)]]) ha [(1, .val (.int .i64 o.Of)), (5, .val (.int .i64 o.Of))] (by kernel_rfl) (.cons (ld1 hB_b1 (by kernel_rfl) (by kernel_rfl)) (.cons (fun hg4 => by replace hg4 := of_decide_eq_false hg4; exact (.cons (ld1 hB_b1 (by kernel_rfl) (by kernel_rfl)) .nil)) .nil)) ?_
            clear ha a; intro a ha
            refine tn ?_
            refine wif ha rfl (fun h92 => ?_) (fun h92 => ?_)
            · simp only [Bool.not_eq_true', Bool.not_eq_false', Bool.and_eq_true, Bool.or_eq_true, Bool.and_eq_false_iff, Bool.or_eq_false_iff, decide_eq_true_eq, decide_eq_false_iff_not, Bool.not_eq_true, Decidable.not_not] at h92
              have hres : oMay o = false := by rw [← Bool.not_eq_true, oMay_iff]; rintro ⟨k1, k2, k3, k4, k5, k6, k7, k8, k9⟩; have q := k6 h63; rw [q.2] at h92; simp at h92; omega
              refine wseq ?_
              refine regp (ρ' := [(2, .bool false)]) (C := []) ha [] (by kernel_rfl) .nil ?_
              clear ha a; intro a ha
              refine tn ?_
              refine wret ?_
              refine (tr ?_)
              refine fin ha (.tmp rfl .nil) ?_
              exact ⟨congrArg Value.bool hres.symm, hx⟩
            · simp only [Bool.not_eq_true', Bool.not_eq_false', Bool.and_eq_true, Bool.or_eq_true, Bool.and_eq_false_iff, Bool.or_eq_false_iff, decide_eq_true_eq, decide_eq_false_iff_not, Bool.not_eq_true, Decidable.not_not] at h92
              refine wskip ?_
              exact tn ⟨ha.sub (ρ' := [(1, .pointer (some ⟨b1, 0, none⟩))]) (by kernel_rfl), hx, hB_b1, hB_b3, ⟨fun h => absurd h63 h, fun h => ⟨by omega, h92.2⟩⟩⟩
        clear ha hx hB_b1 hB_b3
        rintro a w8 ⟨ha, hx, hB_b1, hB_b3, hj⟩
        refine wseq ?_
        refine wseq ?_
        refine regp (ρ' := [(1, .pointer (some ⟨b1, 0, none⟩)), (102, .bool ((decide ((64 : Int) < ((o.Entries.length : Nat) : Int))) || (decide ((8 : Int) < ((o.Parents.length : Nat) : Int)))))]) (C := [RunOk Tryd.prog w8 (Instr.loadAt 50 (.pointer (some ⟨b1, 2, none⟩))) (.slice Ae o.Entries.length ce), (decide ((64 : Int) < ((o.Entries.length : Nat) : Int))) = false → All [RunOk Tryd.prog w8 (Instr.loadAt 51 (.pointer (some ⟨b1, 35, none⟩))) (.slice Ap o.Parents.length cp)]]) ha [(1, .val (.slice Ae o.Entries.length ce)), (6, .val (.slice Ap o.Parents.length cp))] (by kernel_rfl) (.cons (ld1 hB_b1 (by kernel_rfl) (by kernel_rfl)) (.cons (fun hg5 => by replace hg5 := of_decide_eq_false hg5; exact (.cons (ld1 hB_b1 (by kernel_rfl) (by kernel_rfl)) .nil)) .nil)) ?_
        clear ha a; intro a ha
        refine tn ?_
        refine wif ha rfl (fun h102 => ?_) (fun h102 => ?_)
        · simp only [Bool.not_eq_true', Bool.not_eq_false', Bool.and_eq_true, Bool.or_eq_true, Bool.and_eq_false_iff, Bool.or_eq_false_iff, decide_eq_true_eq, decide_eq_false_iff_not, Bool.not_eq_true, Decidable.not_not] at h102
          have hres : oMay o = false := by rw [← Bool.not_eq_true, oMay_iff]; rintro ⟨k1, k2, k3, k4, k5, k6, k7, k8, k9⟩; omega
          refine wseq ?_
          refine regp (ρ' := [(2, .bool false)]) (C := []) ha [] (by kernel_rfl) .nil ?_
          clear ha a; intro a ha
          refine tn ?_
          refine wret ?_
          refine (tr ?_)
          refine fin ha (.tmp rfl .nil) ?_
          exact ⟨congrArg Value.bool hres.symm, hx⟩
        · simp only [Bool.not_eq_true', Bool.not_eq_false', Bool.and_eq_true, Bool.or_eq_true, Bool.and_eq_false_iff, Bool.or_eq_false_iff, decide_eq_true_eq, decide_eq_false_iff_not, Bool.not_eq_true, Decidable.not_not] at h102
          refine wskip ?_
          refine tn ?_
          refine wseq ?_
          refine wseq ?_
          refine regp (ρ' := [(1, .pointer (some ⟨b1, 0, none⟩)), (5, .int .i64 0)]) (C := []) ha [] (by kernel_rfl) .nil ?_
          clear ha a; intro a ha
          refine tn ?_
          refine wblk ?_
          refine wloop (fun zz a w9 => ∃ (i : Nat), zz = o.Entries.length - i ∧ On 144 [(1, .pointer (some ⟨b1, 0, none⟩)), (5, .int .i64 ((i : Nat) : Int))] a ∧ Ext w w9 ∧ w9.heap[b1]? = some (.cells ⟨objC o Ae ce Ap cp⟩ 54 (0, 0)) ∧ w9.heap[b3]? = some (.cells ⟨idc idZ⟩ 24 (0, 0)) ∧ (i ≤ o.Entries.length) ∧ (entsTo o.Entries i = true)) _ ⟨0, rfl, ha.sub (ρ' := [(1, .pointer (some ⟨b1, 0, none⟩)), (5, .int .i64 ((0 : Nat) : Int))]) (by kernel_rfl), hx, hB_b1, hB_b3, by omega, rfl⟩ ?_
          clear ha hx hB_b1 hB_b3
          rintro zz a w10 ⟨i, hzz, ha, hx, hB_b1, hB_b3, hi, hf⟩
          have hel := hok.el
          refine wseq ?_
          refine wseq ?_
          refine regp (ρ' := [(1, .pointer (some ⟨b1, 0, none⟩)), (5, .int .i64 ((i : Nat) : Int)), (107, .bool (decide (((i : Nat) : Int) < ((o.Entries.length : Nat) : Int))))]) (C := [RunOk Tryd.prog w10 (Instr.loadAt 50 (.pointer (some ⟨b1, 2, none⟩))) (.slice Ae o.Entries.length ce)]) ha [(2, .val (.slice Ae o.Entries.length ce))] (by kernel_rfl) (.cons (ld1 hB_b1 (by kernel_rfl) (by kernel_rfl)) .nil) ?_
          clear ha a; intro a ha
          refine tn ?_
          refine wif ha rfl (fun h107 => ?_) (fun h107 => ?_)
          · replace h107 := of_decide_eq_true h107
            have hil : i < o.Entries.length := by omega
            have hnl := hok.en i hil
            refine wskip ?_
            refine tn ?_
            refine wseq ?_
            refine wblk ?_
            refine wseq ?_
            refine reg_list ?_
            refine segp (ρ' := [(1, .pointer (some ⟨b1, 0, none⟩)), (5, .int .i64 ((i : Nat) : Int)), (114, .agg ⟨encEnt (o.Entries.getD i default)⟩)]) (C := [RunOk Tryd.prog w10 (Instr.loadAt 50 (.pointer (some ⟨b1, 2, none⟩))) (.slice Ae o.Entries.length ce), RunOk Tryd.prog w10 (Instr.indexAt 50 (.slice Ae o.Entries.length ce) (.int .i64 ((i : Nat) : Int))) (.pointer (some ⟨ab Ae, ao Ae + i * 34, none⟩)), RunOk Tryd.prog w10 (Instr.loadAt 89 (.pointer (some ⟨ab Ae, ao Ae + i * 34, none⟩))) (.agg ⟨encEnt (o.Entries.getD i default)⟩)]) ha 5 [(1, .val (.slice Ae o.Entries.length ce)), (3, .val (.pointer (some ⟨ab Ae, ao Ae + i * 34, none⟩))), (4, .val (.agg ⟨encEnt (o.Entries.getD i default)⟩))] rfl (by kernel_rfl) (.cons (ld1 hB_b1 (by kernel_rfl) (by kernel_rfl)) (.cons (ixRd (e := 89) (by kernel_rfl) (by kernel_rfl) (rdE hx hoe) (by omega)) (.cons (ldRdN (vs := encEnt (o.Entries.getD i default)) (j := i * 34) (by kernel_rfl) (by kernel_rfl) (rdE hx hoe) (by omega) (flat_seg encEnt_len o.Entries default i (by omega))) .nil))) ?_
            clear ha a; intro a ha
            refine lnew ha rfl (by kernel_rfl) ⟨.string (S []) :: (.int .i64 0 :: (idc idZ))⟩ 89 (by kernel_rfl) ?_
            clear ha a; intro b11 w12 he hb_b11 hB_b11 a ha
            have hne_b1_b11 : b1 ≠ b11 := ne_new hB_b1 hb_b11
            have hne_b3_b11 : b3 ≠ b11 := ne_new hB_b3 hb_b11
            replace hB_b1 := keepB he hB_b1
            replace hB_b3 := keepB he hB_b3
            replace hb_b11 := Nat.le_trans hx.size hb_b11
            replace hx := hx.tr he
            clear he
            refine lstore (off := 0) ha rfl rfl (by kernel_rfl) hB_b11 ⟨encEnt (o.Entries.getD i default)⟩ rfl (by kernel_rfl) (by kernel_rfl) ?_
            clear ha a; intro w13 hc a ha
            replace hB_b1 := hc.keep hB_b1 (by first | assumption | exact Ne.symm (by assumption))
            replace hB_b3 := hc.keep hB_b3 (by first | assumption | exact Ne.symm (by assumption))
            replace hx := hc.ext hx hb_b11
            replace hB_b11 := hc.at_; clear hc
            refine lnil ?_
            replace ha := ha.sub (ρ' := [(1, .pointer (some ⟨b1, 0, none⟩)), (5, .int .i64 ((i : Nat) : Int)), (6, .pointer (some ⟨b11, 0, none⟩))]) (by kernel_rfl)
            refine tn ?_
            refine wseq ?_
            refine reg hmix (ρ' := [(1, .pointer (some ⟨b1, 0, none⟩)), (5, .int .i64 ((i : Nat) : Int)), (6, .pointer (some ⟨b11, 0, none⟩)), (7, .bool (oName ((o.Entries.getD i default).Name)))]) (C := [RunOk Tryd.prog w13 (Instr.loadAt 9 (.pointer (some ⟨b11, 0, none⟩))) (.string (S ((o.Entries.getD i default).Name))), CallOk Tryd.prog w13 107 #[.string (S ((o.Entries.getD i default).Name))] (.bool (oName ((o.Entries.getD i default).Name)))]) ha [(1, .val (.string (S ((o.Entries.getD i default).Name)))), (2, .val (.bool (oName ((o.Entries.getD i default).Name))))] (by kernel_rfl) (.cons (ld1 hB_b11 (by kernel_rfl) (by kernel_rfl)) (.cons (fun w _ => rname_ok _ w (by first | omega | (simp; done))) .nil)) ?_
            clear ha a; intro a w14 ha he
            replace hx := hx.tr he
            replace hB_b1 := keepB he hB_b1
            replace hB_b3 := keepB he hB_b3
            replace hB_b11 := keepB he hB_b11
            clear he
            refine tn ?_
            refine wseq ?_
            refine wseq ?_
            refine regp (ρ' := [(1, .pointer (some ⟨b1, 0, none⟩)), (5, .int .i64 ((i : Nat) : Int)), (6, .pointer (some ⟨b11, 0, none⟩)), (129, .bool (((!(oName ((o.Entries.getD i default).Name))) || (decide (((o.Entries.getD i default).Kind : Int) < 1))) || (decide ((2 : Int) < (o.Entries.getD i default).Kind))))]) (C := [(!(oName ((o.Entries.getD i default).Name))) = false → All [RunOk Tryd.prog w14 (Instr.loadAt 3 (.pointer (some ⟨b11, 1, none⟩))) (.int .i64 ((o.Entries.getD i default).Kind))], ((!(oName ((o.Entries.getD i default).Name))) || (decide (((o.Entries.getD i default).Kind : Int) < 1))) = false → All [RunOk Tryd.prog w14 (Instr.loadAt 3 (.pointer (some ⟨b11, 1, none⟩))) (.int .i64 ((o.Entries.getD i default).Kind))]]) ha [(4, .val (.int .i64 ((o.Entries.getD i default).Kind))), (9, .val (.int .i64 ((o.Entries.getD i default).Kind)))] (by kernel_rfl) (.cons (fun hg3 => by simp only [Bool.not_eq_true', Bool.not_eq_false', Bool.and_eq_true, Bool.or_eq_true, Bool.and_eq_false_iff, Bool.or_eq_false_iff, decide_eq_true_eq, decide_eq_false_iff_not, Bool.not_eq_true, Decidable.not_not] at hg3; exact (.cons (ld1 hB_b11 (by kernel_rfl) (by kernel_rfl)) .nil)) (.cons (fun hg8 => by simp only [Bool.not_eq_true', Bool.not_eq_false', Bool.and_eq_true, Bool.or_eq_true, Bool.and_eq_false_iff, Bool.or_eq_false_iff, decide_eq_true_eq, decide_eq_false_iff_not, Bool.not_eq_true, Decidable.not_not] at hg8; exact (.cons (ld1 hB_b11 (by kernel_rfl) (by kernel_rfl)) .nil)) .nil)) ?_
            clear ha a; intro a ha
            refine tn ?_
            refine wif ha rfl (fun h129 => ?_) (fun h129 => ?_)
            · simp only [Bool.not_eq_true', Bool.not_eq_false', Bool.and_eq_true, Bool.or_eq_true, Bool.and_eq_false_iff, Bool.or_eq_false_iff, decide_eq_true_eq, decide_eq_false_iff_not, Bool.not_eq_true, Decidable.not_not] at h129
              have hent : entOk o.Entries i = false := by unfold entOk; rw [← Bool.not_eq_true]; intro hc; simp at hc h129; rcases h129 with (h129 | h129) | h129 <;> simp_all <;> omega
              have hres : oMay o = false := by rw [← Bool.not_eq_true, oMay_iff]; rintro ⟨k1, k2, k3, k4, k5, k6, k7, k8, k9⟩; rw [entsTo_false (n := i + 1) (by omega) (by rw [entsTo_succ, hent]; simp)] at k9; cases k9
              refine wseq ?_
              refine regp (ρ' := [(2, .bool false)]) (C := []) ha [] (by kernel_rfl) .nil ?_
              clear ha a; intro a ha
              refine tn ?_
              refine wret ?_
              refine (tr (br (tr (tr (br (tr ?_))))))
              refine fin ha (.tmp rfl .nil) ?_
              exact ⟨congrArg Value.bool hres.symm, hx⟩
            · simp only [Bool.not_eq_true', Bool.not_eq_false', Bool.and_eq_true, Bool.or_eq_true, Bool.and_eq_false_iff, Bool.or_eq_false_iff, decide_eq_true_eq, decide_eq_false_iff_not, Bool.not_eq_true, Decidable.not_not] at h129
              refine wskip ?_
              refine tn ?_
              refine wseq ?_
              refine reg hmix (ρ' := [(1, .pointer (some ⟨b1, 0, none⟩)), (5, .int .i64 ((i : Nat) : Int)), (143, .bool ((decide ((0 : Int) < ((i : Nat) : Int))) && (!Op.bytesLess ((o.Entries.getD (((((i : Nat) : Int) - 1) : Int).toNat) default).Name : List UInt8) ((o.Entries.getD i default).Name : List UInt8))))]) (C := [(decide ((0 : Int) < ((i : Nat) : Int))) = true → All [RunOk Tryd.prog w14 (Instr.loadAt 50 (.pointer (some ⟨b1, 2, none⟩))) (.slice Ae o.Entries.length ce), InR .i64 (((i : Nat) : Int) - 1), RunOk Tryd.prog w14 (Instr.indexAt 50 (.slice Ae o.Entries.length ce) (.int .i64 (((i : Nat) : Int) - 1))) (.pointer (some ⟨ab Ae, ao Ae + ((((i : Nat) : Int) - 1) : Int).toNat * 34, none⟩)), RunOk Tryd.prog w14 (Instr.loadAt 9 (.pointer (some ⟨ab Ae, ao Ae + ((((i : Nat) : Int) - 1) : Int).toNat * 34, none⟩))) (.string (S ((o.Entries.getD (((((i : Nat) : Int) - 1) : Int).toNat) default).Name))), RunOk Tryd.prog w14 (Instr.loadAt 9 (.pointer (some ⟨b11, 0, none⟩))) (.string (S ((o.Entries.getD i default).Name)))]]) ha [(4, .val (.slice Ae o.Entries.length ce)), (7, .val (.pointer (some ⟨ab Ae, ao Ae + ((((i : Nat) : Int) - 1) : Int).toNat * 34, none⟩))), (9, .val (.string (S ((o.Entries.getD (((((i : Nat) : Int) - 1) : Int).toNat) default).Name)))), (11, .val (.string (S ((o.Entries.getD i default).Name))))] (by kernel_rfl) (.cons (fun hg3 => by replace hg3 := of_decide_eq_true hg3; exact (.cons (ld1 hB_b1 (by kernel_rfl) (by kernel_rfl)) (.cons (by unfold InR; omega) (.cons (ixRdI (e := 89) (by kernel_rfl) (by kernel_rfl) (rdE hx hoe) ⟨by omega, by omega⟩) (.cons (ldRd (j := ((((i : Nat) : Int) - 1) : Int).toNat * 34) (by kernel_rfl) (rdE hx hoe) (by omega) (flat_get0 encEnt_len o.Entries default (((((i : Nat) : Int) - 1) : Int).toNat) (by omega) rfl)) (.cons (ld1 hB_b11 (by kernel_rfl) (by kernel_rfl)) .nil)))))) .nil) ?_
              clear ha a; intro a w15 ha he
              replace hx := hx.tr he
              replace hB_b1 := keepB he hB_b1
              replace hB_b3 := keepB he hB_b3
              replace hB_b11 := keepB he hB_b11
              clear he
              refine tn ?_
              refine wif ha rfl (fun h143 => ?_) (fun h143 => ?_)
              · simp only [Bool.not_eq_true', Bool.not_eq_false', Bool.and_eq_true, Bool.or_eq_true, Bool.and_eq_false_iff, Bool.or_eq_false_iff, decide_eq_true_eq, decide_eq_false_iff_not, Bool.not_eq_true, Decidable.not_not] at h143
                have hent : entOk o.Entries i = false := by unfold entOk; rw [← Bool.not_eq_true]; intro hc; simp at hc h143; simp_all <;> omega
                have hres : oMay o = false := by rw [← Bool.not_eq_true, oMay_iff]; rintro ⟨k1, k2, k3, k4, k5, k6, k7, k8, k9⟩; rw [entsTo_false (n := i + 1) (by omega) (by rw [entsTo_succ, hent]; simp)] at k9; cases k9
                refine wseq ?_
                refine regp (ρ' := [(2, .bool false)]) (C := []) ha [] (by kernel_rfl) .nil ?_
                clear ha a; intro a ha
                refine tn ?_
                refine wret ?_
                refine (br (tr (tr (br (tr ?_)))))
                refine fin ha (.tmp rfl .nil) ?_
                exact ⟨congrArg Value.bool hres.symm, hx⟩
              · simp only [Bool.not_eq_true', Bool.not_eq_false', Bool.and_eq_true, Bool.or_eq_true, Bool.and_eq_false_iff, Bool.or_eq_false_iff, decide_eq_true_eq, decide_eq_false_iff_not, Bool.not_eq_true, Decidable.not_not] at h143
                have hent : entOk o.Entries i = true := by unfold entOk; simp at h129 h143 ⊢; exact ⟨⟨h129.1.1, by omega⟩, h143.elim (fun h => .inl (by omega)) .inr⟩
                refine wskip ?_
                refine bn ?_
                refine tn ?_
                refine regp (ρ' := [(1, .pointer (some ⟨b1, 0, none⟩)), (5, .int .i64 ((i + 1 : Nat) : Int))]) (C := [InR .i64 ((i + 1 : Nat) : Int)]) ha [] (by kernel_rfl) (.cons (by unfold InR; omega) .nil) ?_
                clear ha a; intro a ha
                exact tn ⟨o.Entries.length - ((i + 1)), by omega, (i + 1), rfl, ha.sub (ρ' := [(1, .pointer (some ⟨b1, 0, none⟩)), (5, .int .i64 (((i + 1) : Nat) : Int))]) (by kernel_rfl), hx, hB_b1, hB_b3, by omega, by rw [entsTo_succ, hf, hent]; rfl⟩
          · replace h107 := of_decide_eq_false h107
            obtain rfl : i = o.Entries.length := by omega
            have hres : oMay o = true := (oMay_iff o).2 ⟨by omega, f35.1, f35.2, f60, hj.1, hj.2, by omega, by omega, hf⟩
            refine wexit ?_
            refine (te (te (be ?_)))
            refine tn ?_
            refine wseq ?_
            refine regp (ρ' := [(2, .bool true)]) (C := []) ha [] (by kernel_rfl) .nil ?_
            clear ha a; intro a ha
            refine tn ?_
            refine wret ?_
            refine fin ha (.tmp rfl .nil) ?_
            exact ⟨congrArg Value.bool hres.symm, hx⟩
end Go.Kn
end
