/- Plain functions: packing (layer 5): what is packed unpacks; how long it is. -/
import Derived.Test.YtihmegmambmljaaDoorPlainD
import Derived.Test.YtihmegmambmljaaDoorEngI
set_option linter.unusedVariables false
namespace Go.Kn

/-! numbers: written, read again -/
theorem u8_ofNat {n : Nat} (h : n < 256) : (UInt8.ofNat n).toNat = n := by simp [Nat.mod_eq_of_lt h]
theorem vgo_put (r : List UInt8) : ∀ (f i m n0 : Nat), f + i = 9 → m < 2 ^ (1 + 7 * f) → (0 < m ∨ i = 0) → vgo (vputf f m ++ r) i n0 = (n0 + m * 2 ^ (7 * i), r, 0) := by
  intro f
  induction f with
  | zero =>
    intro i m n0 hi hm h0
    have hm2 : m < 2 := by simpa using hm
    simp only [vputf, List.singleton_append, vgo, u8_ofNat (show m < 256 by omega)]
    rw [if_neg (by omega), if_neg (by omega), if_neg (by omega), if_neg (by omega), Nat.mod_eq_of_lt (by omega)]
  | succ f ih =>
    intro i m n0 hi hm h0
    unfold vputf
    by_cases h : m < 128
    · rw [if_pos h]
      simp only [List.singleton_append, vgo, u8_ofNat (show m < 256 by omega)]
      rw [if_neg (by omega), if_neg (by omega), if_neg (by omega), if_neg (by omega), Nat.mod_eq_of_lt h]
    · rw [if_neg h]
      simp only [List.cons_append, vgo, u8_ofNat (show 128 + m % 128 < 256 by omega)]
      rw [if_neg (by omega), if_neg (by omega), if_pos (by omega), ih (i + 1) (m / 128) _ (by omega) (vdiv_lt hm) (.inl (by omega))]
      have e : (128 + m % 128) % 128 * 2 ^ (7 * i) + m / 128 * 2 ^ (7 * (i + 1)) = m * 2 ^ (7 * i) := by
        rw [show 7 * (i + 1) = 7 * i + 7 by omega, Nat.pow_add, ← Nat.mul_assoc, Nat.mul_right_comm, ← Nat.add_mul]
        congr 1; omega
      rw [Nat.add_assoc, e]
theorem vget_put {n : Nat} (h : n < 18446744073709551616) (r : List UInt8) : vget (vput n ++ r) = (n, r, 0) := by
  have := vgo_put r 9 0 n 0 (by omega) (by omega) (.inr rfl)
  simpa [vget, vput] using this
theorem vputf_len2 (f n : Nat) (hn : n < 16384) : (vputf (f + 1) n).length ≤ 2 := by
  unfold vputf
  split
  · simp
  · cases f with
    | zero => simp [vputf]
    | succ f => unfold vputf; rw [if_pos (by omega)]; simp
theorem vputf_len1 (f n : Nat) (hn : n < 128) : (vputf (f + 1) n).length = 1 := by
  unfold vputf
  rw [if_pos hn]; rfl

/-! steps -/
inductive Tok where
  | lit (t : List UInt8)
  | cp (n far : Nat)
def lpl (t : List UInt8) : List UInt8 := if t = [] then [] else vput (2 * t.length) ++ t
def tenc : Tok → List UInt8
  | .lit t => lpl t
  | .cp n far => vput (2 * n + 1) ++ vput far
def tapp (out : List UInt8) : Tok → List UInt8
  | .lit t => out ++ t
  | .cp n far => cpy far n out
def tokOk (out : List UInt8) : Tok → Prop
  | .lit t => t ≠ [] ∧ t.length < 4611686018427387904
  | .cp n far => 4 ≤ n ∧ n < 4611686018427387904 ∧ 1 ≤ far ∧ far ≤ 65535 ∧ far ≤ out.length
def toksOk : List UInt8 → List Tok → Prop
  | _, [] => True
  | out, t :: ts => tokOk out t ∧ toksOk (tapp out t) ts
theorem tapp_len (out : List UInt8) (t : Tok) : out.length ≤ (tapp out t).length := by
  cases t with
  | lit t => simp [tapp]
  | cp n far => simp [tapp, cpy_len]
theorem foldl_len (ts : List Tok) : ∀ out : List UInt8, out.length ≤ (ts.foldl tapp out).length := by
  induction ts with
  | nil => intro out; simp
  | cons t ts ih => intro out; exact Nat.le_trans (tapp_len out t) (ih _)
theorem toksOk_app : ∀ (a b : List Tok) (out : List UInt8), toksOk out a → toksOk (a.foldl tapp out) b → toksOk out (a ++ b) := by
  intro a
  induction a with
  | nil => intro b out _ h; exact h
  | cons t a ih => intro b out h1 h2; exact ⟨h1.1, ih b _ h1.2 h2⟩
theorem lzread_lit {t : List UInt8} (h : t ≠ []) (hl : t.length < 4611686018427387904) (r : List UInt8) (q : Nat) : lzread (lpl t ++ r) q = (t.length, 0, t ++ r, 0) := by
  have h0 : 0 < t.length := List.length_pos_iff.2 h
  unfold lzread
  rw [lpl, if_neg h, List.append_assoc, vget_put (by omega)]
  simp only [ne_eq, not_true_eq_false, if_false]
  rw [if_pos (by omega), if_neg (by simp only [List.length_append]; omega), show 2 * t.length / 2 = t.length by omega]
theorem lzread_cp {n far : Nat} (h4 : 4 ≤ n) (hn : n < 4611686018427387904) (h1 : 1 ≤ far) (h2 : far ≤ 65535) (r : List UInt8) {q : Nat} (hq : far ≤ q) : lzread (tenc (.cp n far) ++ r) q = (n, far, r, 0) := by
  unfold lzread
  rw [tenc, List.append_assoc, vget_put (by omega)]
  simp only [ne_eq, not_true_eq_false, if_false]
  rw [if_neg (by omega), vget_put (by omega)]
  dsimp only
  rw [if_neg (fun h => by rcases h with h | h | h | h | h <;> first | exact h rfl | omega), show (2 * n + 1) / 2 = n by omega]
theorem tenc_pos {out : List UInt8} {t : Tok} (h : tokOk out t) : 0 < (tenc t).length := by
  cases t with
  | lit t =>
    simp only [tenc, lpl, if_neg h.1, List.length_append]
    have := vput_len (2 * t.length); omega
  | cp n far =>
    simp only [tenc, List.length_append]
    have := vput_len (2 * n + 1); omega
theorem lzun_toks (M : Nat) : ∀ (ts : List Tok) (f : Nat) (out : List UInt8), toksOk out ts → (ts.flatMap tenc).length < f → out.length ≤ M →
    lzun M f (ts.flatMap tenc) out = if (ts.foldl tapp out).length ≤ M then (ts.foldl tapp out, 0) else ([], 3) := by
  intro ts
  induction ts with
  | nil =>
    intro f out _ hf ho
    obtain ⟨f, rfl⟩ : ∃ g, f = g + 1 := ⟨f - 1, by omega⟩
    simp [lzun, ho]
  | cons t ts ih =>
    intro f out hok hf ho
    obtain ⟨f, rfl⟩ : ∃ g, f = g + 1 := ⟨f - 1, by omega⟩
    have hp := tenc_pos hok.1
    simp only [List.flatMap_cons, List.length_append] at hf
    have hne : (t :: ts).flatMap tenc ≠ [] := by
      intro h
      have := congrArg List.length h
      simp only [List.flatMap_cons, List.length_append, List.length_nil] at this
      omega
    rw [lzun, if_neg hne, List.flatMap_cons, List.foldl_cons]
    cases t with
    | lit t =>
      obtain ⟨h1, h2⟩ := hok.1
      rw [show tenc (.lit t) = lpl t from rfl, lzread_lit h1 h2]
      simp only [ne_eq, not_true_eq_false, if_false, if_true, List.drop_left, List.take_left]
      by_cases hM : M - out.length < t.length
      · rw [if_pos hM, if_neg]
        have := foldl_len ts (tapp out (.lit t))
        simp only [tapp, List.length_append] at this ⊢
        omega
      · rw [if_neg hM]; exact ih f (tapp out (.lit t)) hok.2 (by omega) (by simp only [tapp, List.length_append]; omega)
    | cp n far =>
      obtain ⟨h4, hn, h1, h2, h3⟩ := hok.1
      rw [lzread_cp h4 hn h1 h2 _ h3]
      simp only [ne_eq, not_true_eq_false, if_false]
      by_cases hM : M - out.length < n
      · rw [if_pos hM, if_neg]
        have := foldl_len ts (tapp out (.cp n far))
        simp only [tapp, cpy_len] at this ⊢
        omega
      · rw [if_neg hM, if_neg (by omega)]; exact ih f (tapp out (.cp n far)) hok.2 (by omega) (by simp only [tapp, cpy_len]; omega)

/-! the packer -/
def lkey (l : List UInt8) : Nat := (l.getD 0 0).toNat + (l.getD 1 0).toNat * 256 + (l.getD 2 0).toNat * 65536 + (l.getD 3 0).toNat * 16777216
theorem lkey_inj {a b : List UInt8} (h : lkey a = lkey b) : ∀ j < 4, a.getD j 0 = b.getD j 0 := by
  have f := fun (l : List UInt8) j => getD_toNat_lt l j
  have a0 := f a 0; have a1 := f a 1; have a2 := f a 2; have a3 := f a 3
  have b0 := f b 0; have b1 := f b 1; have b2 := f b 2; have b3 := f b 3
  unfold lkey at h
  intro j hj
  apply UInt8.toNat_inj.1
  match j, hj with
  | 0, _ => omega
  | 1, _ => omega
  | 2, _ => omega
  | 3, _ => omega
def lpre : List UInt8 → List UInt8 → Nat
  | x :: l, y :: m => if x = y then lpre l m + 1 else 0
  | _, _ => 0
theorem lpre_spec : ∀ (l m : List UInt8), lpre l m ≤ l.length ∧ lpre l m ≤ m.length ∧ ∀ j < lpre l m, l.getD j 0 = m.getD j 0 := by
  intro l
  induction l with
  | nil => intro m; simp [lpre]
  | cons x l ih =>
    intro m
    cases m with
    | nil => simp [lpre]
    | cons y m =>
      unfold lpre
      by_cases h : x = y
      · rw [if_pos h]
        obtain ⟨h1, h2, h3⟩ := ih m
        refine ⟨by simpa using h1, by simpa using h2, fun j hj => ?_⟩
        cases j with
        | zero => simpa using h
        | succ j => simpa using h3 j (by omega)
      · rw [if_neg h]; simp
theorem lpre_ge : ∀ (n : Nat) (l m : List UInt8), n ≤ l.length → n ≤ m.length → (∀ j < n, l.getD j 0 = m.getD j 0) → n ≤ lpre l m := by
  intro n
  induction n with
  | zero => intros; omega
  | succ n ih =>
    intro l m hl hm h
    match l, m, hl, hm with
    | x :: l, y :: m, hl, hm =>
      unfold lpre
      rw [if_pos (by simpa using h 0 (by omega))]
      have := ih l m (by simpa using hl) (by simpa using hm) fun j hj => by simpa using h (j + 1) (by omega)
      omega
def ltok (t : List UInt8) : List Tok := if t = [] then [] else [.lit t]
theorem ltok_enc (t : List UInt8) : (ltok t).flatMap tenc = lpl t := by
  unfold ltok lpl
  split <;> simp [tenc, lpl, *]
def pkgo (s : List UInt8) : Nat → List (Nat × Nat) → Nat → Nat → List Tok → List Tok
  | 0, _, _, fr, ts => ts ++ ltok (s.drop fr)
  | f + 1, M, i, fr, ts =>
    if i + 4 ≤ s.length then
      match mget M (lkey (s.drop i)) with
      | some at_ =>
        if i - at_ ≤ 65535 then
          pkgo s f (mset M (lkey (s.drop i)) i) (i + lpre (s.drop at_) (s.drop i)) (i + lpre (s.drop at_) (s.drop i)) (ts ++ ltok ((s.drop fr).take (i - fr)) ++ [.cp (lpre (s.drop at_) (s.drop i)) (i - at_)])
        else pkgo s f (mset M (lkey (s.drop i)) i) (i + 1) fr ts
      | none => pkgo s f (mset M (lkey (s.drop i)) i) (i + 1) fr ts
    else ts ++ ltok (s.drop fr)
def lzSteps (s : List UInt8) : List Tok := pkgo s (s.length + 1) [] 0 0 []
def lzBody (s : List UInt8) : List UInt8 := 1 :: (lzSteps s).flatMap tenc
def lzPack (s : List UInt8) : List UInt8 := if s.length < (lzBody s).length then 0 :: s else lzBody s

/-- what holds ahead of every round -/
structure PkInv (s : List UInt8) (M : List (Nat × Nat)) (i fr : Nat) (ts : List Tok) : Prop where
  fr_le : fr ≤ i
  i_le : i ≤ s.length
  map : ∀ k a, mget M k = some a → a < i ∧ lkey (s.drop a) = k
  ok : toksOk [] ts
  app : ts.foldl tapp [] = s.take fr
  len : (ts.flatMap tenc).length ≤ fr * 31
theorem pk_step {s : List UInt8} {M : List (Nat × Nat)} {i fr : Nat} {ts : List Tok} (h : PkInv s M i fr ts) (hi : i + 4 ≤ s.length) : PkInv s (mset M (lkey (s.drop i)) i) (i + 1) fr ts := by
  refine ⟨by have := h.fr_le; omega, by omega, fun k a hk => ?_, h.ok, h.app, h.len⟩
  rw [mget_mset] at hk
  split at hk
  · cases hk; subst_vars; exact ⟨by omega, rfl⟩
  · have := h.map k a hk; exact ⟨by omega, this.2⟩
theorem cpy_take (s : List UInt8) (far : Nat) : ∀ (n i : Nat), far ≤ i → 1 ≤ far → i + n ≤ s.length → (∀ j < n, s.getD (i - far + j) 0 = s.getD (i + j) 0) → cpy far n (s.take i) = s.take (i + n) := by
  intro n
  induction n with
  | zero => intros; rfl
  | succ n ih =>
    intro i h1 h2 h3 h4
    have e : s.take i ++ [(s.take i).getD ((s.take i).length - far) 0] = s.take (i + 1) := by
      have hl : (s.take i).length = i := by rw [List.length_take]; omega
      rw [hl]
      have h0 := h4 0 (by omega)
      simp only [Nat.add_zero] at h0
      have : (s.take i).getD (i - far) 0 = s.getD i 0 := by
        rw [← h0, List.getD_eq_getElem?_getD, List.getElem?_take, if_pos (by omega), List.getD_eq_getElem?_getD]
      rw [this, List.take_succ_eq_append_getElem (by omega), List.getD_eq_getElem?_getD, List.getElem?_eq_getElem (by omega)]; rfl
    rw [cpy, e, ih (i + 1) (by omega) h2 (by omega) (fun j hj => by
      have := h4 (j + 1) (by omega)
      rw [show i + 1 - far + j = i - far + (j + 1) by omega, show i + 1 + j = i + (j + 1) by omega]; exact this)]
    congr 1; omega
theorem getD_drop (s : List UInt8) (a j : Nat) : (s.drop a).getD j 0 = s.getD (a + j) 0 := by
  simp [List.getD_eq_getElem?_getD, List.getElem?_drop]
theorem foldl_lit (out t : List UInt8) : (ltok t).foldl tapp out = out ++ t := by
  unfold ltok
  split
  · simp [*]
  · simp [tapp]
theorem ltok_ok (out t : List UInt8) (h : t.length < 4611686018427387904) : toksOk out (ltok t) := by
  unfold ltok
  split
  · trivial
  · exact ⟨⟨‹_›, h⟩, trivial⟩
theorem lpl_len (t : List UInt8) : (lpl t).length ≤ t.length + 10 ∧ (t = [] → (lpl t).length = 0) ∧ (lpl t).length ≤ t.length * 11 := by
  unfold lpl
  split
  · subst_vars; simp
  · rename_i h
    have := List.length_pos_iff.2 h
    have := vput_len (2 * t.length)
    simp only [List.length_append]
    refine ⟨by omega, fun h' => absurd h' h, by omega⟩
theorem pk_pre {s : List UInt8} {M : List (Nat × Nat)} {i fr a : Nat} {ts : List Tok} (h : PkInv s M i fr ts) (hi : i + 4 ≤ s.length) (ha : mget M (lkey (s.drop i)) = some a) :
    a < i ∧ 4 ≤ lpre (s.drop a) (s.drop i) ∧ i + lpre (s.drop a) (s.drop i) ≤ s.length := by
  obtain ⟨h1, h2⟩ := h.map _ _ ha
  have h3 := lkey_inj h2
  have h4 := lpre_ge 4 (s.drop a) (s.drop i) (by simp; omega) (by simp; omega) h3
  have h5 := (lpre_spec (s.drop a) (s.drop i)).2.1
  simp only [List.length_drop] at h5
  exact ⟨h1, h4, by omega⟩
theorem pk_copy {s : List UInt8} {M : List (Nat × Nat)} {i fr a : Nat} {ts : List Tok} (h : PkInv s M i fr ts) (hs : s.length < 4611686018427387904) (hi : i + 4 ≤ s.length) (ha : mget M (lkey (s.drop i)) = some a) (hf : i - a ≤ 65535) :
    PkInv s (mset M (lkey (s.drop i)) i) (i + lpre (s.drop a) (s.drop i)) (i + lpre (s.drop a) (s.drop i)) (ts ++ ltok ((s.drop fr).take (i - fr)) ++ [.cp (lpre (s.drop a) (s.drop i)) (i - a)]) := by
  obtain ⟨h1, h4, h5⟩ := pk_pre h hi ha
  have hfr := h.fr_le
  have hmid : (s.take fr) ++ (s.drop fr).take (i - fr) = s.take i := by
    rw [← List.take_add]; congr 1; omega
  have hl : (s.take i).length = i := by rw [List.length_take]; omega
  refine ⟨Nat.le_refl _, h5, fun k a' hk => ?_, ?_, ?_, ?_⟩
  · rw [mget_mset] at hk
    split at hk
    · cases hk; subst_vars; exact ⟨by omega, rfl⟩
    · have := h.map k a' hk; exact ⟨by omega, this.2⟩
  · refine toksOk_app _ _ _ (toksOk_app _ _ _ h.ok ?_) ?_
    · exact ltok_ok _ _ (by rw [List.length_take, List.length_drop]; omega)
    · rw [List.foldl_append, h.app, foldl_lit, hmid]
      exact ⟨⟨h4, by omega, by omega, hf, by rw [hl]; omega⟩, trivial⟩
  · rw [List.foldl_append, List.foldl_append, h.app, foldl_lit, hmid]
    show cpy (i - a) _ (s.take i) = _
    refine cpy_take s (i - a) _ i (by omega) (by omega) h5 fun j hj => ?_
    have := (lpre_spec (s.drop a) (s.drop i)).2.2 j hj
    rw [getD_drop, getD_drop] at this
    rw [show i - (i - a) = a by omega]; exact this
  · have hlen := h.len
    have hq := lpl_len ((s.drop fr).take (i - fr))
    have hv1 := vput_len (2 * lpre (s.drop a) (s.drop i) + 1)
    have hv2 := vput_len (i - a)
    simp only [List.flatMap_append, List.length_append, ltok_enc, List.flatMap_cons, List.flatMap_nil, List.append_nil, tenc]
    have hq1 : ((s.drop fr).take (i - fr)).length = i - fr := by rw [List.length_take, List.length_drop]; omega
    rw [hq1] at hq
    omega
theorem pk_end {s : List UInt8} {M : List (Nat × Nat)} {i fr : Nat} {ts : List Tok} (h : PkInv s M i fr ts) (hs : s.length < 4611686018427387904) : toksOk [] (ts ++ ltok (s.drop fr)) ∧ (ts ++ ltok (s.drop fr)).foldl tapp [] = s := by
  refine ⟨toksOk_app _ _ _ h.ok (ltok_ok _ _ (by rw [List.length_drop]; omega)), ?_⟩
  rw [List.foldl_append, h.app, foldl_lit, List.take_append_drop]
theorem pkgo_ok (s : List UInt8) (hs : s.length < 4611686018427387904) : ∀ (f : Nat) (M : List (Nat × Nat)) (i fr : Nat) (ts : List Tok), PkInv s M i fr ts → toksOk [] (pkgo s f M i fr ts) ∧ (pkgo s f M i fr ts).foldl tapp [] = s := by
  intro f
  induction f with
  | zero => intro M i fr ts h; exact pk_end h hs
  | succ f ih =>
    intro M i fr ts h
    unfold pkgo
    by_cases hi : i + 4 ≤ s.length
    · rw [if_pos hi]
      cases ha : mget M (lkey (s.drop i)) with
      | none => exact ih _ _ _ _ (pk_step h hi)
      | some a =>
        simp only
        by_cases hf : i - a ≤ 65535
        · rw [if_pos hf]; exact ih _ _ _ _ (pk_copy h hs hi ha hf)
        · rw [if_neg hf]; exact ih _ _ _ _ (pk_step h hi)
    · rw [if_neg hi]; exact pk_end h hs
theorem pk_init (s : List UInt8) : PkInv s [] 0 0 [] := ⟨by omega, by omega, fun k a h => by simp [mget] at h, trivial, rfl, by simp⟩
theorem lzPack_len (s : List UInt8) : (lzPack s).length ≤ s.length + 1 := by
  unfold lzPack
  split
  · simp
  · omega
theorem lzPack_unpack (s : List UInt8) (hs : s.length < 4611686018427387904) (m : Nat) : lzUnpack (lzPack s) (m : Int) = if s.length ≤ m then (s, 0) else ([], 3) := by
  unfold lzPack
  split
  · unfold lzUnpack
    rw [if_neg (by omega), if_neg (by simp)]
    simp only [List.getD_cons_zero, UInt8.toNat_ofNat, Nat.zero_mod, List.length_cons, List.drop_succ_cons, List.drop_zero, if_true]
    by_cases h : s.length ≤ m
    · rw [if_neg (by omega), if_pos h]
    · rw [if_pos (by omega), if_neg h]
  · obtain ⟨h1, h2⟩ := pkgo_ok s hs (s.length + 1) [] 0 0 [] (pk_init s)
    unfold lzUnpack lzBody
    rw [if_neg (by omega), if_neg (by simp), if_neg (by simp)]
    simp only [List.drop_succ_cons, List.drop_zero, List.length_cons, Int.toNat_natCast]
    rw [lzun_toks m (lzSteps s) _ _ h1 (by omega) (by simp)]
    show (if ((lzSteps s).foldl tapp []).length ≤ m then ((lzSteps s).foldl tapp [], 0) else ([], 3)) = _
    rw [show (lzSteps s).foldl tapp [] = s from h2]
theorem rep_getD (c : UInt8) (n j : Nat) (h : j < n) : (List.replicate n c).getD j 0 = c := by
  rw [List.getD_eq_getElem?_getD, List.getElem?_replicate, if_pos h]; rfl
theorem lkey_rep (c : UInt8) (n : Nat) (h : 4 ≤ n) : lkey (List.replicate n c) = c.toNat + c.toNat * 256 + c.toNat * 65536 + c.toNat * 16777216 := by
  unfold lkey
  rw [rep_getD c n 0 (by omega), rep_getD c n 1 (by omega), rep_getD c n 2 (by omega), rep_getD c n 3 (by omega)]
theorem lpre_rep (c : UInt8) : ∀ n, lpre (List.replicate (n + 1) c) (List.replicate n c) = n := by
  intro n
  induction n with
  | zero => simp [lpre]
  | succ n ih => show lpre (c :: List.replicate (n + 1) c) (c :: List.replicate n c) = n + 1; rw [lpre, if_pos rfl, ih]
theorem pkgo_done (s : List UInt8) (f : Nat) (M : List (Nat × Nat)) (i : Nat) (ts : List Tok) (hi : s.length ≤ i) : pkgo s f M i i ts = ts := by
  cases f with
  | zero => rw [pkgo, List.drop_of_length_le hi]; simp [ltok]
  | succ f => rw [pkgo, if_neg (by omega), List.drop_of_length_le hi]; simp [ltok]
theorem pkgo_miss {s : List UInt8} {f : Nat} {M : List (Nat × Nat)} {i fr : Nat} {ts : List Tok} (hi : i + 4 ≤ s.length) (h : mget M (lkey (s.drop i)) = none) : pkgo s (f + 1) M i fr ts = pkgo s f (mset M (lkey (s.drop i)) i) (i + 1) fr ts := by
  rw [pkgo, if_pos hi, h]
theorem pkgo_hit {s : List UInt8} {f : Nat} {M : List (Nat × Nat)} {i fr a : Nat} {ts : List Tok} (hi : i + 4 ≤ s.length) (h : mget M (lkey (s.drop i)) = some a) (hf : i - a ≤ 65535) :
    pkgo s (f + 1) M i fr ts = pkgo s f (mset M (lkey (s.drop i)) i) (i + lpre (s.drop a) (s.drop i)) (i + lpre (s.drop a) (s.drop i)) (ts ++ ltok ((s.drop fr).take (i - fr)) ++ [.cp (lpre (s.drop a) (s.drop i)) (i - a)]) := by
  rw [pkgo, if_pos hi, h]
  simp only
  rw [if_pos hf]
theorem pkgo_far {s : List UInt8} {f : Nat} {M : List (Nat × Nat)} {i fr a : Nat} {ts : List Tok} (hi : i + 4 ≤ s.length) (h : mget M (lkey (s.drop i)) = some a) (hf : ¬ i - a ≤ 65535) :
    pkgo s (f + 1) M i fr ts = pkgo s f (mset M (lkey (s.drop i)) i) (i + 1) fr ts := by
  rw [pkgo, if_pos hi, h]
  simp only
  rw [if_neg hf]
theorem pkgo_run (c : UInt8) (q : Nat) (hq : 7 ≤ q) : pkgo (List.replicate (q + 1) c) (q + 1 + 1) [] 0 0 [] = [.lit [c], .cp q 1] := by
  have hl : (List.replicate (q + 1) c).length = q + 1 := List.length_replicate
  have hk : lkey ((List.replicate (q + 1) c).drop 1) = lkey ((List.replicate (q + 1) c).drop 0) := by
    rw [List.drop_replicate, List.drop_replicate, lkey_rep _ _ (by omega), lkey_rep _ _ (by omega)]
  rw [pkgo_miss (by omega) rfl, Nat.zero_add]
  rw [pkgo_hit (a := 0) (by omega) (by rw [hk]; simp [mset, mget]) (by omega)]
  have hp : lpre ((List.replicate (q + 1) c).drop 0) ((List.replicate (q + 1) c).drop 1) = q := by
    rw [List.drop_replicate, List.drop_replicate]; exact lpre_rep c q
  rw [hp, pkgo_done _ _ _ _ _ (by omega)]
  simp [ltok]
/-- a run of one byte -/
theorem lzPack_run (c : UInt8) (m : Nat) (hm : m ≤ 4096) : (lzPack (List.replicate m c)).length ≤ 8 := by
  rcases Nat.lt_or_ge m 8 with h | h
  · have := lzPack_len (List.replicate m c)
    rw [List.length_replicate] at this
    omega
  · obtain ⟨q, rfl⟩ : ∃ q, m = q + 1 := ⟨m - 1, by omega⟩
    have hl : (List.replicate (q + 1) c).length = q + 1 := List.length_replicate
    have hb : (lzBody (List.replicate (q + 1) c)).length ≤ 8 := by
      have h1 : (vputf 9 (2 * q + 1)).length ≤ 2 := vputf_len2 8 _ (by omega)
      have h2 : (vputf 9 1).length = 1 := vputf_len1 8 _ (by omega)
      have h3 : (vputf 9 2).length = 1 := vputf_len1 8 _ (by omega)
      rw [lzBody, lzSteps, hl, pkgo_run c q (by omega)]
      simp only [List.flatMap_cons, List.flatMap_nil, tenc, lpl, vput, List.length_cons, List.length_append, List.append_nil, List.length_nil, Nat.zero_add, Nat.mul_one]
      rw [if_neg (by simp)]
      simp only [List.length_append, List.length_cons, List.length_nil]
      omega
    unfold lzPack
    split
    · rename_i h2
      rw [hl] at h2
      rw [List.length_cons, hl]; omega
    · exact hb
end Go.Kn
namespace Go.Kn
theorem or_shl {a k : Nat} (b : Nat) (h : a < 2 ^ k) : a ||| b * 2 ^ k = a + b * 2 ^ k := by
  have := Nat.two_pow_add_eq_or_of_lt h b
  rw [Nat.or_comm, Nat.mul_comm b, ← this, Nat.add_comm]
theorem or8 {a : Nat} (b : Nat) (h : a < 256) : a ||| b * 256 = a + b * 256 := or_shl (k := 8) b h
theorem or16 {a : Nat} (b : Nat) (h : a < 65536) : a ||| b * 65536 = a + b * 65536 := or_shl (k := 16) b h
theorem or24 {a : Nat} (b : Nat) (h : a < 16777216) : a ||| b * 16777216 = a + b * 16777216 := or_shl (k := 24) b h
theorem lpre_stop {s : List UInt8} {a b : Nat} (h : s.length ≤ b ∨ s.getD a 0 ≠ s.getD b 0) : lpre (s.drop a) (s.drop b) = 0 := by
  rcases Nat.lt_or_ge b s.length with hb | hb
  · rcases Nat.lt_or_ge a s.length with ha | ha
    · rw [drop_cons s a ha, drop_cons s b hb, lpre, if_neg (by rcases h with h | h; omega; exact h)]
    · rw [List.drop_of_length_le ha]; simp [lpre]
  · rw [List.drop_of_length_le hb]; cases s.drop a <;> simp [lpre]
theorem lpre_go {s : List UInt8} {a b : Nat} (ha : a < s.length) (hb : b < s.length) (h : s.getD a 0 = s.getD b 0) : lpre (s.drop a) (s.drop b) = lpre (s.drop (a + 1)) (s.drop (b + 1)) + 1 := by
  rw [drop_cons s a ha, drop_cons s b hb, lpre, if_pos h]
theorem u8_eq {a b : UInt8} (h : ((a.toNat : Nat) : Int) = b.toNat) : a = b := UInt8.toNat_inj.1 (by omega)
theorem u8_ne {a b : UInt8} (h : ¬ ((a.toNat : Nat) : Int) = b.toNat) : a ≠ b := fun e => h (by rw [e])
end Go.Kn
namespace Go.Kn
theorem sh16e (b : Nat) : ((b : Int) * 2 ^ 16) = ((b * 65536 : Nat) : Int) := by rw [Int.natCast_mul]; congr 1
theorem sh24e (b : Nat) : ((b : Int) * 2 ^ 24) = ((b * 16777216 : Nat) : Int) := by rw [Int.natCast_mul]; congr 1
theorem or16i {a : Nat} (b : Nat) (h : a < 65536) : a ||| ((b : Int) * 2 ^ 16).toNat = a + b * 65536 := by rw [sh16e, Int.toNat_natCast]; exact or16 b h
theorem or24i {a : Nat} (b : Nat) (h : a < 16777216) : a ||| ((b : Int) * 2 ^ 24).toNat = a + b * 16777216 := by rw [sh24e, Int.toNat_natCast]; exact or24 b h
theorem sh16 (b : Nat) (h : b < 256) : 0 ≤ ((b : Int) * 2 ^ 16) ∧ ((b : Int) * 2 ^ 16) ≤ 16711680 := by rw [sh16e]; omega
theorem sh24 (b : Nat) (h : b < 256) : 0 ≤ ((b : Int) * 2 ^ 24) ∧ ((b : Int) * 2 ^ 24) ≤ 4278190080 := by rw [sh24e]; omega
end Go.Kn
namespace Go.Kn
theorem pkgo_end {s : List UInt8} {f : Nat} {M : List (Nat × Nat)} {i fr : Nat} {ts : List Tok} (hi : ¬ i + 4 ≤ s.length) : pkgo s f M i fr ts = ts ++ ltok (s.drop fr) := by
  cases f with
  | zero => rw [pkgo]
  | succ f => rw [pkgo, if_neg hi]
theorem pk_at {s : List UInt8} {M : List (Nat × Nat)} {i fr : Nat} {ts : List Tok} (h : PkInv s M i fr ts) (k : Nat) : (mget M k).getD 0 ≤ i := by
  cases hm : mget M k with
  | none => simp
  | some a => have := (h.map k a hm).1; simp; omega
theorem pk_next {s : List UInt8} {f : Nat} {M : List (Nat × Nat)} {i fr : Nat} {ts : List Tok} (hi : i + 4 ≤ s.length) (h : (mget M (lkey (s.drop i))).isSome = false ∨ 65535 < (i : Int) - (((mget M (lkey (s.drop i))).getD 0 : Nat) : Int)) :
    pkgo s (f + 1) M i fr ts = pkgo s f (mset M (lkey (s.drop i)) i) (i + 1) fr ts := by
  cases hm : mget M (lkey (s.drop i)) with
  | none => exact pkgo_miss hi hm
  | some a =>
    rw [hm] at h
    exact pkgo_far hi hm (by simp at h; omega)
theorem pk_out (ts : List Tok) (t : List UInt8) (n i a : Nat) : (1 :: ts.flatMap tenc) ++ ((lpl t ++ vput (2 * n + 1)) ++ vput ((i : Int) - (a : Int)).toNat) = 1 :: (ts ++ ltok t ++ [Tok.cp n (i - a)]).flatMap tenc := by
  rw [Int.toNat_sub, List.flatMap_append, List.flatMap_append, ltok_enc]
  simp [tenc]
theorem pk_outE (ts : List Tok) (t : List UInt8) : (1 :: ts.flatMap tenc) ++ lpl t = 1 :: (ts ++ ltok t).flatMap tenc := by
  rw [List.flatMap_append, ltok_enc]; rfl
end Go.Kn
namespace Go.Kn
theorem lzPack_less (s : List UInt8) (hs : s.length < 4611686018427387904) : lzUnpack (lzPack s) (((s.length : Nat) : Int) - 1) = ([], if s = [] then 1 else 3) := by
  by_cases h : s = []
  · subst h; unfold lzUnpack; rw [if_pos (by simp)]; rfl
  · have h0 := List.length_pos_iff.2 h
    have := lzPack_unpack s hs (s.length - 1)
    rw [show ((s.length - 1 : Nat) : Int) = ((s.length : Nat) : Int) - 1 by omega, if_neg (by omega)] at this
    rw [this, if_neg h]
theorem lzPack_back (s : List UInt8) (hs : s.length < 4611686018427387904) : lzUnpack (lzPack s) ((s.length : Nat) : Int) = (s, 0) := by
  rw [lzPack_unpack s hs, if_pos (Nat.le_refl _)]
end Go.Kn
