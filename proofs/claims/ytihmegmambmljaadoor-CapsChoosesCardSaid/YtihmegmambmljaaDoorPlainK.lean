/- Sums (layer 2), plain. -/
import Derived.Test.YtihmegmambmljaaDoorEngR
set_option linter.unusedVariables false
set_option linter.unusedSimpArgs false
namespace Go.Kn
def rotr (x n : Nat) : Nat := (x / 2 ^ n + x * 2 ^ (32 - n) % 4294967296) % 4294967296
theorem rotr_lt (x n : Nat) : rotr x n < 4294967296 := Nat.mod_lt _ (by omega)
theorem shl_mod {x n : Nat} (h : n ≤ 32) : x * 2 ^ (32 - n) % 4294967296 = x % 2 ^ n * 2 ^ (32 - n) := by
  have : (4294967296 : Nat) = 2 ^ n * 2 ^ (32 - n) := by rw [← Nat.pow_add, show n + (32 - n) = 32 by omega]
  rw [this, Nat.mul_mod_mul_right]
theorem rot_or {x n : Nat} (hx : x < 4294967296) (h : n ≤ 32) : x * 2 ^ (32 - n) % 4294967296 ||| x / 2 ^ n = rotr x n := by
  have h1 : x / 2 ^ n < 2 ^ (32 - n) := by
    rw [Nat.div_lt_iff_lt_mul (Nat.two_pow_pos n), ← Nat.pow_add, show 32 - n + n = 32 by omega]; exact hx
  have h2 : x % 2 ^ n * 2 ^ (32 - n) + x / 2 ^ n < 4294967296 := by
    have h3 : x % 2 ^ n + 1 ≤ 2 ^ n := Nat.mod_lt _ (Nat.two_pow_pos n)
    have h4 : (x % 2 ^ n + 1) * 2 ^ (32 - n) ≤ 2 ^ n * 2 ^ (32 - n) := Nat.mul_le_mul_right _ h3
    rw [← Nat.pow_add, show n + (32 - n) = 32 by omega, Nat.add_mul] at h4
    omega
  unfold rotr
  have e : (x / 2 ^ n + x % 2 ^ n * 2 ^ (32 - n)) % 4294967296 = x / 2 ^ n + x % 2 ^ n * 2 ^ (32 - n) := Nat.mod_eq_of_lt (by omega)
  rw [shl_mod h, e, Nat.mul_comm (x % 2 ^ n) (2 ^ (32 - n)), ← Nat.two_pow_add_eq_or_of_lt h1, Nat.add_comm]
theorem nn32 {a : Nat} (h : a < 4294967296) : NN .u32 ((a : Nat) : Int) := by unfold NN InR; omega
theorem xor32 {a b : Nat} (h : a < 4294967296) (k : b < 4294967296) : a ^^^ b < 4294967296 := Nat.xor_lt_two_pow (n := 32) h k
theorem and32 {a b : Nat} (k : b < 4294967296) : a &&& b < 4294967296 := Nat.and_lt_two_pow (n := 32) _ k
theorem mod32 (a : Nat) : a % 4294967296 < 4294967296 := Nat.mod_lt _ (by omega)
theorem div32 {a b : Nat} (h : a < 4294967296) : a / b < 4294967296 := Nat.lt_of_le_of_lt (Nat.div_le_self _ _) h
/-! ## a block's words -/
def bat (b : List UInt8) (i : Nat) : Nat := (b.getD i 0).toNat
theorem bat_lt (b : List UInt8) (i : Nat) : bat b i < 256 := UInt8.toNat_lt _
/-- as the program takes them, byte by byte -/
def wordsTo (b : List UInt8) : Nat → Wn 64
  | 0 => wz 64
  | i + 1 => (wordsTo b i).set (i / 4) ((wordsTo b i).at_ (i / 4) * 256 % 4294967296 ||| bat b i)
/-- as the document takes them -/
def words0 (b : List UInt8) : Nat → Wn 64
  | 0 => wz 64
  | j + 1 => (words0 b j).set j (bat b (4 * j) * 16777216 + bat b (4 * j + 1) * 65536 + bat b (4 * j + 2) * 256 + bat b (4 * j + 3))
/-- m bytes from a place on, as a number -/
def wval (b : List UInt8) (j : Nat) : Nat → Nat
  | 0 => 0
  | m + 1 => wval b j m * 256 + bat b (4 * j + m)
theorem wval_lt (b : List UInt8) (j m : Nat) : wval b j m < 256 ^ m := by
  induction m with
  | zero => simp [wval]
  | succ m ih =>
    have := bat_lt b (4 * j + m)
    rw [wval, Nat.pow_succ]; omega
theorem wz_at (n i : Nat) : (wz n).at_ i = 0 := by
  unfold Wn.at_ wz
  simp [List.getD_eq_getElem?_getD, List.getElem?_replicate]
  split <;> rfl
theorem or_byte (x c : Nat) (hc : c < 256) (hx : x < 16777216) : x * 256 % 4294967296 ||| c = x * 256 + c := by
  rw [Nat.mod_eq_of_lt (by omega), Nat.mul_comm, show (256 : Nat) = 2 ^ 8 from rfl, ← Nat.two_pow_add_eq_or_of_lt hc]
theorem wordsTo_at (b : List UInt8) (i : Nat) (hi : i ≤ 64) (j : Nat) (hj : j < 64) : (wordsTo b i).at_ j = wval b j (min 4 (i - 4 * j)) := by
  induction i with
  | zero => rw [wordsTo, wz_at]; simp [wval]
  | succ i ih =>
    have ih := ih (by omega)
    have hc := bat_lt b i
    rw [wordsTo]
    by_cases h : i / 4 = j
    · have e : min 4 (i - 4 * j) = i - 4 * j := by omega
      have hlt := wval_lt b j (i - 4 * j)
      have h2 : wval b j (i - 4 * j) < 16777216 := Nat.lt_of_lt_of_le hlt (by
        have : i - 4 * j ≤ 3 := by omega
        exact Nat.pow_le_pow_right (by omega) this)
      rw [h, ih, e, or_byte _ _ hc h2, Wn.at_set _ _ _ _ (by omega), if_pos ⟨rfl, by omega⟩, show min 4 (i + 1 - 4 * j) = (i - 4 * j) + 1 by omega, wval, show 4 * j + (i - 4 * j) = i by omega]
    · have h3 : (wordsTo b i).at_ (i / 4) * 256 % 4294967296 ||| bat b i < 4294967296 := by
        refine Nat.or_lt_two_pow (n := 32) (Nat.mod_lt _ (by omega)) (by omega)
      rw [Wn.at_set _ _ _ _ h3, if_neg (fun h' => h h'.1), ih]
      congr 1; omega
theorem words0_at (b : List UInt8) (k : Nat) (hk : k ≤ 16) (j : Nat) (hj : j < 64) : (words0 b k).at_ j = if j < k then wval b j 4 else 0 := by
  induction k with
  | zero => rw [words0, wz_at]; simp
  | succ k ih =>
    have ih := ih (by omega)
    have h0 := bat_lt b (4 * k); have h1 := bat_lt b (4 * k + 1); have h2 := bat_lt b (4 * k + 2); have h3 := bat_lt b (4 * k + 3)
    rw [words0, Wn.at_set _ _ _ _ (by omega)]
    by_cases h : k = j
    · subst h
      rw [if_pos ⟨rfl, hj⟩, if_pos (by omega)]
      simp only [wval, Nat.add_zero]; omega
    · rw [if_neg (fun h' => h h'.1), ih]
      by_cases h4 : j < k
      · rw [if_pos h4, if_pos (by omega)]
      · rw [if_neg h4, if_neg (by omega)]
theorem words_same (b : List UInt8) : wordsTo b 64 = words0 b 16 := by
  apply Wn.ext_at
  intro j hj
  rw [wordsTo_at b 64 (by omega) j hj, words0_at b 16 (by omega) j hj]
  by_cases h : j < 16
  · rw [if_pos h, show min 4 (64 - 4 * j) = 4 by omega]
  · rw [if_neg h, show min 4 (64 - 4 * j) = 0 by omega]; rfl
def sg0 (a : Nat) : Nat := (rotr a 7 ^^^ rotr a 18) ^^^ a / 8
def sg1 (b : Nat) : Nat := (rotr b 17 ^^^ rotr b 19) ^^^ b / 1024
/-- the further words -/
def extTo (w : Wn 64) : Nat → Wn 64
  | 0 => w
  | k + 1 => (extTo w k).set (16 + k) (((extTo w k).at_ k + (extTo w k).at_ (9 + k) + sg0 ((extTo w k).at_ (1 + k)) + sg1 ((extTo w k).at_ (14 + k))) % 4294967296)
theorem extTo_step (w : Wn 64) (k : Nat) : (extTo w k).set (16 + k) (((((extTo w k).at_ (16 + k - 16) + (extTo w k).at_ (16 + k - 7)) % 4294967296 + (rotr ((extTo w k).at_ (16 + k - 15)) 7 ^^^ rotr ((extTo w k).at_ (16 + k - 15)) 18 ^^^ (extTo w k).at_ (16 + k - 15) / 8)) % 4294967296 +
    (rotr ((extTo w k).at_ (16 + k - 2)) 17 ^^^ rotr ((extTo w k).at_ (16 + k - 2)) 19 ^^^ (extTo w k).at_ (16 + k - 2) / 1024)) % 4294967296) = extTo w (k + 1) := by
  rw [extTo, show 16 + k - 16 = k by omega, show 16 + k - 7 = 9 + k by omega, show 16 + k - 15 = 1 + k by omega, show 16 + k - 2 = 14 + k by omega]
  congr 1
  unfold sg0 sg1
  omega
/-- as the document adds them up -/
theorem extTo_step2 (w : Wn 64) (k x y : Nat) (hx : x = sg0 ((extTo w k).at_ (16 + k - 15))) (hy : y = sg1 ((extTo w k).at_ (16 + k - 2))) : (extTo w k).set (16 + k) (((((extTo w k).at_ (16 + k - 16) + x) % 4294967296 + (extTo w k).at_ (16 + k - 7)) % 4294967296 + y) % 4294967296) = extTo w (k + 1) := by
  rw [extTo, hx, hy, show 16 + k - 16 = k by omega, show 16 + k - 7 = 9 + k by omega, show 16 + k - 15 = 1 + k by omega, show 16 + k - 2 = 14 + k by omega]
  congr 1
  omega
def shaW (b : List UInt8) : Wn 64 := extTo (words0 b 16) 48
/-! ## a block -/
def w8 (a b c d e f g h : Nat) : Wn 8 := ⟨[a % 4294967296, b % 4294967296, c % 4294967296, d % 4294967296, e % 4294967296, f % 4294967296, g % 4294967296, h % 4294967296], rfl, fun x hx => by
  simp only [List.mem_cons, List.not_mem_nil, or_false] at hx
  rcases hx with h | h | h | h | h | h | h | h <;> rw [h] <;> exact Nat.mod_lt _ (by omega)⟩
def rX (v : Wn 8) (k w : Nat) : Nat := (v.at_ 7 + ((rotr (v.at_ 4) 6 ^^^ rotr (v.at_ 4) 11) ^^^ rotr (v.at_ 4) 25) + ((v.at_ 4 &&& v.at_ 5) ^^^ ((4294967295 ^^^ v.at_ 4) &&& v.at_ 6)) + k + w) % 4294967296
def rY (v : Wn 8) : Nat := (((rotr (v.at_ 0) 2 ^^^ rotr (v.at_ 0) 13) ^^^ rotr (v.at_ 0) 22) + (((v.at_ 0 &&& v.at_ 1) ^^^ (v.at_ 0 &&& v.at_ 2)) ^^^ (v.at_ 1 &&& v.at_ 2))) % 4294967296
def rnd (v : Wn 8) (k w : Nat) : Wn 8 := w8 (rX v k w + rY v) (v.at_ 0) (v.at_ 1) (v.at_ 2) (v.at_ 3 + rX v k w) (v.at_ 4) (v.at_ 5) (v.at_ 6)
def rounds (c w : Wn 64) (s : Wn 8) : Nat → Wn 8
  | 0 => s
  | t + 1 => rnd (rounds c w s t) (c.at_ t) (w.at_ t)
def addTo (v s : Wn 8) : Nat → Wn 8
  | 0 => v
  | i + 1 => (addTo v s i).set i (((addTo v s i).at_ i + s.at_ i) % 4294967296)
def shaBlk (c : Wn 64) (s : Wn 8) (b : List UInt8) : Wn 8 := addTo (rounds c (shaW b) s 64) s 8
/-- what the program's shift makes of eight words -/
def shiftW (v : Wn 8) : Wn 8 := ⟨v.l.take 1 ++ v.l.take 7, by simp [v.h], fun x hx => by
  rcases List.mem_append.1 hx with h | h <;> exact v.b _ (List.mem_of_mem_take h)⟩
theorem w8_at (a b c d e f g h : Nat) (i : Nat) : (w8 a b c d e f g h).at_ i = [a % 4294967296, b % 4294967296, c % 4294967296, d % 4294967296, e % 4294967296, f % 4294967296, g % 4294967296, h % 4294967296].getD i 0 := rfl
theorem shiftW_at (v : Wn 8) (i : Nat) (hi : i < 8) : (shiftW v).at_ i = if i = 0 then v.at_ 0 else v.at_ (i - 1) := by
  have hv := v.h
  unfold shiftW Wn.at_
  simp only [List.getD_eq_getElem?_getD]
  by_cases h : i = 0
  · subst h
    rw [if_pos rfl, List.getElem?_append_left (by simp; omega), List.getElem?_take, if_pos (by omega)]
  · rw [if_neg h, List.getElem?_append_right (by simp; omega), List.length_take, Nat.min_eq_left (by omega), List.getElem?_take, if_pos (by omega)]
theorem rnd_shift (v : Wn 8) (x y : Nat) (hx : x < 4294967296) : ((shiftW v).set 4 (((shiftW v).at_ 4 + x) % 4294967296)).set 0 ((x + y) % 4294967296) = w8 (x + y) (v.at_ 0) (v.at_ 1) (v.at_ 2) (v.at_ 3 + x) (v.at_ 4) (v.at_ 5) (v.at_ 6) := by
  apply Wn.ext_at
  intro i hi
  have h4 := shiftW_at v 4 (by omega)
  have hs := shiftW_at v i hi
  have hv : ∀ j, v.at_ j % 4294967296 = v.at_ j := fun j => Nat.mod_eq_of_lt (v.at_lt j)
  rw [Wn.at_set _ _ _ _ (Nat.mod_lt _ (by omega)), Wn.at_set _ _ _ _ (Nat.mod_lt _ (by omega)), w8_at, h4, hs]
  match i, hi with
  | 0, _ => simp
  | 1, _ => simp [hv]
  | 2, _ => simp [hv]
  | 3, _ => simp [hv]
  | 4, _ => simp
  | 5, _ => simp [hv]
  | 6, _ => simp [hv]
  | 7, _ => simp [hv]
theorem addTo_succ (v s : Wn 8) (i : Nat) : addTo v s (i + 1) = (addTo v s i).set i (((addTo v s i).at_ i + s.at_ i) % 4294967296) := rfl
end Go.Kn
namespace Go.Kn
/-! ## a text's sum -/
def be8 (n : Nat) (k : Nat) : List UInt8 := (List.range k).map fun i => UInt8.ofNat (n / 2 ^ (56 - 8 * i) % 256)
/-- the text, filled up -/
def shaPad (l : List UInt8) : List UInt8 := l ++ [128] ++ List.replicate ((120 - (l.length + 1) % 64) % 64) 0 ++ be8 (8 * l.length) 8
def shaIv : Wn 8 := w8 1779033703 3144134277 1013904242 2773480762 1359893119 2600822924 528734635 1541459225
def shaGo (c : Wn 64) : Nat → Wn 8 → List UInt8 → Wn 8
  | 0, s, _ => s
  | f + 1, s, l => if l.length < 64 then s else shaGo c f (shaBlk c s (l.take 64)) (l.drop 64)
/-- the bytes of an id out of eight words: the first i of them -/
def sumTo (s : Wn 8) : Nat → Id
  | 0 => idZ
  | i + 1 => (sumTo s i).set i (s.at_ (i / 4) / 2 ^ (24 - 8 * (i % 4)) % 256)
def shaSumC (c : Wn 64) (l : List UInt8) : Id := sumTo (shaGo c (shaPad l).length shaIv (shaPad l)) 32
def shaKl : List Nat := [1116352408, 1899447441, 3049323471, 3921009573, 961987163, 1508970993, 2453635748, 2870763221, 3624381080, 310598401, 607225278, 1426881987, 1925078388, 2162078206, 2614888103, 3248222580, 3835390401, 4022224774, 264347078, 604807628, 770255983, 1249150122, 1555081692, 1996064986, 2554220882, 2821834349, 2952996808, 3210313671, 3336571891, 3584528711, 113926993, 338241895, 666307205, 773529912, 1294757372, 1396182291, 1695183700, 1986661051, 2177026350, 2456956037, 2730485921, 2820302411, 3259730800, 3345764771, 3516065817, 3600352804, 4094571909, 275423344, 430227734, 506948616, 659060556, 883997877, 958139571, 1322822218, 1537002063, 1747873779, 1955562222, 2024104815, 2227730452, 2361852424, 2428436474, 2756734187, 3204031479, 3329325298]
def shaK : Wn 64 := ⟨shaKl, rfl, by decide⟩
def shaSum (l : List UInt8) : Id := shaSumC shaK l
theorem be8_succ (n k : Nat) : be8 n (k + 1) = be8 n k ++ [UInt8.ofNat (n / 2 ^ (56 - 8 * k) % 256)] := by simp [be8, List.range_succ]
theorem be8_len (n k : Nat) : (be8 n k).length = k := by simp [be8]
theorem shaPad_len (l : List UInt8) : (shaPad l).length % 64 = 0 := by
  unfold shaPad
  simp only [List.length_append, List.length_cons, List.length_nil, List.length_replicate, be8_len]
  omega
theorem shaGo_stop (c : Wn 64) (f : Nat) (s : Wn 8) (l : List UInt8) (h : l.length < 64) : shaGo c f s l = s := by
  cases f with
  | zero => rfl
  | succ f => rw [shaGo, if_pos h]
end Go.Kn
namespace Go.Kn
theorem shiftW_wc (v : Wn 8) : (wc v).take 1 ++ (wc v).take 7 ++ (wc v).drop (1 + 7) = wc (shiftW v) := by
  have : (wc v).drop (1 + 7) = [] := List.drop_of_length_le (by rw [wc_len]; omega)
  rw [this]
  unfold wc shiftW
  simp [List.map_take]
theorem shiftW_src {w : World} {b T : Nat} {v : Wn 8} (hB : w.heap[b]? = some (.cells ⟨wc v⟩ T (0, 0))) : ∀ j u, ((wc v).take 7)[j]? = some u → w.cell? ((⟨b, 0, none⟩ : Addr).add j) = some u := by
  intro j u h
  rw [List.getElem?_take] at h
  split at h
  · exact news_blk hB j u h
  · cases h
theorem rnd_step (c w : Wn 64) (s : Wn 8) (t : Nat) : ((shiftW (rounds c w s t)).set 4 (((shiftW (rounds c w s t)).at_ 4 + rX (rounds c w s t) (c.at_ t) (w.at_ t)) % 4294967296)).set 0 ((rX (rounds c w s t) (c.at_ t) (w.at_ t) + rY (rounds c w s t)) % 4294967296) = rounds c w s (t + 1) := by
  have h : rX (rounds c w s t) (c.at_ t) (w.at_ t) < 4294967296 := by unfold rX; exact Nat.mod_lt _ (by omega)
  exact rnd_shift _ _ _ h
end Go.Kn
namespace Go.Kn
theorem rX_eq (v : Wn 8) (k w : Nat) : ((((v.at_ 7 + ((rotr (v.at_ 4) 6 ^^^ rotr (v.at_ 4) 11) ^^^ rotr (v.at_ 4) 25)) % 4294967296 + ((v.at_ 4 &&& v.at_ 5) ^^^ ((4294967295 ^^^ v.at_ 4) &&& v.at_ 6))) % 4294967296 + k) % 4294967296 + w) % 4294967296 = rX v k w := by
  unfold rX; omega
theorem rY_eq (v : Wn 8) : (((rotr (v.at_ 0) 2 ^^^ rotr (v.at_ 0) 13) ^^^ rotr (v.at_ 0) 22) + (((v.at_ 0 &&& v.at_ 1) ^^^ (v.at_ 0 &&& v.at_ 2)) ^^^ (v.at_ 1 &&& v.at_ 2))) % 4294967296 = rY v := by
  unfold rY; rfl
end Go.Kn
namespace Go.Kn
theorem words0_step (b : List UInt8) (j : Nat) : (words0 b j).set j (((((b.getD (4 * j) 0).toNat * 16777216 % 4294967296 + (b.getD (4 * j + 1) 0).toNat * 65536 % 4294967296) % 4294967296 + (b.getD (4 * j + 2) 0).toNat * 256 % 4294967296) % 4294967296 + (b.getD (4 * j + 3) 0).toNat) % 4294967296) = words0 b (j + 1) := by
  have h0 := bat_lt b (4 * j); have h1 := bat_lt b (4 * j + 1); have h2 := bat_lt b (4 * j + 2); have h3 := bat_lt b (4 * j + 3)
  rw [words0]
  congr 1
  unfold bat at *
  omega
theorem rnd_cells (v : Wn 8) (k w : Nat) : [Value.int .u32 ((((rX v k w + rY v) % 4294967296 : Nat)) : Int), .int .u32 ((v.at_ 0 : Nat) : Int), .int .u32 ((v.at_ 1 : Nat) : Int), .int .u32 ((v.at_ 2 : Nat) : Int), .int .u32 (((v.at_ 3 + rX v k w) % 4294967296 : Nat) : Int), .int .u32 ((v.at_ 4 : Nat) : Int), .int .u32 ((v.at_ 5 : Nat) : Int), .int .u32 ((v.at_ 6 : Nat) : Int)] = wc (rnd v k w) := by
  have h : ∀ j, v.at_ j % 4294967296 = v.at_ j := fun j => Nat.mod_eq_of_lt (v.at_lt j)
  unfold rnd w8 wc
  simp only [List.map_cons, List.map_nil, wcv, h]
end Go.Kn
