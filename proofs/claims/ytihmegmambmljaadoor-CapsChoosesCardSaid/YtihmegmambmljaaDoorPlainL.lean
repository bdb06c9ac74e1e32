/- Texts joined, repeated; slices of texts. -/
import Derived.Test.YtihmegmambmljaaDoorPlainK
import Derived.Lib.Join
import Derived.Lib.Repeat
set_option linter.unusedVariables false
namespace Go.Kn
def encS (x : List UInt8) : List Value := [.string (S x)]
theorem encS_len (x : List UInt8) : (encS x).length = 1 := rfl
theorem encS_flat (l : List (List UInt8)) : l.flatMap encS = l.map fun x => .string (S x) := by
  induction l with
  | nil => rfl
  | cons x l ih => rw [List.flatMap_cons, ih]; rfl
theorem join_flat (l : List (List UInt8)) : Go.Lib.join l [] = l.flatten := by
  cases l with
  | nil => rfl
  | cons x l => rw [Go.Lib.join_cons]; simp [Go.Lib.joinTail]
theorem repeat_rep (c : UInt8) (n : Nat) : Go.Lib.repeatL [c] n = List.replicate n c := by
  induction n with
  | zero => rfl
  | succ n ih => rw [Go.Lib.repeatL, ih]; rfl
def shaP0 (l : List UInt8) : List UInt8 := l ++ [128] ++ List.replicate ((120 - (l.length + 1) % 64) % 64) 0
theorem shaPad_eq (l : List UInt8) : shaPad l = shaP0 l ++ be8 (8 * l.length) 8 := rfl
theorem shaP0_len (l : List UInt8) : (shaP0 l).length ≤ l.length + 65 := by
  unfold shaP0; simp only [List.length_append, List.length_cons, List.length_nil, List.length_replicate]; omega
theorem shaPad_le (l : List UInt8) : (shaPad l).length ≤ l.length + 73 := by
  have := shaP0_len l
  rw [shaPad_eq, List.length_append, be8_len]; omega
theorem iv_cells : [Value.int .u32 1779033703, .int .u32 3144134277, .int .u32 1013904242, .int .u32 2773480762, .int .u32 1359893119, .int .u32 2600822924, .int .u32 528734635, .int .u32 1541459225] = wc shaIv := rfl
theorem shaGo_step {c : Wn 64} {f : Nat} {s : Wn 8} {t : List UInt8} (h : 64 ≤ t.length) (hf : t.length ≤ f) : shaGo c f s t = shaGo c (f - 1) (shaBlk c s (t.take 64)) (t.drop 64) := by
  obtain ⟨g, rfl⟩ : ∃ g, f = g + 1 := ⟨f - 1, by omega⟩
  rw [shaGo, if_neg (by omega)]; rfl
/-- a text, an 1-bit, zeros -/
def shaZ (l : List UInt8) (k : Nat) : List UInt8 := l ++ [128] ++ List.replicate k 0
theorem shaZ_len (l : List UInt8) (k : Nat) : (shaZ l k).length = l.length + 1 + k := by simp [shaZ]; omega
theorem shaZ_succ (l : List UInt8) (k : Nat) : shaZ l k ++ [UInt8.ofNat 0] = shaZ l (k + 1) := by
  unfold shaZ; rw [List.append_assoc, List.replicate_succ']; rfl
theorem be8_back (n k : Nat) (h : k ≤ 7) : be8 n k ++ [UInt8.ofNat (n / 2 ^ (8 * (7 - k)) % 256)] = be8 n (k + 1) := by
  rw [be8_succ, show 56 - 8 * k = 8 * (7 - k) by omega]
end Go.Kn
