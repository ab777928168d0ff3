/- The plain law of numbers as bytes: the highest byte first. -/
import Derived.Test.YtcoddeemfdnjpaaDoorCrcPlain
namespace Go.Proofs.YtcoddeemfdnjpaaDoor.NumPlain
open CrcPlain
def valN (l : List Nat) : Nat := l.foldl (fun a c => a * 256 + c) 0
/-- the bytes of a number, so many, the highest first -/
def numL : Nat → Nat → List Nat
  | 0, _ => []
  | k + 1, n => numL k (n / 256) ++ [n % 256]
theorem valN_nil : valN [] = 0 := rfl
theorem valN_snoc (l : List Nat) (c : Nat) : valN (l ++ [c]) = valN l * 256 + c := by unfold valN; rw [List.foldl_append]; rfl
theorem valN_take_lt (l : List Nat) (h : ∀ c ∈ l, c < 256) : ∀ k, k ≤ l.length → valN (l.take k) < 256 ^ k
  | 0, _ => by simp [valN]
  | k + 1, hk => by
    have ih := valN_take_lt l h k (by omega)
    rw [List.take_succ_eq_append_getElem (by omega), valN_snoc, Nat.pow_succ]
    have := h _ (List.getElem_mem (l := l) (n := k) (by omega))
    omega
theorem numL_length : ∀ k n, (numL k n).length = k
  | 0, _ => rfl
  | k + 1, n => by rw [numL, List.length_append, numL_length k]; rfl
theorem numL_lt : ∀ k n, ∀ c ∈ numL k n, c < 256
  | 0, _, c, h => by simp [numL] at h
  | k + 1, n, c, h => by
    rw [numL, List.mem_append] at h
    rcases h with h | h
    · exact numL_lt k _ c h
    · simp at h; omega
theorem valN_numL : ∀ k n, n < 256 ^ k → valN (numL k n) = n
  | 0, n, h => by simp at h; subst h; rfl
  | k + 1, n, h => by
    rw [numL, valN_snoc, valN_numL k (n / 256) (by rw [Nat.pow_succ] at h; omega)]
    omega
theorem numL_valN : ∀ l : List Nat, (∀ c ∈ l, c < 256) → numL l.length (valN l) = l := by
  intro l
  generalize hn : l.length = n
  induction n generalizing l with
  | zero => intro _; have := List.length_eq_zero_iff.1 hn; subst this; rfl
  | succ n ih =>
    intro h
    have hne : l ≠ [] := by intro e; subst e; simp at hn
    obtain ⟨m, c, rfl⟩ : ∃ m c, l = m ++ [c] := ⟨l.dropLast, l.getLast hne, (List.dropLast_concat_getLast hne).symm⟩
    have hc : c < 256 := h c (by simp)
    have hm : m.length = n := by simpa using hn
    rw [numL, valN_snoc, show (valN m * 256 + c) / 256 = valN m by omega, show (valN m * 256 + c) % 256 = c by omega, ih m hm (fun x hx => h x (by simp [hx]))]
theorem or_add (m c : Nat) (h : c < 256) : (m * 256) ||| c = m * 256 + c := by
  have := Nat.two_pow_add_eq_or_of_lt (i := 8) (b := c) h m
  rw [show 2 ^ 8 * m = m * 256 by omega] at this
  exact this.symm
theorem valN_numL_mod : ∀ k n, valN (numL k n) = n % 256 ^ k
  | 0, n => by simp [numL, valN]; omega
  | k + 1, n => by
    rw [numL, valN_snoc, valN_numL_mod k, Nat.pow_succ, Nat.mul_comm (256 ^ k) 256, Nat.mod_mul]
    omega
/-- the number that stands at a place, in so many bytes -/
def takeN (s : ByteArray) (a n : Nat) : Nat := valN (nums (s.extract a (a + n)))
theorem takeN_lt (s : ByteArray) (a n : Nat) (h : a + n ≤ s.size) : takeN s a n < 256 ^ n := by
  have := valN_take_lt (nums (s.extract a (a + n))) (nums_lt _) (nums (s.extract a (a + n))).length (Nat.le_refl _)
  rw [List.take_length, nums_length, ByteArray.size_extract, show min (a + n) s.size - a = n by omega] at this
  exact this
end Go.Proofs.YtcoddeemfdnjpaaDoor.NumPlain
