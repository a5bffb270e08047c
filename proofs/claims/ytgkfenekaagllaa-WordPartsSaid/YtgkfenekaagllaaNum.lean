import Derived.Laws.BitsLemmas
import Derived.RowKit
import Derived.WalkKit
/- Plain facts on numbers of 32 bits: masks, shifts, one bit, a part of a word, a part put back. No program in sight. -/
namespace Go.Proofs.Ytgkfenekaagllaa.Num
open Go.RowKit

/-- A part of a word, and a word with a part put in. -/
def GetN (w a n : Nat) : Nat := w / 2 ^ a % 2 ^ n
def PutN (w a n x : Nat) : Nat := ((BitVec.ofNat 32 w) &&& ~~~(BitVec.ofNat 32 ((2 ^ n - 1) * 2 ^ a % 4294967296))).toNat ||| (x % 2 ^ n * 2 ^ a % 4294967296)

theorem pow32 : (2 : Nat) ^ 32 = 4294967296 := rfl
theorem pow_le32 {n : Nat} (h : n ≤ 32) : 2 ^ n ≤ 4294967296 := by rw [← pow32]; exact Nat.pow_le_pow_right (by decide) h
theorem pow_pos' (n : Nat) : 0 < 2 ^ n := Nat.pow_pos (by decide)

theorem u32_of {a : Int} (h : (Lit.int .u32 a).wf = true) : ∃ n : Nat, a = (n : Int) ∧ n < 4294967296 := by
  simp [Lit.wf, IntKind.min, IntKind.max, IntKind.signed, IntKind.bits] at h
  exact ⟨a.toNat, by omega, by omega⟩
theorem i64_of {a : Int} (h : (Lit.int .i64 a).wf = true) : -9223372036854775808 ≤ a ∧ a ≤ 9223372036854775807 := by
  simp [Lit.wf, IntKind.min, IntKind.max, IntKind.signed, IntKind.bits] at h
  omega
theorem w64 {n : Int} (h : -9223372036854775808 ≤ n) (h1 : n ≤ 9223372036854775807) : wrap64 n = n := by unfold wrap64; omega
theorem lt32 {n : Nat} (h : n < 4294967296) : n < 2 ^ 32 := h

theorem and_u32 {a b : Nat} (ha : a < 4294967296) (hb : b < 4294967296) : bits .and .u32 (a : Int) (b : Int) = ((a &&& b : Nat) : Int) :=
  (bits_nat .u32 32 (by decide) (fun n h0 h1 => by rw [IntKind.wrap_u32]; omega) a b ha hb).1
theorem or_u32 {a b : Nat} (ha : a < 4294967296) (hb : b < 4294967296) : bits .or .u32 (a : Int) (b : Int) = ((a ||| b : Nat) : Int) :=
  (bits_nat .u32 32 (by decide) (fun n h0 h1 => by rw [IntKind.wrap_u32]; omega) a b ha hb).2
theorem andNot_u32 (a b : Nat) : bits .andNot .u32 (a : Int) (b : Int) = ((((BitVec.ofNat 32 a) &&& ~~~(BitVec.ofNat 32 b)).toNat : Nat) : Int) := by
  have hlt := ((BitVec.ofNat 32 a) &&& ~~~(BitVec.ofNat 32 b)).isLt
  simp only [bits, BitVec.ofInt_natCast, IntKind.wrap_u32]
  show ((((BitVec.ofNat 32 a) &&& ~~~(BitVec.ofNat 32 b)).toNat : Nat) : Int) % 4294967296 = _
  omega
theorem xor_u32 {a b : Nat} (ha : a < 4294967296) (hb : b < 4294967296) : bits .xor .u32 (a : Int) (b : Int) = ((a ^^^ b : Nat) : Int) := by
  have hlt : (a ^^^ b) < 2 ^ 32 := Nat.xor_lt_two_pow (lt32 ha) (lt32 hb)
  simp only [bits, BitVec.ofInt_natCast, IntKind.wrap_u32, BitVec.toNat_xor, BitVec.toNat_ofNat]
  have h1 : a % 2 ^ IntKind.u32.bits = a := Nat.mod_eq_of_lt ha
  have h2 : b % 2 ^ IntKind.u32.bits = b := Nat.mod_eq_of_lt hb
  rw [h1, h2]
  have h3 : (2 : Nat) ^ 32 = 4294967296 := rfl
  omega
theorem and_mask {x n : Nat} (hx : x < 4294967296) (hn : n ≤ 32) : bits .and .u32 (x : Int) ((2 ^ n - 1 : Nat) : Int) = ((x % 2 ^ n : Nat) : Int) := by
  have := pow_le32 hn
  have := pow_pos' n
  rw [and_u32 hx (by omega), Nat.and_two_pow_sub_one_eq_mod]
/-! ### Bits -/
theorem PutN_bit (w a n x j : Nat) (hj : j < 32) : (PutN w a n x).testBit j = if a ≤ j ∧ j < a + n then x.testBit (j - a) else w.testBit j := by
  unfold PutN
  rw [← pow32]
  simp only [Nat.testBit_or, BitVec.toNat_and, Nat.testBit_and, BitVec.testBit_toNat, BitVec.getLsbD_not, BitVec.getLsbD_ofNat, Nat.testBit_mod_two_pow, ← Nat.shiftLeft_eq, Nat.testBit_shiftLeft, Nat.testBit_two_pow_sub_one, hj, decide_true, Bool.true_and]
  by_cases h1 : a ≤ j
  · by_cases h2 : j - a < n
    · rw [if_pos ⟨h1, by omega⟩]; simp [h1, h2]
    · rw [if_neg (by omega)]; simp [h1, h2]
  · rw [if_neg (by omega)]; simp [h1]
theorem PutN_lt (w a n x : Nat) : PutN w a n x < 4294967296 := by
  unfold PutN
  rw [← pow32]
  refine Nat.or_lt_two_pow (BitVec.isLt _) (Nat.mod_lt _ (by decide))
theorem GetN_bit (w a n j : Nat) : (GetN w a n).testBit j = (decide (j < n) && w.testBit (j + a)) := by
  unfold GetN
  rw [Nat.testBit_mod_two_pow, Nat.testBit_div_two_pow]
theorem GetN_lt (w a n : Nat) (hn : n ≤ 32) : GetN w a n < 4294967296 := by
  have := pow_le32 hn
  have := Nat.mod_lt (w / 2 ^ a) (pow_pos' n)
  unfold GetN; omega
theorem bit_high {w j : Nat} (hw : w < 4294967296) (hj : 32 ≤ j) : w.testBit j = false :=
  Nat.testBit_lt_two_pow (Nat.lt_of_lt_of_le (lt32 hw) (Nat.pow_le_pow_right (by decide) hj))
/-- Words of 32 bits that agree bit by bit. -/
theorem word_ext {v w : Nat} (hv : v < 4294967296) (hw : w < 4294967296) (h : ∀ j, j < 32 → v.testBit j = w.testBit j) : v = w := by
  refine Nat.eq_of_testBit_eq fun j => ?_
  by_cases hj : j < 32
  · exact h j hj
  · rw [bit_high hv (by omega), bit_high hw (by omega)]
/-- One bit more. -/
theorem bit_val (w s : Nat) : w / 2 ^ s = 2 * (w / 2 ^ (s + 1)) + (if w.testBit s = true then 1 else 0) := by
  have h1 : w / 2 ^ (s + 1) = w / 2 ^ s / 2 := by rw [Nat.pow_succ, Nat.div_div_eq_div_mul]
  have h2 : w.testBit s = decide (w / 2 ^ s % 2 = 1) := Nat.testBit_eq_decide_div_mod_eq
  rw [h1, h2]
  by_cases h : w / 2 ^ s % 2 = 1
  · simp only [h, decide_true, if_true]; omega
  · simp only [h, decide_false]; rw [if_neg (by decide)]; omega
theorem part_step (w s m : Nat) : w / 2 ^ s % 2 ^ (m + 1) = 2 * (w / 2 ^ (s + 1) % 2 ^ m) + (if w.testBit s = true then 1 else 0) := by
  have h1 : w / 2 ^ (s + 1) = w / 2 ^ s / 2 := by rw [Nat.pow_succ, Nat.div_div_eq_div_mul]
  have h2 : w.testBit s = decide (w / 2 ^ s % 2 = 1) := Nat.testBit_eq_decide_div_mod_eq
  rw [Nat.pow_succ, Nat.mul_comm (2 ^ m) 2, Nat.mod_mul, h1, h2]
  by_cases h : w / 2 ^ s % 2 = 1
  · simp only [h, decide_true, if_true]; omega
  · simp only [h, decide_false]; rw [if_neg (by decide)]; omega
end Go.Proofs.Ytgkfenekaagllaa.Num
