/- Plain facts on numbers as bytes. -/
import Derived.Test.YtcbcpgaehdoekaaSlG
set_option linter.unusedVariables false
set_option linter.unusedSimpArgs false
namespace Go.Proofs.Ytcbcpgaehdoekaa
open Go.Proofs.Ytcbcpgaehdoekaa.SL

theorem wrapI64 {n : Int} (h : -9223372036854775808 ≤ n ∧ n < 9223372036854775808) : IntKind.i64.wrap n = n := by rw [IntKind.wrap_i64]; omega
theorem wrapU64' (n : Int) : IntKind.u64.wrap n = n % 18446744073709551616 := by simp [IntKind.wrap, IntKind.bits, IntKind.signed]
theorem wrapU64 {n : Int} (h : 0 ≤ n ∧ n < 18446744073709551616) : IntKind.u64.wrap n = n := by rw [wrapU64']; omega
theorem wrapU32 {n : Int} (h : 0 ≤ n ∧ n < 4294967296) : IntKind.u32.wrap n = n := by rw [IntKind.wrap_u32]; omega
theorem wrapU8 {n : Int} (h : 0 ≤ n ∧ n < 256) : IntKind.u8.wrap n = n := by rw [IntKind.wrap_u8]; omega

theorem snoc_ind {α : Type} {p : List α → Prop} (h0 : p []) (h1 : ∀ l c, p l → p (l ++ [c])) (l : List α) : p l := by
  rw [← List.reverse_reverse l]
  induction l.reverse with
  | nil => exact h0
  | cons c l ih => rw [List.reverse_cons]; exact h1 _ _ ih

/-- The number that bytes are, the greatest first. -/
def getN (l : List UInt8) : Nat := l.foldl (fun a c => a * 256 + c.toNat) 0
theorem getN_snoc (l : List UInt8) (c : UInt8) : getN (l ++ [c]) = getN l * 256 + c.toNat := by simp [getN]
theorem getN_take {l : List UInt8} {k : Nat} (h : k < l.length) : getN (l.take (k + 1)) = getN (l.take k) * 256 + (l.getD k 0).toNat := by
  rw [List.take_succ_eq_append_getElem h, getN_snoc]; simp [List.getD, h]
theorem getN_lt : ∀ (l : List UInt8), getN l < 256 ^ l.length := by
  refine snoc_ind (by simp [getN]) ?_
  · intro l c ih
    rw [getN_snoc, List.length_append, List.length_singleton, Nat.pow_succ]
    have := c.toNat_lt
    omega

/-- A number as so many bytes, the greatest first. -/
def putN : Nat → Nat → List UInt8
  | _, 0 => []
  | n, s + 1 => putN (n / 256) s ++ [UInt8.ofNat n]
theorem putN_length : ∀ (s n : Nat), (putN n s).length = s
  | 0, _ => rfl
  | s + 1, n => by simp [putN, putN_length s]
theorem putN_cons : ∀ (s n : Nat), putN n (s + 1) = UInt8.ofNat (n / 256 ^ s) :: putN n s
  | 0, n => by simp [putN]
  | s + 1, n => by
    rw [putN, putN_cons s (n / 256), putN]
    rw [Nat.div_div_eq_div_mul, Nat.mul_comm, ← Nat.pow_succ]
    rfl
theorem getN_putN : ∀ (s n : Nat), n < 256 ^ s → getN (putN n s) = n
  | 0, n, h => by simp at h; subst h; rfl
  | s + 1, n, h => by
    rw [putN, getN_snoc, getN_putN s _ (by rw [Nat.pow_succ] at h; omega)]
    simp
    omega
theorem putN_getN : ∀ (l : List UInt8), putN (getN l) l.length = l := by
  refine snoc_ind rfl ?_
  · intro l c ih
    rw [getN_snoc, List.length_append, List.length_singleton, putN]
    have hc := c.toNat_lt
    rw [show (getN l * 256 + c.toNat) / 256 = getN l by omega, ih]
    congr 2
    apply UInt8.toNat.inj
    simp
theorem p8 : (2 : Int) ^ min (Int.toNat 8) IntKind.u64.bits = 256 := by decide
theorem p8' : (2 : Int) ^ min (Int.toNat 8) IntKind.u32.bits = 256 := by decide

/-! Bitwise -/
theorem bits_odd (k : Int) : bits BinOp.and IntKind.i64 k 1 = k % 2 := by
  have h : (BitVec.ofInt 64 k &&& BitVec.ofInt 64 1).toNat = (k % 2).toNat := by
    rw [BitVec.toNat_and, BitVec.toNat_ofInt, BitVec.toNat_ofInt]
    have : (1 % (2 ^ 64 : Nat) : Int).toNat = 1 := by decide
    rw [this, Nat.and_one_is_mod]
    omega
  show IntKind.i64.wrap ((BitVec.ofInt 64 k &&& BitVec.ofInt 64 1).toNat : Int) = k % 2
  rw [h, IntKind.wrap_i64]
  omega
theorem ofInt_nat {n a : Nat} (h : a < 2 ^ n) : (BitVec.ofInt n (a : Int)).toNat = a := by
  rw [BitVec.toNat_ofInt, ← Int.natCast_emod, Int.toNat_natCast, Nat.mod_eq_of_lt h]
theorem bits_and {k : IntKind} {a b : Nat} (ha : a < 2 ^ k.bits) (hb : b < 2 ^ k.bits) : bits .and k a b = k.wrap ((a &&& b : Nat) : Int) := by
  show k.wrap ((BitVec.ofInt k.bits a &&& BitVec.ofInt k.bits b).toNat : Int) = _
  rw [BitVec.toNat_and, ofInt_nat ha, ofInt_nat hb]
theorem bits_or {k : IntKind} {a b : Nat} (ha : a < 2 ^ k.bits) (hb : b < 2 ^ k.bits) : bits .or k a b = k.wrap ((a ||| b : Nat) : Int) := by
  show k.wrap ((BitVec.ofInt k.bits a ||| BitVec.ofInt k.bits b).toNat : Int) = _
  rw [BitVec.toNat_or, ofInt_nat ha, ofInt_nat hb]
theorem bits_xor {k : IntKind} {a b : Nat} (ha : a < 2 ^ k.bits) (hb : b < 2 ^ k.bits) : bits .xor k a b = k.wrap ((a ^^^ b : Nat) : Int) := by
  show k.wrap ((BitVec.ofInt k.bits a ^^^ BitVec.ofInt k.bits b).toNat : Int) = _
  rw [BitVec.toNat_xor, ofInt_nat ha, ofInt_nat hb]
end Go.Proofs.Ytcbcpgaehdoekaa
