/- Plain laws on a reader's state: the bytes that are left, and whether it is bad. -/
import Derived.Test.YtaddckdbhakgmaaLe
namespace Rf

/-- what is answered, and the state behind it -/
def rNum (k : Int) (l : List UInt8) (bad : Bool) : Int × List UInt8 × Bool :=
  if bad = false ∧ isW k = true ∧ k ≤ (l.length : Int) then (num (l.take k.toNat), l.drop k.toNat, false) else (0, l, true)
def rRaw (n : Int) (l : List UInt8) (bad : Bool) : List UInt8 × List UInt8 × Bool :=
  if bad = false ∧ 0 ≤ n ∧ n ≤ (l.length : Int) then (l.take n.toNat, l.drop n.toNat, false) else ([], l, true)
/-- a text behind its length of f bytes, of at most so many bytes -/
def rText (f : Nat) (most : Int) (l : List UInt8) (bad : Bool) : List UInt8 × List UInt8 × Bool :=
  if bad = false ∧ f ≤ l.length ∧ num (l.take f) ≤ most ∧ num (l.take f) ≤ (l.length : Int) - (f : Int) then ((l.drop f).take (num (l.take f)).toNat, l.drop (f + (num (l.take f)).toNat), false) else ([], l, true)
def rLeft (l : List UInt8) (bad : Bool) : Int := if bad = true then 0 else (l.length : Int)

theorem pow256 {a b : Nat} (h : a ≤ b) : (256 : Int) ^ a ≤ 256 ^ b := by
  have e : ∀ k : Nat, (256 : Int) ^ k = ((256 ^ k : Nat) : Int) := fun k => by rw [Int.natCast_pow]; rfl
  rw [e, e]
  exact Int.ofNat_le.2 (Nat.pow_le_pow_right (by omega) h)
theorem num_take_bd (l : List UInt8) (k : Nat) (hk : k ≤ 8) : 0 ≤ num (l.take k) ∧ num (l.take k) ≤ 18446744073709551615 := by
  have h := num_bd (l.take k)
  have hl : (l.take k).length ≤ k := List.length_take_le _ _
  have h2 : (256 : Int) ^ (l.take k).length ≤ 256 ^ 8 := pow256 (by omega)
  have h3 : (256 : Int) ^ 8 = 18446744073709551616 := by decide
  omega
theorem num_take1 (l : List UInt8) : 0 ≤ num (l.take 1) ∧ num (l.take 1) ≤ 255 := by
  have h := num_bd (l.take 1)
  have hl : (l.take 1).length ≤ 1 := List.length_take_le _ _
  have h2 : (256 : Int) ^ (l.take 1).length ≤ 256 ^ 1 := pow256 (by omega)
  have h3 : (256 : Int) ^ 1 = 256 := by decide
  omega
theorem num_take4 (l : List UInt8) : 0 ≤ num (l.take 4) ∧ num (l.take 4) ≤ 4294967295 := by
  have h := num_bd (l.take 4)
  have hl : (l.take 4).length ≤ 4 := List.length_take_le _ _
  have h2 : (256 : Int) ^ (l.take 4).length ≤ 256 ^ 4 := pow256 (by omega)
  have h3 : (256 : Int) ^ 4 = 4294967296 := by decide
  omega

/-- one byte more, from behind -/
theorem num_step (m : List UInt8) (i : Nat) (h : i < m.length) : num (m.drop i) = (m[i].toNat : Int) + 256 * num (m.drop (i + 1)) := by
  rw [List.drop_eq_getElem_cons h, num]
theorem num_small (m : List UInt8) (i : Nat) (h : m.length ≤ i + 7) : 0 ≤ num (m.drop i) ∧ num (m.drop i) ≤ 72057594037927935 := by
  have hb := num_bd (m.drop i)
  have hl : (m.drop i).length ≤ 7 := by rw [List.length_drop]; omega
  have h2 : (256 : Int) ^ (m.drop i).length ≤ 256 ^ 7 := pow256 hl
  have h3 : (256 : Int) ^ 7 = 72057594037927936 := by decide
  omega
end Rf
