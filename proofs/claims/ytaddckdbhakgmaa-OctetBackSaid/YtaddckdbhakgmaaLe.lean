/- Plain laws on numbers as bytes, the lowest first. -/
namespace Rf

/-- n without its k lowest bytes -/
def sh : Nat → Int → Int
  | 0, n => n
  | k + 1, n => sh k n / 256
/-- the k lowest bytes of n -/
def le : Nat → Int → List UInt8
  | 0, _ => []
  | k + 1, n => le k n ++ [UInt8.ofNat (sh k n % 256).toNat]

theorem sh_bd (k : Nat) (n m : Int) (h0 : 0 ≤ n) (h1 : n ≤ m) : 0 ≤ sh k n ∧ sh k n ≤ m := by
  induction k with
  | zero => exact ⟨h0, h1⟩
  | succ k ih => unfold sh; omega
theorem le_length (k : Nat) (n : Int) : (le k n).length = k := by
  induction k with
  | zero => rfl
  | succ k ih => simp [le, ih]
theorem sh_add (j k : Nat) (n : Int) : sh (j + k) n = sh k (sh j n) := by
  induction k with
  | zero => rfl
  | succ k ih => rw [← Nat.add_assoc, sh, ih]; rfl
theorem sh1 (n : Int) : sh 1 n = n / 256 := rfl
theorem sh2 (n : Int) : sh 2 n = n / 65536 := by simp only [sh]; omega
theorem sh4 (n : Int) : sh 4 n = n / 4294967296 := by simp only [sh]; omega
theorem sh8 (n : Int) : sh 8 n = n / 18446744073709551616 := by simp only [sh]; omega

/-- may n be written in so many bytes? -/
def isW (k : Int) : Bool := k == 1 || k == 2 || k == 4 || k == 8
def okNum (k n : Int) : Bool := isW k && (sh k.toNat n == 0)

theorem byte_back (x : Int) (h0 : 0 ≤ x) (h1 : x ≤ 255) : ((UInt8.ofNat x.toNat).toNat : Int) = x := by
  rw [UInt8.toNat_ofNat']; omega

/-- the number of bytes, the lowest first -/
def num : List UInt8 → Int
  | [] => 0
  | c :: l => (c.toNat : Int) + 256 * num l

theorem num_append (l m : List UInt8) : num (l ++ m) = num l + 256 ^ l.length * num m := by
  induction l with
  | nil => simp [num]
  | cons c l ih =>
    rw [List.cons_append, num, num, ih, List.length_cons, Int.pow_succ, Int.mul_add, ← Int.mul_assoc, Int.mul_comm 256 (256 ^ l.length)]
    omega
theorem num_bd (l : List UInt8) : 0 ≤ num l ∧ num l < 256 ^ l.length := by
  induction l with
  | nil => simp [num]
  | cons c l ih =>
    have := c.toNat_lt
    rw [num, List.length_cons, Int.pow_succ]
    omega
theorem num_le (k : Nat) (n : Int) (h : 0 ≤ n) : num (le k n) + 256 ^ k * sh k n = n := by
  induction k with
  | zero => simp [num, le, sh]
  | succ k ih =>
    have hb := sh_bd k n n h (Int.le_refl n)
    rw [le, num_append, le_length, num, num, byte_back _ (by omega) (by omega), sh, Int.pow_succ]
    have e : sh k n = sh k n % 256 + 256 * (sh k n / 256) := by omega
    have e2 : (256 : Int) ^ k * 256 * (sh k n / 256) = 256 ^ k * (256 * (sh k n / 256)) := Int.mul_assoc _ _ _
    rw [e2, Int.mul_zero, Int.add_zero, Int.add_assoc, ← Int.mul_add, ← e]
    exact ih
theorem le_num (l : List UInt8) : le l.length (num l) = l ∧ sh l.length (num l) = 0 := by
  have key : ∀ (l m : List UInt8), le l.length (num (l ++ m)) = l ∧ sh l.length (num (l ++ m)) = num m := by
    intro l
    induction l with
    | nil => intro m; exact ⟨rfl, rfl⟩
    | cons c l ih =>
      intro m
      have h2 : ∀ k n, le (k + 1) n = UInt8.ofNat (n % 256).toNat :: le k (n / 256) := by
        intro k
        induction k with
        | zero => intro n; rfl
        | succ k ihk =>
          intro n
          rw [le, ihk]
          show _ = UInt8.ofNat (n % 256).toNat :: (le k (n / 256) ++ [UInt8.ofNat (sh k (n / 256) % 256).toNat])
          have : sh (k + 1) n = sh k (n / 256) := by rw [Nat.add_comm, sh_add]; rfl
          rw [this]; rfl
      have hc := c.toNat_lt
      have e1 : (num (c :: l ++ m)) % 256 = (c.toNat : Int) := by rw [List.cons_append, num]; omega
      have e2 : (num (c :: l ++ m)) / 256 = num (l ++ m) := by rw [List.cons_append, num]; omega
      obtain ⟨i1, i2⟩ := ih m
      refine ⟨?_, ?_⟩
      · rw [List.length_cons, h2, e1, e2, i1]
        simp
      · rw [List.length_cons, Nat.add_comm, sh_add, sh1, e2, i2]
  have := key l []
  simpa [num] using this
end Rf
