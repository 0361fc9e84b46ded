/- numbers of 40 digits in base 256: plain laws -/
import Derived.Test.YtbfigpollacngaaDoorWv
namespace Go.Proofs.YtbfigpollacngaaDoor
namespace Wide

/-- the number of digits, the lowest first -/
def valN : List Int → Int
  | [] => 0
  | c :: l => c + 256 * valN l
def Dig (l : List Int) : Prop := ∀ c ∈ l, 0 ≤ c ∧ c ≤ 255
theorem valN_bd {l : List Int} (h : Dig l) : 0 ≤ valN l ∧ valN l < 256 ^ l.length := by
  induction l with
  | nil => exact ⟨Int.le_refl 0, by decide⟩
  | cons c l ih =>
    have h1 := h c (List.mem_cons_self ..)
    have h2 := ih (fun d hd => h d (List.mem_cons_of_mem _ hd))
    rw [valN, List.length_cons, Int.pow_succ]
    omega
theorem valN_append (l m : List Int) : valN (l ++ m) = valN l + 256 ^ l.length * valN m := by
  induction l with
  | nil => simp [valN]
  | cons c l ih =>
    rw [List.cons_append, valN, valN, ih, List.length_cons, Int.pow_succ, Int.mul_add, ← Int.mul_assoc, Int.mul_comm 256 (256 ^ l.length)]
    omega
theorem Dig.append {l m : List Int} (h : Dig l) (k : Dig m) : Dig (l ++ m) := fun c hc => (List.mem_append.1 hc).elim (h c) (k c)
theorem Dig.drop {l : List Int} (h : Dig l) (n : Nat) : Dig (l.drop n) := fun c hc => h c (List.mem_of_mem_drop hc)
theorem Dig.take {l : List Int} (h : Dig l) (n : Nat) : Dig (l.take n) := fun c hc => h c (List.mem_of_mem_take hc)
theorem Dig.get {l : List Int} (h : Dig l) (i : Nat) (hi : i < l.length) : 0 ≤ l[i] ∧ l[i] ≤ 255 := h _ (List.getElem_mem hi)
theorem Dig.set {l : List Int} (h : Dig l) (i : Nat) {v : Int} (hv : 0 ≤ v ∧ v ≤ 255) : Dig (l.set i v) := fun c hc => by
  rcases List.mem_or_eq_of_mem_set hc with h1 | h1
  · exact h c h1
  · rw [h1]; exact hv
/-- the digits below i, and those from i on -/
theorem valN_cut (l : List Int) (i : Nat) (hi : i ≤ l.length) : valN l = valN (l.take i) + 256 ^ i * valN (l.drop i) := by
  have := valN_append (l.take i) (l.drop i)
  rw [List.take_append_drop, List.length_take, Nat.min_eq_left hi] at this
  exact this
theorem valN_drop (l : List Int) (i : Nat) (hi : i < l.length) : valN (l.drop i) = l[i] + 256 * valN (l.drop (i + 1)) := by
  rw [List.drop_eq_getElem_cons hi, valN]
/-- who has the greater digit, all above being alike, is greater -/
theorem valN_more (l m : List Int) (hl : Dig l) (hm : Dig m) (i : Nat) (h1 : i < l.length) (h2 : i < m.length) (hd : l.drop (i + 1) = m.drop (i + 1)) (h : m[i] < l[i]) : valN m < valN l := by
  rw [valN_cut l i (by omega), valN_cut m i (by omega), valN_drop l i h1, valN_drop m i h2, hd]
  have b1 := valN_bd (hl.take i)
  have b2 := valN_bd (hm.take i)
  rw [List.length_take, Nat.min_eq_left (by omega)] at b1 b2
  generalize valN (m.drop (i + 1)) = q
  generalize valN (l.take i) = a at *
  generalize valN (m.take i) = b at *
  generalize (256 : Int) ^ i = p at *
  have e : p * (l[i] + 256 * q) - p * (m[i] + 256 * q) = p * (l[i] - m[i]) := by rw [← Int.mul_sub]; congr 1; omega
  have : p * 1 ≤ p * (l[i] - m[i]) := Int.mul_le_mul_of_nonneg_left (by omega) (by omega)
  omega
/-- the digits of a number, n of them -/
def digN : Nat → Int → List Int
  | 0, _ => []
  | n + 1, v => v % 256 :: digN n (v / 256)
theorem digN_length (n : Nat) (v : Int) : (digN n v).length = n := by
  induction n generalizing v with
  | zero => rfl
  | succ n ih => simp [digN, ih]
theorem digN_dig (n : Nat) (v : Int) : Dig (digN n v) := by
  induction n generalizing v with
  | zero => intro c hc; cases hc
  | succ n ih =>
    intro c hc
    rw [digN] at hc
    rcases List.mem_cons.1 hc with rfl | h
    · omega
    · exact ih _ c h
theorem digN_val (n : Nat) (v : Int) (h0 : 0 ≤ v) (h1 : v < 256 ^ n) : valN (digN n v) = v := by
  induction n generalizing v with
  | zero => simp at h1; simp [digN, valN]; omega
  | succ n ih =>
    rw [Int.pow_succ] at h1
    rw [digN, valN, ih (v / 256) (by omega) (by omega)]
    omega
theorem digN_get (n : Nat) (v : Int) (i : Nat) (hi : i < n) (h : i < (digN n v).length) : (digN n v)[i] = v / 256 ^ i % 256 := by
  induction n generalizing v i with
  | zero => omega
  | succ n ih =>
    cases i with
    | zero => simp [digN]
    | succ i =>
      simp only [digN, List.getElem_cons_succ]
      rw [ih (v / 256) i (by omega) (by rw [digN_length]; omega), Int.pow_succ, Int.mul_comm, Int.ediv_ediv_of_nonneg (by decide)]
/-- the digits are told by the number -/
theorem dig_of_val (l : List Int) (h : Dig l) : l = digN l.length (valN l) := by
  induction l with
  | nil => rfl
  | cons c l ih =>
    have h1 := h c (List.mem_cons_self ..)
    have h2 := ih (fun d hd => h d (List.mem_cons_of_mem _ hd))
    rw [List.length_cons, digN, valN]
    congr 1
    · omega
    · rw [show (c + 256 * valN l) / 256 = valN l by omega]; exact h2
theorem dig_inj {l m : List Int} (hl : Dig l) (hm : Dig m) (hlen : l.length = m.length) (hv : valN l = valN m) : l = m := by
  rw [dig_of_val l hl, dig_of_val m hm, hlen, hv]
end Wide
end Go.Proofs.YtbfigpollacngaaDoor
