/- numbers of digits: plain laws of sums, differences, products and quotients digit by digit -/
import Derived.Test.YtbfigpollacngaaDoorNm
namespace Go.Proofs.YtbfigpollacngaaDoor
namespace Wide

theorem valN_set (l : List Int) (i : Nat) (hi : i < l.length) (v : Int) : valN (l.set i v) = valN l + 256 ^ i * (v - l[i]) := by
  induction l generalizing i with
  | nil => cases hi
  | cons c l ih =>
    cases i with
    | zero => simp only [List.set_cons_zero, valN, List.getElem_cons_zero, Int.pow_zero, Int.one_mul]; omega
    | succ i =>
      simp only [List.set_cons_succ, valN, List.getElem_cons_succ]
      rw [ih i (by simpa using hi), Int.pow_succ, Int.mul_add, Int.mul_comm (256 ^ i) 256, Int.mul_assoc]
      omega
theorem valN_take (l : List Int) (i : Nat) (hi : i < l.length) : valN (l.take (i + 1)) = valN (l.take i) + 256 ^ i * l[i] := by
  rw [List.take_succ_eq_append_getElem hi, valN_append, List.length_take, Nat.min_eq_left (by omega)]
  simp [valN]
theorem valN_take_set (l : List Int) (i : Nat) (hi : i < l.length) (v : Int) : valN ((l.set i v).take (i + 1)) = valN (l.take i) + 256 ^ i * v := by
  rw [valN_take _ i (by simpa using hi), List.getElem_set_self, List.take_set_of_le (Nat.le_refl i)]
theorem pow_pos256 (i : Nat) : (1 : Int) ≤ 256 ^ i := by
  induction i with
  | zero => decide
  | succ i ih => rw [Int.pow_succ]; omega
/-- a difference's step -/
theorem minus_step (o d e : List Int) (j : Nat) (hj : j < o.length) (h1 : j < d.length) (h2 : j < e.length) (b b' v : Int) (hv : v = d[j] - e[j] - b + 256 * b')
    (h : valN (o.take j) - 256 ^ j * b = valN (d.take j) - valN (e.take j)) : valN ((o.set j v).take (j + 1)) - 256 ^ (j + 1) * b' = valN (d.take (j + 1)) - valN (e.take (j + 1)) := by
  rw [valN_take_set o j hj, valN_take d j h1, valN_take e j h2, Int.pow_succ, hv]
  generalize (256 : Int) ^ j = p at *
  have e1 : p * (d[j] - e[j] - b + 256 * b') = p * d[j] - p * e[j] - p * b + p * 256 * b' := by rw [Int.mul_add, Int.mul_sub, Int.mul_sub, Int.mul_assoc]
  omega
/-- a sum's step -/
theorem plus_step (o d e : List Int) (j : Nat) (hj : j < o.length) (h1 : j < d.length) (h2 : j < e.length) (c c' v : Int) (hv : v + 256 * c' = d[j] + e[j] + c)
    (h : valN (o.take j) + 256 ^ j * c = valN (d.take j) + valN (e.take j)) : valN ((o.set j v).take (j + 1)) + 256 ^ (j + 1) * c' = valN (d.take (j + 1)) + valN (e.take (j + 1)) := by
  rw [valN_take_set o j hj, valN_take d j h1, valN_take e j h2, Int.pow_succ]
  generalize (256 : Int) ^ j = p at *
  have e1 : p * v + p * 256 * c' = p * d[j] + p * e[j] + p * c := by rw [Int.mul_assoc, ← Int.mul_add, hv, Int.mul_add, Int.mul_add]
  omega
theorem take_whole {l : List Int} {n : Nat} (h : l.length = n) : l.take n = l := List.take_of_length_le (by omega)
/-- the end of a difference -/
theorem minus_end (o d e : List Int) (ho : o.length = 40) (hd : d.length = 40) (he : e.length = 40) (b : Int) (hb : b = 0 ∨ b = 1) (hoD : Dig o) (hle : valN e ≤ valN d)
    (h : valN (o.take 40) - 256 ^ 40 * b = valN (d.take 40) - valN (e.take 40)) : o = digN 40 (valN d - valN e) := by
  rw [take_whole ho, take_whole hd, take_whole he] at h
  have hbd := valN_bd hoD
  rw [ho] at hbd
  have : b = 0 := by
    rcases hb with rfl | rfl
    · rfl
    · omega
  subst this
  rw [Int.mul_zero, Int.sub_zero] at h
  have := dig_of_val o hoD
  rw [ho, h] at this
  exact this
/-- the end of a sum -/
theorem plus_end (o d e : List Int) (ho : o.length = 40) (hd : d.length = 40) (he : e.length = 40) (c : Int) (hc : c = 0 ∨ c = 1) (hoD : Dig o) (hlt : valN d + valN e < 256 ^ 40)
    (h : valN (o.take 40) + 256 ^ 40 * c = valN (d.take 40) + valN (e.take 40)) : o = digN 40 (valN d + valN e) := by
  rw [take_whole ho, take_whole hd, take_whole he] at h
  have hbd := valN_bd hoD
  rw [ho] at hbd
  have : c = 0 := by
    rcases hc with rfl | rfl
    · rfl
    · omega
  subst this
  rw [Int.mul_zero, Int.add_zero] at h
  have := dig_of_val o hoD
  rw [ho, h] at this
  exact this
/-- one more digit of a product -/
theorem times_step (o : List Int) (p : Nat) (hp : p < o.length) (c x T : Int) (h : valN o + 256 ^ p * c + 256 ^ p * x = T) : valN (o.set p ((o[p] + c + x) % 256)) + 256 ^ (p + 1) * ((o[p] + c + x) / 256) = T := by
  rw [valN_set o p hp, Int.pow_succ]
  have e : (o[p] + c + x) % 256 + 256 * ((o[p] + c + x) / 256) = o[p] + c + x := by omega
  generalize (o[p] + c + x) % 256 = r at *
  generalize (o[p] + c + x) / 256 = q at *
  generalize (256 : Int) ^ p = P at *
  have e1 : P * (r - o[p]) + P * 256 * q = P * c + P * x := by
    rw [Int.mul_assoc, ← Int.mul_add, ← Int.mul_add]
    congr 1; omega
  omega
end Wide
end Go.Proofs.YtbfigpollacngaaDoor
