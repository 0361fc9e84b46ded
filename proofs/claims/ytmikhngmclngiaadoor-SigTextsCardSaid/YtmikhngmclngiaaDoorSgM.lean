/- what a set's text is taken for: plain laws -/
import Derived.Test.YtmikhngmclngiaaDoorSgA
namespace Go.Proofs.YtmikhngmclngiaaDoor
open Go.RowKit
open Rf
open Wide
namespace Sg

/-- the pieces between the plusses, byte by byte -/
def segs : List UInt8 → List (List UInt8)
  | [] => [[]]
  | c :: r => if c = 43 then [] :: segs r else match segs r with
    | [] => [[c]]
    | x :: t => (c :: x) :: t
theorem segs_ne (l : List UInt8) : segs l ≠ [] := by
  cases l with
  | nil => simp [segs]
  | cons c r =>
    unfold segs
    split
    · simp
    · split <;> simp
theorem segs_plus (r : List UInt8) : segs (43 :: r) = [] :: segs r := by rw [segs, if_pos rfl]
theorem segs_cons (c : UInt8) (r : List UInt8) (h : c ≠ 43) : ∃ x t, segs r = x :: t ∧ segs (c :: r) = (c :: x) :: t := by
  cases hs : segs r with
  | nil => exact absurd hs (segs_ne r)
  | cons x t => exact ⟨x, t, rfl, by rw [segs, if_neg h, hs]⟩
theorem splitK_segs : ∀ (k : Nat) (l : List UInt8), Lib.count l [43] = k → Lib.splitK [43] 0 k l = segs l := by
  intro k l
  induction l generalizing k with
  | nil =>
    intro h
    rw [Lib.count_one] at h
    obtain rfl : k = 0 := by simpa using h.symm
    rfl
  | cons c r ih =>
    intro h
    by_cases hc : c = 43
    · subst hc
      rw [Lib.count_cons_eq] at h
      obtain ⟨j, rfl⟩ : ∃ j, k = j + 1 := ⟨k - 1, by omega⟩
      have hix : Lib.index (43 :: r) [43] = 0 := by rw [Lib.index]; simp [List.isPrefixOf]
      rw [segs_plus, Lib.splitK, hix, if_neg (by decide), ← ih j (by omega)]
      rfl
    · rw [Lib.count_cons_ne c 43 r hc] at h
      have ih := ih k h
      obtain ⟨x, t, h1, h2⟩ := segs_cons c r hc
      rw [h2]
      rw [h1] at ih
      cases k with
      | zero =>
        rw [Lib.splitK] at ih ⊢
        cases ih
        rfl
      | succ k =>
        have hp : ([43] : List UInt8).isPrefixOf (c :: r) = false := by simp [List.isPrefixOf, Ne.symm hc]
        have hix : Lib.index (c :: r) [43] = if Lib.index r [43] == -1 then -1 else Lib.index r [43] + 1 := by rw [Lib.index, hp]; simp
        rw [Lib.splitK] at ih ⊢
        by_cases hm : Lib.index r [43] = -1
        · rw [if_pos (by rw [hm]; rfl)] at ih
          rw [hix, if_pos (by rw [hm]; rfl)]
          cases ih
          rfl
        · have hge := Lib.index_ge r [43]
          obtain ⟨j, hj⟩ : ∃ j : Nat, Lib.index r [43] = j := ⟨(Lib.index r [43]).toNat, by omega⟩
          rw [if_neg (fun e => hm (beq_iff_eq.1 e)), hj] at ih
          rw [hix, if_neg (fun e => hm (beq_iff_eq.1 e)), hj, if_neg (fun e => by have := beq_iff_eq.1 e; omega)]
          have e1 : ((j : Int) + 1).toNat = j + 1 := by omega
          rw [e1]
          simp only [Int.toNat_natCast, Nat.add_zero, List.length_cons, List.length_nil] at ih ⊢
          rw [List.take_succ_cons, List.drop_succ_cons]
          have ih1 := (List.cons.inj ih).1
          have ih2 := (List.cons.inj ih).2
          rw [ih1, ih2]
theorem count_byts (s : ByteArray) : Lib.countB s ⟨#[43]⟩ = Lib.count (byts s) [43] := rfl
theorem pieces_segs (s : ByteArray) : (pieces s).map (·.data.toList) = segs (byts s) := by
  unfold pieces
  rw [Lib.splitB_data, count_byts]
  exact splitK_segs _ _ rfl
theorem out_segs (s : ByteArray) : outOf s = setOf ((segs (byts s)).map atoiV) := by
  unfold outOf
  rw [← pieces_segs, List.map_map]
  rfl
theorem segs_one : ∀ (x : List UInt8), (43 : UInt8) ∉ x → segs x = [x] := by
  intro x
  induction x with
  | nil => intro _; rfl
  | cons c r ih =>
    intro h
    simp only [List.mem_cons, not_or] at h
    obtain ⟨y, t, h1, h2⟩ := segs_cons c r (fun e => h.1 e.symm)
    rw [h2]
    rw [ih h.2] at h1
    cases h1
    rfl
theorem segs_app (x l : List UInt8) (h : (43 : UInt8) ∉ x) : segs (x ++ 43 :: l) = x :: segs l := by
  induction x with
  | nil => exact segs_plus l
  | cons c r ih =>
    simp only [List.mem_cons, not_or] at h
    obtain ⟨y, t, h1, h2⟩ := segs_cons c (r ++ 43 :: l) (fun e => h.1 e.symm)
    rw [List.cons_append, h2]
    rw [ih h.2] at h1
    cases h1
    rfl
/-- pieces with a plus behind each -/
def behind (xs : List (List UInt8)) : List UInt8 := (xs.map (· ++ [43])).flatten
theorem behind_nil : behind [] = [] := rfl
theorem behind_cons (x : List UInt8) (xs : List (List UInt8)) : behind (x :: xs) = x ++ 43 :: behind xs := by simp [behind]
theorem behind_snoc (xs : List (List UInt8)) (x : List UInt8) : behind (xs ++ [x]) = behind xs ++ x ++ [43] := by simp [behind]
theorem join_behind (x : List UInt8) (xs : List (List UInt8)) : Lib.join (x :: xs) [43] ++ [43] = behind (x :: xs) := by
  rw [Lib.join_cons, behind_cons]
  unfold Lib.joinTail
  induction xs generalizing x with
  | nil => simp [behind_nil]
  | cons y r ih =>
    have := ih y
    rw [List.append_assoc] at this ⊢
    rw [List.map_cons, List.flatten_cons, List.append_assoc, List.append_assoc, behind_cons, ← List.append_cancel_left this]
    simp
theorem segs_behind (xs : List (List UInt8)) (l : List UInt8) (h : ∀ x ∈ xs, (43 : UInt8) ∉ x) : segs (behind xs ++ l) = xs ++ segs l := by
  induction xs with
  | nil => rfl
  | cons x r ih =>
    rw [behind_cons, List.append_assoc, List.cons_append, segs_app x _ (h x (by simp)), ih (fun y hy => h y (by simp [hy])), List.cons_append]
theorem segs_join (x : List UInt8) (xs : List (List UInt8)) (h : ∀ y ∈ x :: xs, (43 : UInt8) ∉ y) : segs (Lib.join (x :: xs) [43]) = x :: xs := by
  have h1 : segs (Lib.join (x :: xs) [43] ++ 43 :: []) = x :: xs ++ [[]] := by
    rw [join_behind, ← List.append_nil (behind (x :: xs)), segs_behind _ _ h]
    rfl
  suffices hh : ∀ l : List UInt8, segs (l ++ [43]) = segs l ++ [[]] by
    rw [hh] at h1
    exact List.append_cancel_right h1
  intro l
  induction l with
  | nil => rfl
  | cons c r ih =>
    by_cases hc : c = 43
    · subst hc
      rw [List.cons_append, segs_plus, segs_plus, ih, List.cons_append]
    · obtain ⟨y, t, h1, h2⟩ := segs_cons c r hc
      obtain ⟨y', t', h3, h4⟩ := segs_cons c (r ++ [43]) hc
      rw [List.cons_append, h4, h2]
      rw [ih, h1, List.cons_append] at h3
      cases h3
      rfl
/-- an id's text -/
def dg2 (n : Nat) : List UInt8 := if n < 10 then [UInt8.ofNat (48 + n)] else [UInt8.ofNat (48 + n / 10), UInt8.ofNat (48 + n % 10)]
theorem digs_dg2 (n : Nat) (h : n < 100) : digs n = dg2 n := by
  unfold dg2
  rw [digs]
  by_cases h1 : n < 10
  · rw [if_pos h1, if_pos h1]
  · rw [if_neg h1, if_neg h1, digs, if_pos (by omega)]
    rfl
theorem dg2_fine : ∀ n < 25, atoiV (dg2 n) = (n : Int) ∧ (43 : UInt8) ∉ dg2 n ∧ (1 ≤ n → (dg2 n).head? ≠ some 48) := by decide +kernel
theorem dgt_dg2 {i : Int} (h1 : 1 ≤ i) (h2 : i ≤ 24) : dgt i = dg2 i.toNat := digs_dg2 _ (by omega)
theorem dgt_atoi {i : Int} (h1 : 1 ≤ i) (h2 : i ≤ 24) : atoiV (dgt i) = i := by
  rw [dgt_dg2 h1 h2, (dg2_fine i.toNat (by omega)).1]
  omega
theorem dgt_plus {i : Int} (h1 : 1 ≤ i) (h2 : i ≤ 24) : (43 : UInt8) ∉ dgt i := by
  rw [dgt_dg2 h1 h2]
  exact (dg2_fine i.toNat (by omega)).2.1
theorem ids_dgts (s : Nat) : ∀ y ∈ (ids s).map dgt, (43 : UInt8) ∉ y := by
  intro y hy
  obtain ⟨i, hi, rfl⟩ := List.mem_map.1 hy
  exact dgt_plus (ids_id hi).1 (ids_id hi).2
theorem map_atoi (l : List Int) (h : ∀ i ∈ l, 1 ≤ i ∧ i ≤ 24) : (l.map dgt).map atoiV = l := by
  rw [List.map_map]
  conv => rhs; rw [← List.map_id l]
  exact List.map_congr_left fun i hi => dgt_atoi (h i hi).1 (h i hi).2
theorem text_nil {s : Nat} (h : ids s = []) : textS s = [45] := by unfold textS; rw [h]; rfl
theorem text_join {s : Nat} (h : ids s ≠ []) : textS s = Lib.join ((ids s).map dgt) [43] := by
  unfold textS
  rw [if_neg (fun e => h (List.eq_nil_of_length_eq_zero e))]
theorem segs_text {s : Nat} (h : ids s ≠ []) : segs (textS s) = (ids s).map dgt := by
  rw [text_join h]
  have hd := ids_dgts s
  cases hm : (ids s).map dgt with
  | nil => exact absurd (List.map_eq_nil_iff.1 hm) h
  | cons x xs =>
    rw [hm] at hd
    exact segs_join x xs hd
theorem out_text (s : Nat) : setOf ((segs (textS s)).map atoiV) = setOf (ids s) := by
  by_cases h : ids s = []
  · rw [text_nil h, h]
    decide +kernel
  · rw [segs_text h, map_atoi _ (fun i hi => ids_id hi)]
theorem bits_ext {a b : Nat} (h : ∀ j, a.testBit j = b.testBit j) : a = b := Nat.eq_of_testBit_eq h
theorem set_ids_bit (s : Nat) (j : Nat) : (setOf (ids s)).testBit j = (decide (1 ≤ j ∧ j ≤ 24) && s.testBit j) := by
  rw [set_bit, Bool.eq_iff_iff, decide_eq_true_iff, mem_ids]
  unfold has isId
  simp
  omega
theorem set_ids_is {s : Nat} (hs : s < 4294967296) (h : isF s = true) : setOf (ids s) = s := by
  refine bits_ext fun j => ?_
  rw [set_ids_bit]
  cases hj : s.testBit j
  · simp
  · rw [decide_eq_true ((is_iff hs).1 h j hj)]
    rfl
/-- texts are equal just if each is within the other -/
theorem text_within {s t : Nat} (hs : s < 4294967296) (ht : t < 4294967296) : (textS s = textS t) ↔ (withinF s t = true ∧ withinF t s = true) := by
  constructor
  · intro h
    have e : setOf (ids s) = setOf (ids t) := by rw [← out_text, ← out_text, h]
    have hb : ∀ j, 1 ≤ j → j ≤ 24 → s.testBit j = t.testBit j := by
      intro j h1 h2
      have := congrArg (fun x => x.testBit j) e
      simp only [set_ids_bit, decide_eq_true (And.intro h1 h2), Bool.true_and] at this
      exact this
    exact ⟨(within_iff ht).2 fun j h1 h2 h3 => by rw [← hb j h1 h2]; exact h3, (within_iff hs).2 fun j h1 h2 h3 => by rw [hb j h1 h2]; exact h3⟩
  · rintro ⟨h1, h2⟩
    have hb : ∀ j, 1 ≤ j → j < 1 + 24 → s.testBit j = t.testBit j := by
      intro j h3 h4
      have a := (within_iff ht).1 h1 j h3 (by omega)
      have b := (within_iff hs).1 h2 j h3 (by omega)
      rw [Bool.eq_iff_iff]
      exact ⟨a, b⟩
    have e : ids s = ids t := by
      unfold ids
      suffices h : ∀ n k, (∀ j, k ≤ j → j < k + n → s.testBit j = t.testBit j) → idsFrom s k n = idsFrom t k n from h 24 1 hb
      intro n
      induction n with
      | zero => intro k _; rfl
      | succ n ih =>
        intro k h
        rw [idsFrom, idsFrom, ih (k + 1) (fun j h3 h4 => h j (by omega) (by omega)), h k (Nat.le_refl k) (by omega)]
    unfold textS
    rw [e]
end Sg
end Go.Proofs.YtmikhngmclngiaaDoor
