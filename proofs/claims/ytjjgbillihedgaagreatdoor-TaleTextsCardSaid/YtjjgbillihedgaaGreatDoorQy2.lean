/- parts of the proof, merged: Sg0, SgP, SgW, SgO, SgL, SgI, SgB, SgR, SgS, SgT, Wv, WvD, SgD -/
import Derived.Test.YtjjgbillihedgaaGreatDoorRows
import Derived.Handy
import Derived.WalkSpells
import Derived.WalkLawsBesides
import Derived.BigQuiet
import Derived.Deep.QuietTactic
import Derived.Deep.Cut
import Derived.IntWalk
import Derived.Laws.ShiftsVarLaws
import Derived.Deep.Upon
import Derived.Deep.WholeRow
import Derived.Test.YtjjgbillihedgaaGreatDoorQy1
set_option maxHeartbeats 4000000
set_option maxRecDepth 100000
namespace Go.Proofs.YtjjgbillihedgaaGreatDoor
open Go.RowKit
open Rf
theorem size_alloc (w : World) (o : Obj) : (w.alloc o).heap.size = w.heap.size + 1 := by simp
theorem below1 (w : World) (o : Obj) : Below w.heap.size w (w.alloc o) := (Below.refl _ _).alloc (Nat.le_refl _) _
theorem below_up {a b c : World} {B C : Nat} (h : Below B a b) (hC : B ≤ C) (k : Below C b c) : Below B a c := h.trans (k.mono hC)
theorem below_drewN {B k : Nat} {a w : World} (h : Below B a w) : Below B a (w.drewN k) := h.trans ⟨rfl, rfl, rfl, Nat.le_refl _, fun _ _ => rfl⟩
theorem below_drewed {B : Nat} {a w : World} (h : Below B a w) : Below B a w.drew := h.trans ⟨rfl, rfl, rfl, Nat.le_refl _, fun _ _ => rfl⟩
/-- a contract: what is returned; all that lay is as it was -/
def Ret (f : FuncId) (args : Array Value) (v : Value) : Prop := ∀ w : World, Calls Tryz.prog f args w fun e w' => e = .returned v ∧ Below w.heap.size w w'
theorem Ret.on {f : FuncId} {args : Array Value} {v : Value} (h : Ret f args v) (w : World) : Calls Tryz.prog f args w fun e w' => e = .returned v ∧ Below w.heap.size w w' := h w
/-- a contract: what is returned; the world is as it was -/
def Still (f : FuncId) (args : Array Value) (v : Value) : Prop := ∀ w : World, Calls Tryz.prog f args w fun e w' => e = .returned v ∧ w = w'
theorem Still.on {f : FuncId} {args : Array Value} {v : Value} (h : Still f args v) (w : World) : Calls Tryz.prog f args w fun e w' => e = .returned v ∧ w = w' := h w
/-- a block of the call's own -/
def IsC (w : World) (b : Nat) (T : TypeId) (cs : Array Value) : Prop := w.heap[b]? = some (.cells cs T (0, 0))
section
variable {w w' : World} {b : Nat} {T : TypeId} {cs : Array Value}
theorem IsC.lt (h : IsC w b T cs) : b < w.heap.size := lt_of_block h
theorem isC_of (hb : Below w.heap.size w w') (h : IsC w b T cs) : IsC w' b T cs := (hb.block b h.lt).trans h
theorem IsC.alloc (h : IsC w b T cs) (o : Obj) : IsC (w.alloc o) b T cs := isC_of ((Below.refl _ _).alloc (Nat.le_refl _) o) h
theorem IsC.new (w : World) (T : TypeId) (cs : Array Value) : IsC (w.alloc (.cells cs T)) w.heap.size T cs := heap_alloc_new w _
theorem IsC.set_other {c i : Nat} {v : Value} (h : IsC w b T cs) (hne : b ≠ c) : IsC (w.setCell ⟨c, i, none⟩ v) b T cs := by
 unfold IsC at *
 show (w.heap.modify c _)[b]? = _
 rw [Array.getElem?_modify, if_neg (fun hh => hne hh.symm)]
 exact h
theorem IsC.set (h : IsC w b T cs) (i : Nat) (v : Value) : IsC (w.setCell ⟨b, i, none⟩ v) b T (cs.setIfInBounds i v) := by
 unfold IsC at *
 show (w.heap.modify b _)[b]? = _
 rw [Array.getElem?_modify, if_pos rfl, h]
 rfl
theorem IsC.cell (h : IsC w b T cs) (i : Nat) : w.cell? ⟨b, i, none⟩ = cs[i]? := by unfold IsC at h; simp [World.cell?, h]
theorem IsC.f (h : IsC w b T cs) (i : Nat) : w.frozen? ⟨b, i, none⟩ = false := by unfold IsC at h; simp [World.frozen?, h]
theorem IsC.drewN {k : Nat} (h : IsC w b T cs) : IsC (w.drewN k) b T cs := h
theorem IsC.drew (h : IsC w b T cs) : IsC w.drew b T cs := h
end
theorem cells12 {w : World} {b : Nat} {T : TypeId} {v0 v1 v2 v3 v4 v5 v6 v7 v8 v9 v10 v11 : Value} (h : IsC w b T #[v0, v1, v2, v3, v4, v5, v6, v7, v8, v9, v10, v11]) : w.cell? ⟨b, 0, none⟩ = some v0 ∧ w.cell? ⟨b, 1, none⟩ = some v1 ∧ w.cell? ⟨b, 2, none⟩ = some v2 ∧ w.cell? ⟨b, 3, none⟩ = some v3 ∧ w.cell? ⟨b, 4, none⟩ = some v4 ∧ w.cell? ⟨b, 5, none⟩ = some v5 ∧ w.cell? ⟨b, 6, none⟩ = some v6 ∧ w.cell? ⟨b, 7, none⟩ = some v7 ∧ w.cell? ⟨b, 8, none⟩ = some v8 ∧ w.cell? ⟨b, 9, none⟩ = some v9 ∧ w.cell? ⟨b, 10, none⟩ = some v10 ∧ w.cell? ⟨b, 11, none⟩ = some v11 := ⟨h.cell 0, h.cell 1, h.cell 2, h.cell 3, h.cell 4, h.cell 5, h.cell 6, h.cell 7, h.cell 8, h.cell 9, h.cell 10, h.cell 11⟩
theorem fr12 {w : World} {b : Nat} {T : TypeId} {cs : Array Value} (h : IsC w b T cs) : w.frozen? ⟨b, 0, none⟩ = false ∧ w.frozen? ⟨b, 1, none⟩ = false ∧ w.frozen? ⟨b, 2, none⟩ = false ∧ w.frozen? ⟨b, 3, none⟩ = false ∧ w.frozen? ⟨b, 4, none⟩ = false ∧ w.frozen? ⟨b, 5, none⟩ = false ∧ w.frozen? ⟨b, 6, none⟩ = false ∧ w.frozen? ⟨b, 7, none⟩ = false ∧ w.frozen? ⟨b, 8, none⟩ = false ∧ w.frozen? ⟨b, 9, none⟩ = false ∧ w.frozen? ⟨b, 10, none⟩ = false ∧ w.frozen? ⟨b, 11, none⟩ = false := ⟨h.f 0, h.f 1, h.f 2, h.f 3, h.f 4, h.f 5, h.f 6, h.f 7, h.f 8, h.f 9, h.f 10, h.f 11⟩
end Go.Proofs.YtjjgbillihedgaaGreatDoor
namespace Go.Proofs.YtjjgbillihedgaaGreatDoor
open Go.RowKit
open Rf
namespace Sg
/-- all ids -/
def ALL : Nat := 33554430
def isId (i : Int) : Bool := decide (1 ≤ i) && decide (i ≤ 24)
def has (s : Nat) (i : Int) : Bool := isId i && s.testBit i.toNat
/-- the ids from k on, n of them -/
def idsFrom (s : Nat) : Nat → Nat → List Int
 | _, 0 => []
 | k, n + 1 => (if s.testBit k then [(k : Int)] else []) ++ idsFrom s (k + 1) n
def ids (s : Nat) : List Int := idsFrom s 1 24
theorem idsFrom_snoc (s : Nat) (k n : Nat) : idsFrom s k (n + 1) = idsFrom s k n ++ (if s.testBit (k + n) then [((k + n : Nat) : Int)] else []) := by
 induction n generalizing k with
 | zero => simp [idsFrom]
 | succ n ih =>
   rw [idsFrom, ih (k + 1), idsFrom, List.append_assoc, show k + 1 + n = k + (n + 1) by omega]
theorem mem_idsFrom (s : Nat) (k n : Nat) (i : Int) : i ∈ idsFrom s k n ↔ ∃ j : Nat, i = j ∧ k ≤ j ∧ j < k + n ∧ s.testBit j = true := by
 induction n generalizing k with
 | zero =>
   simp [idsFrom]
   omega
 | succ n ih =>
   rw [idsFrom, List.mem_append, ih (k + 1)]
   constructor
   ·rintro (h | ⟨j, h1, h2, h3, h4⟩)
    ·by_cases hb : s.testBit k = true
     ·rw [if_pos hb] at h
      exact ⟨k, by simpa using h, Nat.le_refl _, by omega, hb⟩
     ·rw [if_neg hb] at h
      cases h
    ·exact ⟨j, h1, by omega, by omega, h4⟩
   ·rintro ⟨j, h1, h2, h3, h4⟩
    by_cases hj : j = k
    ·subst hj
     exact .inl (by rw [if_pos h4]; simp [h1])
    ·exact .inr ⟨j, h1, by omega, by omega, h4⟩
theorem mem_ids (s : Nat) (i : Int) : i ∈ ids s ↔ has s i = true := by
 unfold ids has isId
 rw [mem_idsFrom]
 constructor
 ·rintro ⟨j, rfl, h1, h2, h3⟩
  simp [h3]
  omega
 ·intro h
  simp at h
  exact ⟨i.toNat, by omega, by omega, by omega, h.2⟩
theorem all_bit (j : Nat) : ALL.testBit j = (decide (1 ≤ j) && decide (j ≤ 24)) := by
 have h := Nat.testBit_two_pow_sub_succ (n := 25) (x := 1) (by decide) j
 rw [show (2 : Nat) ^ 25 - (1 + 1) = ALL by decide] at h
 rw [h]
 cases j with
 | zero => rfl
 | succ j =>
   have e : (1 : Nat).testBit (j + 1) = false := by rw [Nat.testBit_succ]; exact Nat.zero_testBit j
   rw [e]
   simp
   omega
theorem not_bit (t j : Nat) (ht : t < 4294967296) : (4294967295 - t).testBit j = (decide (j < 32) && !t.testBit j) := by
 have h := Nat.testBit_two_pow_sub_succ (n := 32) (x := t) (by omega) j
 rw [show (2 : Nat) ^ 32 - (t + 1) = 4294967295 - t by omega] at h
 exact h
theorem zero_bits {x : Nat} : x = 0 ↔ ∀ j, x.testBit j = false := ⟨fun h j => by rw [h]; exact Nat.zero_testBit j, fun h => Nat.eq_of_testBit_eq (fun j => by rw [h j, Nat.zero_testBit])⟩
theorem high_bit {s : Nat} (hs : s < 4294967296) (j : Nat) (hj : 32 ≤ j) : s.testBit j = false := Nat.testBit_lt_two_pow (Nat.lt_of_lt_of_le hs (by have := Nat.pow_le_pow_right (n := 2) (by decide) hj; simpa using this))
/-- with an id, without it -/
def withF (s : Nat) (i : Int) : Nat := if isId i = true then s ||| 2 ^ i.toNat else s
def isF (s : Nat) : Bool := decide (s &&& (4294967295 - ALL) = 0)
theorem pow_lt {i : Int} (h : isId i = true) : 2 ^ i.toNat < 4294967296 := by
 unfold isId at h
 simp at h
 have := Nat.pow_lt_pow_right (a := 2) (by decide) (show i.toNat < 32 by omega)
 simpa using this
theorem with_bit (s : Nat) (i : Int) (j : Nat) : (withF s i).testBit j = (s.testBit j || (isId i && decide (i = (j : Int)))) := by
 unfold withF
 by_cases h : isId i = true
 ·rw [if_pos h, h, Nat.testBit_or, Nat.testBit_two_pow]
  unfold isId at h
  simp at h
  congr 1
  rw [Bool.true_and]
  congr 1
  exact propext ⟨fun hh => by omega, fun hh => by omega⟩
 ·rw [if_neg h]
  have : isId i = false := by simpa using h
  rw [this]
  simp
theorem with_lt {s : Nat} (hs : s < 4294967296) (i : Int) : withF s i < 4294967296 := by
 unfold withF
 split
 ·exact Nat.or_lt_two_pow (n := 32) hs (pow_lt ‹_›)
 ·exact hs
theorem is_iff {s : Nat} (hs : s < 4294967296) : isF s = true ↔ ∀ j, s.testBit j = true → 1 ≤ j ∧ j ≤ 24 := by
 unfold isF
 rw [decide_eq_true_iff, zero_bits]
 constructor
 ·intro h j hj
  have h2 := h j
  rw [Nat.testBit_and, hj, not_bit _ _ (by decide), all_bit] at h2
  by_cases h32 : j < 32
  ·simp [h32] at h2
   exact h2
  ·rw [high_bit hs j (by omega)] at hj
   cases hj
 ·intro h j
  rw [Nat.testBit_and, not_bit _ _ (by decide), all_bit]
  cases hj : s.testBit j
  ·rfl
  ·have := h j hj
   simp [this]
end Sg
open Sg
theorem isId_c (i : Int) : Still 114 #[.int .i64 i] (.bool (Sg.isId i)) := fun w => by
 unfold Sg.isId
 by_cases h1 : 1 ≤ i
 ·by_cases h2 : i ≤ 24
  ·rw [decide_eq_true h1, decide_eq_true h2]
   go_enter Tryz.func114, Tryz.ntmps114
   go_wp2_with fail
   go_ret
   exact ⟨rfl, rfl⟩
  ·rw [decide_eq_true h1, decide_eq_false h2]
   go_enter Tryz.func114, Tryz.ntmps114
   go_wp2_with fail
   go_ret
   exact ⟨rfl, rfl⟩
 ·rw [decide_eq_false h1]
  go_enter Tryz.func114, Tryz.ntmps114
  go_wp2_with fail
  go_ret
  exact ⟨rfl, rfl⟩
theorem two_pow_int (k : Nat) (h : k ≤ 24) : ((2 : Int) ^ k % 4294967296) = ((2 ^ k : Nat) : Int) := by
 have := Nat.pow_lt_pow_right (a := 2) (by decide) (show k < 32 by omega)
 rw [show (2 : Int) ^ k = ((2 ^ k : Nat) : Int) by simp]
 generalize 2 ^ k = p at *
 omega
theorem shr_int (s k : Nat) : ((s : Int) / 2 ^ k) = ((s / 2 ^ k : Nat) : Int) := by simp
theorem has_c (s : Nat) (hs : s < 4294967296) (i : Int) : Still 88 #[.int .u32 (s : Int), .int .i64 i] (.bool (has s i)) := fun w => by
 have ci := isId_c i
 unfold has
 cases hi : isId i with
 | false =>
   rw [hi] at ci
   replace ci := Hd ci
   clear hi
   go_enter Tryz.func88, Tryz.ntmps88
   go_wp2_with fail
   refine (ci.out.on _).mono ?_
   rintro e w1 ⟨rfl, rfl⟩
   go_wp2_with fail
   go_ret
   exact ⟨rfl, rfl⟩
 | true =>
   rw [hi] at ci
   obtain ⟨k, rfl⟩ : ∃ k : Nat, i = k := ⟨i.toNat, by unfold isId at hi; simp at hi; omega⟩
   have hk : k ≤ 24 := by unfold isId at hi; simp at hi; omega
   replace ci := Hd ci
   clear hi
   have e1 : IntKind.u64.wrap (k : Int) = (k : Int) := IntWalk.u64_in _ (by omega)
   have e2 : bits .and .u32 ((s : Int) / 2 ^ k) 1 = (s : Int) / 2 ^ k % 2 := by
    rw [shr_int]
    have h := u32_and_nat (s / 2 ^ k) 1 (Nat.lt_of_le_of_lt (Nat.div_le_self ..) hs) (by decide)
    rw [Nat.and_one_is_mod] at h
    generalize s / 2 ^ k = q at *
    exact h.trans (by omega)
   have e3 : ((s : Int) / 2 ^ k % 2 == 1) = s.testBit k := by
    rw [shr_int, Nat.testBit_eq_decide_div_mod_eq, Bool.eq_iff_iff, beq_iff_eq, decide_eq_true_iff]
    generalize s / 2 ^ k = q
    omega
   go_enter Tryz.func88, Tryz.ntmps88
   go_wp2_with fail
   refine (ci.out.on _).mono ?_
   rintro e w1 ⟨rfl, rfl⟩
   go_wp2_with fail
   go_ret
   refine ⟨?_, rfl⟩
   rw [Bool.true_and, Int.toNat_natCast, ← e3]
   rfl
theorem with_c (s : Nat) (hs : s < 4294967296) (i : Int) : Still 115 #[.int .u32 (s : Int), .int .i64 i] (.int .u32 (withF s i : Nat)) := fun w => by
 have ci := isId_c i
 unfold withF
 cases hi : isId i with
 | false =>
   rw [hi] at ci
   replace ci := Hd ci
   clear hi
   rw [if_neg (by decide)]
   go_enter Tryz.func115, Tryz.ntmps115
   go_wp2_with fail
   refine (ci.out.on _).mono ?_
   rintro e w1 ⟨rfl, rfl⟩
   go_wp2_with fail
   go_ret
   exact ⟨rfl, rfl⟩
 | true =>
   rw [hi] at ci
   have hp := pow_lt hi
   obtain ⟨k, rfl⟩ : ∃ k : Nat, i = k := ⟨i.toNat, by unfold isId at hi; simp at hi; omega⟩
   have hk : k ≤ 24 := by unfold isId at hi; simp at hi; omega
   rw [if_pos rfl, Int.toNat_natCast]
   rw [Int.toNat_natCast] at hp
   replace ci := Hd ci
   clear hi
   have e1 : IntKind.u64.wrap (k : Int) = (k : Int) := IntWalk.u64_in _ (by omega)
   have e2 : bits .or .u32 (s : Int) (2 ^ k % 4294967296) = ((s ||| 2 ^ k : Nat) : Int) := by
    rw [two_pow_int k hk]
    exact u32_or_nat s (2 ^ k) hs hp
   generalize s ||| 2 ^ k = r at *
   clear hp
   go_enter Tryz.func115, Tryz.ntmps115
   go_wp2_with fail
   refine (ci.out.on _).mono ?_
   rintro e w1 ⟨rfl, rfl⟩
   go_wp2_with fail
   go_ret
   refine ⟨?_, rfl⟩
   first | rfl | rw [e2]
theorem is_c (s : Nat) (hs : s < 4294967296) : Still 26 #[.int .u32 (s : Int)] (.bool (isF s)) := fun w => by
 have e1 : bits .andNot .u32 (s : Int) 33554430 = ((s &&& (4294967295 - ALL) : Nat) : Int) := u32_andNot_nat s ALL hs (by decide)
 have e9 : ((((s &&& (4294967295 - ALL) : Nat)) : Int) == 0) = isF s := by
  unfold isF
  rw [Bool.eq_iff_iff, beq_iff_eq, decide_eq_true_iff]
  omega
 generalize s &&& (4294967295 - ALL) = r at *
 generalize isF s = q at *
 go_enter Tryz.func26, Tryz.ntmps26
 go_wp2_with fail
 go_ret
 refine ⟨?_, rfl⟩
 first | rfl | rw [e9] | simp [e1, e9]
/-- how many bits of a byte are set -/
def pc (n : Nat) : Nat := n % 2 + n / 2 % 2 + n / 4 % 2 + n / 8 % 2 + n / 16 % 2 + n / 32 % 2 + n / 64 % 2 + n / 128 % 2
theorem pc_le (n : Nat) : pc n ≤ 8 := by unfold pc; omega
def popT : ByteArray := ⟨((List.range 256).map fun n => UInt8.ofNat (pc n)).toArray⟩
theorem popT_size : popT.size = 256 := by decide +kernel
theorem popT_get : ∀ i : Nat, i < 256 → popT.data.toList[i]? = some (UInt8.ofNat (pc i)) := fun i hi => by
 unfold popT
 simp [hi]
theorem exec_index {ev : Operand → Value} {o : Oper} {x : Operand} {T : ByteArray} {z : Int} {i p : Nat} (ho : o.op = .index 9 (.const (.string T)) x) (hev : ev (.const (.string T)) = .string T) (hx : ev x = .int .u32 z) (hz : z = (i : Int)) (hT : T = popT) (hi : i < 256) (hp : pc i = p) (w : World) :
 Sem.run Tryz.prog (execOp ev o) w = .ok (.value (.int .u8 (p : Int))) w := by
 subst hT hz hp
 have h := run_index_string (P := Tryz.prog) (w := w) 9 popT .u32 (i : Int) Tryz.underlying9
 rw [dif_pos ⟨by omega, by rw [popT_size]; omega⟩] at h
 have hg : (popT[(i : Int).toNat]'(by rw [popT_size]; omega)) = UInt8.ofNat (pc i) := by
  have h1 := popT_get i hi
  have h2 : popT.data.toList[i]? = some (popT[i]'(by rw [popT_size]; exact hi)) := by
   have hl : i < popT.data.toList.length := by
    have : popT.data.toList.length = popT.size := byts_length popT
    rw [this, popT_size]; exact hi
   rw [List.getElem?_eq_getElem hl]
   rfl
  rw [h2] at h1
  exact Option.some.inj h1
 rw [hg] at h
 have hpc := pc_le i
 have hn : (UInt8.ofNat (pc i)).toNat = pc i := by rw [UInt8.toNat_ofNat']; omega
 rw [hn] at h
 unfold execOp
 simp only [ho, hev, hx, Sem.run_bind, h, Result.andThen, Sem.run_pure]
theorem ones_c (s : Nat) (hs : s < 4294967296) : Ret 116 #[.int .u32 (s : Int)] (.int .i64 ((pc (s / 16777216) + pc (s / 65536 % 256) + pc (s / 256 % 256) + pc (s % 256) : Nat) : Int)) := fun w => by
 obtain ⟨P3, hP3⟩ : ∃ p, pc (s / 16777216) = p := ⟨_, rfl⟩
 obtain ⟨P2, hP2⟩ : ∃ p, pc (s / 65536 % 256) = p := ⟨_, rfl⟩
 obtain ⟨P1, hP1⟩ : ∃ p, pc (s / 256 % 256) = p := ⟨_, rfl⟩
 obtain ⟨P0, hP0⟩ : ∃ p, pc (s % 256) = p := ⟨_, rfl⟩
 have b3 : P3 ≤ 8 := hP3 ▸ pc_le _
 have b2 : P2 ≤ 8 := hP2 ▸ pc_le _
 have b1 : P1 ≤ 8 := hP1 ▸ pc_le _
 have b0 : P0 ≤ 8 := hP0 ▸ pc_le _
 rw [hP3, hP2, hP1, hP0]
 have a1 : bits .and .u32 ((s : Int) / 65536) 255 = (s : Int) / 65536 % 256 := by
  rw [show ((s : Int) / 65536) = ((s / 65536 : Nat) : Int) by omega]
  have h := u32_and_nat (s / 65536) 255 (by omega) (by decide)
  rw [show s / 65536 &&& 255 = s / 65536 % 2 ^ 8 from Nat.and_two_pow_sub_one_eq_mod (s / 65536) 8] at h
  exact h.trans (by omega)
 have a2 : bits .and .u32 ((s : Int) / 256) 255 = (s : Int) / 256 % 256 := by
  rw [show ((s : Int) / 256) = ((s / 256 : Nat) : Int) by omega]
  have h := u32_and_nat (s / 256) 255 (by omega) (by decide)
  rw [show s / 256 &&& 255 = s / 256 % 2 ^ 8 from Nat.and_two_pow_sub_one_eq_mod (s / 256) 8] at h
  exact h.trans (by omega)
 have a3 : bits .and .u32 (s : Int) 255 = (s : Int) % 256 := by
  have h := u32_and_nat s 255 hs (by decide)
  rw [show s &&& 255 = s % 2 ^ 8 from Nat.and_two_pow_sub_one_eq_mod s 8] at h
  exact h.trans (by omega)
 have w1 : IntKind.u8.wrap ((P3 : Int) + (P2 : Int)) = (P3 : Int) + (P2 : Int) := IntWalk.u8_in _ (by omega)
 have w2 : IntKind.u8.wrap ((P3 : Int) + (P2 : Int) + (P1 : Int)) = (P3 : Int) + (P2 : Int) + (P1 : Int) := IntWalk.u8_in _ (by omega)
 have w3 : IntKind.u8.wrap ((P3 : Int) + (P2 : Int) + (P1 : Int) + (P0 : Int)) = (P3 : Int) + (P2 : Int) + (P1 : Int) + (P0 : Int) := IntWalk.u8_in _ (by omega)
 have w4 : IntKind.i64.wrap ((P3 : Int) + (P2 : Int) + (P1 : Int) + (P0 : Int)) = (P3 : Int) + (P2 : Int) + (P1 : Int) + (P0 : Int) := IntWalk.i64_in _ (by omega)
 go_enter Tryz.func116, Tryz.ntmps116
 go_wp2_with fail
 refine wp_region_held_at (S := fun _ => True) 19 rfl (by kernel_rfl) trivial (fun _ => ?_)
 refine wpU 0 ?_ rfl ?_ ?_
 rotate_left
 ·intro w1 _; (try simp only [ls3]); go_simp; try with_reducible rfl
 try simp only [ls7, Act.put]
 refine wpU 1 ?_ rfl ?_ ?_
 rotate_left
 ·intro w1 _; (try simp only [ls3]); go_simp; try with_reducible rfl
 try simp only [ls7, Act.put]
 refine wpAnyH_take (i := 2) (v := .int .u8 (P3 : Int)) rfl (by decide +kernel) (by decide +kernel) (by decide +kernel) (fun _ _ _ h => h) (Or.inl ⟨by rfl, ?_⟩) (by assumption) ?_
 ·intro w1 _
  exact exec_index (i := s / 16777216) rfl rfl rfl (by first | rfl | simp | omega) (by kernel_rfl) (by omega) hP3 w1
 try simp only [ls7, Act.put]
 refine wpU 3 ?_ rfl ?_ ?_
 rotate_left
 ·intro w1 _; (try simp only [ls3]); go_simp; try with_reducible rfl
 try simp only [ls7, Act.put]
 refine wpU 4 ?_ rfl ?_ ?_
 rotate_left
 ·intro w1 _; (try simp only [ls3]); go_simp; try with_reducible rfl
 try simp only [ls7, Act.put]
 refine wpU 5 ?_ rfl ?_ ?_
 rotate_left
 ·intro w1 _; (try simp only [ls3]); go_simp; try with_reducible rfl
 try simp only [ls7, Act.put]
 refine wpAnyH_take (i := 6) (v := .int .u8 (P2 : Int)) rfl (by decide +kernel) (by decide +kernel) (by decide +kernel) (fun _ _ _ h => h) (Or.inl ⟨by rfl, ?_⟩) (by assumption) ?_
 ·intro w1 _
  exact exec_index (i := s / 65536 % 256) rfl rfl rfl (by first | rfl | simp | omega) (by kernel_rfl) (by omega) hP2 w1
 try simp only [ls7, Act.put]
 refine wpU 7 ?_ rfl ?_ ?_
 rotate_left
 ·intro w1 _; (try simp only [ls3]); go_simp; try with_reducible rfl
 try simp only [ls7, Act.put]
 refine wpU 8 ?_ rfl ?_ ?_
 rotate_left
 ·intro w1 _; (try simp only [ls3]); go_simp; try with_reducible rfl
 try simp only [ls7, Act.put]
 refine wpU 9 ?_ rfl ?_ ?_
 rotate_left
 ·intro w1 _; (try simp only [ls3]); go_simp; try with_reducible rfl
 try simp only [ls7, Act.put]
 refine wpU 10 ?_ rfl ?_ ?_
 rotate_left
 ·intro w1 _; (try simp only [ls3]); go_simp; try with_reducible rfl
 try simp only [ls7, Act.put]
 refine wpAnyH_take (i := 11) (v := .int .u8 (P1 : Int)) rfl (by decide +kernel) (by decide +kernel) (by decide +kernel) (fun _ _ _ h => h) (Or.inl ⟨by rfl, ?_⟩) (by assumption) ?_
 ·intro w1 _
  exact exec_index (i := s / 256 % 256) rfl rfl rfl (by first | rfl | simp | omega) (by kernel_rfl) (by omega) hP1 w1
 try simp only [ls7, Act.put]
 refine wpU 12 ?_ rfl ?_ ?_
 rotate_left
 ·intro w1 _; (try simp only [ls3]); go_simp; try with_reducible rfl
 try simp only [ls7, Act.put]
 refine wpU 13 ?_ rfl ?_ ?_
 rotate_left
 ·intro w1 _; (try simp only [ls3]); go_simp; try with_reducible rfl
 try simp only [ls7, Act.put]
 refine wpU 14 ?_ rfl ?_ ?_
 rotate_left
 ·intro w1 _; (try simp only [ls3]); go_simp; try with_reducible rfl
 try simp only [ls7, Act.put]
 refine wpAnyH_take (i := 15) (v := .int .u8 (P0 : Int)) rfl (by decide +kernel) (by decide +kernel) (by decide +kernel) (fun _ _ _ h => h) (Or.inl ⟨by rfl, ?_⟩) (by assumption) ?_
 ·intro w1 _
  exact exec_index (i := s % 256) rfl rfl rfl (by first | rfl | simp | omega) (by kernel_rfl) (by omega) hP0 w1
 try simp only [ls7, Act.put]
 refine wpU 16 ?_ rfl ?_ ?_
 rotate_left
 ·intro w1 _; (try simp only [ls3]); go_simp; try with_reducible rfl
 try simp only [ls7, Act.put]
 refine wpU 17 ?_ rfl ?_ ?_
 rotate_left
 ·intro w1 _; (try simp only [ls3]); go_simp; try with_reducible rfl
 try simp only [ls7, Act.put]
 refine wpU 18 ?_ rfl ?_ ?_
 rotate_left
 ·intro w1 _; (try simp only [ls3]); go_simp; try with_reducible rfl
 try simp only [ls7, Act.put]
 refine wpAnyH_done (by decide +kernel) ?_ _
 go_wp2_with fail
 go_ret
 exact ⟨by first | rfl | simp, by first | exact below_drewed (Below.refl _ _) | exact below_drewN (Below.refl _ _) | exact Below.refl _ _⟩
end Go.Proofs.YtjjgbillihedgaaGreatDoor
namespace Go.Proofs.YtjjgbillihedgaaGreatDoor
open Go.RowKit
open Rf
namespace Sg
/-- a bit as a number -/
def bt (s k : Nat) : Nat := s / 2 ^ k % 2
theorem bt_eq (s k : Nat) : bt s k = if s.testBit k = true then 1 else 0 := by
 unfold bt
 rw [Nat.testBit_eq_decide_div_mod_eq]
 have := Nat.mod_two_eq_zero_or_one (s / 2 ^ k)
 generalize s / 2 ^ k % 2 = m at *
 rcases this with rfl | rfl <;> rfl
theorem pc_byte (y : Nat) : pc (y % 256) = y % 2 + y / 2 % 2 + y / 4 % 2 + y / 8 % 2 + y / 16 % 2 + y / 32 % 2 + y / 64 % 2 + y / 128 % 2 := by unfold pc; omega
theorem bt_div (x k j : Nat) : x / 2 ^ k / 2 ^ j % 2 = bt x (k + j) := by
 unfold bt
 rw [Nat.div_div_eq_div_mul, Nat.pow_add]
theorem pc_at (x k : Nat) : pc (x / 2 ^ k % 256) = bt x k + bt x (k + 1) + bt x (k + 2) + bt x (k + 3) + bt x (k + 4) + bt x (k + 5) + bt x (k + 6) + bt x (k + 7) := by
 rw [pc_byte, ← bt_div x k 1, ← bt_div x k 2, ← bt_div x k 3, ← bt_div x k 4, ← bt_div x k 5, ← bt_div x k 6, ← bt_div x k 7]
 rfl
theorem len_step (s k n : Nat) : (idsFrom s k (n + 1)).length = bt s k + (idsFrom s (k + 1) n).length := by
 rw [idsFrom, List.length_append, bt_eq]
 split <;> rfl
theorem ids_len (s : Nat) : (ids s).length = bt s 1 + bt s 2 + bt s 3 + bt s 4 + bt s 5 + bt s 6 + bt s 7 + bt s 8 + bt s 9 + bt s 10 + bt s 11 + bt s 12 + bt s 13 + bt s 14 + bt s 15 + bt s 16 + bt s 17 + bt s 18 + bt s 19 + bt s 20 + bt s 21 + bt s 22 + bt s 23 + bt s 24 := by
 unfold ids
 rw [len_step, len_step, len_step, len_step, len_step, len_step, len_step, len_step, len_step, len_step, len_step, len_step, len_step, len_step, len_step, len_step, len_step, len_step, len_step, len_step, len_step, len_step, len_step, len_step]
 simp only [Nat.reduceAdd, idsFrom, List.length_nil]
 omega
theorem bt_all (s k : Nat) : bt (s &&& ALL) k = if 1 ≤ k ∧ k ≤ 24 then bt s k else 0 := by
 rw [bt_eq, bt_eq, Nat.testBit_and, all_bit]
 by_cases h : 1 ≤ k ∧ k ≤ 24
 ·rw [if_pos h, decide_eq_true h.1, decide_eq_true h.2]
  simp
 ·rw [if_neg h]
  have : (decide (1 ≤ k) && decide (k ≤ 24)) = false := by
   rw [Bool.and_eq_false_iff, decide_eq_false_iff_not, decide_eq_false_iff_not]
   omega
  rw [this]
  simp
theorem sum_len (s : Nat) (hs : s < 4294967296) :
 pc ((s &&& ALL) / 16777216) + pc ((s &&& ALL) / 65536 % 256) + pc ((s &&& ALL) / 256 % 256) + pc ((s &&& ALL) % 256) = (ids s).length := by
 have hx : (s &&& ALL) < 4294967296 := Nat.lt_of_le_of_lt Nat.and_le_left hs
 have e3 := pc_at (s &&& ALL) 24
 have e2 := pc_at (s &&& ALL) 16
 have e1 := pc_at (s &&& ALL) 8
 have e0 := pc_at (s &&& ALL) 0
 rw [show (2 : Nat) ^ 24 = 16777216 by decide, Nat.mod_eq_of_lt (show (s &&& ALL) / 16777216 < 256 by omega)] at e3
 rw [show (2 : Nat) ^ 16 = 65536 by decide] at e2
 rw [show (2 : Nat) ^ 8 = 256 by decide] at e1
 rw [show (2 : Nat) ^ 0 = 1 by decide, Nat.div_one] at e0
 rw [e3, e2, e1, e0, ids_len]
 simp only [bt_all, Nat.reduceAdd]
 simp
 omega
end Sg
open Sg
theorem len_c (s : Nat) (hs : s < 4294967296) : Ret 87 #[.int .u32 (s : Int)] (.int .i64 ((ids s).length : Int)) := fun w => by
 have co := ones_c (s &&& ALL) (Nat.lt_of_le_of_lt Nat.and_le_left hs)
 rw [sum_len s hs] at co
 have e1 : bits .and .u32 (s : Int) 33554430 = ((s &&& ALL : Nat) : Int) := u32_and_nat s ALL hs (by decide)
 generalize s &&& ALL = x at *
 generalize (ids s).length = l at *
 replace co := Hd co
 go_enter Tryz.func87, Tryz.ntmps87
 go_wp2_with fail
 refine (co.out.on _).mono ?_
 rintro e w1 ⟨rfl, hb⟩
 go_wp2_with fail
 go_ret
 exact ⟨rfl, hb⟩
open Sg
/-- ints as values -/
def iv (l : List Int) : List Value := l.map (.int .i64)
theorem iv_append (l m : List Int) : iv (l ++ m) = iv l ++ iv m := List.map_append
theorem infoInt : (Tryz.prog.info? 3).map (fun i => (i.zero, i.size, i.bytes)) = some (some (.int .i64 0), 1, 8) := by kernel_rfl
/-- a slice of ints of the call's own -/
def OwnI (w : World) (B : Nat) (a : Option Addr) (c : Nat) (l : List Int) : Prop := w.ownsRow B 3 1 (.slice a l.length c) l.length (iv l)
theorem OwnI.below {w w' : World} {B : Nat} {a : Option Addr} {c : Nat} {l : List Int} (h : OwnI w B a c l) (hb : Below w.heap.size w w') : OwnI w' B a c l :=
 World.ownsRow.kept (row := none) h ⟨hb.os, hb.tape, hb.output, hb.size, fun k hk _ => hb.block k hk⟩ (by cases (Value.slice a l.length c).ownBlock <;> simp)
theorem OwnI.alloc {w : World} {B : Nat} {a : Option Addr} {c : Nat} {l : List Int} (h : OwnI w B a c l) (o : Obj) : OwnI (w.alloc o) B a c l := World.ownsRow.alloc h o
theorem OwnI.nil (w : World) (B : Nat) : OwnI w B none 0 [] := World.ownsRow_nil w B 3 1
/-- a contract: ints are returned in a row of the call's own -/
def RetInts (f : FuncId) (args : Array Value) (l : List Int) : Prop := ∀ w : World, Calls Tryz.prog f args w fun e w' => ∃ a c, e = .returned (.slice a l.length c) ∧ OwnI w' w.heap.size a c l ∧ Below w.heap.size w w'
theorem RetInts.on {f : FuncId} {args : Array Value} {l : List Int} (h : RetInts f args l) (w : World) : Calls Tryz.prog f args w fun e w' => ∃ a c, e = .returned (.slice a l.length c) ∧ OwnI w' w.heap.size a c l ∧ Below w.heap.size w w' := h w
/-- an element is there -/
theorem OwnI.cell {w : World} {B : Nat} {a : Option Addr} {c : Nat} {l : List Int} (h : OwnI w B a c l) (j : Nat) (hj : j < l.length) :
 ∃ g, a = some ⟨g, 0, none⟩ ∧ B ≤ g ∧ g < w.heap.size ∧ w.cell? ⟨g, j, none⟩ = some (.int .i64 l[j]) := by
 rcases h.2 with ⟨hv, hn⟩ | ⟨g, cap, cur, hv, hb, hg, hc⟩
 ·omega
 ·obtain ⟨rfl, rfl⟩ : a = some ⟨g, 0, none⟩ ∧ c = cap := by cases hv; exact ⟨rfl, rfl⟩
  refine ⟨g, rfl, hb, lt_of_block hg, ?_⟩
  have := World.ownsRow.cells h (g := g) rfl j (.int .i64 l[j]) (by simp [iv, hj])
  rw [show (⟨g, 0, none⟩ : Addr).add j = ⟨g, j, none⟩ by unfold Addr.add; split <;> simp_all] at this
  exact this
theorem src_one (w : World) (x : Int) : Src Tryz.prog 1 105 (.slice (some ⟨w.heap.size, 0, none⟩) 1 1) 1 [.int .i64 x] (w.alloc (.cells #[.int .i64 x] 3)) :=
 Src.ofSlice _ Tryz.underlying105 ⟨w.heap.size, 0, none⟩ 1 1 _ rfl (cell_one_new _ _ _) (by intro u hu; simp at hu; subst hu; rfl)
theorem idsFrom_len (s k n : Nat) : (idsFrom s k n).length ≤ n := by
 induction n generalizing k with
 | zero => exact Nat.le_refl 0
 | succ n ih =>
   have := ih (k + 1)
   rw [idsFrom, List.length_append]
   split <;> simp <;> omega
theorem ids_c (s : Nat) (hs : s < 4294967296) : RetInts 54 #[.int .u32 (s : Int)] (ids s) := fun w => by
 obtain ⟨i0, hi, hz0, hz1, hz2⟩ := info_parts infoInt
 go_enter Tryz.func54, Tryz.ntmps54
 go_wp2_with fail
 go_loopw [3, 4] (fun b i wr => ∃ k : Nat, k ≤ 24 ∧ i = .int .i64 ((k : Int) + 1) ∧ (∃ a c, b = .slice a (idsFrom s 1 k).length c ∧ OwnI wr w.heap.size a c (idsFrom s 1 k)) ∧ Below w.heap.size w wr) (fun _ i _ => 25 - (intOf i).toNat)
 case atStart => exact ⟨0, Nat.zero_le _, rfl, ⟨none, 0, rfl, OwnI.nil w _⟩, Below.refl _ _⟩
 case round =>
  obtain ⟨k, hk, rfl, ⟨a, c, rfl, hown⟩, hb⟩ := hrel
  replace hown := Hd hown
  replace hb := Hd hb
  have hsz := hb.out.size
  by_cases hlt : k < 24
  ·have ch := has_c s hs ((k : Int) + 1)
   have hhas : has s ((k : Int) + 1) = s.testBit (1 + k) := by
    unfold has isId
    rw [show ((k : Int) + 1).toNat = 1 + k by omega, decide_eq_true (by omega), decide_eq_true (by omega)]
    rfl
   rw [hhas] at ch
   have hsn := idsFrom_snoc s 1 k
   have hln := idsFrom_len s 1 k
   have hI1 : (k : Int) + 1 ≤ 24 := by omega
   generalize hL : idsFrom s 1 k = L at *
   replace hL := Hd hL
   generalize hL' : idsFrom s 1 (k + 1) = L' at *
   replace hL' := Hd hL'
   generalize s.testBit (1 + k) = b at *
   replace hsn := Hd hsn
   replace ch := Hd ch
   cases b with
   | false =>
     go_wp2_with fail
     refine (ch.out.on _).mono ?_
     rintro e w1 ⟨rfl, rfl⟩
     have hsn' := hsn.out
     rw [if_neg (by decide), List.append_nil] at hsn'
     subst hsn'
     clear hsn
     go_wp2_with fail
     go_roundw
     case rel => exact ⟨k + 1, by omega, by go_num, ⟨a, c, by rw [hL'.out], by rw [hL'.out]; exact hown.out⟩, hb.out⟩
     case measure => simp [intOf]; omega
   | true =>
     go_wp2_with fail
     refine (ch.out.on _).mono ?_
     rintro e w1 ⟨rfl, rfl⟩
     have hsrc := src_one wr ((k : Int) + 1)
     go_wp2_with (at_builtin; refine wpList_append_own_src _ rfl (.tmp 12) (.tmp 14) 105 105 rfl w.heap.size 3 i0 (.int .i64 0) 1 8 Tryz.underlying105 hi hz0 hz1 hz2 rfl rfl (hown.out.alloc _) rfl hsrc ?_ ?_ ?_ ?_)
     ·unfold maxLen; omega
     ·omega
     ·rw [size_alloc]; omega
     intro b' c' w2 hown2 hg1
     have hfin := Hd (Below.grown (hb.out.alloc hsz (.cells #[.int .i64 ((k : Int) + 1)] 3)) hg1 (by rw [size_alloc]; omega) (fun q hq => by have := World.ownsRow.lt hown.out q hq; omega))
     rw [show ([.int .i64 ((k : Int) + 1)] : List Value) = iv [(k : Int) + 1] from rfl, ← iv_append] at hown2
     have hsn' := hsn.out
     rw [if_pos trivial, show ((1 + k : Nat) : Int) = (k : Int) + 1 by omega] at hsn'
     replace hsn' := Hd hsn'
     have hown3 : OwnI w2 w.heap.size b' c' (L ++ [(k : Int) + 1]) := by
      unfold OwnI
      rw [List.length_append]
      exact hown2
     replace hown3 := Hd hown3
     clear hown2 hg1 hsrc hown hb hsn
     go_wp2_with fail
     go_roundw
     case rel => exact ⟨k + 1, by omega, by go_num, ⟨b', c', by rw [hL'.out, hsn'.out, List.length_append]; rfl, by rw [hL'.out, hsn'.out]; exact hown3.out⟩, hfin.out⟩
     case measure => simp [intOf]; omega
  ·obtain rfl : k = 24 := by omega
   go_wp2_with fail
   go_ret
   exact ⟨a, c, rfl, hown.out, hb.out⟩
/-- 32 bools: cells, value, a block that is one -/
def bc (l : List Bool) : List Value := l.map .bool
def bav (l : List Bool) : Value := .agg (bc l).toArray
def oB (l : List Bool) : Obj := .cells (bc l).toArray 112
def IsB (w : World) (b : Nat) (l : List Bool) : Prop := w.heap[b]? = some (.cells (bc l).toArray 112 (0, 0))
theorem bc_length (l : List Bool) : (bc l).length = l.length := by simp [bc]
theorem bc_one (l : List Bool) : ∀ v ∈ bc l, v.oneCell' = true := by
 intro v hv
 obtain ⟨_, _, rfl⟩ := List.mem_map.1 hv; rfl
section
variable {w w' : World} {b : Nat} {l : List Bool}
theorem IsB.lt (h : IsB w b l) : b < w.heap.size := lt_of_block h
theorem IsB.cell (h : IsB w b l) (i : Nat) (hi : i < l.length) : w.cell? ⟨b, i, none⟩ = some (.bool l[i]) := by
 rw [cell_of_row w b i _ _ _ h]; simp [bc, hi]
theorem IsB.has (h : IsB w b l) (i : Nat) (hi : i < l.length) : ∃ v, w.cell? ⟨b, i, none⟩ = some v := ⟨_, h.cell i hi⟩
theorem IsB.f (h : IsB w b l) (i : Nat) : w.frozen? ⟨b, i, none⟩ = false := by unfold IsB at h; simp [World.frozen?, h]
theorem IsB.below (h : IsB w b l) (hb : Below w.heap.size w w') : IsB w' b l := (hb.block b h.lt).trans h
theorem IsB.new (w : World) (l : List Bool) : IsB (w.alloc (oB l)) w.heap.size l := heap_alloc_new w _
theorem IsB.alloc (h : IsB w b l) (o : Obj) : IsB (w.alloc o) b l := h.below ((Below.refl _ _).alloc (Nat.le_refl _) o)
theorem IsB.set (h : IsB w b l) (i : Nat) (v : Bool) : IsB (w.setCell ⟨b, i, none⟩ (.bool v)) b (l.set i v) := by
 unfold IsB at *
 show (w.heap.modify b _)[b]? = _
 rw [Array.getElem?_modify, if_pos rfl, h]
 simp [bc, List.map_set]
theorem IsB.set_other {c i : Nat} {v : Value} (h : IsB w b l) (hne : b ≠ c) : IsB (w.setCell ⟨c, i, none⟩ v) b l := by
 unfold IsB at *
 show (w.heap.modify c _)[b]? = _
 rw [Array.getElem?_modify, if_neg (fun hh => hne hh.symm)]
 exact h
end
def Z32 : List Bool := List.replicate 32 false
theorem fb_alloc (w : World) : (Instr.alloc 112 true (.tuple #[])).run Tryz.prog w = .ok (.pointer (some ⟨w.heap.size, 0, none⟩)) (w.alloc (oB Z32)) := by kernel_rfl
theorem fb_build0 (w : World) : (Instr.build 112 #[]).run Tryz.prog w = .ok (bav Z32) w := by kernel_rfl
theorem b_info : (Tryz.prog.info? 112).map (·.size) = some 32 := by kernel_rfl
theorem fb_load {w : World} {b : Nat} {l : List Bool} (h : IsB w b l) (hl : l.length = 32) : (Instr.loadAt 112 (.pointer (some ⟨b, 0, none⟩))).run Tryz.prog w = .ok (bav l) w := by
 have := run_loadVar_row (P := Tryz.prog) w b 112 112 (bc l).toArray (0, 0) _ h rfl rfl (by rw [b_info]; simp [bc_length, hl])
 simp only [Instr.loadAt, Instr.sureAddr, Sem.run_bind, Sem.run_pure, Result.andThen, this]
 rfl
theorem fb_store {w : World} {b : Nat} {l m : List Bool} (h : IsB w b l) (hl : l.length = 32) (hl2 : m.length = 32) :
 (Instr.storeAt 112 (.pointer (some ⟨b, 0, none⟩)) (bav m)).run Tryz.prog w = .ok () (w.setRow b (bc m).toArray) := by
 have := run_storeVar_row (P := Tryz.prog) w b 112 112 (bc l).toArray (bc m).toArray h (by rw [b_info]; simp [bc_length, hl2]) (by simp [bc_length, hl, hl2]) (all_oneCell_toArray (bc_one m))
 simp only [Instr.storeAt, Instr.sureAddr, Sem.run_bind, Sem.run_pure, Result.andThen, bav, this]
theorem IsB.row {w : World} {b : Nat} {l : List Bool} (h : IsB w b l) (m : List Bool) : IsB (w.setRow b (bc m).toArray) b m := setRow_heap w b _ _ _ (0, 0) h
theorem below_row {B b : Nat} {w w1 : World} (h : Below B w w1) (hb : B ≤ b) (r : Array Value) : Below B w (w1.setRow b r) := h.trans ⟨rfl, rfl, rfl, by simp [World.setRow], fun k hk => setRow_other w1 b k r (by omega)⟩
section
variable {ops : Array Oper} {rest : List Oper} {o : Oper} {a : Act} {w : World} {Q : Exit → Act → World → Prop}
theorem wpl_balloc (hgd : o.guard = none) (ho : o.op = .alloc 112) (h : wpList Tryz.prog ops Q rest (a.put o.dst (.pointer (some ⟨w.heap.size, 0, none⟩))) (w.alloc (oB Z32))) : wpList Tryz.prog ops Q (o :: rest) a w :=
 wpList_plain hgd fun _ hK => by
  unfold Oper.wp execOp
  simp only [ho, Sem.run_bind, Sem.run_pure, Result.andThen, fb_alloc]
  exact hK _ _ h
theorem wpl_bbuild (hgd : o.guard = none) (ho : o.op = .build 112 #[]) (h : wpList Tryz.prog ops Q rest (a.put o.dst (bav Z32)) w) : wpList Tryz.prog ops Q (o :: rest) a w :=
 wpList_plain hgd fun _ hK => by
  unfold Oper.wp execOp
  simp only [ho, Sem.run_bind, Sem.run_pure, Result.andThen, List.map_toArray, List.map_nil, fb_build0]
  exact hK _ _ h
theorem wpl_bload {x : Operand} {b : Nat} {l : List Bool} (hgd : o.guard = none) (ho : o.op = .load 112 x) (hx : a.eval x = .pointer (some ⟨b, 0, none⟩)) (hd : IsB w b l) (hl : l.length = 32) (h : wpList Tryz.prog ops Q rest (a.put o.dst (bav l)) w) : wpList Tryz.prog ops Q (o :: rest) a w :=
 wpList_plain hgd fun _ hK => by
  unfold Oper.wp execOp
  simp only [ho, hx, Sem.run_bind, Sem.run_pure, Result.andThen, fb_load hd hl]
  exact hK _ _ h
theorem wpl_bstore {x y : Operand} {b : Nat} {l m : List Bool} (hgd : o.guard = none) (ho : o.op = .store 112 x y) (hx : a.eval x = .pointer (some ⟨b, 0, none⟩)) (hy : a.eval y = bav m) (hd : IsB w b l) (hl : l.length = 32) (hl2 : m.length = 32)
 (h : wpList Tryz.prog ops Q rest (a.put o.dst undef) (w.setRow b (bc m).toArray)) : wpList Tryz.prog ops Q (o :: rest) a w :=
 wpList_plain hgd fun _ hK => by
  unfold Oper.wp execOp
  simp only [ho, hx, hy, Sem.run_bind, Sem.run_pure, Result.andThen, fb_store hd hl hl2]
  exact hK _ _ h
theorem wpl_bstore_new {x y : Operand} {b : Nat} {l m : List Bool} (hgd : o.guard = none) (ho : o.op = .store 112 x y) (hx : a.eval x = .pointer (some ⟨b, 0, none⟩)) (hy : a.eval y = bav m) (hb : w.heap.size = b) (hl : l.length = 32) (hl2 : m.length = 32)
 (h : wpList Tryz.prog ops Q rest (a.put o.dst undef) (w.alloc (oB m))) : wpList Tryz.prog ops Q (o :: rest) a (w.alloc (oB l)) := by
 subst hb
 refine wpl_bstore hgd ho hx hy (IsB.new w l) hl hl2 ?_
 rw [show (w.alloc (oB l)).setRow w.heap.size (bc m).toArray = w.alloc (oB m) from World.setRow_alloc_new _ _ _ _]
 exact h
end
theorem b_result {fn : Func} {p : Tmp} (h : fn.results = #[.cell p 112]) (tmps : Array Value) (w : World) (b : Nat) (l : List Bool) (hp : tmps.getD p undef = .pointer (some ⟨b, 0, none⟩)) (hd : IsB w b l) (hl : l.length = 32) :
 (results fn tmps).run Tryz.prog w = .ok (bav l) w :=
 results_cell_row h tmps w b 112 (bc l).toArray (0, 0) _ hp hd rfl rfl (by rw [b_info]; simp [bc_length, hl])
/-- the bits below j -/
def bitsTo (n j : Nat) : List Bool := (List.range 32).map fun i => decide (i < j) && n.testBit i
theorem bitsTo_length (n j : Nat) : (bitsTo n j).length = 32 := by simp [bitsTo]
theorem bitsTo_zero (n : Nat) : bitsTo n 0 = Z32 := by simp [bitsTo, Z32]; decide
theorem bitsTo_get (n j i : Nat) (_hi : i < 32) (h : i < (bitsTo n j).length) : (bitsTo n j)[i] = (decide (i < j) && n.testBit i) := by simp [bitsTo]
theorem bitsTo_step (n j : Nat) (_hj : j < 32) : (bitsTo n j).set j (n.testBit j) = bitsTo n (j + 1) := by
 refine List.ext_getElem (by simp [bitsTo]) (fun i h1 h2 => ?_)
 have hi : i < 32 := by rw [bitsTo_length] at h2; exact h2
 rw [List.getElem_set, bitsTo_get n (j + 1) i hi, bitsTo_get n j i hi]
 by_cases hij : j = i
 ·subst hij
  rw [if_pos rfl]
  simp
 ·rw [if_neg hij]
  congr 1
  exact decide_eq_decide.2 (by omega)
def bitsL (n : Nat) : List Bool := bitsTo n 32
theorem bitsL_get (n i : Nat) (hi : i < 32) : (bitsL n)[i]'(by unfold bitsL; rw [bitsTo_length]; exact hi) = n.testBit i := by
 unfold bitsL
 rw [bitsTo_get n 32 i hi, decide_eq_true hi, Bool.true_and]
theorem two_nb (w : World) (l m : List Bool) : IsB ((w.alloc (oB l)).alloc (oB m)) w.heap.size l ∧ IsB ((w.alloc (oB l)).alloc (oB m)) (w.heap.size + 1) m ∧ Below w.heap.size w ((w.alloc (oB l)).alloc (oB m)) := by
 refine ⟨(IsB.new w l).alloc _, ?_, (below1 w _).alloc (by rw [size_alloc]; omega) _⟩
 have := IsB.new (w.alloc (oB l)) m
 rwa [size_alloc] at this
theorem bits_c (n : Nat) (hn : n < 4294967296) : Ret 62 #[.int .u32 (n : Int)] (bav (bitsL n)) := fun w => by
 obtain ⟨ga0, gb0, hb0⟩ := two_nb w Z32 Z32
 replace ga0 := Hd ga0
 replace gb0 := Hd gb0
 replace hb0 := Hd hb0
 go_enter Tryz.func62, Tryz.ntmps62
 go_wp2_with (first | (with_reducible refine wpl_balloc rfl rfl ?_) | (with_reducible refine wpl_bbuild rfl rfl ?_) | (with_reducible refine wpl_bstore_new rfl rfl rfl rfl (by simp) rfl rfl ?_))
 go_loopw [0, 4] (fun v i wr => ∃ j : Nat, j ≤ 32 ∧ i = .int .i64 j ∧ v = .int .u32 ((n / 2 ^ j : Nat) : Int) ∧ IsB wr w.heap.size Z32 ∧ IsB wr (w.heap.size + 1) (bitsTo n j) ∧ Below w.heap.size w wr) (fun _ i _ => 32 - (intOf i).toNat)
 case atStart => exact ⟨0, Nat.zero_le _, rfl, by simp, ga0.out, by rw [bitsTo_zero]; exact gb0.out, hb0.out⟩
 case round =>
  clear ga0 gb0 hb0
  obtain ⟨j, hj, rfl, rfl, ga, gb, hb⟩ := hrel
  by_cases hlt : j < 32
  ·have hst := bitsTo_step n j hlt
   have hq : n / 2 ^ (j + 1) = n / 2 ^ j / 2 := by rw [Nat.pow_succ, Nat.div_div_eq_div_mul]
   have hbit : n.testBit j = decide (n / 2 ^ j % 2 = 1) := Nat.testBit_eq_decide_div_mod_eq
   have hle : n / 2 ^ j ≤ n := Nat.div_le_self ..
   obtain ⟨v0, cv⟩ := gb.has j (by rw [bitsTo_length]; exact hlt)
   have fv := gb.f j
   rw [hbit] at hst
   clear hbit
   generalize n / 2 ^ j = q at *
   have e1 : ((q : Int) % 2 == 1) = decide (q % 2 = 1) := by
    rw [Bool.eq_iff_iff, beq_iff_eq, decide_eq_true_iff]
    omega
   have hltI : (j : Int) < 32 := by omega
   generalize decide (q % 2 = 1) = b at *
   replace hst := Hd hst
   replace hq := Hd hq
   replace ga := Hd ga
   replace gb := Hd gb
   replace hb := Hd hb
   go_wp2_with fail
   go_roundw
   case rel => exact ⟨j + 1, by omega, by go_num, by rw [hq.out]; simp, ga.out.set_other (by omega), by rw [← hst.out]; first | exact gb.out.set j b | (rw [← e1]; exact gb.out.set j _), hb.out.setCell (show w.heap.size ≤ w.heap.size + 1 by omega) _⟩
   case measure => simp [intOf]; omega
  ·obtain rfl : j = 32 := by omega
   have hl := bitsTo_length n 32
   replace hb := Hd hb
   go_wp2_with (first | (with_reducible refine wpl_bload rfl rfl rfl gb hl ?_) | (with_reducible refine wpl_bstore rfl rfl rfl rfl ga rfl hl ?_))
   (try simp only [Exit.inBlock, Exit.then])
   refine bodyPost_ret (b_result Tryz.results62 _ _ _ _ rfl (ga.row (bitsTo n 32)) hl) rfl ?_
   exact ⟨rfl, below_row hb.out (by omega) _⟩
end Go.Proofs.YtjjgbillihedgaaGreatDoor
namespace Go.Proofs.YtjjgbillihedgaaGreatDoor
open Go.RowKit
open Rf
open Sg
theorem IsB.grown {w w' : World} {b : Nat} {l : List Bool} {row : Option Nat} (h : IsB w b l) (hg : w.grownBy w' row) (hne : row ≠ some b) : IsB w' b l := (hg.block b h.lt (fun e => hne e.symm)).trans h
theorem OwnI.mono {w : World} {B B' : Nat} {a : Option Addr} {c : Nat} {l : List Int} (h : OwnI w B a c l) (hB : B' ≤ B) : OwnI w B' a c l := by
 refine ⟨h.1, ?_⟩
 rcases h.2 with h2 | ⟨g, cap, cur, h3, h4, h5⟩
 ·exact .inl h2
 ·exact .inr ⟨g, cap, cur, h3, by omega, h5⟩
theorem OwnI.own {w : World} {B : Nat} {a : Option Addr} {c : Nat} {l : List Int} (h : OwnI w B a c l) (b : Nat) (hb : b < B) : (Value.slice a l.length c).ownBlock ≠ some b := fun e => by
 have := World.ownsRow.lt h b e
 omega
theorem bitsL_length (n : Nat) : (bitsL n).length = 32 := bitsTo_length n 32
theorem refIds_c (s : Nat) (hs : s < 4294967296) : RetInts 69 #[.int .u32 (s : Int)] (ids s) := fun w => by
 obtain ⟨i0, hi, hz0, hz1, hz2⟩ := info_parts infoInt
 have cb := bits_c s hs
 have hbl := bitsL_length s
 replace cb := Hd cb
 go_enter Tryz.func69, Tryz.ntmps69
 go_wp2_with fail
 refine (cb.out.on _).mono ?_
 rintro e w1 ⟨rfl, hb⟩
 have gb0 := (IsB.new w1 (bitsL s)).alloc (.cells #[] 3)
 have hb0 := ((hb.alloc hb.size (oB (bitsL s))).alloc (by have := hb.size; rw [size_alloc]; omega) (.cells #[] 3))
 have hown0 : OwnI ((w1.alloc (oB (bitsL s))).alloc (.cells #[] 3)) (w1.heap.size + 1) (some ⟨w1.heap.size + 1, 0, none⟩) 0 [] := by
  have := ownsRow_lit (w1.alloc (oB (bitsL s))) (w1.heap.size + 1) 3 [] 0 (by rw [size_alloc]; omega) rfl (by unfold maxLen; omega)
  rw [size_alloc] at this
  exact this
 have hq := hb.size
 clear hb
 replace gb0 := Hd gb0
 replace hb0 := Hd hb0
 replace hown0 := Hd hown0
 go_wp2_with (first | (with_reducible refine wpl_balloc rfl rfl ?_) | (with_reducible refine wpl_bstore_new rfl rfl rfl rfl rfl rfl hbl ?_))
 go_loopw [4, 5] (fun b i wr => ∃ k : Nat, k ≤ 24 ∧ i = .int .i64 ((k : Int) + 1) ∧ (∃ a c, b = .slice a (idsFrom s 1 k).length c ∧ OwnI wr (w1.heap.size + 1) a c (idsFrom s 1 k)) ∧ IsB wr w1.heap.size (bitsL s) ∧ Below w.heap.size w wr) (fun _ i _ => 25 - (intOf i).toNat)
 case atStart => exact ⟨0, Nat.zero_le _, rfl, ⟨some ⟨w1.heap.size + 1, 0, none⟩, 0, rfl, hown0.out⟩, gb0.out, hb0.out⟩
 case round =>
  clear gb0 hb0 hown0
  obtain ⟨k, hk, rfl, ⟨a, c, rfl, hown⟩, gb, hb⟩ := hrel
  have hsz := hb.size
  by_cases hlt : k < 24
  ·have cv := gb.cell (1 + k) (by rw [hbl]; omega)
   rw [bitsL_get s (1 + k) (by omega)] at cv
   have hsn := idsFrom_snoc s 1 k
   have hln := idsFrom_len s 1 k
   have hI1 : (k : Int) + 1 ≤ 24 := by omega
   have hI2 : (k : Int) + 1 < 32 := by omega
   have hI3 : ((k : Int) + 1).toNat = 1 + k := by omega
   generalize hL : idsFrom s 1 k = L at *
   replace hL := Hd hL
   generalize hL' : idsFrom s 1 (k + 1) = L' at *
   replace hL' := Hd hL'
   generalize s.testBit (1 + k) = b at *
   replace hsn := Hd hsn
   replace gb := Hd gb
   replace hown := Hd hown
   replace hb := Hd hb
   obtain ⟨q, hq2⟩ : ∃ q, 1 + k = q := ⟨_, rfl⟩
   rw [hq2] at cv hI3
   have hI4 : (k : Int) + 1 = (q : Int) := by omega
   have hI5 : (q : Int) ≤ 24 := by omega
   have hI6 : (q : Int) < 32 := by omega
   rw [hI4]
   clear hI1 hI2 hI3
   replace hq2 := Hd hq2
   replace hI4 := Hd hI4
   cases b with
   | false =>
     have hsn' := hsn.out
     rw [if_neg (by decide), List.append_nil] at hsn'
     subst hsn'
     clear hsn
     go_wp2_with fail
     go_roundw
     case rel => exact ⟨k + 1, by omega, by have := hI4.out; go_num, ⟨a, c, by rw [hL'.out], by rw [hL'.out]; exact hown.out⟩, gb.out, hb.out⟩
     case measure => simp [intOf]; omega
   | true =>
     have hsrc := src_one wr (q : Int)
     go_wp2_with (at_builtin; refine wpList_append_own_src _ rfl (.tmp 16) (.tmp 18) 105 105 rfl (w1.heap.size + 1) 3 i0 (.int .i64 0) 1 8 Tryz.underlying105 hi hz0 hz1 hz2 rfl rfl (hown.out.alloc _) rfl hsrc ?_ ?_ ?_ ?_)
     ·unfold maxLen; omega
     ·omega
     ·have := gb.out.lt; (try simp only [size_alloc]); omega
     intro b' c' w2 hown2 hg1
     have hlt1 := gb.out.lt
     have hfin := Hd (Below.grown (hb.out.alloc hsz (.cells #[.int .i64 (q : Int)] 3)) hg1 (by rw [size_alloc]; omega) (fun r hr => by have := World.ownsRow.lt hown.out r hr; omega))
     have gb2 := Hd ((gb.out.alloc (.cells #[.int .i64 (q : Int)] 3)).grown hg1 (OwnI.own hown.out _ (by omega)))
     rw [show ([.int .i64 (q : Int)] : List Value) = iv [(q : Int)] from rfl, ← iv_append] at hown2
     have hsn' := hsn.out
     rw [if_pos trivial, hq2.out] at hsn'
     replace hsn' := Hd hsn'
     have hown3 : OwnI w2 (w1.heap.size + 1) b' c' (L ++ [(q : Int)]) := by
      unfold OwnI
      rw [List.length_append]
      exact hown2
     replace hown3 := Hd hown3
     clear hown2 hg1 hsrc hown hb hsn gb
     go_wp2_with fail
     go_roundw
     case rel => exact ⟨k + 1, by omega, by have := hI4.out; go_num, ⟨b', c', by rw [hL'.out, hsn'.out, List.length_append]; rfl, by rw [hL'.out, hsn'.out]; exact hown3.out⟩, gb2.out, hfin.out⟩
     case measure => have := hI4.out; simp [intOf]; omega
  ·obtain rfl : k = 24 := by omega
   replace gb := Hd gb
   go_wp2_with fail
   go_ret
   exact ⟨a, c, rfl, hown.mono (by omega), hb⟩
/-- ints that can be read at a slice -/
def InI (w : World) (a : Option Addr) (l : List Int) : Prop := l = [] ∨ ∃ g o, a = some ⟨g, o, none⟩ ∧ g < w.heap.size ∧ ∀ j (hj : j < l.length), w.cell? ⟨g, o + j, none⟩ = some (.int .i64 l[j])
theorem InI.below {w w' : World} {a : Option Addr} {l : List Int} (h : InI w a l) (hb : Below w.heap.size w w') : InI w' a l := by
 rcases h with rfl | ⟨g, o, rfl, hg, hc⟩
 ·exact .inl rfl
 ·exact .inr ⟨g, o, rfl, Nat.lt_of_lt_of_le hg hb.size, fun j hj => by rw [hb.cell (p := ⟨g, o + j, none⟩) hg]; exact hc j hj⟩
theorem OwnI.in {w : World} {B : Nat} {a : Option Addr} {c : Nat} {l : List Int} (h : OwnI w B a c l) : InI w a l := by
 rcases Nat.eq_zero_or_pos l.length with h0 | h0
 ·exact .inl (List.eq_nil_of_length_eq_zero h0)
 ·obtain ⟨g, hg, _, hlt, _⟩ := h.cell 0 h0
  refine .inr ⟨g, 0, hg, hlt, fun j hj => ?_⟩
  obtain ⟨g', hg', _, _, hc⟩ := h.cell j hj
  rw [hg] at hg'
  cases hg'
  rw [Nat.zero_add]
  exact hc
theorem InI.at {w : World} {a : Option Addr} {l : List Int} (h : InI w a l) (j : Nat) (hj : j < l.length) : ∃ g o, a = some ⟨g, o, none⟩ ∧ g < w.heap.size ∧ w.cell? ⟨g, o + j, none⟩ = some (.int .i64 l[j]) := by
 rcases h with rfl | ⟨g, o, h1, h2, h3⟩
 ·cases hj
 ·exact ⟨g, o, h1, h2, h3 j hj⟩
theorem InI.drew {w : World} {a : Option Addr} {l : List Int} (h : InI w a l) : InI w.drew a l := h
theorem InI.drewN {w : World} {k : Nat} {a : Option Addr} {l : List Int} (h : InI w a l) : InI (w.drewN k) a l := h
namespace Sg
/-- the set of ids; whether each can be -/
def setOf (l : List Int) : Nat := l.foldl withF 0
def okL (l : List Int) : Bool := l.all isId
theorem setOf_snoc (l : List Int) (x : Int) : setOf (l ++ [x]) = withF (setOf l) x := by simp [setOf]
theorem setOf_lt (l : List Int) : setOf l < 4294967296 := by
 suffices h : ∀ (l : List Int) (s : Nat), s < 4294967296 → l.foldl withF s < 4294967296 from h l 0 (by decide)
 intro l
 induction l with
 | nil => exact fun s hs => hs
 | cons x l ih => exact fun s hs => ih _ (with_lt hs x)
theorem set_bit (l : List Int) (j : Nat) : (setOf l).testBit j = decide (isId (j : Int) = true ∧ (j : Int) ∈ l) := by
 suffices h : ∀ (l : List Int) (s : Nat), (l.foldl withF s).testBit j = (s.testBit j || decide (isId (j : Int) = true ∧ (j : Int) ∈ l)) by
  have := h l 0
  rw [Nat.zero_testBit, Bool.false_or] at this
  exact this
 intro l
 induction l with
 | nil => intro s; simp
 | cons x l ih =>
   intro s
   rw [List.foldl_cons, ih, with_bit, Bool.or_assoc]
   congr 1
   rw [Bool.eq_iff_iff]
   simp only [Bool.or_eq_true, Bool.and_eq_true, decide_eq_true_iff, List.mem_cons]
   constructor
   ·rintro (⟨h1, rfl⟩ | ⟨h1, h2⟩)
    ·exact ⟨h1, .inl rfl⟩
    ·exact ⟨h1, .inr h2⟩
   ·rintro ⟨h1, rfl | h2⟩
    ·exact .inl ⟨h1, rfl⟩
    ·exact .inr ⟨h1, h2⟩
end Sg
/-- sig.Of -/
theorem of_c (l : List Int) (hL : l.length ≤ 140737488355328) (a : Option Addr) (c : Nat) (w : World) (hin : InI w a l) :
 Calls Tryz.prog 86 #[.slice a l.length c] w fun e w' => e = .returned (.tuple #[.int .u32 ((if okL l = true then setOf l else 0 : Nat) : Int), .int .i64 (if okL l = true then 0 else 1)]) ∧ Below w.heap.size w w' := by
 obtain ⟨rS, hrS⟩ : ∃ r, (if okL l = true then setOf l else 0) = r := ⟨_, rfl⟩
 obtain ⟨rE, hrE⟩ : ∃ r : Int, (if okL l = true then 0 else 1) = r := ⟨_, rfl⟩
 rw [hrS, hrE]
 replace hrS := Hd hrS
 replace hrE := Hd hrE
 replace hin := Hd hin
 go_enter Tryz.func86, Tryz.ntmps86
 go_wp2_with fail
 go_loopw [4, 9] (fun v i wr => ∃ j : Nat, j ≤ l.length ∧ i = .int .i64 j ∧ v = .int .u32 ((setOf (l.take j) : Nat) : Int) ∧ okL (l.take j) = true ∧ InI wr a l ∧ Below w.heap.size w wr) (fun _ i _ => l.length - (intOf i).toNat)
 case atStart => exact ⟨0, Nat.zero_le _, rfl, rfl, rfl, hin.out, Below.refl _ _⟩
 case round =>
  clear hin
  obtain ⟨j, hj, rfl, rfl, hok, hin, hb⟩ := hrel
  by_cases hlt : j < l.length
  ·obtain ⟨g, o, rfl, hg, hc⟩ := hin.at j hlt
   have hst : l.take (j + 1) = l.take j ++ [l[j]] := List.take_succ_eq_append_getElem hlt
   have hltI : (j : Int) < (l.length : Int) := by omega
   have hsl := setOf_lt (l.take j)
   have hmem : l[j] ∈ l := List.getElem_mem hlt
   generalize l[j] = x at *
   have ci := isId_c x
   cases hx : isId x with
   | false =>
     rw [hx] at ci
     have hno : okL l = false := by
      unfold okL
      rw [List.all_eq_false]
      exact ⟨x, hmem, by rw [hx]; decide⟩
     clear hst hok hx hmem
     replace ci := Hd ci
     replace hin := Hd hin
     replace hb := Hd hb
     have h1 := hrS.out
     have h2 := hrE.out
     rw [hno, if_neg (by decide)] at h1 h2
     subst h1 h2
     clear hrS hrE hno
     go_wp2_with fail
     refine (ci.out.on _).mono ?_
     rintro e w1 ⟨rfl, rfl⟩
     go_wp2_with fail
     (try simp only [Exit.inBlock, Exit.then])
     refine bodyPost_ret (by simp [results, Tryz.results86, go_sem]; try rfl) rfl ?_
     exact ⟨rfl, hb.out⟩
   | true =>
     rw [hx] at ci
     have hok' : okL (l.take (j + 1)) = true := by
      unfold okL at *
      rw [hst, List.all_append, hok]
      simp [hx]
     have hset : setOf (l.take (j + 1)) = withF (setOf (l.take j)) x := by rw [hst, setOf_snoc]
     have cw := with_c (setOf (l.take j)) hsl x
     clear hst hok hx hmem
     replace hok' := Hd hok'
     obtain ⟨S', hS'⟩ : ∃ S', setOf (l.take (j + 1)) = S' := ⟨_, rfl⟩
     rw [hS'] at hset
     rw [← hset] at cw
     replace hset := Hd hset
     replace hS' := Hd hS'
     generalize setOf (l.take j) = S at *
     replace ci := Hd ci
     replace cw := Hd cw
     replace hin := Hd hin
     replace hb := Hd hb
     go_wp2_with fail
     refine (ci.out.on _).mono ?_
     rintro e w1 ⟨rfl, rfl⟩
     go_wp2_with fail
     refine (cw.out.on _).mono ?_
     rintro e w1 ⟨rfl, rfl⟩
     go_wp2_with fail
     go_roundw
     case rel => exact ⟨j + 1, by omega, by go_num, by rw [hS'.out], hok'.out, hin.out, hb.out⟩
     case measure => simp [intOf]; omega
  ·obtain rfl : j = l.length := by omega
   rw [List.take_length] at hok ⊢
   have h1 := hrS.out
   have h2 := hrE.out
   rw [hok, if_pos rfl] at h1 h2
   rw [h1]
   subst h2
   clear hrS hrE hin hok h1
   replace hb := Hd hb
   go_wp2_with fail
   (try simp only [Exit.inBlock, Exit.then])
   refine bodyPost_ret (by simp [results, Tryz.results86, go_sem]; try rfl) rfl ?_
   exact ⟨rfl, hb.out⟩
theorem isF_no {s : Nat} (hs : s < 4294967296) {j : Nat} (hj : s.testBit j = true) (hn : ¬ (1 ≤ j ∧ j ≤ 24)) : isF s = false := by
 cases h : isF s with
 | false => rfl
 | true => exact absurd ((is_iff hs).1 h j hj) hn
theorem refIs_c (s : Nat) (hs : s < 4294967296) : Ret 32 #[.int .u32 (s : Int)] (.bool (isF s)) := fun w => by
 have cb := bits_c s hs
 have hbl := bitsL_length s
 replace cb := Hd cb
 obtain ⟨r, hr⟩ : ∃ r, isF s = r := ⟨_, rfl⟩
 rw [hr]
 replace hr := Hd hr
 go_enter Tryz.func32, Tryz.ntmps32
 go_wp2_with fail
 refine (cb.out.on _).mono ?_
 rintro e w1 ⟨rfl, hb⟩
 have gb0 := IsB.new w1 (bitsL s)
 have hb0 := hb.alloc hb.size (oB (bitsL s))
 clear hb
 replace gb0 := Hd gb0
 replace hb0 := Hd hb0
 go_wp2_with (first | (with_reducible refine wpl_balloc rfl rfl ?_) | (with_reducible refine wpl_bstore_new rfl rfl rfl rfl rfl rfl hbl ?_))
 go_loopw [4] (fun i wr => ∃ j : Nat, j ≤ 32 ∧ i = .int .i64 j ∧ (∀ k, k < j → s.testBit k = true → 1 ≤ k ∧ k ≤ 24) ∧ IsB wr w1.heap.size (bitsL s) ∧ Below w.heap.size w wr) (fun i _ => 32 - (intOf i).toNat)
 case atStart => exact ⟨0, Nat.zero_le _, rfl, fun k hk => by omega, gb0.out, hb0.out⟩
 case round =>
  clear gb0 hb0
  obtain ⟨j, hj, rfl, hall, gb, hb⟩ := hrel
  by_cases hlt : j < 32
  ·have cv := gb.cell j (by rw [hbl]; exact hlt)
   rw [bitsL_get s j hlt] at cv
   have hltI : (j : Int) < 32 := by omega
   cases hbit : s.testBit j with
   | false =>
     rw [hbit] at cv
     have hall' : ∀ k, k < j + 1 → s.testBit k = true → 1 ≤ k ∧ k ≤ 24 := fun k hk hk2 => by
      by_cases he : k = j
      ·subst he
       rw [hbit] at hk2
       cases hk2
      ·exact hall k (by omega) hk2
     clear hall hbit
     replace hall' := Hd hall'
     replace gb := Hd gb
     replace hb := Hd hb
     go_wp2_with fail
     go_roundw
     case rel => exact ⟨j + 1, by omega, by go_num, hall'.out, gb.out, hb.out⟩
     case measure => simp [intOf]; omega
   | true =>
     rw [hbit] at cv
     by_cases hin : 1 ≤ j ∧ j ≤ 24
     ·have hall' : ∀ k, k < j + 1 → s.testBit k = true → 1 ≤ k ∧ k ≤ 24 := fun k hk hk2 => by
       by_cases he : k = j
       ·subst he
        exact hin
       ·exact hall k (by omega) hk2
      have h1 : ¬ (j : Int) < 1 := by omega
      have h2 : ¬ (24 : Int) < (j : Int) := by omega
      clear hall hbit
      replace hall' := Hd hall'
      replace gb := Hd gb
      replace hb := Hd hb
      go_wp2_with fail
      go_roundw
      case rel => exact ⟨j + 1, by omega, by go_num, hall'.out, gb.out, hb.out⟩
      case measure => simp [intOf]; omega
     ·have h1 := hr.out
      rw [isF_no hs hbit hin] at h1
      subst h1
      clear hall hbit hr
      replace gb := Hd gb
      replace hb := Hd hb
      by_cases h0 : j = 0
      ·subst h0
       go_wp2_with fail
       go_ret
       exact ⟨rfl, hb.out⟩
      ·have h1 : ¬ (j : Int) < 1 := by omega
       have h2 : (24 : Int) < (j : Int) := by omega
       go_wp2_with fail
       go_ret
       exact ⟨rfl, hb.out⟩
  ·obtain rfl : j = 32 := by omega
   have h1 := hr.out
   rw [(is_iff hs).2 (fun k hk => hall k (Nat.lt_of_not_le (fun h32 => by rw [high_bit hs k h32] at hk; cases hk)) hk)] at h1
   subst h1
   clear hall hr gb
   replace hb := Hd hb
   go_wp2_with fail
   go_ret
   exact ⟨rfl, hb.out⟩
namespace Sg
/-- the bits that ids set -/
def marks (l : List Int) : List Bool := (List.range 32).map fun i : Nat => decide ((i : Int) ∈ l)
theorem marks_length (l : List Int) : (marks l).length = 32 := by simp [marks]
theorem marks_nil : marks [] = Z32 := by simp [marks, Z32]; decide
theorem marks_get (l : List Int) (i : Nat) (h : i < (marks l).length) : (marks l)[i] = decide ((i : Int) ∈ l) := by simp [marks]
theorem marks_snoc (l : List Int) (k : Nat) : (marks l).set k true = marks (l ++ [(k : Int)]) := by
 refine List.ext_getElem (by simp [marks]) (fun i h1 h2 => ?_)
 rw [List.getElem_set, marks_get, marks_get]
 by_cases hik : k = i
 ·subst hik
  rw [if_pos rfl]
  simp
 ·rw [if_neg hik]
  refine decide_eq_decide.2 ?_
  rw [List.mem_append]
  constructor
  ·exact fun h => .inl h
  ·rintro (h | h)
   ·exact h
   ·have := List.mem_singleton.1 h
    omega
theorem marks_bit {l : List Int} (h : okL l = true) (i : Nat) (hi : i < (marks l).length) : (marks l)[i] = (setOf l).testBit i := by
 rw [marks_get, set_bit]
 refine decide_eq_decide.2 ⟨fun hm => ⟨?_, hm⟩, fun hm => hm.2⟩
 exact List.all_eq_true.1 h _ hm
theorem high_part (n k : Nat) : n / 2 ^ k = 2 * (n / 2 ^ (k + 1)) + (if n.testBit k = true then 1 else 0) := by
 rw [Nat.testBit_eq_decide_div_mod_eq, Nat.pow_succ, ← Nat.div_div_eq_div_mul]
 generalize n / 2 ^ k = q
 by_cases h : q % 2 = 1
 ·rw [if_pos (by simpa using h)]; omega
 ·rw [if_neg (by simpa using h)]; omega
end Sg
theorem refOf_c (l : List Int) (hL : l.length ≤ 140737488355328) (a : Option Addr) (c : Nat) (w : World) (hin : InI w a l) :
 Calls Tryz.prog 131 #[.slice a l.length c] w fun e w' => e = .returned (.tuple #[.int .u32 ((if okL l = true then setOf l else 0 : Nat) : Int), .bool (okL l)]) ∧ Below w.heap.size w w' := by
 obtain ⟨rS, hrS⟩ : ∃ r, (if okL l = true then setOf l else 0) = r := ⟨_, rfl⟩
 obtain ⟨rE, hrE⟩ : ∃ r, okL l = r := ⟨_, rfl⟩
 rw [hrS]
 rw [hrE]
 have gb0 := IsB.new w Z32
 have hb0 := below1 w (oB Z32)
 have hin0 := hin.below hb0
 have hne0 : ∀ g o, a = some ⟨g, o, none⟩ → l ≠ [] → g ≠ w.heap.size := fun g o ha hl => by
  rcases hin with h | ⟨g2, o2, h2, h3, _⟩
  ·exact absurd h hl
  ·rw [ha] at h2
   cases h2
   omega
 replace hne0 := Hd hne0
 replace hrS := Hd hrS
 replace hrE := Hd hrE
 replace gb0 := Hd gb0
 replace hb0 := Hd hb0
 replace hin0 := Hd hin0
 clear hin
 go_enter Tryz.func131, Tryz.ntmps131
 go_wp2_with (first | (with_reducible refine wpl_balloc rfl rfl ?_) | (with_reducible refine wpl_bbuild rfl rfl ?_) | (with_reducible refine wpl_bstore_new rfl rfl rfl rfl rfl rfl rfl ?_))
 go_loopw [5] (fun i wr => ∃ j : Nat, j ≤ l.length ∧ i = .int .i64 j ∧ okL (l.take j) = true ∧ InI wr a l ∧ (∀ g o, a = some ⟨g, o, none⟩ → l ≠ [] → g ≠ w.heap.size) ∧ IsB wr w.heap.size (marks (l.take j)) ∧ Below w.heap.size w wr) (fun i _ => l.length - (intOf i).toNat)
 case atStart => exact ⟨0, Nat.zero_le _, rfl, rfl, hin0.out, hne0.out, by rw [List.take_zero, marks_nil]; exact gb0.out, hb0.out⟩
 case round =>
  clear hin0 gb0 hb0 hne0
  obtain ⟨j, hj, rfl, hok, hin, hne, gb, hb⟩ := hrel
  by_cases hlt : j < l.length
  ·obtain ⟨g, o, rfl, hg, hc⟩ := hin.at j hlt
   have hgn := hne g o rfl (fun h => by rw [h] at hlt; cases hlt)
   have hst : l.take (j + 1) = l.take j ++ [l[j]] := List.take_succ_eq_append_getElem hlt
   have hltI : (j : Int) < (l.length : Int) := by omega
   have hmem : l[j] ∈ l := List.getElem_mem hlt
   generalize l[j] = x at *
   by_cases hx : 1 ≤ x ∧ x ≤ 24
   ·obtain ⟨k, rfl⟩ : ∃ k : Nat, x = k := ⟨x.toNat, by omega⟩
    have hk : k ≤ 24 := by omega
    have h1 : ¬ (k : Int) < 1 := by omega
    have h2 : ¬ (24 : Int) < (k : Int) := by omega
    have h3 : (k : Int) < 32 := by omega
    have hok' : okL (l.take (j + 1)) = true := by
     unfold okL at *
     rw [hst, List.all_append, hok]
     unfold isId
     simp
     omega
    have hm := marks_snoc (l.take j) k
    rw [← hst] at hm
    obtain ⟨v0, cv⟩ := gb.has k (by rw [marks_length]; omega)
    have fv := gb.f k
    have gb' := gb.set k true
    rw [hm] at gb'
    have hin' : InI (wr.setCell ⟨w.heap.size, k, none⟩ (.bool true)) (some ⟨g, o, none⟩) l := by
     rcases hin with rfl | ⟨g2, o2, hg2, hg3, hc3⟩
     ·exact .inl rfl
     ·cases hg2
      refine .inr ⟨g, o, rfl, ?_, fun q hq => ?_⟩
      ·show g < (wr.heap.modify _ _).size
       rw [Array.size_modify]
       exact hg3
      ·have h4 := hc3 q hq
       unfold World.cell? at h4 ⊢
       rw [show (wr.setCell ⟨w.heap.size, k, none⟩ (.bool true)).heap[g]? = wr.heap[g]? from by
        show (wr.heap.modify w.heap.size _)[g]? = _
        rw [Array.getElem?_modify, if_neg (fun hh => hgn hh.symm)]]
       exact h4
    have hb' := hb.setCell (show w.heap.size ≤ (⟨w.heap.size, k, none⟩ : Addr).block from Nat.le_refl _) (.bool true)
    clear hok hst hmem hm gb hb hin
    replace hne := Hd hne
    replace hok' := Hd hok'
    replace gb' := Hd gb'
    replace hin' := Hd hin'
    replace hb' := Hd hb'
    go_wp2_with fail
    go_roundw
    case rel => exact ⟨j + 1, by omega, by go_num, hok'.out, hin'.out, hne.out, gb'.out, hb'.out⟩
    case measure => simp [intOf]; omega
   ·have hno : okL l = false := by
     unfold okL
     rw [List.all_eq_false]
     exact ⟨x, hmem, by unfold isId; simp; omega⟩
    have h1 := hrS.out
    have h2 := hrE.out
    rw [hno] at h1 h2
    rw [if_neg (by decide)] at h1
    subst h1 h2
    clear hrS hrE hno hst hok hmem hne
    replace hin := Hd hin
    replace gb := Hd gb
    replace hb := Hd hb
    by_cases hx1 : x < 1
    ·go_wp2_with fail
     (try simp only [Exit.inBlock, Exit.then])
     refine bodyPost_ret (by simp [results, Tryz.results131, go_sem]; try rfl) rfl ?_
     exact ⟨rfl, hb.out⟩
    ·have hx2 : 24 < x := by omega
     go_wp2_with fail
     (try simp only [Exit.inBlock, Exit.then])
     refine bodyPost_ret (by simp [results, Tryz.results131, go_sem]; try rfl) rfl ?_
     exact ⟨rfl, hb.out⟩
  ·obtain rfl : j = l.length := by omega
   rw [List.take_length] at hok gb
   have h1 := hrS.out
   have h2 := hrE.out
   rw [hok] at h1 h2
   rw [if_pos rfl] at h1
   subst h1 h2
   have hsl := setOf_lt l
   have hmb := fun i hi => marks_bit hok i hi
   have hml := marks_length l
   have hpart := high_part (setOf l)
   have hdiv := fun k => Nat.div_le_self (setOf l) (2 ^ k)
   have h32 : setOf l / 2 ^ 32 = 0 := Nat.div_eq_of_lt (by simpa using hsl)
   clear hrS hrE hin hne hok
   generalize marks l = m at *
   generalize hSS : setOf l = S at *
   replace hSS := Hd hSS
   replace hmb := Hd hmb
   replace hml := Hd hml
   replace hpart := Hd hpart
   replace hdiv := Hd hdiv
   replace h32 := Hd h32
   replace gb := Hd gb
   replace hb := Hd hb
   go_wp2_with fail
   obtain ⟨wo, rfl⟩ : ∃ wo : World, wo = wr := ⟨_, rfl⟩
   go_loopw [6, 7] (fun v i wi => ∃ k : Nat, k ≤ 32 ∧ i = .int .i64 ((k : Int) - 1) ∧ v = .int .u32 ((S / 2 ^ k : Nat) : Int) ∧ IsB wi w.heap.size m ∧ Below w.heap.size w wi) (fun _ i _ => (intOf i + 1).toNat)
   case atStart => exact ⟨32, Nat.le_refl _, rfl, by rw [h32.out]; rfl, gb.out, hb.out⟩
   case round =>
    clear gb hb
    obtain ⟨k, hk, rfl, rfl, gb, hb⟩ := hrel
    by_cases hk0 : 0 < k
    ·obtain ⟨i, rfl⟩ : ∃ i, k = i + 1 := ⟨k - 1, by omega⟩
     rw [show (((i + 1 : Nat) : Int)) - 1 = (i : Int) by omega]
     have hi0 : (0 : Int) ≤ (i : Int) := by omega
     have hi32 : (i : Int) < 32 := by omega
     have cv := gb.cell i (by rw [hml.out]; omega)
     rw [hmb.out i (by rw [hml.out]; omega)] at cv
     have hp := hpart.out i
     have hd := hdiv.out i
     generalize S.testBit i = b at *
     obtain ⟨q, hq⟩ : ∃ q, S / 2 ^ i = q := ⟨_, rfl⟩
     obtain ⟨p, hp2⟩ : ∃ p, S / 2 ^ (i + 1) = p := ⟨_, rfl⟩
     rw [hq] at hp hd
     rw [hp2] at hp
     rw [hp2]
     replace hq := Hd hq
     replace hp2 := Hd hp2
     replace gb := Hd gb
     replace hb := Hd hb
     cases b with
     | false =>
       rw [if_neg (by decide)] at hp
       have e1 : IntKind.u32.wrap ((p : Int) * 2) = (p : Int) * 2 := IntWalk.u32_in _ (by omega)
       replace hp := Hd hp
       go_wp2_with fail
       go_roundw
       case rel => exact ⟨i, by omega, by go_num, by rw [hq.out, hp.out]; simp [Int.mul_comm], gb.out, hb.out⟩
       case measure => simp [intOf]
     | true =>
       rw [if_pos rfl] at hp
       have e1 : IntKind.u32.wrap ((p : Int) * 2) = (p : Int) * 2 := IntWalk.u32_in _ (by omega)
       have e2 : IntKind.u32.wrap ((p : Int) * 2 + 1) = (p : Int) * 2 + 1 := IntWalk.u32_in _ (by omega)
       replace hp := Hd hp
       go_wp2_with fail
       go_roundw
       case rel => exact ⟨i, by omega, by go_num, by rw [hq.out, hp.out]; simp [Int.mul_comm], gb.out, hb.out⟩
       case measure => simp [intOf]
    ·obtain rfl : k = 0 := by omega
     rw [show ((0 : Nat) : Int) - 1 = -1 from rfl, Nat.pow_zero, Nat.div_one]
     replace gb := Hd gb
     replace hb := Hd hb
     go_wp2_with fail
     (try simp only [Exit.inBlock, Exit.then])
     refine bodyPost_ret (by simp [results, Tryz.results131, go_sem]; try rfl) rfl ?_
     exact ⟨by rw [hSS.out], hb.out⟩
end Go.Proofs.YtjjgbillihedgaaGreatDoor
namespace Go.Proofs.YtjjgbillihedgaaGreatDoor
namespace Wide
structure WI where
 n : Bool
 h : Int
 l : Int
def WI.Ok (x : WI) : Prop := 0 ≤ x.h ∧ x.h ≤ 18446744073709551615 ∧ 0 ≤ x.l ∧ x.l ≤ 18446744073709551615
/-- 0, as two words -/
def nil2 (h l : Int) : Bool := (h == 0) && (l == 0)
def WI.form (x : WI) : Bool := decide (x.h < 9223372036854775808) && (!x.n || !nil2 x.h x.l)
def WI.sz (x : WI) : Int := x.h * 18446744073709551616 + x.l
def WI.val (x : WI) : Int := if x.n = true then -x.sz else x.sz
def zero : WI := ⟨false, 0, 0⟩
def made (n : Bool) (h l : Int) : WI := ⟨n && !nil2 h l, h, l⟩
def neg (n : Bool) (s : Int) : Int := if n = true then -s else s
/-- the number of a value -/
def mk (v : Int) : WI := ⟨decide (v < 0), (v.natAbs : Int) / 18446744073709551616, (v.natAbs : Int) % 18446744073709551616⟩
/-- there is a number of it -/
def In (v : Int) : Bool := decide (-170141183460469231731687303715884105728 < v) && decide (v < 170141183460469231731687303715884105728)
/-- a result, and its error -/
def R (v : Int) : WI × Int := if In v = true then (mk v, 0) else (zero, 3)
theorem nil2_true {h l : Int} (e : nil2 h l = true) : h = 0 ∧ l = 0 := by simpa [nil2] using e
theorem nil2_false {h l : Int} (e : nil2 h l = false) : ¬ (h = 0 ∧ l = 0) := by
 intro ⟨a, b⟩; subst a; subst b; cases e
theorem In_iff {v : Int} : In v = true ↔ -170141183460469231731687303715884105728 < v ∧ v < 170141183460469231731687303715884105728 := by simp [In]
theorem mk_ok (v : Int) (hv : In v = true) : (mk v).Ok := by
 rw [In_iff] at hv
 unfold mk WI.Ok
 dsimp only
 omega
theorem form_lt {x : WI} (hf : x.form = true) : x.h < 9223372036854775808 := by
 unfold WI.form at hf; rw [Bool.and_eq_true] at hf; exact of_decide_eq_true hf.1
theorem form_neg {x : WI} (hf : x.form = true) (hn : x.n = true) : nil2 x.h x.l = false := by
 unfold WI.form at hf; rw [Bool.and_eq_true] at hf
 have h2 := hf.2
 rw [hn] at h2
 revert h2
 cases nil2 x.h x.l <;> decide
theorem made_mk (n : Bool) (h l : Int) (h0 : 0 ≤ h) (l0 : 0 ≤ l) (l1 : l ≤ 18446744073709551615) : made n h l = mk (neg n (h * 18446744073709551616 + l)) := by
 cases n with
 | false =>
   have e : ¬ (h * 18446744073709551616 + l < 0) := by omega
   simp only [made, mk, neg, Bool.false_and, Bool.false_eq_true, if_false, decide_eq_false e, WI.mk.injEq, true_and]
   omega
 | true =>
   cases hz : nil2 h l with
   | true =>
     obtain ⟨rfl, rfl⟩ := nil2_true hz
     rfl
   | false =>
     have := nil2_false hz
     have e : -(h * 18446744073709551616 + l) < 0 := by omega
     simp only [made, mk, neg, hz, Bool.not_false, Bool.and_true, if_true, decide_eq_true e, WI.mk.injEq, true_and]
     omega
theorem mk_of {x : WI} (ho : x.Ok) (hf : x.form = true) : mk x.val = x := by
 obtain ⟨n, h, l⟩ := x
 obtain ⟨o1, o2, o3, o4⟩ := ho
 have e := made_mk n h l o1 o3 o4
 have : made n h l = ⟨n, h, l⟩ := by
  cases n with
  | false => rfl
  | true => have := form_neg hf rfl; simp only at this; simp only [made, this]; rfl
 rw [this] at e
 exact e.symm
theorem sz_bd {x : WI} (ho : x.Ok) (hf : x.form = true) : 0 ≤ x.sz ∧ x.sz < 170141183460469231731687303715884105728 := by
 obtain ⟨o1, o2, o3, o4⟩ := ho
 have := form_lt hf
 unfold WI.sz
 omega
theorem sz_zero {x : WI} (ho : x.Ok) : x.sz = 0 ↔ nil2 x.h x.l = true := by
 obtain ⟨o1, o2, o3, o4⟩ := ho
 unfold WI.sz
 constructor
 ·intro h
  have h1 : x.h = 0 := by omega
  have h2 : x.l = 0 := by omega
  rw [h1, h2]; rfl
 ·intro h
  obtain ⟨h1, h2⟩ := nil2_true h
  omega
/-- the functions of the package, as Lean's -/
def addF (x y : WI) : WI × Int := if (x.form && y.form) = true then R (x.val + y.val) else (zero, 1)
def mulF (x y : WI) : WI × Int := if (x.form && y.form) = true then R (x.val * y.val) else (zero, 1)
def sgn (v : Int) : Int := if v < 0 then -1 else if v = 0 then 0 else 1
end Wide
namespace Wide
/-- a number's two words -/
def nw (q : Nat) : WI := ⟨false, ((q / 18446744073709551616 : Nat) : Int), ((q % 18446744073709551616 : Nat) : Int)⟩
theorem nw_ok {q : Nat} (h : q < 340282366920938463463374607431768211456) : (nw q).Ok := by
 unfold nw WI.Ok
 dsimp only
 omega
theorem nw_sz (q : Nat) : (nw q).sz = q := by
 unfold nw WI.sz
 dsimp only
 omega
/-- the digits of a number -/
def digs (n : Nat) : List UInt8 := if n < 10 then [UInt8.ofNat (48 + n)] else digs (n / 10) ++ [UInt8.ofNat (48 + n % 10)]
/-- the digits that are still to be written, when some are -/
def more (n : Nat) : List UInt8 := if n = 0 then [] else digs n
def isDig (c : UInt8) : Bool := decide (48 ≤ c.toNat) && decide (c.toNat ≤ 57)
def valD (l : List UInt8) : Nat := l.foldl (fun a c => a * 10 + (c.toNat - 48)) 0
theorem digs_more (n : Nat) : digs n = more (n / 10) ++ [UInt8.ofNat (48 + n % 10)] := by
 rw [digs]
 unfold more
 by_cases h : n < 10
 ·rw [if_pos h, if_pos (by omega), Nat.mod_eq_of_lt h]; rfl
 ·rw [if_neg h, if_neg (by omega)]
theorem valD_snoc (l : List UInt8) (c : UInt8) : valD (l ++ [c]) = valD l * 10 + (c.toNat - 48) := by
 unfold valD
 rw [List.foldl_append]
 rfl
theorem dig_toNat {k : Nat} (h : k < 10) : (UInt8.ofNat (48 + k)).toNat = 48 + k := by
 rw [UInt8.toNat_ofNat']
 omega
theorem digs_val (n : Nat) : valD (digs n) = n := by
 induction n using Nat.strongRecOn with
 | ind n ih =>
   rw [digs]
   split
   ·rename_i h
    show 0 * 10 + _ = _
    rw [dig_toNat h]
    omega
   ·rename_i h
    rw [valD_snoc, ih (n / 10) (by omega), dig_toNat (Nat.mod_lt _ (by decide))]
    omega
theorem digs_all (n : Nat) : (digs n).all isDig = true := by
 induction n using Nat.strongRecOn with
 | ind n ih =>
   rw [digs]
   split
   ·rename_i h
    simp only [List.all_cons, List.all_nil, Bool.and_true, isDig, dig_toNat h]
    simp
    omega
   ·rename_i h
    have h2 := Nat.mod_lt n (show 0 < 10 by decide)
    rw [List.all_append, ih (n / 10) (by omega), Bool.true_and]
    simp only [List.all_cons, List.all_nil, Bool.and_true, isDig, dig_toNat h2]
    simp
    omega
theorem digs_ne (n : Nat) : digs n ≠ [] := by
 rw [digs]
 split
 ·simp
 ·simp
theorem digs_len (k n : Nat) (h : n < 10 ^ (k + 1)) : (digs n).length ≤ k + 1 := by
 induction k generalizing n with
 | zero => rw [digs, if_pos (by simpa using h)]; exact Nat.le_refl 1
 | succ k ih =>
   rw [digs]
   split
   ·show 1 ≤ _; omega
   ·rw [List.length_append]
    have : n / 10 < 10 ^ (k + 1) := by rw [Nat.pow_succ] at h; omega
    have := ih _ this
    simp only [List.length_cons, List.length_nil]
    omega
theorem digs_head (n : Nat) (hn : n ≠ 0) : (digs n).head? ≠ some 48 := by
 induction n using Nat.strongRecOn with
 | ind n ih =>
   rw [digs]
   split
   ·rename_i h
    intro hh
    have h1 : UInt8.ofNat (48 + n) = 48 := by simpa using hh
    have h2 := congrArg UInt8.toNat h1
    rw [dig_toNat h] at h2
    have : (48 : UInt8).toNat = 48 := rfl
    omega
   ·rename_i h
    have := ih (n / 10) (by omega) (by omega)
    rw [List.head?_append]
    cases hd : (digs (n / 10)).head? with
    | none => exact absurd (List.head?_eq_none_iff.1 hd) (digs_ne _)
    | some c => rw [hd] at this; simpa using this
end Wide
open Go.RowKit
open Rf
open Wide
theorem str_nil (l : List UInt8) : ((text l).toList == ([] : List UInt8)) = l.isEmpty := by
 rw [toList_byts, byts_text]
 cases l <;> rfl
theorem one_dig (k : Nat) (hk : k < 10) (w : World) :
 (convert 85 9 (.slice (some ⟨w.heap.size, 0, none⟩) 1 1)).run Tryz.prog (w.alloc (.cells #[.int .u8 (48 + (k : Int))] 5)) = .ok (.string (text [UInt8.ofNat (48 + k)])) (w.alloc (.cells #[.int .u8 (48 + (k : Int))] 5)) := by
 have e : ([.int .u8 (48 + (k : Int))] : List Value) = bv [UInt8.ofNat (48 + k)] := by
  rw [bv_one, dig_toNat hk]
  rfl
 have h := ownsRow_lit w w.heap.size 5 (bv [UInt8.ofNat (48 + k)]) 1 (Nat.le_refl _) (by simp [bv]) (by unfold maxLen; omega)
 rw [e]
 exact run_string_own _ 85 9 5 Tryz.underlying85 Tryz.underlying5 Tryz.underlying9 h
def sEmpty (v : Value) : Nat := match v with
 | .string b => if b.size = 0 then 1 else 0
 | _ => 0
/-- what is written, and what is still to be written -/
def Wd (N v : Nat) (l : List UInt8) : Prop := (l = [] ∧ v = N) ∨ (l ≠ [] ∧ more v ++ l = digs N)
theorem Wd.step {N v : Nat} {l : List UInt8} (h : Wd N v l) (hc : l = [] ∨ v ≠ 0) : Wd N (v / 10) (UInt8.ofNat (48 + v % 10) :: l) := by
 refine .inr ⟨List.cons_ne_nil _ _, ?_⟩
 rcases h with ⟨rfl, rfl⟩ | ⟨h1, h2⟩
 ·rw [digs_more v]
 ·have h0 : v ≠ 0 := hc.elim (fun h => absurd h h1) id
  rw [← h2]
  unfold more at h2 ⊢
  rw [if_neg h0]
  conv => rhs; rw [digs_more v]
  unfold more
  simp
theorem Wd.len {N v : Nat} {l : List UInt8} (h : Wd N v l) (hN : N < 10 ^ 20) : l.length ≤ 20 := by
 rcases h with ⟨rfl, _⟩ | ⟨_, h⟩
 ·exact Nat.zero_le _
 ·have h1 := digs_len 19 N hN
  rw [← h, List.length_append] at h1
  omega
theorem digits_c (N : Nat) (hN : N ≤ 9223372036854775807) : Ret 37 #[.int .i64 (N : Int)] (.string (text (digs N))) := fun w => by
 obtain ⟨res, hres⟩ : ∃ res, text (digs N) = res := ⟨_, rfl⟩
 rw [hres]
 replace hres := Hd hres
 have hn0 : ¬ (N : Int) < 0 := by omega
 go_enter Tryz.func37, Tryz.ntmps37
 go_wp2_with fail
 go_loopw [0, 3] (fun nv sv wr => ∃ (l : List UInt8) (v : Nat), nv = .int .i64 (v : Int) ∧ sv = .string (text l) ∧ v ≤ N ∧ Wd N v l ∧ Below w.heap.size w wr) (fun nv sv _ => (intOf nv).toNat + sEmpty sv)
 case atStart => exact ⟨[], N, rfl, rfl, Nat.le_refl _, .inl ⟨rfl, rfl⟩, Below.refl _ _⟩
 case round =>
  obtain ⟨l, v, rfl, rfl, hvN, hw, hb⟩ := hrel
  have hll := Wd.len hw (by omega)
  have hs0 := str_nil l
  have hsz := hb.size
  replace hb := Hd hb
  by_cases hend : l ≠ [] ∧ v = 0
  ·obtain ⟨hne, rfl⟩ := hend
   have hl : l = digs N := by
    rcases hw with ⟨h, _⟩ | ⟨_, h⟩
    ·exact absurd h hne
    ·exact h
   have hr := hres.out
   rw [← hl] at hr
   subst hr
   have hs1 : ((text l).toList == ([] : List UInt8)) = false := by
    rw [hs0]
    cases l with
    | nil => exact absurd rfl hne
    | cons _ _ => rfl
   clear hs0 hl hres hw
   go_wp2_with fail
   go_ret
   exact ⟨rfl, hb.out⟩
  ·have hstep := hw.step (by
    by_cases hl : l = []
    ·exact .inl hl
    ·exact .inr (fun h => hend ⟨hl, h⟩))
   obtain ⟨k, hk⟩ : ∃ k, v % 10 = k := ⟨_, rfl⟩
   rw [hk] at hstep
   have hk9 : k < 10 := by omega
   have e0 : (v : Int).tmod 10 = (k : Int) := by rw [Int.tmod_eq_emod_of_nonneg (by omega)]; omega
   have e0' : (v : Int) % 10 = (k : Int) := by omega
   have e1 : ¬ (k : Int) < 0 := by omega
   have e2 : IntKind.i64.wrap (48 + (k : Int)) = 48 + (k : Int) := IntWalk.i64_in _ (by omega)
   have e3 : IntKind.u8.wrap (48 + (k : Int)) = 48 + (k : Int) := IntWalk.u8_in _ (by omega)
   have hcv := one_dig k hk9 wr
   obtain ⟨u, hu⟩ : ∃ u, UInt8.ofNat (48 + k) = u := ⟨_, rfl⟩
   rw [hu] at hcv hstep
   have hsz1 : (text [u]).size + (text l).size ≤ 1000 := by rw [text_size, text_size]; simp only [List.length_cons, List.length_nil]; omega
   have hmeas : v / 10 + sEmpty (.string (text (u :: l))) < v + sEmpty (.string (text l)) := by
    have h1 : sEmpty (.string (text (u :: l))) = 0 := by
     show (if (text (u :: l)).size = 0 then 1 else 0) = 0
     rw [text_size]; rfl
    rw [h1]
    by_cases hl : l = []
    ·subst hl
     have : sEmpty (.string (text [])) = 1 := rfl
     omega
    ·have : v ≠ 0 := fun h => hend ⟨hl, h⟩
     omega
   have hfin := Hd (hb.out.alloc hsz (.cells #[.int .u8 (48 + (k : Int))] 5))
   replace hmeas := Hd hmeas
   replace hstep := Hd hstep
   clear hu hk hw
   by_cases hl : l = []
   ·subst hl
    have hs1 : ((text []).toList == ([] : List UInt8)) = true := hs0
    clear hs0
    go_wp2_with fail
    rw [text_append]
    go_roundw
    case rel => exact ⟨[u], v / 10, by go_num, rfl, by omega, hstep.out, hfin.out⟩
    case measure => exact hmeas.out
   ·have hs1 : ((text l).toList == ([] : List UInt8)) = false := by
     rw [hs0]
     cases l with
     | nil => exact absurd rfl hl
     | cons _ _ => rfl
    clear hs0
    have hv0 : ((v : Int) != 0) = true := bne_iff_ne.2 (by have : v ≠ 0 := fun h => hend ⟨hl, h⟩; omega)
    go_wp2_with fail
    rw [text_append]
    go_roundw
    case rel => exact ⟨u :: l, v / 10, by go_num, rfl, by omega, hstep.out, hfin.out⟩
    case measure => exact hmeas.out
end Go.Proofs.YtjjgbillihedgaaGreatDoor
