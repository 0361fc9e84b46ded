/- SigTexts, the plain law: whether an id stands twice in a row -/
import Derived.Test.YtmikhngmclngiaaDoorSgRp
namespace Go.Proofs.YtmikhngmclngiaaDoor
open Go.RowKit
open Rf
open Sg
namespace Sg
theorem ids_grow {s t x : Nat} (h : ∀ j, t.testBit j = (s.testBit j || decide (j = x))) : ∀ n k, (idsFrom t k n).length = (idsFrom s k n).length + (if k ≤ x ∧ x < k + n ∧ s.testBit x = false then 1 else 0)
  | 0, k => by rw [if_neg (by rintro ⟨h1, h2, _⟩; omega)]; rfl
  | n + 1, k => by
    rw [len_step, len_step, ids_grow h n (k + 1), bt_eq, bt_eq, h k]
    by_cases hk : k = x
    · subst hk
      rw [if_neg (show ¬ (k + 1 ≤ k ∧ k < k + 1 + n ∧ s.testBit k = false) by rintro ⟨h1, _⟩; omega)]
      cases hs : s.testBit k
      · rw [if_pos (show k ≤ k ∧ k < k + (n + 1) ∧ false = false by refine ⟨?_, ?_, rfl⟩ <;> omega)]
        simp
        omega
      · rw [if_neg (show ¬ (k ≤ k ∧ k < k + (n + 1) ∧ true = false) by simp)]
        simp
    · rw [decide_eq_false hk, Bool.or_false]
      by_cases hx : k + 1 ≤ x ∧ x < k + 1 + n ∧ s.testBit x = false
      · rw [if_pos hx, if_pos (show k ≤ x ∧ x < k + (n + 1) ∧ s.testBit x = false from ⟨by omega, by omega, hx.2.2⟩)]
        omega
      · rw [if_neg hx, if_neg (show ¬ (k ≤ x ∧ x < k + (n + 1) ∧ s.testBit x = false) from fun hh => hx ⟨by omega, by omega, hh.2.2⟩)]
        omega
/-- one more id -/
theorem ids_snoc {l : List Int} {x : Int} (hx : isId x = true) : (ids (setOf (l ++ [x]))).length = (ids (setOf l)).length + (if x ∈ l then 0 else 1) := by
  have hb : 1 ≤ x ∧ x ≤ 24 := by
    unfold isId at hx
    simp at hx
    exact hx
  have h := ids_grow (s := setOf l) (t := setOf (l ++ [x])) (x := x.toNat) (fun j => by
    rw [setOf_snoc, with_bit, hx, Bool.true_and]
    congr 1
    rw [Bool.eq_iff_iff, decide_eq_true_iff, decide_eq_true_iff]
    omega) 24 1
  unfold ids
  rw [h]
  congr 1
  have hs := set_bit l x.toNat
  rw [show ((x.toNat : Nat) : Int) = x by omega] at hs
  by_cases hm : x ∈ l
  · rw [decide_eq_true ⟨hx, hm⟩] at hs
    rw [if_pos hm, if_neg (by rw [hs]; rintro ⟨_, _, h3⟩; cases h3)]
  · rw [decide_eq_false (fun hh => hm hh.2)] at hs
    rw [if_neg hm, if_pos ⟨by omega, by omega, hs⟩]
theorem nodup_snoc {l : List Int} {x : Int} : (l ++ [x]).Nodup ↔ l.Nodup ∧ x ∉ l := by
  rw [List.nodup_append]
  constructor
  · rintro ⟨h1, _, h3⟩
    exact ⟨h1, fun hm => h3 x hm x (List.mem_singleton.2 rfl) rfl⟩
  · rintro ⟨h1, h2⟩
    refine ⟨h1, by simp, fun a ha b hb => ?_⟩
    rw [List.mem_singleton] at hb
    subst hb
    rintro rfl
    exact h2 ha
/-- the loop's word: whether any id so far stands twice -/
def tw (l : List Int) : Bool := !decide l.Nodup
theorem tw_snoc (l : List Int) (x : Int) : tw (l ++ [x]) = (tw l || decide (x ∈ l)) := by
  unfold tw
  rw [Bool.eq_iff_iff]
  simp only [Bool.not_eq_true', decide_eq_false_iff_not, Bool.or_eq_true, decide_eq_true_iff]
  rw [nodup_snoc]
  by_cases h : l.Nodup <;> by_cases h2 : x ∈ l <;> simp [h, h2]
theorem ok_snoc {l : List Int} {x : Int} (h : okL (l ++ [x]) = true) : okL l = true ∧ isId x = true := by
  unfold okL at *
  rw [List.all_append, Bool.and_eq_true] at h
  exact ⟨h.1, by simpa using h.2⟩
/-- how many ids the set of a row has -/
theorem ids_tw : ∀ (k : Nat) (l : List Int), l.length = k → okL l = true → (ids (setOf l)).length ≤ l.length ∧ ((ids (setOf l)).length = l.length ↔ tw l = false)
  | 0, l, hk, _ => by
    obtain rfl := List.eq_nil_of_length_eq_zero hk
    decide
  | k + 1, l, hk, hok => by
    have hne : l ≠ [] := fun e => by rw [e] at hk; cases hk
    obtain ⟨m, x, rfl⟩ : ∃ m x, l = m ++ [x] := ⟨l.dropLast, l.getLast hne, (List.dropLast_concat_getLast hne).symm⟩
    obtain ⟨h1, h2⟩ := ok_snoc hok
    rw [List.length_append, List.length_singleton] at hk ⊢
    obtain ⟨i1, i2⟩ := ids_tw k m (by omega) h1
    rw [ids_snoc h2, tw_snoc]
    by_cases hm : x ∈ m
    · rw [if_pos hm, decide_eq_true hm, Bool.or_true]
      refine ⟨by omega, fun h => by omega, fun h => by cases h⟩
    · rw [if_neg hm, decide_eq_false hm, Bool.or_false]
      refine ⟨by omega, ?_⟩
      rw [← i2]
      omega
/-- what Parts says of a row -/
theorem parts_tw (l : List Int) : partsF l = if okL l = true then (if tw l = true then (0, 7) else (setOf l, 0)) else (0, 1) := by
  unfold partsF
  cases h : okL l
  · rw [if_neg (by decide), if_neg (by decide)]
  · rw [if_pos rfl, if_pos rfl]
    have := (ids_tw _ l rfl h).2
    cases ht : tw l
    · rw [if_pos (this.2 ht), if_neg (by decide)]
    · rw [if_neg (fun e => by rw [this.1 e] at ht; cases ht), if_pos rfl]
end Sg

/-- ints ahead in a row -/
theorem InI.take {w : World} {a : Option Addr} {l : List Int} (h : InI w a l) (j : Nat) : InI w a (l.take j) := by
  rcases h with rfl | ⟨g, o, rfl, hg, hc⟩
  · exact .inl (by simp)
  · refine .inr ⟨g, o, rfl, hg, fun i hi => ?_⟩
    rw [List.length_take] at hi
    rw [List.getElem_take]
    exact hc i (by omega)

set_option maxRecDepth 100000 in
set_option maxHeartbeats 4000000 in
/-- retrofitlaw10.has, the world as it was -/
theorem lawHas0_c (l : List Int) (hL : l.length ≤ 140737488355328) (a : Option Addr) (c : Nat) (n : Int) (w : World) (hin : InI w a l) :
    Calls Tryd.prog 10 #[.slice a l.length c, .int .i64 n] w fun e w' => e = .returned (.bool (decide (n ∈ l))) ∧ w' = w := by
  obtain ⟨r, hr⟩ : ∃ r, decide (n ∈ l) = r := ⟨_, rfl⟩
  rw [hr]
  replace hr := Lib.hid hr
  replace hin := Lib.hid hin
  go_enter Tryd.func10, Tryd.ntmps10
  go_wp2_with fail
  go_loopw [5] (fun i wr => ∃ j : Nat, j ≤ l.length ∧ i = .int .i64 j ∧ n ∉ l.take j ∧ wr = w) (fun i _ => l.length - (intOf i).toNat)
  case atStart => exact ⟨0, Nat.zero_le _, rfl, by simp, rfl⟩
  case round =>
    obtain ⟨j, hj, rfl, hno, rfl⟩ := hrel
    by_cases hlt : j < l.length
    · obtain ⟨g, o, rfl, hg, hc⟩ := hin.out.at j hlt
      have hst : l.take (j + 1) = l.take j ++ [l[j]] := List.take_succ_eq_append_getElem hlt
      have hltI : (j : Int) < (l.length : Int) := by omega
      have hmem : l[j] ∈ l := List.getElem_mem hlt
      clear hin
      generalize l[j] = x at *
      by_cases hx : x = n
      · subst hx
        have h1 := hr.out
        rw [decide_eq_true hmem] at h1
        subst h1
        clear hst hno hmem hr
        have e1 : (x == x) = true := beq_self_eq_true _
        go_wp2_with fail
        go_ret
        exact ⟨rfl, rfl⟩
      · have e1 : (x == n) = false := beq_eq_false_iff_ne.2 hx
        have hno' : n ∉ l.take (j + 1) := by
          rw [hst, List.mem_append]
          rintro (h | h)
          · exact hno h
          · exact hx (List.mem_singleton.1 h).symm
        clear hst hno hmem
        replace hno' := Lib.hid hno'
        go_wp2_with fail
        go_roundw
        case rel => exact ⟨j + 1, by omega, by go_num, hno'.out, trivial⟩
        case measure => simp [intOf]; omega
    · obtain rfl : j = l.length := by omega
      rw [List.take_length] at hno
      have h1 := hr.out
      rw [decide_eq_false hno] at h1
      subst h1
      clear hno hr hin
      go_wp2_with fail
      go_ret
      exact ⟨rfl, rfl⟩

/-- parts without values, as cells -/
def pv (l : List Int) : List Value := l.flatMap fun x => [.int .i64 x, .slice none 0 0]
theorem pv_cons (x : Int) (l : List Int) : pv (x :: l) = .int .i64 x :: .slice none 0 0 :: pv l := rfl
theorem pv_append (l m : List Int) : pv (l ++ m) = pv l ++ pv m := by unfold pv; rw [List.flatMap_append]
theorem pv_get : ∀ (l : List Int) (j : Nat) (hj : j < l.length), (pv l)[j * 2]? = some (.int .i64 l[j]) ∧ (pv l)[j * 2 + 1]? = some (.slice none 0 0)
  | x :: l, 0, _ => ⟨rfl, rfl⟩
  | x :: l, j + 1, hj => by
    have := pv_get l j (by simpa using hj)
    rw [show (j + 1) * 2 = j * 2 + 1 + 1 by omega, pv_cons]
    simpa using this
/-- a slice of such parts of the call's own -/
def OwnP (w : World) (B : Nat) (a : Option Addr) (c : Nat) (l : List Int) : Prop := w.ownsRow B 35 2 (.slice a l.length c) l.length (pv l)
theorem OwnP.alloc {w : World} {B : Nat} {a : Option Addr} {c : Nat} {l : List Int} (h : OwnP w B a c l) (o : Obj) : OwnP (w.alloc o) B a c l := World.ownsRow.alloc h o
theorem OwnP.nil (w : World) : OwnP (w.alloc (.cells #[] 35)) w.heap.size (some ⟨w.heap.size, 0, none⟩) 0 [] := ⟨rfl, .inr ⟨w.heap.size, 0, #[], rfl, Nat.le_refl _, heap_alloc_new w _, Nat.le_refl _, by unfold maxLen; omega, rfl, rfl⟩⟩
theorem OwnP.mono {w : World} {B B' : Nat} {a : Option Addr} {c : Nat} {l : List Int} (h : OwnP w B a c l) (hB : B' ≤ B) : OwnP w B' a c l := by
  refine ⟨h.1, ?_⟩
  rcases h.2 with h' | ⟨g, cap, cur, h1, h2, h3⟩
  · exact .inl h'
  · exact .inr ⟨g, cap, cur, h1, by omega, h3⟩
theorem OwnP.below {w w' : World} {B : Nat} {a : Option Addr} {c : Nat} {l : List Int} (h : OwnP w B a c l) (hb : Below w.heap.size w w') : OwnP w' B a c l :=
  World.ownsRow.kept (row := none) h ⟨hb.os, hb.tape, hb.output, hb.size, fun k hk _ => hb.block k hk⟩ (by cases (Value.slice a l.length c).ownBlock <;> simp)
theorem OwnP.inP {w : World} {B : Nat} {a : Option Addr} {c : Nat} {l : List Int} (h : OwnP w B a c l) : InP w a l := by
  rcases Nat.eq_zero_or_pos l.length with h0 | h0
  · exact .inl (List.eq_nil_of_length_eq_zero h0)
  · rcases h.2 with ⟨hv, hn⟩ | ⟨g, cap, cur, hv, hb, hg, hc⟩
    · omega
    · obtain ⟨rfl, rfl⟩ : a = some ⟨g, 0, none⟩ ∧ c = cap := by cases hv; exact ⟨rfl, rfl⟩
      refine .inr ⟨g, 0, rfl, lt_of_block hg, fun j hj => ?_⟩
      have key : ∀ i u, (pv l)[i]? = some u → w.cell? ⟨g, i, none⟩ = some u := fun i u hu => by
        have := World.ownsRow.cells h (g := g) rfl i u hu
        rw [show (⟨g, 0, none⟩ : Addr).add i = ⟨g, i, none⟩ by unfold Addr.add; split <;> simp_all] at this
        exact this
      rw [Nat.zero_add]
      exact ⟨key _ _ (pv_get l j hj).1, key _ _ (pv_get l j hj).2⟩
theorem infoPart : (Tryd.prog.info? 35).map (fun i => (i.zero, i.size, i.bytes)) = some (some (.agg #[.int .i64 0, .slice none 0 0]), 2, 32) := by kernel_rfl
theorem src_part (w : World) (x : Int) : Src Tryd.prog 2 31 (.slice (some ⟨w.heap.size, 0, none⟩) 1 1) 1 [.int .i64 x, .slice none 0 0] (w.alloc (.cells #[.int .i64 x, .slice none 0 0] 35)) :=
  Src.ofSlice _ Tryd.underlying31 ⟨w.heap.size, 0, none⟩ 1 1 _ rfl (by
    intro j u hj
    have hc := (IsC.new w 35 #[.int .i64 x, .slice none 0 0]).cell j
    rw [show (⟨w.heap.size, 0, none⟩ : Addr).add j = ⟨w.heap.size, j, none⟩ by unfold Addr.add; split <;> simp_all, hc]
    simpa using hj) (by intro u hu; simp at hu; rcases hu with rfl | rfl <;> rfl)
end Go.Proofs.YtmikhngmclngiaaDoor
