/- the walks over rows of ids: what makes a set, what is within a row -/
import Derived.Test.YtmikhngmclngiaaDoorSgR
namespace Go.Proofs.YtmikhngmclngiaaDoor
open Go.RowKit
open Rf
open Sg

/-- ints that can be read at a slice -/
def InI (w : World) (a : Option Addr) (l : List Int) : Prop := l = [] ∨ ∃ g o, a = some ⟨g, o, none⟩ ∧ g < w.heap.size ∧ ∀ j (hj : j < l.length), w.cell? ⟨g, o + j, none⟩ = some (.int .i64 l[j])
theorem InI.below {w w' : World} {a : Option Addr} {l : List Int} (h : InI w a l) (hb : Below w.heap.size w w') : InI w' a l := by
  rcases h with rfl | ⟨g, o, rfl, hg, hc⟩
  · exact .inl rfl
  · exact .inr ⟨g, o, rfl, Nat.lt_of_lt_of_le hg hb.size, fun j hj => by rw [hb.cell (p := ⟨g, o + j, none⟩) hg]; exact hc j hj⟩
theorem OwnI.in {w : World} {B : Nat} {a : Option Addr} {c : Nat} {l : List Int} (h : OwnI w B a c l) : InI w a l := by
  rcases Nat.eq_zero_or_pos l.length with h0 | h0
  · exact .inl (List.eq_nil_of_length_eq_zero h0)
  · obtain ⟨g, hg, _, hlt, _⟩ := h.cell 0 h0
    refine .inr ⟨g, 0, hg, hlt, fun j hj => ?_⟩
    obtain ⟨g', hg', _, _, hc⟩ := h.cell j hj
    rw [hg] at hg'
    cases hg'
    rw [Nat.zero_add]
    exact hc
theorem InI.at {w : World} {a : Option Addr} {l : List Int} (h : InI w a l) (j : Nat) (hj : j < l.length) : ∃ g o, a = some ⟨g, o, none⟩ ∧ g < w.heap.size ∧ w.cell? ⟨g, o + j, none⟩ = some (.int .i64 l[j]) := by
  rcases h with rfl | ⟨g, o, h1, h2, h3⟩
  · cases hj
  · exact ⟨g, o, h1, h2, h3 j hj⟩
theorem InI.drew {w : World} {a : Option Addr} {l : List Int} (h : InI w a l) : InI w.drew a l := h
theorem InI.drewN {w : World} {k : Nat} {a : Option Addr} {l : List Int} (h : InI w a l) : InI (w.drewN k) a l := h

namespace Sg
/-- the set of ids; whether each can be -/
def setOf (l : List Int) : Nat := l.foldl withF 0
def okL (l : List Int) : Bool := l.all isId
theorem setOf_snoc (l : List Int) (x : Int) : setOf (l ++ [x]) = withF (setOf l) x := by simp [setOf]
theorem setOf_lt (l : List Int) : setOf l < 4294967296 := by
  suffices h : ∀ (l : List Int) (s : Nat), s < 4294967296 → l.foldl withF s < 4294967296 from h l 0 (by decide)
  intro l
  induction l with
  | nil => exact fun s hs => hs
  | cons x l ih => exact fun s hs => ih _ (with_lt hs x)
theorem set_bit (l : List Int) (j : Nat) : (setOf l).testBit j = decide (isId (j : Int) = true ∧ (j : Int) ∈ l) := by
  suffices h : ∀ (l : List Int) (s : Nat), (l.foldl withF s).testBit j = (s.testBit j || decide (isId (j : Int) = true ∧ (j : Int) ∈ l)) by
    have := h l 0
    rw [Nat.zero_testBit, Bool.false_or] at this
    exact this
  intro l
  induction l with
  | nil => intro s; simp
  | cons x l ih =>
    intro s
    rw [List.foldl_cons, ih, with_bit, Bool.or_assoc]
    congr 1
    rw [Bool.eq_iff_iff]
    simp only [Bool.or_eq_true, Bool.and_eq_true, decide_eq_true_iff, List.mem_cons]
    constructor
    · rintro (⟨h1, rfl⟩ | ⟨h1, h2⟩)
      · exact ⟨h1, .inl rfl⟩
      · exact ⟨h1, .inr h2⟩
    · rintro ⟨h1, rfl | h2⟩
      · exact .inl ⟨h1, rfl⟩
      · exact .inr ⟨h1, h2⟩
end Sg

set_option maxRecDepth 100000 in
set_option maxHeartbeats 4000000 in
/-- sig.Of -/
theorem of_c (l : List Int) (hL : l.length ≤ 140737488355328) (a : Option Addr) (c : Nat) (w : World) (hin : InI w a l) :
    Calls Tryd.prog 9 #[.slice a l.length c] w fun e w' => e = .returned (.tuple #[.int .u32 ((if okL l = true then setOf l else 0 : Nat) : Int), .int .i64 (if okL l = true then 0 else 1)]) ∧ Below w.heap.size w w' := by
  obtain ⟨rS, hrS⟩ : ∃ r, (if okL l = true then setOf l else 0) = r := ⟨_, rfl⟩
  obtain ⟨rE, hrE⟩ : ∃ r : Int, (if okL l = true then 0 else 1) = r := ⟨_, rfl⟩
  rw [hrS, hrE]
  replace hrS := Lib.hid hrS
  replace hrE := Lib.hid hrE
  replace hin := Lib.hid hin
  go_enter Tryd.func9, Tryd.ntmps9
  go_wp2_with fail
  go_loopw [4, 9] (fun v i wr => ∃ j : Nat, j ≤ l.length ∧ i = .int .i64 j ∧ v = .int .u32 ((setOf (l.take j) : Nat) : Int) ∧ okL (l.take j) = true ∧ InI wr a l ∧ Below w.heap.size w wr) (fun _ i _ => l.length - (intOf i).toNat)
  case atStart => exact ⟨0, Nat.zero_le _, rfl, rfl, rfl, hin.out, Below.refl _ _⟩
  case round =>
    clear hin
    obtain ⟨j, hj, rfl, rfl, hok, hin, hb⟩ := hrel
    by_cases hlt : j < l.length
    · obtain ⟨g, o, rfl, hg, hc⟩ := hin.at j hlt
      have hst : l.take (j + 1) = l.take j ++ [l[j]] := List.take_succ_eq_append_getElem hlt
      have hltI : (j : Int) < (l.length : Int) := by omega
      have hsl := setOf_lt (l.take j)
      have hmem : l[j] ∈ l := List.getElem_mem hlt
      generalize l[j] = x at *
      have ci := isId_c x
      cases hx : isId x with
      | false =>
        rw [hx] at ci
        have hno : okL l = false := by
          unfold okL
          rw [List.all_eq_false]
          exact ⟨x, hmem, by rw [hx]; decide⟩
        clear hst hok hx hmem
        replace ci := Lib.hid ci
        replace hin := Lib.hid hin
        replace hb := Lib.hid hb
        have h1 := hrS.out
        have h2 := hrE.out
        rw [hno, if_neg (by decide)] at h1 h2
        subst h1 h2
        clear hrS hrE hno
        go_wp2_with fail
        refine (ci.out.on _).mono ?_
        rintro e w1 ⟨rfl, rfl⟩
        go_wp2_with fail
        (try simp only [Exit.inBlock, Exit.then])
        refine bodyPost_ret (by simp [results, Tryd.results9, go_sem]; try rfl) rfl ?_
        exact ⟨rfl, hb.out⟩
      | true =>
        rw [hx] at ci
        have hok' : okL (l.take (j + 1)) = true := by
          unfold okL at *
          rw [hst, List.all_append, hok]
          simp [hx]
        have hset : setOf (l.take (j + 1)) = withF (setOf (l.take j)) x := by rw [hst, setOf_snoc]
        have cw := with_c (setOf (l.take j)) hsl x
        clear hst hok hx hmem
        replace hok' := Lib.hid hok'
        obtain ⟨S', hS'⟩ : ∃ S', setOf (l.take (j + 1)) = S' := ⟨_, rfl⟩
        rw [hS'] at hset
        rw [← hset] at cw
        replace hset := Lib.hid hset
        replace hS' := Lib.hid hS'
        generalize setOf (l.take j) = S at *
        replace ci := Lib.hid ci
        replace cw := Lib.hid cw
        replace hin := Lib.hid hin
        replace hb := Lib.hid hb
        go_wp2_with fail
        refine (ci.out.on _).mono ?_
        rintro e w1 ⟨rfl, rfl⟩
        go_wp2_with fail
        refine (cw.out.on _).mono ?_
        rintro e w1 ⟨rfl, rfl⟩
        go_wp2_with fail
        go_roundw
        case rel => exact ⟨j + 1, by omega, by go_num, by rw [hS'.out], hok'.out, hin.out, hb.out⟩
        case measure => simp [intOf]; omega
    · obtain rfl : j = l.length := by omega
      rw [List.take_length] at hok ⊢
      have h1 := hrS.out
      have h2 := hrE.out
      rw [hok, if_pos rfl] at h1 h2
      rw [h1]
      subst h2
      clear hrS hrE hin hok h1
      replace hb := Lib.hid hb
      go_wp2_with fail
      (try simp only [Exit.inBlock, Exit.then])
      refine bodyPost_ret (by simp [results, Tryd.results9, go_sem]; try rfl) rfl ?_
      exact ⟨rfl, hb.out⟩

set_option maxRecDepth 100000 in
set_option maxHeartbeats 4000000 in
/-- retrofitlaw10.has -/
theorem lawHas_c (l : List Int) (hL : l.length ≤ 140737488355328) (a : Option Addr) (c : Nat) (n : Int) (w : World) (hin : InI w a l) :
    Calls Tryd.prog 10 #[.slice a l.length c, .int .i64 n] w fun e w' => e = .returned (.bool (decide (n ∈ l))) ∧ Below w.heap.size w w' := by
  obtain ⟨r, hr⟩ : ∃ r, decide (n ∈ l) = r := ⟨_, rfl⟩
  rw [hr]
  replace hr := Lib.hid hr
  replace hin := Lib.hid hin
  go_enter Tryd.func10, Tryd.ntmps10
  go_wp2_with fail
  go_loopw [5] (fun i wr => ∃ j : Nat, j ≤ l.length ∧ i = .int .i64 j ∧ n ∉ l.take j ∧ InI wr a l ∧ Below w.heap.size w wr) (fun i _ => l.length - (intOf i).toNat)
  case atStart => exact ⟨0, Nat.zero_le _, rfl, by simp, hin.out, Below.refl _ _⟩
  case round =>
    clear hin
    obtain ⟨j, hj, rfl, hno, hin, hb⟩ := hrel
    by_cases hlt : j < l.length
    · obtain ⟨g, o, rfl, hg, hc⟩ := hin.at j hlt
      have hst : l.take (j + 1) = l.take j ++ [l[j]] := List.take_succ_eq_append_getElem hlt
      have hltI : (j : Int) < (l.length : Int) := by omega
      have hmem : l[j] ∈ l := List.getElem_mem hlt
      generalize l[j] = x at *
      replace hin := Lib.hid hin
      replace hb := Lib.hid hb
      by_cases hx : x = n
      · subst hx
        have h1 := hr.out
        rw [decide_eq_true hmem] at h1
        subst h1
        clear hst hno hmem hr
        have e1 : (x == x) = true := beq_self_eq_true _
        go_wp2_with fail
        go_ret
        exact ⟨rfl, hb.out⟩
      · have e1 : (x == n) = false := beq_eq_false_iff_ne.2 hx
        have hno' : n ∉ l.take (j + 1) := by
          rw [hst, List.mem_append]
          rintro (h | h)
          · exact hno h
          · exact hx (List.mem_singleton.1 h).symm
        clear hst hno hmem
        replace hno' := Lib.hid hno'
        go_wp2_with fail
        go_roundw
        case rel => exact ⟨j + 1, by omega, by go_num, hno'.out, hin.out, hb.out⟩
        case measure => simp [intOf]; omega
    · obtain rfl : j = l.length := by omega
      rw [List.take_length] at hno
      have h1 := hr.out
      rw [decide_eq_false hno] at h1
      subst h1
      clear hno hr hin
      replace hb := Lib.hid hb
      go_wp2_with fail
      go_ret
      exact ⟨rfl, hb.out⟩

set_option maxRecDepth 100000 in
set_option maxHeartbeats 4000000 in
/-- retrofitlaw10.ints at rows that are alike -/
theorem lawInts_c (l : List Int) (hL : l.length ≤ 140737488355328) (a b : Option Addr) (c d : Nat) (w : World) (hin : InI w a l) (hjn : InI w b l) :
    Calls Tryd.prog 25 #[.slice a l.length c, .slice b l.length d] w fun e w' => e = .returned (.bool true) ∧ Below w.heap.size w w' := by
  replace hin := Lib.hid hin
  replace hjn := Lib.hid hjn
  have e0 : ((l.length : Int) != (l.length : Int)) = false := by simp
  go_enter Tryd.func25, Tryd.ntmps25
  go_wp2_with fail
  go_loopw [5] (fun i wr => ∃ j : Nat, j ≤ l.length ∧ i = .int .i64 j ∧ InI wr a l ∧ InI wr b l ∧ Below w.heap.size w wr) (fun i _ => l.length - (intOf i).toNat)
  case atStart => exact ⟨0, Nat.zero_le _, rfl, hin.out, hjn.out, Below.refl _ _⟩
  case round =>
    clear hin hjn
    obtain ⟨j, hj, rfl, hin, hjn, hb⟩ := hrel
    by_cases hlt : j < l.length
    · obtain ⟨g, o, rfl, hg, hc⟩ := hin.at j hlt
      obtain ⟨g2, o2, rfl, hg2, hc2⟩ := hjn.at j hlt
      have hltI : (j : Int) < (l.length : Int) := by omega
      generalize l[j] = x at *
      have e1 : (x != x) = false := by simp
      replace hin := Lib.hid hin
      replace hjn := Lib.hid hjn
      replace hb := Lib.hid hb
      go_wp2_with fail
      go_quiet (fail)
      go_wp2_with fail
      go_roundw
      case rel => exact ⟨j + 1, by omega, by go_num, InI.drewN hin.out, InI.drewN hjn.out, below_drewN hb.out⟩
      case measure => simp [intOf]; omega
    · obtain rfl : j = l.length := by omega
      clear hin hjn
      replace hb := Lib.hid hb
      go_wp2_with fail
      go_ret
      exact ⟨rfl, hb.out⟩
end Go.Proofs.YtmikhngmclngiaaDoor
