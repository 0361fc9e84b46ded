/- the walk of OctetReads -/
import Derived.Test.YtaddckdbhakgmaaActs
import Derived.Deep.RegionWith
import Derived.Deep.QuietTactic
import Derived.BigQuiet
import Derived.Deep.RegionHeld3
import Derived.Deep.DrawnRows
import Derived.OpenShut
import Derived.IntWalk
namespace Go.Proofs.Ytaddckdbhakgmaa
open Go.RowKit
open Rf
attribute [local go_sem ↓] Go.wp_at_zero Go.wp_at_succ

theorem rNum_len (k : Int) (l : List UInt8) (bad : Bool) : (rNum k l bad).2.1.length ≤ l.length := by
  unfold rNum; split <;> simp
theorem rRaw_len (k : Int) (l : List UInt8) (bad : Bool) : (rRaw k l bad).2.1.length ≤ l.length := by
  unfold rRaw; split <;> simp
theorem rText_len (f : Nat) (k : Int) (l : List UInt8) (bad : Bool) : (rText f k l bad).2.1.length ≤ l.length := by
  unfold rText; split <;> simp
theorem IsR.drew {T : TypeId} {w : World} {b : Nat} {l : List UInt8} {bad : Bool} (h : IsR T w b l bad) : IsR T w.drew b l bad := h
theorem cell_other {w w' : World} {row : Option Nat} (hg : w.grownBy w' row) {b i : Nat} {v : Value} (h : w.cell? ⟨b, i, none⟩ = some v) (hne : some b ≠ row) : w'.cell? ⟨b, i, none⟩ = some v := by
  have hl := World.block_lt_of_cell? _ _ h
  have := hg.block b hl hne
  simp only [World.cell?] at h ⊢
  rw [this]; exact h
theorem grown_drew {w w' : World} {row : Option Nat} (h : w.drew.grownBy w' row) : w.grownBy w' row := ⟨h.os, h.tape, h.output, h.size, h.block⟩
theorem IsR.drewN {T : TypeId} {w : World} {b : Nat} {l : List UInt8} {bad : Bool} (h : IsR T w b l bad) (n : Nat) : IsR T (w.drewN n) b l bad := h
theorem below_drew {B : Nat} {a w : World} (h : Below B a w) : Below B a w.drew := h.trans ⟨rfl, rfl, rfl, Nat.le_refl _, fun _ _ => rfl⟩
theorem back_eq {P : Program} {f : FuncId} {args : Array Value} {w : World} {v : Value} (h : Calls P f args w fun e w' => e = .returned v ∧ w = w') : Calls P f args w fun e w' => e = .returned v ∧ w' = w := h.mono fun _ _ ⟨a, b⟩ => ⟨a, b.symm⟩
theorem act_cells_of {w w' : World} {K W N : Int} {S : ByteArray} (h : w'.heap[w.heap.size]? = some (.cells #[.int .i64 K, .int .i64 W, .int .u64 N, .string S] 45 (0, 0))) :
    w'.cell? ⟨w.heap.size, 1, none⟩ = some (.int .i64 W) ∧ w'.cell? ⟨w.heap.size, 2, none⟩ = some (.int .u64 N) := by
  refine ⟨?_, ?_⟩ <;> simp [World.cell?, h]
theorem size_drew (w : World) : w.drew.heap.size = w.heap.size := rfl

set_option maxRecDepth 100000 in
set_option maxHeartbeats 20000000 in
theorem octReads_any (s : ByteArray) (a : Option Addr) (len cap : Nat) (z : Nat → ActD) (n : Int) (w : World) (hs : s.size ≤ maxLen) (hlen : len ≤ maxLen) (hr : RowAct w a len z) :
    Calls Try.prog 8 #[.string s, .slice a len cap, .int .i64 n] w fun e w' => e = .returned (.bool true) ∧ Below w.heap.size w w' := by
  replace hlen : len ≤ 9223372036854775807 := by unfold maxLen at hlen; omega
  replace hs : s.size ≤ 9223372036854775807 := by unfold maxLen at hs; omega
  go_enter Try.func8, Try.ntmps8
  go_wp2_with fail
  refine (awake2_c _).mono ?_
  rintro e w1 ⟨rfl, hb1⟩
  have hrW : RowAct w1 a len z := hr.below hb1
  have hs1 := hb1.size
  clear hr
  replace hrW := Lib.hid hrW
  by_cases hbig : 4096 < s.size
  · go_wp2_with fail
    go_ret
    exact ⟨rfl, hb1⟩
  have hbig' : s.size ≤ 4096 := by omega
  obtain ⟨l0, rfl⟩ : ∃ l0, s = text l0 := ⟨byts s, (text_byts s).symm⟩
  have hl0 : l0.length ≤ 4096 := by rw [text_size] at hbig'; exact hbig'
  clear hs hbig
  go_wp2_with fail
  refine (read_c _ _).mono ?_
  rintro e w2 ⟨rfl, hw2⟩
  have hR0 := IsR.new w1 68 l0
  rw [← hw2] at hR0
  have hU0 := IsR.new w2 57 l0
  have hb2 : Below w1.heap.size w1 w2 := by rw [hw2]; exact (Below.refl _ _).alloc (Nat.le_refl _) _
  have hlt : w1.heap.size < w2.heap.size := hR0.lt
  have hR1 := hR0.below ((Below.refl w2.heap.size w2).alloc (Nat.le_refl _) (.cells #[.string (text l0), .bool false] 57))
  have hb3 : Below w1.heap.size w1 (w2.alloc (.cells #[.string (text l0), .bool false] 57)) := hb2.alloc (by omega) _
  clear hw2 hR0 hb2
  obtain ⟨R, hRe⟩ : ∃ R, R = w1.heap.size := ⟨_, rfl⟩
  obtain ⟨U, hUe⟩ : ∃ U, U = w2.heap.size := ⟨_, rfl⟩
  rw [← hRe] at hR1 hlt ⊢
  rw [← hUe] at hU0 hlt
  have hfin0 : w.heap.size ≤ R := by rw [hRe]; exact hs1
  replace hUe := Lib.hid hUe
  replace hRe := Lib.hid hRe
  replace hR1 := Lib.hid hR1
  replace hU0 := Lib.hid hU0
  replace hb3 := Lib.hid hb3
  go_wp2_with fail
  rw [← hUe.out]
  generalize hW3 : w2.alloc (.cells #[.string (text l0), .bool false] 57) = w3 at *
  clear hW3
  go_loopw [9] (fun i wr => ∃ (k : Nat) (l : List UInt8) (bad : Bool), k ≤ 60 ∧ i = .int .i64 k ∧ l.length ≤ 4096 ∧ IsR 68 wr R l bad ∧ IsR 57 wr U l bad ∧ Below w1.heap.size w1 wr) (fun i _ => 60 - (intOf i).toNat)
  case atStart => exact ⟨0, l0, false, by omega, rfl, hl0, hR1.out, hU0.out, hb3.out⟩
  case round =>
    clear hR1 hU0 hb3 hl0
    obtain ⟨k, l, bad, hk, rfl, hll, hR, hU, hb⟩ := hrel
    have hsr := hb.size
    by_cases hlt2 : k < len ∧ k < 60
    · obtain ⟨hlt1, hlt2⟩ := hlt2
      obtain ⟨b0, off, rfl, hbl, ho, c0, c1, c2, c3⟩ := hrW.out.below hb k hlt1
      obtain ⟨o1, o2, o3, o4, o5, o6, o7⟩ := ho
      generalize z k = x at *
      obtain ⟨K, W, N, S⟩ := x
      dsimp only at *
      have hRl := hR.lt
      have hUl := hU.lt
      have hR' := Lib.hid (hR.below ((Below.refl wr.heap.size wr).alloc (Nat.le_refl _) (.cells #[.int .i64 K, .int .i64 W, .int .u64 N, .string S] 45)))
      have hU' := Lib.hid (hU.below ((Below.refl wr.heap.size wr).alloc (Nat.le_refl _) (.cells #[.int .i64 K, .int .i64 W, .int .u64 N, .string S] 45)))
      have hba := Lib.hid (hb.alloc hsr (.cells #[.int .i64 K, .int .i64 W, .int .u64 N, .string S] 45))
      have hag := heap_alloc_new wr (.cells #[.int .i64 K, .int .i64 W, .int .u64 N, .string S] 45)
      obtain ⟨hx1, hx2⟩ := act_cells_of hag
      replace hag := Lib.hid hag
      clear hR hU hb
      obtain ⟨P, hP⟩ : ∃ P, N.tmod 5000 = P := ⟨_, rfl⟩
      have hm : 0 ≤ P ∧ P < 5000 := by rw [← hP, Int.tmod_eq_emod_of_nonneg o5]; omega
      obtain ⟨hm0, hm1⟩ := hm

      by_cases hK1 : K = 1
      · have t1 : (K == 1) = true := beq_iff_eq.2 hK1
        clear hK1
        have hln := rNum_len W l bad
        have cr := Lib.hid (rnum_c hR'.out.drew W (by omega))
        clear hP
        go_wp2_with fail
        go_region_held3 (fun w => w.cell? ⟨wr.heap.size, 1, none⟩ = some (.int .i64 W)) (go_keep)
          (first
            | (go_at_call 29
               refine Calls.mono cr.out ?_
               rintro e w4 ⟨rfl, hR4, hg4⟩
               have hU4 := hU'.out.drew.other hg4 (by intro hh; cases hh; omega)
               have hx4 := cell_other hg4 hx1 (by intro hh; cases hh; omega))
            | (go_at_call 30
               refine Calls.mono (unum_c hU4 W) ?_
               rintro e w5 ⟨rfl, hU5, hg5⟩
               have hx5 := cell_other hg5 hx4 (by intro hh; cases hh; omega)))
        have hRe1 := hRe.out
        have hsz : (wr.alloc (.cells #[.int .i64 K, .int .i64 W, .int .u64 N, .string S] 45)).heap.size = wr.heap.size + 1 := by simp
        have hbad := below_drew hba.out
        have hR5 := hR4.other hg5 (by intro hh; cases hh; omega)
        have hsz4 : (wr.alloc (.cells #[.int .i64 K, .int .i64 W, .int .u64 N, .string S] 45)).heap.size ≤ w4.heap.size := hg4.size
        have hsz5 := hg5.size
        have hb4 := hbad.grown hg4 (by show w1.heap.size ≤ (wr.alloc (.cells #[.int .i64 K, .int .i64 W, .int .u64 N, .string S] 45)).heap.size; omega) (fun k hk => by cases hk; omega)
        have hb5 := hb4.grown hg5 (by omega) (fun k hk => by cases hk; omega)
        clear hb4 hg4 hg5 hR4 hU4 hR' hU' hba cr c0 c1 c2 c3 hx1 hx2 hag hRe1 hsz hsz4 hsz5 hx4 hx5 hbad
        generalize hst : rNum W l bad = st at *
        obtain ⟨v, l', bad'⟩ := st
        dsimp only at *
        clear hst
        have hl' : l'.length ≤ 4096 := by omega
        have q0 := hU5.c0
        have q1 := hU5.c1
        replace hU5 := Lib.hid hU5
        replace hR5 := Lib.hid hR5
        replace hb5 := Lib.hid hb5
        cases bad' with
        | true =>
          go_wp2_with fail
          go_quiet (first
            | (go_at_call 37; exact Calls.quiet_of_same (back_eq (bad_c (hR5.out.drewN _))))
            | (go_at_call 38; exact Calls.quiet_of_same (back_eq (left_c (hR5.out.drewN _))))
            | (go_at_call 39; exact Calls.quiet_of_same (back_eq (uleft_c (hU5.out.drewN _))))
            | (go_at_call 40; exact Calls.quiet_of_same (back_eq (done_c (hR5.out.drewN _)))))
          go_wp2_with fail
          go_roundw
          case rel => exact ⟨k + 1, l', true, by omega, by go_num, hl', hR5.out.drewN _, hU5.out.drewN _, below_drewN hb5.out _⟩
          case measure => simp [intOf]; omega
        | false =>
          have he : ((((text l').size : Nat) : Int) == 0) = l'.isEmpty := by rw [text_size]; cases l' <;> simp <;> omega
          go_wp2_with fail
          go_quiet (first
            | (go_at_call 37; exact Calls.quiet_of_same (back_eq (bad_c (hR5.out.drewN _))))
            | (go_at_call 38; exact Calls.quiet_of_same (back_eq (left_c (hR5.out.drewN _))))
            | (go_at_call 39; exact Calls.quiet_of_same (back_eq (uleft_c (hU5.out.drewN _))))
            | (go_at_call 40; exact Calls.quiet_of_same (back_eq (done_c (hR5.out.drewN _)))))
          go_wp2_with fail
          go_roundw
          case rel => exact ⟨k + 1, l', false, by omega, by go_num, hl', hR5.out.drewN _, hU5.out.drewN _, below_drewN hb5.out _⟩
          case measure => simp [intOf]; omega
      have t1 : (K == 1) = false := beq_eq_false_iff_ne.2 hK1
      clear hK1
      by_cases hK2 : K = 2
      · have t2 : (K == 2) = true := beq_iff_eq.2 hK2
        clear hK2
        have hln := rText_len 1 255 l bad
        have cr := Lib.hid (rname_c hR'.out (by omega))
        clear hP
        go_wp2_with fail
        refine Calls.mono cr.out ?_
        rintro e w4 ⟨rfl, hR4, hg4⟩
        have hU4 := hU'.out.other hg4 (by intro hh; cases hh; omega)
        replace hR4 := Lib.hid hR4
        replace hU4 := Lib.hid hU4
        go_wp2_with fail
        refine Calls.mono (uname_c hU4.out) ?_
        rintro e w5 ⟨rfl, hU5, hg5⟩
        have hRe1 := hRe.out
        have hsz : (wr.alloc (.cells #[.int .i64 K, .int .i64 W, .int .u64 N, .string S] 45)).heap.size = wr.heap.size + 1 := by simp
        have hR5 := hR4.out.other hg5 (by intro hh; cases hh; omega)
        have hsz4 : (wr.alloc (.cells #[.int .i64 K, .int .i64 W, .int .u64 N, .string S] 45)).heap.size ≤ w4.heap.size := hg4.size
        have hsz5 := hg5.size
        have hb4 := hba.out.grown hg4 (by show w1.heap.size ≤ (wr.alloc (.cells #[.int .i64 K, .int .i64 W, .int .u64 N, .string S] 45)).heap.size; omega) (fun k hk => by cases hk; omega)
        have hb5 := hb4.grown hg5 (by omega) (fun k hk => by cases hk; omega)
        clear hb4 hg4 hg5 hR4 hU4 hR' hU' hba cr c0 c1 c2 c3 hx1 hx2 hag hRe1 hsz hsz4 hsz5 
        generalize hst : rText 1 255 l bad = st at *
        obtain ⟨v, l', bad'⟩ := st
        dsimp only at *
        clear hst
        have hl' : l'.length ≤ 4096 := by omega
        have q0 := hU5.c0
        have q1 := hU5.c1
        replace hU5 := Lib.hid hU5
        replace hR5 := Lib.hid hR5
        replace hb5 := Lib.hid hb5
        cases bad' with
        | true =>
          go_wp2_with fail
          go_quiet (first
            | (go_at_call 37; exact Calls.quiet_of_same (back_eq (bad_c (hR5.out.drewN _))))
            | (go_at_call 38; exact Calls.quiet_of_same (back_eq (left_c (hR5.out.drewN _))))
            | (go_at_call 39; exact Calls.quiet_of_same (back_eq (uleft_c (hU5.out.drewN _))))
            | (go_at_call 40; exact Calls.quiet_of_same (back_eq (done_c (hR5.out.drewN _)))))
          go_wp2_with fail
          go_roundw
          case rel => exact ⟨k + 1, l', true, by omega, by go_num, hl', hR5.out.drewN _, hU5.out.drewN _, below_drewN hb5.out _⟩
          case measure => simp [intOf]; omega
        | false =>
          have he : ((((text l').size : Nat) : Int) == 0) = l'.isEmpty := by rw [text_size]; cases l' <;> simp <;> omega
          go_wp2_with fail
          go_quiet (first
            | (go_at_call 37; exact Calls.quiet_of_same (back_eq (bad_c (hR5.out.drewN _))))
            | (go_at_call 38; exact Calls.quiet_of_same (back_eq (left_c (hR5.out.drewN _))))
            | (go_at_call 39; exact Calls.quiet_of_same (back_eq (uleft_c (hU5.out.drewN _))))
            | (go_at_call 40; exact Calls.quiet_of_same (back_eq (done_c (hR5.out.drewN _)))))
          go_wp2_with fail
          go_roundw
          case rel => exact ⟨k + 1, l', false, by omega, by go_num, hl', hR5.out.drewN _, hU5.out.drewN _, below_drewN hb5.out _⟩
          case measure => simp [intOf]; omega
      have t2 : (K == 2) = false := beq_eq_false_iff_ne.2 hK2
      clear hK2
      by_cases hK3 : K = 3
      · have t3 : (K == 3) = true := beq_iff_eq.2 hK3
        clear hK3
        have hln := rText_len 4 P l bad
        have cr := Lib.hid (rpart_c hR'.out.drew P (by omega))
        have p1 : IntKind.i64.wrap P = P := IntWalk.i64_in P (by omega)
        have p2 : IntKind.u64.wrap P = P := IntWalk.u64_in P (by omega)
        go_wp2_with fail
        go_region_held3 (fun w => w.cell? ⟨wr.heap.size, 2, none⟩ = some (.int .u64 N)) (go_keep)
          (first
            | (go_at_call 33
               refine Calls.mono cr.out ?_
               rintro e w4 ⟨rfl, hR4, hg4⟩
               have hU4 := hU'.out.drew.other hg4 (by intro hh; cases hh; omega)
               have hx4 := cell_other hg4 hx2 (by intro hh; cases hh; omega))
            | (go_at_call 34
               refine Calls.mono (upart_c hU4 P) ?_
               rintro e w5 ⟨rfl, hU5, hg5⟩
               have hx5 := cell_other hg5 hx4 (by intro hh; cases hh; omega)))
        clear p1 p2 hP
        have hRe1 := hRe.out
        have hsz : (wr.alloc (.cells #[.int .i64 K, .int .i64 W, .int .u64 N, .string S] 45)).heap.size = wr.heap.size + 1 := by simp
        have hbad := below_drew hba.out
        have hR5 := hR4.other hg5 (by intro hh; cases hh; omega)
        have hsz4 : (wr.alloc (.cells #[.int .i64 K, .int .i64 W, .int .u64 N, .string S] 45)).heap.size ≤ w4.heap.size := hg4.size
        have hsz5 := hg5.size
        have hb4 := hbad.grown hg4 (by show w1.heap.size ≤ (wr.alloc (.cells #[.int .i64 K, .int .i64 W, .int .u64 N, .string S] 45)).heap.size; omega) (fun k hk => by cases hk; omega)
        have hb5 := hb4.grown hg5 (by omega) (fun k hk => by cases hk; omega)
        clear hb4 hg4 hg5 hR4 hU4 hR' hU' hba cr c0 c1 c2 c3 hx1 hx2 hag hRe1 hsz hsz4 hsz5 hx4 hx5 hbad
        generalize hst : rText 4 P l bad = st at *
        obtain ⟨v, l', bad'⟩ := st
        dsimp only at *
        clear hst
        have hl' : l'.length ≤ 4096 := by omega
        have q0 := hU5.c0
        have q1 := hU5.c1
        replace hU5 := Lib.hid hU5
        replace hR5 := Lib.hid hR5
        replace hb5 := Lib.hid hb5
        cases bad' with
        | true =>
          go_wp2_with fail
          go_quiet (first
            | (go_at_call 37; exact Calls.quiet_of_same (back_eq (bad_c (hR5.out.drewN _))))
            | (go_at_call 38; exact Calls.quiet_of_same (back_eq (left_c (hR5.out.drewN _))))
            | (go_at_call 39; exact Calls.quiet_of_same (back_eq (uleft_c (hU5.out.drewN _))))
            | (go_at_call 40; exact Calls.quiet_of_same (back_eq (done_c (hR5.out.drewN _)))))
          go_wp2_with fail
          go_roundw
          case rel => exact ⟨k + 1, l', true, by omega, by go_num, hl', hR5.out.drewN _, hU5.out.drewN _, below_drewN hb5.out _⟩
          case measure => simp [intOf]; omega
        | false =>
          have he : ((((text l').size : Nat) : Int) == 0) = l'.isEmpty := by rw [text_size]; cases l' <;> simp <;> omega
          go_wp2_with fail
          go_quiet (first
            | (go_at_call 37; exact Calls.quiet_of_same (back_eq (bad_c (hR5.out.drewN _))))
            | (go_at_call 38; exact Calls.quiet_of_same (back_eq (left_c (hR5.out.drewN _))))
            | (go_at_call 39; exact Calls.quiet_of_same (back_eq (uleft_c (hU5.out.drewN _))))
            | (go_at_call 40; exact Calls.quiet_of_same (back_eq (done_c (hR5.out.drewN _)))))
          go_wp2_with fail
          go_roundw
          case rel => exact ⟨k + 1, l', false, by omega, by go_num, hl', hR5.out.drewN _, hU5.out.drewN _, below_drewN hb5.out _⟩
          case measure => simp [intOf]; omega
      have t3 : (K == 3) = false := beq_eq_false_iff_ne.2 hK3
      clear hK3
      have hln := rRaw_len W l bad
      have cr := Lib.hid (rraw_c hR'.out.drew W (by omega))
      clear hP
      go_wp2_with fail
      go_region_held3 (fun w => w.cell? ⟨wr.heap.size, 1, none⟩ = some (.int .i64 W)) (go_keep)
        (first
          | (go_at_call 35
             refine Calls.mono cr.out ?_
             rintro e w4 ⟨rfl, hR4, hg4⟩
             have hU4 := hU'.out.drew.other hg4 (by intro hh; cases hh; omega)
             have hx4 := cell_other hg4 hx1 (by intro hh; cases hh; omega))
          | (go_at_call 36
             refine Calls.mono (uraw_c hU4 W) ?_
             rintro e w5 ⟨rfl, hU5, hg5⟩
             have hx5 := cell_other hg5 hx4 (by intro hh; cases hh; omega)))
      have hRe1 := hRe.out
      have hsz : (wr.alloc (.cells #[.int .i64 K, .int .i64 W, .int .u64 N, .string S] 45)).heap.size = wr.heap.size + 1 := by simp
      have hbad := below_drew hba.out
      have hR5 := hR4.other hg5 (by intro hh; cases hh; omega)
      have hsz4 : (wr.alloc (.cells #[.int .i64 K, .int .i64 W, .int .u64 N, .string S] 45)).heap.size ≤ w4.heap.size := hg4.size
      have hsz5 := hg5.size
      have hb4 := hbad.grown hg4 (by show w1.heap.size ≤ (wr.alloc (.cells #[.int .i64 K, .int .i64 W, .int .u64 N, .string S] 45)).heap.size; omega) (fun k hk => by cases hk; omega)
      have hb5 := hb4.grown hg5 (by omega) (fun k hk => by cases hk; omega)
      clear hb4 hg4 hg5 hR4 hU4 hR' hU' hba cr c0 c1 c2 c3 hx1 hx2 hag hRe1 hsz hsz4 hsz5 hx4 hx5 hbad
      generalize hst : rRaw W l bad = st at *
      obtain ⟨v, l', bad'⟩ := st
      dsimp only at *
      clear hst
      have hl' : l'.length ≤ 4096 := by omega
      have q0 := hU5.c0
      have q1 := hU5.c1
      replace hU5 := Lib.hid hU5
      replace hR5 := Lib.hid hR5
      replace hb5 := Lib.hid hb5
      cases bad' with
      | true =>
        go_wp2_with fail
        go_quiet (first
          | (go_at_call 37; exact Calls.quiet_of_same (back_eq (bad_c (hR5.out.drewN _))))
          | (go_at_call 38; exact Calls.quiet_of_same (back_eq (left_c (hR5.out.drewN _))))
          | (go_at_call 39; exact Calls.quiet_of_same (back_eq (uleft_c (hU5.out.drewN _))))
          | (go_at_call 40; exact Calls.quiet_of_same (back_eq (done_c (hR5.out.drewN _)))))
        go_wp2_with fail
        go_roundw
        case rel => exact ⟨k + 1, l', true, by omega, by go_num, hl', hR5.out.drewN _, hU5.out.drewN _, below_drewN hb5.out _⟩
        case measure => simp [intOf]; omega
      | false =>
        have he : ((((text l').size : Nat) : Int) == 0) = l'.isEmpty := by rw [text_size]; cases l' <;> simp <;> omega
        go_wp2_with fail
        go_quiet (first
          | (go_at_call 37; exact Calls.quiet_of_same (back_eq (bad_c (hR5.out.drewN _))))
          | (go_at_call 38; exact Calls.quiet_of_same (back_eq (left_c (hR5.out.drewN _))))
          | (go_at_call 39; exact Calls.quiet_of_same (back_eq (uleft_c (hU5.out.drewN _))))
          | (go_at_call 40; exact Calls.quiet_of_same (back_eq (done_c (hR5.out.drewN _)))))
        go_wp2_with fail
        go_roundw
        case rel => exact ⟨k + 1, l', false, by omega, by go_num, hl', hR5.out.drewN _, hU5.out.drewN _, below_drewN hb5.out _⟩
        case measure => simp [intOf]; omega
    · have hR1 := hR.drew
      have hU1 := hU.drew
      have hbd := below_drew hb
      have hRe1 := hRe.out
      have hRl := hR.lt
      have hUl := hU.lt
      have cr := Lib.hid (rpart_c hR1 n (by omega))
      replace hbd := Lib.hid hbd
      have hRe2 := Lib.hid hRe1
      clear hRe1
      clear hR hU hb hR1
      have hcs : (k < len ∧ 60 ≤ k) ∨ ¬ k < len := by omega
      clear hlt2
      rcases hcs with ⟨h1, h2⟩ | h1
      all_goals
        go_wp2_with fail
        refine wp_region_held_at (S := fun _ => True) 16 rfl (by kernel_rfl) trivial (fun _ => ?_)
        refine wpAnyH_take (i := 0) (v := ?_) rfl (by decide +kernel) (by decide +kernel) (by decide +kernel) (fun _ _ _ h => h) (Or.inl ⟨by rfl, ?_⟩) trivial ?_
        rotate_left
        · intro w _; (try simp only [List.getElem_toArray, List.getElem_cons_zero]); go_simp; try with_reducible rfl
        try simp only [List.getElem_toArray, List.getElem_cons_zero, Act.put, List.setIfInBounds_toArray, List.set_cons_zero, List.set_cons_succ]
        refine wpAnyH_take (i := 1) (v := ?_) rfl (by decide +kernel) (by decide +kernel) (by decide +kernel) (fun _ _ _ h => h) (Or.inl ⟨by rfl, ?_⟩) trivial ?_
        rotate_left
        · intro w _; (try simp only [List.getElem_toArray, List.getElem_cons_zero, List.getElem_cons_succ]); go_simp; try with_reducible rfl
        try simp only [List.getElem_toArray, List.getElem_cons_zero, List.getElem_cons_succ, Act.put, List.setIfInBounds_toArray, List.set_cons_zero, List.set_cons_succ]
        refine wpAnyH_take (i := 3) (v := ?_) rfl (by decide +kernel) (by decide +kernel) (by decide +kernel) (fun _ _ _ h => h) (Or.inl ⟨by rfl, ?_⟩) trivial ?_
        rotate_left
        · intro w _; (try simp only [List.getElem_toArray, List.getElem_cons_zero, List.getElem_cons_succ]); go_simp; try with_reducible rfl
        try simp only [List.getElem_toArray, List.getElem_cons_zero, List.getElem_cons_succ, Act.put, List.setIfInBounds_toArray, List.set_cons_zero, List.set_cons_succ]
        refine wpAnyH_take (i := 4) (v := ?_) rfl (by decide +kernel) (by decide +kernel) (by decide +kernel) (fun _ _ _ h => h) (Or.inl ⟨by rfl, ?_⟩) trivial ?_
        rotate_left
        · intro w _; (try simp only [List.getElem_toArray, List.getElem_cons_zero, List.getElem_cons_succ]); go_simp; try with_reducible rfl
        try simp only [List.getElem_toArray, List.getElem_cons_zero, List.getElem_cons_succ, Act.put, List.setIfInBounds_toArray, List.set_cons_zero, List.set_cons_succ]
        refine wpAnyH_ready (rs := [2]) (by decide +kernel) (by simp) ?_
        refine AllReadyH.cons rfl (fun K hK => ?_) ?_
        · (try simp only [List.getElem_toArray, List.getElem_cons_zero, List.getElem_cons_succ])
          go_simp
          refine Calls.mono cr.out ?_
          rintro e w4 ⟨rfl, hR4, hg4⟩
          have hU4 := hU1.other hg4 (by intro hh; cases hh; omega)
          go_simp
          refine hK.out _ _ trivial (fun _ => ?_)
          clear hK K
          try simp only [List.getElem_toArray, List.getElem_cons_zero, List.getElem_cons_succ, Act.put, List.setIfInBounds_toArray, List.set_cons_zero, List.set_cons_succ]
          refine wpAnyH_ready (rs := [5]) (by decide +kernel) (by simp) ?_
          refine AllReadyH.cons rfl (fun K hK => ?_) ?_
          · (try simp only [List.getElem_toArray, List.getElem_cons_zero, List.getElem_cons_succ])
            go_simp
            refine Calls.mono (upart_c hU4 n) ?_
            rintro e w5 ⟨rfl, hU5, hg5⟩
            have q1 := hU5.c1
            have hR5 := hR4.other hg5 (by intro hh; cases hh; omega)
            go_simp
            refine hK.out _ _ trivial (fun _ => ?_)
            clear hK K
            try simp only [List.getElem_toArray, List.getElem_cons_zero, List.getElem_cons_succ, Act.put, List.setIfInBounds_toArray, List.set_cons_zero, List.set_cons_succ]
            refine wpAnyH_take (i := 6) (v := ?_) rfl (by decide +kernel) (by decide +kernel) (by decide +kernel) (fun _ _ _ h => h) (Or.inl ⟨by rfl, ?_⟩) trivial ?_
            rotate_left
            · intro w _; (try simp only [List.getElem_toArray, List.getElem_cons_zero, List.getElem_cons_succ]); go_simp; try with_reducible rfl
            try simp only [List.getElem_toArray, List.getElem_cons_zero, List.getElem_cons_succ, Act.put, List.setIfInBounds_toArray, List.set_cons_zero, List.set_cons_succ]
            refine wpAnyH_take (i := 7) (v := ?_) rfl (by decide +kernel) (by decide +kernel) (by decide +kernel) (fun _ _ _ h => h) (Or.inl ⟨by rfl, ?_⟩) trivial ?_
            rotate_left
            · intro w _; (try simp only [List.getElem_toArray, List.getElem_cons_zero, List.getElem_cons_succ]); go_simp; try with_reducible rfl
            try simp only [List.getElem_toArray, List.getElem_cons_zero, List.getElem_cons_succ, Act.put, List.setIfInBounds_toArray, List.set_cons_zero, List.set_cons_succ]
            refine wpAnyH_take (i := 8) (v := ?_) rfl (by decide +kernel) (by decide +kernel) (by decide +kernel) (fun _ _ _ h => h) (Or.inl ⟨by rfl, ?_⟩) trivial ?_
            rotate_left
            · intro w _; (try simp only [List.getElem_toArray, List.getElem_cons_zero, List.getElem_cons_succ]); go_simp; try with_reducible rfl
            try simp only [List.getElem_toArray, List.getElem_cons_zero, List.getElem_cons_succ, Act.put, List.setIfInBounds_toArray, List.set_cons_zero, List.set_cons_succ]
            refine wpAnyH_take (i := 10) (v := ?_) rfl (by decide +kernel) (by decide +kernel) (by decide +kernel) (fun _ _ _ h => h) (Or.inl ⟨by rfl, ?_⟩) trivial ?_
            rotate_left
            · intro w _; (try simp only [List.getElem_toArray, List.getElem_cons_zero, List.getElem_cons_succ]); go_simp; try with_reducible rfl
            try simp only [List.getElem_toArray, List.getElem_cons_zero, List.getElem_cons_succ, Act.put, List.setIfInBounds_toArray, List.set_cons_zero, List.set_cons_succ]
            refine wpAnyH_take (i := 11) (v := ?_) rfl (by decide +kernel) (by decide +kernel) (by decide +kernel) (fun _ _ _ h => h) (Or.inl ⟨by rfl, ?_⟩) trivial ?_
            rotate_left
            · intro w _; (try simp only [List.getElem_toArray, List.getElem_cons_zero, List.getElem_cons_succ]); go_simp; try with_reducible rfl
            try simp only [List.getElem_toArray, List.getElem_cons_zero, List.getElem_cons_succ, Act.put, List.setIfInBounds_toArray, List.set_cons_zero, List.set_cons_succ]
            refine wpAnyH_take (i := 12) (v := ?_) rfl (by decide +kernel) (by decide +kernel) (by decide +kernel) (fun _ _ _ h => h) (Or.inl ⟨by rfl, ?_⟩) trivial ?_
            rotate_left
            · intro w _; (try simp only [List.getElem_toArray, List.getElem_cons_zero, List.getElem_cons_succ]); go_simp; try with_reducible rfl
            try simp only [List.getElem_toArray, List.getElem_cons_zero, List.getElem_cons_succ, Act.put, List.setIfInBounds_toArray, List.set_cons_zero, List.set_cons_succ]
            refine wpAnyH_ready (rs := [9, 13]) (by decide +kernel) (by simp) ?_
            refine AllReadyH.cons rfl (fun K hK => ?_) ?_
            · (try simp only [List.getElem_toArray, List.getElem_cons_zero, List.getElem_cons_succ])
              go_simp
              refine (bad_c hR5).mono ?_
              rintro e w' ⟨rfl, rfl⟩
              go_simp
              refine hK.out _ _ trivial (fun _ => ?_)
              clear hK K
              try simp only [List.getElem_toArray, List.getElem_cons_zero, List.getElem_cons_succ, Act.put, List.setIfInBounds_toArray, List.set_cons_zero, List.set_cons_succ]
              refine wpAnyH_ready (rs := [13]) (by decide +kernel) (by simp) ?_
              refine AllReadyH.cons rfl (fun K hK => ?_) ?_
              · (try simp only [List.getElem_toArray, List.getElem_cons_zero, List.getElem_cons_succ])
                go_simp
                refine hK.out _ _ trivial (fun _ => ?_)
                clear hK K
                try simp only [List.getElem_toArray, List.getElem_cons_zero, List.getElem_cons_succ, Act.put, List.setIfInBounds_toArray, List.set_cons_zero, List.set_cons_succ]
                refine wpAnyH_take (i := 14) (v := ?_) rfl (by decide +kernel) (by decide +kernel) (by decide +kernel) (fun _ _ _ h => h) (Or.inl ⟨by rfl, ?_⟩) trivial ?_
                rotate_left
                · intro w _; (try simp only [List.getElem_toArray, List.getElem_cons_zero, List.getElem_cons_succ]); go_simp; try with_reducible rfl
                try simp only [List.getElem_toArray, List.getElem_cons_zero, List.getElem_cons_succ, Act.put, List.setIfInBounds_toArray, List.set_cons_zero, List.set_cons_succ]
                refine wpAnyH_take (i := 15) (v := ?_) rfl (by decide +kernel) (by decide +kernel) (by decide +kernel) (fun _ _ _ h => h) (Or.inl ⟨by rfl, ?_⟩) trivial ?_
                rotate_left
                · intro w _; (try simp only [List.getElem_toArray, List.getElem_cons_zero, List.getElem_cons_succ]); go_simp; try with_reducible rfl
                try simp only [List.getElem_toArray, List.getElem_cons_zero, List.getElem_cons_succ, Act.put, List.setIfInBounds_toArray, List.set_cons_zero, List.set_cons_succ]
                refine wpAnyH_done (by decide +kernel) ?_ _
                have hRe3 := hRe2.out
                have hsz4 : wr.heap.size ≤ w4.heap.size := hg4.size
                have hb4 := hbd.out.grown hg4 (by show w1.heap.size ≤ wr.heap.size; omega) (fun k hk => by cases hk; omega)
                have hb5 := hb4.grown hg5 (by omega) (fun k hk => by cases hk; omega)
                have hfin : Below w.heap.size w w5 := hb1.trans (hb5.mono hs1)
                clear hb4 hb5 hg4 hg5 hR4 hU4 hR5 hU5 q1 hRe3 hsz4 cr hU1
                go_wp2_with fail
                refine (bad_nil _).mono ?_
                rintro e w' ⟨rfl, rfl⟩
                go_wp2_with fail
                refine (rnum_nil _).mono ?_
                rintro e w' ⟨rfl, rfl⟩
                go_wp2_with fail
                refine (rname_nil _).mono ?_
                rintro e w' ⟨rfl, rfl⟩
                go_wp2_with fail
                refine (rpart_nil _ _).mono ?_
                rintro e w' ⟨rfl, rfl⟩
                go_wp2_with fail
                refine (rraw_nil _ _).mono ?_
                rintro e w' ⟨rfl, rfl⟩
                go_wp2_with fail
                refine (left_nil _).mono ?_
                rintro e w' ⟨rfl, rfl⟩
                go_wp2_with fail
                refine (done_nil _).mono ?_
                rintro e w' ⟨rfl, rfl⟩
                go_wp2_with fail
                go_ret
                exact ⟨rfl, hfin⟩
              exact AllReadyH.nil
            refine AllReadyH.cons rfl (fun K hK => ?_) ?_
            · (try simp only [List.getElem_toArray, List.getElem_cons_zero, List.getElem_cons_succ])
              go_simp
              refine hK.out _ _ trivial (fun _ => ?_)
              clear hK K
              try simp only [List.getElem_toArray, List.getElem_cons_zero, List.getElem_cons_succ, Act.put, List.setIfInBounds_toArray, List.set_cons_zero, List.set_cons_succ]
              refine wpAnyH_ready (rs := [9]) (by decide +kernel) (by simp) ?_
              refine AllReadyH.cons rfl (fun K hK => ?_) ?_
              · (try simp only [List.getElem_toArray, List.getElem_cons_zero, List.getElem_cons_succ])
                go_simp
                refine (bad_c hR5).mono ?_
                rintro e w' ⟨rfl, rfl⟩
                go_simp
                refine hK.out _ _ trivial (fun _ => ?_)
                clear hK K
                try simp only [List.getElem_toArray, List.getElem_cons_zero, List.getElem_cons_succ, Act.put, List.setIfInBounds_toArray, List.set_cons_zero, List.set_cons_succ]
                refine wpAnyH_take (i := 14) (v := ?_) rfl (by decide +kernel) (by decide +kernel) (by decide +kernel) (fun _ _ _ h => h) (Or.inl ⟨by rfl, ?_⟩) trivial ?_
                rotate_left
                · intro w _; (try simp only [List.getElem_toArray, List.getElem_cons_zero, List.getElem_cons_succ]); go_simp; try with_reducible rfl
                try simp only [List.getElem_toArray, List.getElem_cons_zero, List.getElem_cons_succ, Act.put, List.setIfInBounds_toArray, List.set_cons_zero, List.set_cons_succ]
                refine wpAnyH_take (i := 15) (v := ?_) rfl (by decide +kernel) (by decide +kernel) (by decide +kernel) (fun _ _ _ h => h) (Or.inl ⟨by rfl, ?_⟩) trivial ?_
                rotate_left
                · intro w _; (try simp only [List.getElem_toArray, List.getElem_cons_zero, List.getElem_cons_succ]); go_simp; try with_reducible rfl
                try simp only [List.getElem_toArray, List.getElem_cons_zero, List.getElem_cons_succ, Act.put, List.setIfInBounds_toArray, List.set_cons_zero, List.set_cons_succ]
                refine wpAnyH_done (by decide +kernel) ?_ _
                have hRe3 := hRe2.out
                have hsz4 : wr.heap.size ≤ w4.heap.size := hg4.size
                have hb4 := hbd.out.grown hg4 (by show w1.heap.size ≤ wr.heap.size; omega) (fun k hk => by cases hk; omega)
                have hb5 := hb4.grown hg5 (by omega) (fun k hk => by cases hk; omega)
                have hfin : Below w.heap.size w w5 := hb1.trans (hb5.mono hs1)
                clear hb4 hb5 hg4 hg5 hR4 hU4 hR5 hU5 q1 hRe3 hsz4 cr hU1
                go_wp2_with fail
                refine (bad_nil _).mono ?_
                rintro e w' ⟨rfl, rfl⟩
                go_wp2_with fail
                refine (rnum_nil _).mono ?_
                rintro e w' ⟨rfl, rfl⟩
                go_wp2_with fail
                refine (rname_nil _).mono ?_
                rintro e w' ⟨rfl, rfl⟩
                go_wp2_with fail
                refine (rpart_nil _ _).mono ?_
                rintro e w' ⟨rfl, rfl⟩
                go_wp2_with fail
                refine (rraw_nil _ _).mono ?_
                rintro e w' ⟨rfl, rfl⟩
                go_wp2_with fail
                refine (left_nil _).mono ?_
                rintro e w' ⟨rfl, rfl⟩
                go_wp2_with fail
                refine (done_nil _).mono ?_
                rintro e w' ⟨rfl, rfl⟩
                go_wp2_with fail
                go_ret
                exact ⟨rfl, hfin⟩
              exact AllReadyH.nil
            exact AllReadyH.nil
          exact AllReadyH.nil
        exact AllReadyH.nil
end Go.Proofs.Ytaddckdbhakgmaa
