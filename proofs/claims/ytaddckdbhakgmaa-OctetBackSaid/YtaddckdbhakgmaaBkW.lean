/- the walk over retrofitlaw02.back -/
import Derived.Test.YtaddckdbhakgmaaBkP
import Derived.Deep.RegionHeld3
import Derived.Deep.RegionWith
import Derived.Deep.QuietTactic
import Derived.BigQuiet
import Derived.IntWalk
namespace Go.Proofs.Ytaddckdbhakgmaa
open Go.RowKit
open Rf
open Bk

/-- acts that can be read at a slice -/
def InA (w : World) (a : Option Addr) (l : List ActD) : Prop := l = [] ∨ ∃ g, a = some ⟨g, 0, none⟩ ∧ g < w.heap.size ∧ ∀ j (hj : j < l.length), w.cell? ⟨g, j * 4, none⟩ = some (.int .i64 l[j].K) ∧ w.cell? ⟨g, j * 4 + 1, none⟩ = some (.int .i64 l[j].W) ∧ w.cell? ⟨g, j * 4 + 2, none⟩ = some (.int .u64 l[j].N) ∧ w.cell? ⟨g, j * 4 + 3, none⟩ = some (.string l[j].S)
theorem InA.other {w w' : World} {a : Option Addr} {l : List ActD} {r : Nat} (h : InA w a l) (hg : w.grownBy w' (some r)) (hr : ∀ g, a = some ⟨g, 0, none⟩ → g < w.heap.size → g ≠ r) : InA w' a l := by
  rcases h with rfl | ⟨g, rfl, hlt, hc⟩
  · exact .inl rfl
  · have hne := hr g rfl hlt
    have key : ∀ i v, w.cell? ⟨g, i, none⟩ = some v → w'.cell? ⟨g, i, none⟩ = some v := fun i v hv => by
      have := hg.block g hlt (fun e => hne (Option.some.inj e))
      simp only [World.cell?] at hv ⊢
      rw [this]
      exact hv
    exact .inr ⟨g, rfl, Nat.lt_of_lt_of_le hlt hg.size, fun j hj => ⟨key _ _ (hc j hj).1, key _ _ (hc j hj).2.1, key _ _ (hc j hj).2.2.1, key _ _ (hc j hj).2.2.2⟩⟩
theorem InA.at {w : World} {a : Option Addr} {l : List ActD} (h : InA w a l) (j : Nat) (hj : j < l.length) : ∃ g, a = some ⟨g, 0, none⟩ ∧ g < w.heap.size ∧ w.cell? ⟨g, j * 4, none⟩ = some (.int .i64 l[j].K) ∧ w.cell? ⟨g, j * 4 + 1, none⟩ = some (.int .i64 l[j].W) ∧ w.cell? ⟨g, j * 4 + 2, none⟩ = some (.int .u64 l[j].N) ∧ w.cell? ⟨g, j * 4 + 3, none⟩ = some (.string l[j].S) := by
  rcases h with rfl | ⟨g, h1, h2, h3⟩
  · cases hj
  · exact ⟨g, h1, h2, h3 j hj⟩
theorem cell_kept {w w' : World} {row : Option Nat} (hg : w.grownBy w' row) {b i : Nat} {v : Value} (h : w.cell? ⟨b, i, none⟩ = some v) (hne : some b ≠ row) : w'.cell? ⟨b, i, none⟩ = some v := by
  have hl := World.block_lt_of_cell? _ _ h
  have := hg.block b hl hne
  simp only [World.cell?] at h ⊢
  rw [this]; exact h
theorem grown_alloc {w : World} {row : Option Nat} (o : Obj) : w.grownBy (w.alloc o) row := ⟨rfl, rfl, rfl, by simp, fun k hk _ => Below.heap_alloc w o k hk⟩
theorem grown_undrew {w w' : World} {row : Option Nat} (h : w.drew.grownBy w' row) : w.grownBy w' row := ⟨h.os, h.tape, h.output, h.size, h.block⟩
theorem IsR.drewed {T : TypeId} {w : World} {b : Nat} {l : List UInt8} {bad : Bool} (h : IsR T w b l bad) : IsR T w.drew b l bad := h
theorem rd_len (x : ActD) (l : List UInt8) (bad : Bool) : (rdA x l bad).2.1.length ≤ l.length := by
  unfold rdA rNum rText rRaw
  split
  · dsimp only; split <;> simp
  split
  · dsimp only; split <;> simp
  split
  · dsimp only; split <;> simp
  · dsimp only; split <;> simp
theorem text_eq (l : List UInt8) (S : ByteArray) : ((text l).toList == S.toList) = decide (l = byts S) := by
  rw [toList_text, toList_byts, Bool.eq_iff_iff, beq_iff_eq, decide_eq_true_iff]

theorem act4 {w : World} {b : Nat} {K W N : Int} {S : ByteArray} (h : w.heap[b]? = some (.cells #[.int .i64 K, .int .i64 W, .int .u64 N, .string S] 45 (0, 0))) :
    w.cell? ⟨b, 0, none⟩ = some (.int .i64 K) ∧ w.cell? ⟨b, 1, none⟩ = some (.int .i64 W) ∧ w.cell? ⟨b, 2, none⟩ = some (.int .u64 N) ∧ w.cell? ⟨b, 3, none⟩ = some (.string S) := by
  refine ⟨?_, ?_, ?_, ?_⟩ <;> simp [World.cell?, h]

set_option maxRecDepth 100000 in
set_option maxHeartbeats 16000000 in
theorem back_c (xs : List ActD) (hx : xs.length ≤ 100) (hS : ∀ x ∈ xs, x.S.size ≤ 1024) (a : Option Addr) (cp : Nat) (r : Nat) (l : List UInt8) (bad : Bool) (hl : l.length ≤ 1000000) (w : World) (hin : InA w a xs) (hR : IsR 68 w r l bad) (hr : ∀ g, a = some ⟨g, 0, none⟩ → g ≠ r) :
    Calls Try.prog 41 #[.pointer (some ⟨r, 0, none⟩), .slice a xs.length cp] w fun e w' => e = .returned (.bool (backF xs l bad).1) ∧ IsR 68 w' r (backF xs l bad).2.1 (backF xs l bad).2.2 ∧ w.grownBy w' (some r) := by
  obtain ⟨Q, hQ⟩ : ∃ Q, backF xs l bad = Q := ⟨_, rfl⟩
  rw [hQ]
  replace hQ := Lib.hid hQ
  replace hin := Lib.hid hin
  replace hS := Lib.hid hS
  replace hr := Lib.hid hr
  replace hR := Lib.hid hR
  go_enter Try.func41, Try.ntmps41
  go_wp2_with fail
  go_loopw [5] (fun i wr => ∃ (j : Nat) (l' : List UInt8) (bad' : Bool), j ≤ xs.length ∧ i = .int .i64 j ∧ l'.length ≤ 1000000 ∧ IsR 68 wr r l' bad' ∧ backF (xs.drop j) l' bad' = Q ∧ w.grownBy wr (some r)) (fun i _ => xs.length - (intOf i).toNat)
  case atStart => exact ⟨0, l, bad, Nat.zero_le _, rfl, hl, hR.out, by rw [List.drop_zero]; exact hQ.out, grown_refl _ _⟩
  case round =>
    clear hQ hR hl
    obtain ⟨j, l', bad', hj, rfl, hl', hR, hF, hg⟩ := hrel
    by_cases hlt : j < xs.length
    · obtain ⟨g, rfl, hgl, c0, c1, c2, c3⟩ := (hin.out.other hg (fun g ha _ => hr.out g ha)).at j hlt
      have hltI : (j : Int) < (xs.length : Int) := by omega
      have hdr : xs.drop j = xs[j] :: xs.drop (j + 1) := List.drop_eq_getElem_cons hlt
      have hSx : xs[j].S.size ≤ 1024 := hS.out _ (List.getElem_mem hlt)
      rw [hdr] at hF
      unfold backF at hF
      have hln := rd_len xs[j] l' bad'
      unfold rdA at hF hln
      clear hdr
      generalize xs[j] = x at *
      obtain ⟨K, W, N, S⟩ := x
      dsimp only at *
      have hRl := hR.lt
      have hR1 := hR.below (Below.alloc (Below.refl wr.heap.size wr) (Nat.le_refl _) (.cells #[.int .i64 K, .int .i64 W, .int .u64 N, .string S] 45))
      have hg1 := grown_trans hg (grown_alloc (row := some r) (.cells #[.int .i64 K, .int .i64 W, .int .u64 N, .string S] 45))
      have hag := heap_alloc_new wr (.cells #[.int .i64 K, .int .i64 W, .int .u64 N, .string S] 45)
      obtain ⟨x0, x1, x2, x3⟩ := act4 hag
      have hne : r ≠ wr.heap.size := by omega
      clear hR hg hag
      replace hF := Lib.hid hF
      replace hR1 := Lib.hid hR1
      replace hg1 := Lib.hid hg1
      by_cases hK1 : K = 1
      · have t1 : (K == 1) = true := beq_iff_eq.2 hK1
        have hF' := hF.out
        rw [if_pos hK1] at hF' hln
        clear hF hK1
        replace hF' := Lib.hid hF'
        replace hln := Lib.hid hln
        have cr := Lib.hid (rnum_c hR1.out.drewed W (by omega))
        go_wp2_with fail
        go_region_held3 (fun w => w.cell? ⟨wr.heap.size, 1, none⟩ = some (.int .i64 W) ∧ w.cell? ⟨wr.heap.size, 2, none⟩ = some (.int .u64 N)) (go_keep)
          (first
            | (go_at_call 29
               refine Calls.mono cr.out ?_
               rintro e w4 ⟨rfl, hR4, hg4⟩
               have y1 := cell_kept hg4 x1 (by intro hh; exact hne (Option.some.inj hh).symm)
               have y2 := cell_kept hg4 x2 (by intro hh; exact hne (Option.some.inj hh).symm)))
        have hg5 := grown_trans hg1.out (grown_undrew hg4)
        clear cr hg4 hg1
        generalize rNum W l' bad' = st at *
        obtain ⟨v, l2, bad2⟩ := st
        dsimp only at *
        have hl2 : l2.length ≤ 1000000 := by have := hln.out; omega
        clear hln hl' hR1 c0 c1 c2 c3 x0 x1 x2 x3
        replace hR4 := Lib.hid hR4
        replace hg5 := Lib.hid hg5
        by_cases hv : v = N
        · have t2 : (v == N) = true := beq_iff_eq.2 hv
          have hF2 := hF'.out
          rw [if_pos (decide_eq_true hv)] at hF2
          clear hF' hv
          replace hF2 := Lib.hid hF2
          go_wp2_with fail
          go_roundw
          case rel => exact ⟨j + 1, l2, bad2, by omega, by go_num, hl2, hR4.out, hF2.out, hg5.out⟩
          case measure => simp [intOf]; omega
        · have t2 : (v == N) = false := beq_eq_false_iff_ne.2 hv
          have hF2 := hF'.out
          rw [if_neg (by rw [decide_eq_false hv]; decide)] at hF2
          replace hF2 := Lib.hid hF2
          clear hF' hv
          go_wp2_with fail
          go_ret
          rw [← hF2.out]
          exact ⟨rfl, hR4.out, hg5.out⟩
      have q1 : (K == 1) = false := beq_eq_false_iff_ne.2 hK1
      replace hF := Lib.hid (by have h := hF.out; rw [if_neg hK1] at h; exact h)
      rw [if_neg hK1] at hln
      clear hK1
      by_cases hK2 : K = 2
      · have t1 : (K == 2) = true := beq_iff_eq.2 hK2
        have hF' := hF.out
        rw [if_pos hK2] at hF' hln
        clear hF hK2
        replace hF' := Lib.hid hF'
        replace hln := Lib.hid hln
        have cr := Lib.hid (rname_c hR1.out.drewed (by omega))
        go_wp2_with fail
        go_region_held3 (fun w => w.cell? ⟨wr.heap.size, 3, none⟩ = some (.string S)) (go_keep)
          (first
            | (go_at_call 31
               refine Calls.mono cr.out ?_
               rintro e w4 ⟨rfl, hR4, hg4⟩
               have y3 := cell_kept hg4 x3 (by intro hh; exact hne (Option.some.inj hh).symm)))
        have hg5 := grown_trans hg1.out (grown_undrew hg4)
        clear cr hg4 hg1
        generalize rText 1 255 l' bad' = st at *
        obtain ⟨v, l2, bad2⟩ := st
        dsimp only at *
        have hl2 : l2.length ≤ 1000000 := by have := hln.out; omega
        clear hln hl' hR1 c0 c1 c2 c3 x0 x1 x2 x3
        replace hR4 := Lib.hid hR4
        replace hg5 := Lib.hid hg5
        by_cases hv : v = byts S
        · have t2 : ((text v).toList == S.toList) = true := by rw [text_eq]; exact decide_eq_true hv
          have hF2 := hF'.out
          rw [if_pos (decide_eq_true hv)] at hF2
          clear hF' hv
          replace hF2 := Lib.hid hF2
          go_wp2_with fail
          go_roundw
          case rel => exact ⟨j + 1, l2, bad2, by omega, by go_num, hl2, hR4.out, hF2.out, hg5.out⟩
          case measure => simp [intOf]; omega
        · have t2 : ((text v).toList == S.toList) = false := by rw [text_eq]; exact decide_eq_false hv
          have hF2 := hF'.out
          rw [if_neg (by rw [decide_eq_false hv]; decide)] at hF2
          replace hF2 := Lib.hid hF2
          clear hF' hv
          go_wp2_with fail
          go_ret
          rw [← hF2.out]
          exact ⟨rfl, hR4.out, hg5.out⟩
      have q2 : (K == 2) = false := beq_eq_false_iff_ne.2 hK2
      replace hF := Lib.hid (by have h := hF.out; rw [if_neg hK2] at h; exact h)
      rw [if_neg hK2] at hln
      clear hK2
      by_cases hK3 : K = 3
      · have t1 : (K == 3) = true := beq_iff_eq.2 hK3
        have hF' := hF.out
        rw [if_pos hK3] at hF' hln
        clear hF hK3
        replace hF' := Lib.hid hF'
        replace hln := Lib.hid hln
        have cr := Lib.hid (rpart_c hR1.out.drewed (S.size : Int) (by omega))
        go_wp2_with fail
        go_region_held3 (fun w => w.cell? ⟨wr.heap.size, 3, none⟩ = some (.string S)) (go_keep)
          (first
            | (go_at_call 33
               refine Calls.mono cr.out ?_
               rintro e w4 ⟨rfl, hR4, hg4⟩
               have y3 := cell_kept hg4 x3 (by intro hh; exact hne (Option.some.inj hh).symm)))
        have hg5 := grown_trans hg1.out (grown_undrew hg4)
        clear cr hg4 hg1
        generalize rText 4 (S.size : Int) l' bad' = st at *
        obtain ⟨v, l2, bad2⟩ := st
        dsimp only at *
        have hl2 : l2.length ≤ 1000000 := by have := hln.out; omega
        clear hln hl' hR1 c0 c1 c2 c3 x0 x1 x2 x3
        replace hR4 := Lib.hid hR4
        replace hg5 := Lib.hid hg5
        by_cases hv : v = byts S
        · have t2 : ((text v).toList == S.toList) = true := by rw [text_eq]; exact decide_eq_true hv
          have hF2 := hF'.out
          rw [if_pos (decide_eq_true hv)] at hF2
          clear hF' hv
          replace hF2 := Lib.hid hF2
          go_wp2_with fail
          go_roundw
          case rel => exact ⟨j + 1, l2, bad2, by omega, by go_num, hl2, hR4.out, hF2.out, hg5.out⟩
          case measure => simp [intOf]; omega
        · have t2 : ((text v).toList == S.toList) = false := by rw [text_eq]; exact decide_eq_false hv
          have hF2 := hF'.out
          rw [if_neg (by rw [decide_eq_false hv]; decide)] at hF2
          replace hF2 := Lib.hid hF2
          clear hF' hv
          go_wp2_with fail
          go_ret
          rw [← hF2.out]
          exact ⟨rfl, hR4.out, hg5.out⟩
      have q3 : (K == 3) = false := beq_eq_false_iff_ne.2 hK3
      replace hF := Lib.hid (by have h := hF.out; rw [if_neg hK3] at h; exact h)
      rw [if_neg hK3] at hln
      clear hK3
      have hF' := Lib.hid hF.out
      clear hF
      replace hln := Lib.hid hln
      have cr := Lib.hid (rraw_c hR1.out.drewed (S.size : Int) (by omega))
      go_wp2_with fail
      go_region_held3 (fun w => w.cell? ⟨wr.heap.size, 3, none⟩ = some (.string S)) (go_keep)
        (first
          | (go_at_call 35
             refine Calls.mono cr.out ?_
             rintro e w4 ⟨rfl, hR4, hg4⟩
             have y3 := cell_kept hg4 x3 (by intro hh; exact hne (Option.some.inj hh).symm)))
      have hg5 := grown_trans hg1.out (grown_undrew hg4)
      clear cr hg4 hg1
      generalize rRaw (S.size : Int) l' bad' = st at *
      obtain ⟨v, l2, bad2⟩ := st
      dsimp only at *
      have hl2 : l2.length ≤ 1000000 := by have := hln.out; omega
      clear hln hl' hR1 c0 c1 c2 c3 x0 x1 x2 x3
      replace hR4 := Lib.hid hR4
      replace hg5 := Lib.hid hg5
      by_cases hv : v = byts S
      · have t2 : ((text v).toList == S.toList) = true := by rw [text_eq]; exact decide_eq_true hv
        have hF2 := hF'.out
        rw [if_pos (decide_eq_true hv)] at hF2
        clear hF' hv
        replace hF2 := Lib.hid hF2
        go_wp2_with fail
        go_roundw
        case rel => exact ⟨j + 1, l2, bad2, by omega, by go_num, hl2, hR4.out, hF2.out, hg5.out⟩
        case measure => simp [intOf]; omega
      · have t2 : ((text v).toList == S.toList) = false := by rw [text_eq]; exact decide_eq_false hv
        have hF2 := hF'.out
        rw [if_neg (by rw [decide_eq_false hv]; decide)] at hF2
        replace hF2 := Lib.hid hF2
        clear hF' hv
        go_wp2_with fail
        go_ret
        rw [← hF2.out]
        exact ⟨rfl, hR4.out, hg5.out⟩
    · obtain rfl : j = xs.length := by omega
      rw [List.drop_length] at hF
      unfold backF at hF
      replace hF := Lib.hid hF
      have cd := Lib.hid (done_c hR)
      replace hR := Lib.hid hR
      replace hg := Lib.hid hg
      go_wp2_with fail
      refine cd.out.mono ?_
      rintro e w' ⟨rfl, rfl⟩
      go_wp2_with fail
      go_ret
      rw [← hF.out]
      exact ⟨rfl, hR.out, hg.out⟩
end Go.Proofs.Ytaddckdbhakgmaa
