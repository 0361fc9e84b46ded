/- the walks over package field, eighth part: the kind of a name -/
import Derived.Test.YtbfigpollacngaaFd7c
namespace Go.Proofs.Ytbfigpollacngaa
open Go.RowKit
open Rf
open Wide
attribute [local go_sem ↓] Go.wp_at_zero Go.wp_at_succ

/-- does this name hit? -/
def hitB (a s : ByteArray) : Bool := (a.toList == s.toList) && !s.toList.isEmpty
def encS (nm : ByteArray) (sz : Int) (sg : Bool) : Value := .agg #[.string nm, .int .i64 sz, .bool sg]
set_option maxHeartbeats 1000000 in
theorem hit_c (nm s : ByteArray) (sz : Int) (sg : Bool) (c : Nat) (w : World) (hc : w.cell? ⟨c, 0, none⟩ = some (.string s)) :
    Calls Try.prog 41 #[encS nm sz sg, .pointer (some ⟨c, 0, none⟩)] w fun e w' => e = .returned (.bool (hitB nm s)) ∧ Below w.heap.size w w' := by
  have hlt : c < w.heap.size := World.block_lt_of_cell? w _ hc
  have hne : c ≠ w.heap.size := by omega
  unfold encS hitB
  cases h1 : (nm.toList == s.toList) with
  | false =>
    go_enter Try.func41, Try.ntmps41
    go_wp2
    go_ret
    exact ⟨rfl, below1 _ _⟩
  | true =>
    cases h2 : s.toList.isEmpty <;>
    · go_enter Try.func41, Try.ntmps41
      go_wp2
      go_ret
      exact ⟨rfl, below1 _ _⟩
/-- the eleven shapes, as they lie -/
abbrev rowS : Obj := .cells #[.string ⟨#[]⟩, .int .i64 0, .bool false, .string ⟨#[98, 111, 111, 108]⟩, .int .i64 1, .bool false, .string ⟨#[105, 56]⟩, .int .i64 1, .bool true,
  .string ⟨#[105, 49, 54]⟩, .int .i64 2, .bool true, .string ⟨#[105, 51, 50]⟩, .int .i64 4, .bool true, .string ⟨#[105, 54, 52]⟩, .int .i64 8, .bool true,
  .string ⟨#[117, 56]⟩, .int .i64 1, .bool false, .string ⟨#[117, 49, 54]⟩, .int .i64 2, .bool false, .string ⟨#[117, 51, 50]⟩, .int .i64 4, .bool false,
  .string ⟨#[117, 54, 52]⟩, .int .i64 8, .bool false, .string ⟨#[114, 101, 102]⟩, .int .i64 8, .bool false] 56
set_option maxHeartbeats 1000000 in
theorem shapes_c (w : World) : Calls Try.prog 40 #[] w fun e w' => e = .returned (.slice (some ⟨w.heap.size, 0, none⟩) 11 11) ∧ w' = w.alloc rowS := by
  go_enter Try.func40, Try.ntmps40
  go_wp2
  go_ret
  exact ⟨rfl, rfl⟩
/-- the cells of shape j -/
theorem row_cells (w : World) (j : Nat) (hj : j < 11) : (w.alloc rowS).cell? ⟨w.heap.size, j * 3, none⟩ = some (.string (shp j).1) ∧ (w.alloc rowS).cell? ⟨w.heap.size, j * 3 + 1, none⟩ = some (.int .i64 (shp j).2.1) ∧ (w.alloc rowS).cell? ⟨w.heap.size, j * 3 + 2, none⟩ = some (.bool (shp j).2.2) := by
  have hb : (w.alloc rowS).heap[w.heap.size]? = some rowS := heap_alloc_new w _
  generalize w.alloc rowS = W at *
  have : j = 0 ∨ j = 1 ∨ j = 2 ∨ j = 3 ∨ j = 4 ∨ j = 5 ∨ j = 6 ∨ j = 7 ∨ j = 8 ∨ j = 9 ∨ j = 10 := by omega
  unfold World.cell?
  dsimp only
  rw [hb]
  rcases this with rfl | rfl | rfl | rfl | rfl | rfl | rfl | rfl | rfl | rfl | rfl <;> exact ⟨rfl, rfl, rfl⟩

/-- the first that hits, or none -/
def Found (s : ByteArray) (i : Int) : Prop := (∃ j : Nat, i = j ∧ j < 11 ∧ hitB (shp j).1 s = true ∧ ∀ q : Nat, q < j → hitB (shp q).1 s = false) ∨ (i = -1 ∧ ∀ q : Nat, q < 11 → hitB (shp q).1 s = false)
def FoundP (s : ByteArray) (w : World) (e : Ending) (w' : World) : Prop := ∃ i : Int, e = .returned (.int .i64 i) ∧ Found s i ∧ Below w.heap.size w w'
set_option maxRecDepth 100000 in
set_option maxHeartbeats 4000000 in
theorem index_c (s : ByteArray) (b c : Nat) (w : World) (hc : w.cell? ⟨c, 0, none⟩ = some (.string s))
    (hrow : ∀ j : Nat, j < 11 → w.cell? ⟨b, j * 3, none⟩ = some (.string (shp j).1) ∧ w.cell? ⟨b, j * 3 + 1, none⟩ = some (.int .i64 (shp j).2.1) ∧ w.cell? ⟨b, j * 3 + 2, none⟩ = some (.bool (shp j).2.2)) :
    Calls Try.prog 39 #[.slice (some ⟨b, 0, none⟩) 11 11, .func (.func 41) #[] #[.pointer (some ⟨c, 0, none⟩)]] w (FoundP s w) := by
  have hb : b < w.heap.size := World.block_lt_of_cell? w _ (hrow 0 (by omega)).1
  have hcl : c < w.heap.size := World.block_lt_of_cell? w _ hc
  have hrow' := Lib.hid (fun (W : World) (hW : Below w.heap.size w W) (j : Nat) (hj : j < 11) => by
    obtain ⟨h1, h2, h3⟩ := hrow j hj
    exact (⟨(hW.cell (p := ⟨b, j * 3, none⟩) hb).trans h1, (hW.cell (p := ⟨b, j * 3 + 1, none⟩) hb).trans h2, (hW.cell (p := ⟨b, j * 3 + 2, none⟩) hb).trans h3⟩ : W.cell? ⟨b, j * 3, none⟩ = some (.string (shp j).1) ∧ W.cell? ⟨b, j * 3 + 1, none⟩ = some (.int .i64 (shp j).2.1) ∧ W.cell? ⟨b, j * 3 + 2, none⟩ = some (.bool (shp j).2.2)))
  have hcall := Lib.hid (fun (W : World) (hW : Below w.heap.size w W) (nm : ByteArray) (sz : Int) (sg : Bool) => hit_c nm s sz sg c W ((hW.cell (p := ⟨c, 0, none⟩) hcl).trans hc))
  clear hrow hc
  go_enter Try.func39, Try.ntmps39
  go_wp2_with fail
  go_loopw [5, 8] (fun _ i wr => ∃ j : Nat, j ≤ 11 ∧ i = .int .i64 j ∧ (∀ q : Nat, q < j → hitB (shp q).1 s = false) ∧ Below w.heap.size w wr) (fun _ i _ => 11 - (intOf i).toNat)
  case atStart => exact ⟨0, by omega, rfl, fun q hq => absurd hq (Nat.not_lt_zero _), Below.refl _ _⟩
  case round =>
    obtain ⟨j, hj, rfl, hno, hbr⟩ := hrel
    replace hno := Lib.hid hno
    by_cases hlt : j < 11
    · obtain ⟨c0, c1, c2⟩ := hrow'.out _ hbr j hlt
      have hh := hcall.out _ hbr (shp j).1 (shp j).2.1 (shp j).2.2
      clear hrow' hcall
      unfold encS at hh
      generalize hq : shp j = q at *
      replace hq := Lib.hid hq
      obtain ⟨nm, sz, sg⟩ := q
      dsimp only at *
      cases ht : hitB nm s with
      | true =>
        rw [ht] at hh
        replace hh := Lib.hid hh
        replace ht := Lib.hid ht
        go_wp2_with fail
        refine (hh.out).mono ?_
        rintro e w1 ⟨rfl, hb1⟩
        go_wp2_with fail
        go_ret
        exact ⟨j, rfl, .inl ⟨j, rfl, hlt, by rw [hq.out]; exact ht.out, hno.out⟩, hbr.trans (hb1.mono hbr.size)⟩
      | false =>
        rw [ht] at hh
        replace hh := Lib.hid hh
        replace ht := Lib.hid ht
        go_wp2_with fail
        refine (hh.out).mono ?_
        rintro e w1 ⟨rfl, hb1⟩
        go_wp2_with fail
        go_roundw
        case rel =>
          refine ⟨j + 1, by omega, by go_num, fun q hq' => ?_, hbr.trans (hb1.mono hbr.size)⟩
          rcases Nat.lt_or_ge q j with hqj | hqj
          · exact hno.out q hqj
          · obtain rfl : q = j := by omega
            rw [hq.out]
            exact ht.out
        case measure => simp [intOf]; omega
    · obtain rfl : j = 11 := by omega
      go_wp2_with fail
      go_ret
      exact ⟨-1, rfl, .inr ⟨rfl, hno.out⟩, hbr⟩

/-- a kind of a name -/
def namedF (s : ByteArray) : Int := if hitB (shp 1).1 s = true then 1 else if hitB (shp 2).1 s = true then 2 else if hitB (shp 3).1 s = true then 3 else if hitB (shp 4).1 s = true then 4
  else if hitB (shp 5).1 s = true then 5 else if hitB (shp 6).1 s = true then 6 else if hitB (shp 7).1 s = true then 7 else if hitB (shp 8).1 s = true then 8
  else if hitB (shp 9).1 s = true then 9 else if hitB (shp 10).1 s = true then 10 else 0
theorem hit_zero (s : ByteArray) : hitB (shp 0).1 s = false := by
  unfold hitB
  rw [show (shp 0).1.toList = [] from by rw [ByteArray.toList_eq]; rfl]
  cases s.toList <;> rfl
theorem found_named {s : ByteArray} {i : Int} (h : Found s i) : (if i ≤ 0 then 0 else i) = namedF s ∧ decide (0 < i) = (namedF s != 0) := by
  rcases h with ⟨j, rfl, hj, hit, hno⟩ | ⟨rfl, hno⟩
  · have : j = 0 ∨ j = 1 ∨ j = 2 ∨ j = 3 ∨ j = 4 ∨ j = 5 ∨ j = 6 ∨ j = 7 ∨ j = 8 ∨ j = 9 ∨ j = 10 := by omega
    have hz := hit_zero s
    have h1 := hno 1; have h2 := hno 2; have h3 := hno 3; have h4 := hno 4; have h5 := hno 5; have h6 := hno 6; have h7 := hno 7; have h8 := hno 8; have h9 := hno 9
    clear hno
    rcases this with rfl | rfl | rfl | rfl | rfl | rfl | rfl | rfl | rfl | rfl | rfl
    · rw [show ((0 : Nat) : Int) = 0 from rfl] at hit; rw [hz] at hit; cases hit
    all_goals
      unfold namedF
      simp at h1 h2 h3 h4 h5 h6 h7 h8 h9 hit
      simp [*]
  · have h1 := hno 1 (by omega); have h2 := hno 2 (by omega); have h3 := hno 3 (by omega); have h4 := hno 4 (by omega); have h5 := hno 5 (by omega); have h6 := hno 6 (by omega); have h7 := hno 7 (by omega); have h8 := hno 8 (by omega); have h9 := hno 9 (by omega); have h10 := hno 10 (by omega)
    clear hno
    unfold namedF
    simp at h1 h2 h3 h4 h5 h6 h7 h8 h9 h10
    simp [*]
set_option maxRecDepth 100000 in
set_option maxHeartbeats 4000000 in
theorem named_c (s : ByteArray) (w : World) : Calls Try.prog 13 #[.string s] w fun e w' => e = .returned (.tuple #[.int .i64 (namedF s), .bool (namedF s != 0)]) ∧ Below w.heap.size w w' := by
  have ci := Lib.hid (fun (w : World) => index_c s (w.heap.size + 1) w.heap.size ((w.alloc (.cells #[.string s] 9)).alloc rowS))
  go_enter Try.func13, Try.ntmps13
  go_wp2_with fail
  refine (shapes_c _).mono ?_
  rintro e w1 ⟨rfl, rfl⟩
  go_wp2_with fail
  have hw1 : (w.alloc (.cells #[.string s] 9)).heap.size = w.heap.size + 1 := size_alloc _ _
  refine (ci.out _ ?_ ?_).mono ?_
  · simp
  · intro j hj
    have := row_cells (w.alloc (.cells #[.string s] 9)) j hj
    rwa [hw1] at this
  rintro e w3 ⟨i, rfl, hf, hb⟩
  have hfin := Lib.hid (show Below w.heap.size w w3 from ((below1 w _).alloc (by rw [size_alloc]; omega) _).trans (hb.mono (by rw [size_alloc, size_alloc]; omega)))
  obtain ⟨hm, hp⟩ := found_named hf
  have hii : -1 ≤ i ∧ i ≤ 11 := by rcases hf with ⟨j, rfl, hj, _⟩ | ⟨rfl, _⟩ <;> omega
  have hneg : i ≤ 0 → i = -1 := by
    intro hi
    rcases hf with ⟨j, rfl, hj, hh, _⟩ | ⟨rfl, _⟩
    · obtain rfl : j = 0 := by omega
      rw [show ((0 : Nat) : Int) = 0 from rfl, hit_zero s] at hh
      cases hh
    · rfl
  clear hf hb hw1 ci
  by_cases hi : 0 < i
  · rw [if_neg (by omega)] at hm
    rw [decide_eq_true hi] at hp
    clear hneg
    replace hm := Lib.hid hm
    replace hp := Lib.hid hp
    have hk : ¬ i ≤ 0 := by omega
    go_wp2_with fail
    go_ret2
    exact ⟨by rw [← hp.out, ← hm.out]; simp, hfin.out⟩
  · rw [if_pos (by omega)] at hm
    rw [decide_eq_false hi] at hp
    obtain rfl := hneg (by omega)
    clear hneg
    replace hm := Lib.hid hm
    replace hp := Lib.hid hp
    go_wp2_with fail
    go_ret2
    exact ⟨by rw [← hp.out, ← hm.out]; simp, hfin.out⟩
end Go.Proofs.Ytbfigpollacngaa
