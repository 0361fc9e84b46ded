/- parts of the proof, merged: TlJ -/
import Derived.Deep.RegionWith
import Derived.Test.YtjjgbillihedgaaGreatDoorQb12
set_option linter.unusedSimpArgs false
set_option linter.unusedVariables false
set_option maxHeartbeats 16000000
set_option maxRecDepth 100000
namespace Go.Proofs.YtjjgbillihedgaaGreatDoor
open Go.RowKit
open Rf
open Sg
open Wide
open Tl
namespace Tl
def kindF (k : Int) : Int := if k = 4 then 5 else if k = 5 then 4 else k
def isCmd (k : Int) : Bool := decide (1 ≤ k) && decide (k ≤ 5)
def zeroO : OpD := ⟨0, 0, 0, [], 0, 0, 0, 0, 0, [], 0, sS⟩
def asOpF (K E C : Int) (l : List PartD) : OpD := if isCmd K = true then ⟨kindF K, E, C, l, 0, 0, 0, 0, 0, [], 0, sS⟩ else zeroO
def asOpS (K : Int) (t : Value) : Value := if isCmd K = true then t else nilV
end Tl
theorem asOp_c (K E C : Int) (l : List PartD) (a : Option Addr) (n c : Nat) (w : World) :
 Calls Tryz.prog 27 #[cmdv K E C (.slice a n c)] w fun e w' => e = .returned (.tuple #[opv (asOpF K E C l) (asOpS K (.slice a n c)) nilV, .bool (isCmd K)]) ∧ Below w.heap.size w w' := by
 by_cases h1 : K = 1
 ·subst h1
  rw [show asOpF 1 E C l = ⟨1, E, C, l, 0, 0, 0, 0, 0, [], 0, sS⟩ from rfl, show asOpS 1 (.slice a n c) = .slice a n c from rfl, show isCmd 1 = true from rfl]
  unfold opv cmdv nilV sS
  dsimp only
  go_enter Tryz.func27, Tryz.ntmps27
  go_wp2_with fail
  refine wp_region_held_at (S := fun w1 => w1.cell? ⟨w.heap.size, 0, none⟩ = some (.int .i64 1) ∧ w1.cell? ⟨w.heap.size, 1, none⟩ = some (.int .u64 E) ∧ w1.cell? ⟨w.heap.size, 2, none⟩ = some (.int .i64 C) ∧ w1.cell? ⟨w.heap.size, 3, none⟩ = some (.slice a n c)) 14 rfl (by kernel_rfl) (by go_keep) (fun hH => ?_)
  refine wpU 1 ?_ rfl ?_ ?_
  rotate_left
  ·intro u h; (try simp only [ls3]); go_simp; try with_reducible rfl
  try simp only [ls7, Act.put]
  refine wpU 2 ?_ rfl ?_ ?_
  rotate_left
  ·intro u h; (try simp only [ls3]); go_simp; try with_reducible rfl
  try simp only [ls7, Act.put]
  refine wpU 5 ?_ rfl ?_ ?_
  rotate_left
  ·intro u h; (try simp only [ls3]); go_simp; try with_reducible rfl
  try simp only [ls7, Act.put]
  refine wpU 6 ?_ rfl ?_ ?_
  rotate_left
  ·intro u h; (try simp only [ls3]); go_simp; try with_reducible rfl
  try simp only [ls7, Act.put]
  refine wpU 7 ?_ rfl ?_ ?_
  rotate_left
  ·intro u h; (try simp only [ls3]); go_simp; try with_reducible rfl
  try simp only [ls7, Act.put]
  refine wpU 8 ?_ rfl ?_ ?_
  rotate_left
  ·intro u h; (try simp only [ls3]); go_simp; try with_reducible rfl
  try simp only [ls7, Act.put]
  refine wpU 9 ?_ rfl ?_ ?_
  rotate_left
  ·intro u h; (try simp only [ls3]); go_simp; try with_reducible rfl
  try simp only [ls7, Act.put]
  refine wpU 10 ?_ rfl ?_ ?_
  rotate_left
  ·intro u h; (try simp only [ls3]); go_simp; try with_reducible rfl
  try simp only [ls7, Act.put]
  refine wpAnyH_ready (rs := [0]) (by decide +kernel) (by simp) ?_
  refine AllReadyH.cons rfl (fun K hK => ?_) AllReadyH.nil
  (try simp only [ls3])
  go_simp
  refine Calls.mono (kinds_c _) ?_
  rintro e w4 ⟨rfl, rfl⟩
  go_simp
  refine hK.out _ _ (by go_keep) (fun hH => ?_)
  clear hK K
  try simp only [ls7, Act.put]
  refine wpU 3 ?_ rfl ?_ ?_
  rotate_left
  ·intro u h; (try simp only [ls3]); go_simp; try with_reducible rfl
  try simp only [ls7, Act.put]
  refine wpAnyH_ready (rs := [4]) (by decide +kernel) (by simp) ?_
  refine AllReadyH.cons rfl (fun K hK => ?_) AllReadyH.nil
  (try simp only [ls3])
  go_simp
  refine hK.out _ _ (by go_keep) (fun hH => ?_)
  clear hK K
  try simp only [ls7, Act.put]
  refine wpU 11 ?_ rfl ?_ ?_
  rotate_left
  ·intro u h; (try simp only [ls3]); go_simp; try with_reducible rfl
  try simp only [ls7, Act.put]
  refine wpAnyH_ready (rs := [12]) (by decide +kernel) (by simp) ?_
  refine AllReadyH.cons rfl (fun K hK => ?_) AllReadyH.nil
  (try simp only [ls3])
  go_simp
  refine hK.out _ _ (by go_keep) (fun hH => ?_)
  clear hK K
  try simp only [ls7, Act.put]
  refine wpU 13 ?_ rfl ?_ ?_
  rotate_left
  ·intro u h; (try simp only [ls3]); go_simp; try with_reducible rfl
  try simp only [ls7, Act.put]
  refine wpAnyH_done (by decide +kernel) ?_ _
  go_wp2_with fail
  (try simp only [Exit.inBlock, Exit.then])
  refine bodyPost_ret (by simp [results, Tryz.results27, go_sem]; try rfl) rfl ?_
  exact ⟨rfl, below_drewed ((((Below.refl w.heap.size w).alloc (Nat.le_refl _) _).alloc (by simp) _).alloc (by simp; omega) _)⟩
 by_cases h2 : K = 2
 ·subst h2
  rw [show asOpF 2 E C l = ⟨2, E, C, l, 0, 0, 0, 0, 0, [], 0, sS⟩ from rfl, show asOpS 2 (.slice a n c) = .slice a n c from rfl, show isCmd 2 = true from rfl]
  unfold opv cmdv nilV sS
  dsimp only
  go_enter Tryz.func27, Tryz.ntmps27
  go_wp2_with fail
  refine wp_region_held_at (S := fun w1 => w1.cell? ⟨w.heap.size, 0, none⟩ = some (.int .i64 2) ∧ w1.cell? ⟨w.heap.size, 1, none⟩ = some (.int .u64 E) ∧ w1.cell? ⟨w.heap.size, 2, none⟩ = some (.int .i64 C) ∧ w1.cell? ⟨w.heap.size, 3, none⟩ = some (.slice a n c)) 14 rfl (by kernel_rfl) (by go_keep) (fun hH => ?_)
  refine wpU 1 ?_ rfl ?_ ?_
  rotate_left
  ·intro u h; (try simp only [ls3]); go_simp; try with_reducible rfl
  try simp only [ls7, Act.put]
  refine wpU 2 ?_ rfl ?_ ?_
  rotate_left
  ·intro u h; (try simp only [ls3]); go_simp; try with_reducible rfl
  try simp only [ls7, Act.put]
  refine wpU 5 ?_ rfl ?_ ?_
  rotate_left
  ·intro u h; (try simp only [ls3]); go_simp; try with_reducible rfl
  try simp only [ls7, Act.put]
  refine wpU 6 ?_ rfl ?_ ?_
  rotate_left
  ·intro u h; (try simp only [ls3]); go_simp; try with_reducible rfl
  try simp only [ls7, Act.put]
  refine wpU 7 ?_ rfl ?_ ?_
  rotate_left
  ·intro u h; (try simp only [ls3]); go_simp; try with_reducible rfl
  try simp only [ls7, Act.put]
  refine wpU 8 ?_ rfl ?_ ?_
  rotate_left
  ·intro u h; (try simp only [ls3]); go_simp; try with_reducible rfl
  try simp only [ls7, Act.put]
  refine wpU 9 ?_ rfl ?_ ?_
  rotate_left
  ·intro u h; (try simp only [ls3]); go_simp; try with_reducible rfl
  try simp only [ls7, Act.put]
  refine wpU 10 ?_ rfl ?_ ?_
  rotate_left
  ·intro u h; (try simp only [ls3]); go_simp; try with_reducible rfl
  try simp only [ls7, Act.put]
  refine wpAnyH_ready (rs := [0]) (by decide +kernel) (by simp) ?_
  refine AllReadyH.cons rfl (fun K hK => ?_) AllReadyH.nil
  (try simp only [ls3])
  go_simp
  refine Calls.mono (kinds_c _) ?_
  rintro e w4 ⟨rfl, rfl⟩
  go_simp
  refine hK.out _ _ (by go_keep) (fun hH => ?_)
  clear hK K
  try simp only [ls7, Act.put]
  refine wpU 3 ?_ rfl ?_ ?_
  rotate_left
  ·intro u h; (try simp only [ls3]); go_simp; try with_reducible rfl
  try simp only [ls7, Act.put]
  refine wpAnyH_ready (rs := [4]) (by decide +kernel) (by simp) ?_
  refine AllReadyH.cons rfl (fun K hK => ?_) AllReadyH.nil
  (try simp only [ls3])
  go_simp
  refine hK.out _ _ (by go_keep) (fun hH => ?_)
  clear hK K
  try simp only [ls7, Act.put]
  refine wpU 11 ?_ rfl ?_ ?_
  rotate_left
  ·intro u h; (try simp only [ls3]); go_simp; try with_reducible rfl
  try simp only [ls7, Act.put]
  refine wpAnyH_ready (rs := [12]) (by decide +kernel) (by simp) ?_
  refine AllReadyH.cons rfl (fun K hK => ?_) AllReadyH.nil
  (try simp only [ls3])
  go_simp
  refine hK.out _ _ (by go_keep) (fun hH => ?_)
  clear hK K
  try simp only [ls7, Act.put]
  refine wpU 13 ?_ rfl ?_ ?_
  rotate_left
  ·intro u h; (try simp only [ls3]); go_simp; try with_reducible rfl
  try simp only [ls7, Act.put]
  refine wpAnyH_done (by decide +kernel) ?_ _
  go_wp2_with fail
  (try simp only [Exit.inBlock, Exit.then])
  refine bodyPost_ret (by simp [results, Tryz.results27, go_sem]; try rfl) rfl ?_
  exact ⟨rfl, below_drewed ((((Below.refl w.heap.size w).alloc (Nat.le_refl _) _).alloc (by simp) _).alloc (by simp; omega) _)⟩
 by_cases h3 : K = 3
 ·subst h3
  rw [show asOpF 3 E C l = ⟨3, E, C, l, 0, 0, 0, 0, 0, [], 0, sS⟩ from rfl, show asOpS 3 (.slice a n c) = .slice a n c from rfl, show isCmd 3 = true from rfl]
  unfold opv cmdv nilV sS
  dsimp only
  go_enter Tryz.func27, Tryz.ntmps27
  go_wp2_with fail
  refine wp_region_held_at (S := fun w1 => w1.cell? ⟨w.heap.size, 0, none⟩ = some (.int .i64 3) ∧ w1.cell? ⟨w.heap.size, 1, none⟩ = some (.int .u64 E) ∧ w1.cell? ⟨w.heap.size, 2, none⟩ = some (.int .i64 C) ∧ w1.cell? ⟨w.heap.size, 3, none⟩ = some (.slice a n c)) 14 rfl (by kernel_rfl) (by go_keep) (fun hH => ?_)
  refine wpU 1 ?_ rfl ?_ ?_
  rotate_left
  ·intro u h; (try simp only [ls3]); go_simp; try with_reducible rfl
  try simp only [ls7, Act.put]
  refine wpU 2 ?_ rfl ?_ ?_
  rotate_left
  ·intro u h; (try simp only [ls3]); go_simp; try with_reducible rfl
  try simp only [ls7, Act.put]
  refine wpU 5 ?_ rfl ?_ ?_
  rotate_left
  ·intro u h; (try simp only [ls3]); go_simp; try with_reducible rfl
  try simp only [ls7, Act.put]
  refine wpU 6 ?_ rfl ?_ ?_
  rotate_left
  ·intro u h; (try simp only [ls3]); go_simp; try with_reducible rfl
  try simp only [ls7, Act.put]
  refine wpU 7 ?_ rfl ?_ ?_
  rotate_left
  ·intro u h; (try simp only [ls3]); go_simp; try with_reducible rfl
  try simp only [ls7, Act.put]
  refine wpU 8 ?_ rfl ?_ ?_
  rotate_left
  ·intro u h; (try simp only [ls3]); go_simp; try with_reducible rfl
  try simp only [ls7, Act.put]
  refine wpU 9 ?_ rfl ?_ ?_
  rotate_left
  ·intro u h; (try simp only [ls3]); go_simp; try with_reducible rfl
  try simp only [ls7, Act.put]
  refine wpU 10 ?_ rfl ?_ ?_
  rotate_left
  ·intro u h; (try simp only [ls3]); go_simp; try with_reducible rfl
  try simp only [ls7, Act.put]
  refine wpAnyH_ready (rs := [0]) (by decide +kernel) (by simp) ?_
  refine AllReadyH.cons rfl (fun K hK => ?_) AllReadyH.nil
  (try simp only [ls3])
  go_simp
  refine Calls.mono (kinds_c _) ?_
  rintro e w4 ⟨rfl, rfl⟩
  go_simp
  refine hK.out _ _ (by go_keep) (fun hH => ?_)
  clear hK K
  try simp only [ls7, Act.put]
  refine wpU 3 ?_ rfl ?_ ?_
  rotate_left
  ·intro u h; (try simp only [ls3]); go_simp; try with_reducible rfl
  try simp only [ls7, Act.put]
  refine wpAnyH_ready (rs := [4]) (by decide +kernel) (by simp) ?_
  refine AllReadyH.cons rfl (fun K hK => ?_) AllReadyH.nil
  (try simp only [ls3])
  go_simp
  refine hK.out _ _ (by go_keep) (fun hH => ?_)
  clear hK K
  try simp only [ls7, Act.put]
  refine wpU 11 ?_ rfl ?_ ?_
  rotate_left
  ·intro u h; (try simp only [ls3]); go_simp; try with_reducible rfl
  try simp only [ls7, Act.put]
  refine wpAnyH_ready (rs := [12]) (by decide +kernel) (by simp) ?_
  refine AllReadyH.cons rfl (fun K hK => ?_) AllReadyH.nil
  (try simp only [ls3])
  go_simp
  refine hK.out _ _ (by go_keep) (fun hH => ?_)
  clear hK K
  try simp only [ls7, Act.put]
  refine wpU 13 ?_ rfl ?_ ?_
  rotate_left
  ·intro u h; (try simp only [ls3]); go_simp; try with_reducible rfl
  try simp only [ls7, Act.put]
  refine wpAnyH_done (by decide +kernel) ?_ _
  go_wp2_with fail
  (try simp only [Exit.inBlock, Exit.then])
  refine bodyPost_ret (by simp [results, Tryz.results27, go_sem]; try rfl) rfl ?_
  exact ⟨rfl, below_drewed ((((Below.refl w.heap.size w).alloc (Nat.le_refl _) _).alloc (by simp) _).alloc (by simp; omega) _)⟩
 by_cases h4 : K = 4
 ·subst h4
  rw [show asOpF 4 E C l = ⟨5, E, C, l, 0, 0, 0, 0, 0, [], 0, sS⟩ from rfl, show asOpS 4 (.slice a n c) = .slice a n c from rfl, show isCmd 4 = true from rfl]
  unfold opv cmdv nilV sS
  dsimp only
  go_enter Tryz.func27, Tryz.ntmps27
  go_wp2_with fail
  refine wp_region_held_at (S := fun w1 => w1.cell? ⟨w.heap.size, 0, none⟩ = some (.int .i64 4) ∧ w1.cell? ⟨w.heap.size, 1, none⟩ = some (.int .u64 E) ∧ w1.cell? ⟨w.heap.size, 2, none⟩ = some (.int .i64 C) ∧ w1.cell? ⟨w.heap.size, 3, none⟩ = some (.slice a n c)) 14 rfl (by kernel_rfl) (by go_keep) (fun hH => ?_)
  refine wpU 1 ?_ rfl ?_ ?_
  rotate_left
  ·intro u h; (try simp only [ls3]); go_simp; try with_reducible rfl
  try simp only [ls7, Act.put]
  refine wpU 2 ?_ rfl ?_ ?_
  rotate_left
  ·intro u h; (try simp only [ls3]); go_simp; try with_reducible rfl
  try simp only [ls7, Act.put]
  refine wpU 5 ?_ rfl ?_ ?_
  rotate_left
  ·intro u h; (try simp only [ls3]); go_simp; try with_reducible rfl
  try simp only [ls7, Act.put]
  refine wpU 6 ?_ rfl ?_ ?_
  rotate_left
  ·intro u h; (try simp only [ls3]); go_simp; try with_reducible rfl
  try simp only [ls7, Act.put]
  refine wpU 7 ?_ rfl ?_ ?_
  rotate_left
  ·intro u h; (try simp only [ls3]); go_simp; try with_reducible rfl
  try simp only [ls7, Act.put]
  refine wpU 8 ?_ rfl ?_ ?_
  rotate_left
  ·intro u h; (try simp only [ls3]); go_simp; try with_reducible rfl
  try simp only [ls7, Act.put]
  refine wpU 9 ?_ rfl ?_ ?_
  rotate_left
  ·intro u h; (try simp only [ls3]); go_simp; try with_reducible rfl
  try simp only [ls7, Act.put]
  refine wpU 10 ?_ rfl ?_ ?_
  rotate_left
  ·intro u h; (try simp only [ls3]); go_simp; try with_reducible rfl
  try simp only [ls7, Act.put]
  refine wpAnyH_ready (rs := [0]) (by decide +kernel) (by simp) ?_
  refine AllReadyH.cons rfl (fun K hK => ?_) AllReadyH.nil
  (try simp only [ls3])
  go_simp
  refine Calls.mono (kinds_c _) ?_
  rintro e w4 ⟨rfl, rfl⟩
  go_simp
  refine hK.out _ _ (by go_keep) (fun hH => ?_)
  clear hK K
  try simp only [ls7, Act.put]
  refine wpU 3 ?_ rfl ?_ ?_
  rotate_left
  ·intro u h; (try simp only [ls3]); go_simp; try with_reducible rfl
  try simp only [ls7, Act.put]
  refine wpAnyH_ready (rs := [4]) (by decide +kernel) (by simp) ?_
  refine AllReadyH.cons rfl (fun K hK => ?_) AllReadyH.nil
  (try simp only [ls3])
  go_simp
  refine hK.out _ _ (by go_keep) (fun hH => ?_)
  clear hK K
  try simp only [ls7, Act.put]
  refine wpU 11 ?_ rfl ?_ ?_
  rotate_left
  ·intro u h; (try simp only [ls3]); go_simp; try with_reducible rfl
  try simp only [ls7, Act.put]
  refine wpAnyH_ready (rs := [12]) (by decide +kernel) (by simp) ?_
  refine AllReadyH.cons rfl (fun K hK => ?_) AllReadyH.nil
  (try simp only [ls3])
  go_simp
  refine hK.out _ _ (by go_keep) (fun hH => ?_)
  clear hK K
  try simp only [ls7, Act.put]
  refine wpU 13 ?_ rfl ?_ ?_
  rotate_left
  ·intro u h; (try simp only [ls3]); go_simp; try with_reducible rfl
  try simp only [ls7, Act.put]
  refine wpAnyH_done (by decide +kernel) ?_ _
  go_wp2_with fail
  (try simp only [Exit.inBlock, Exit.then])
  refine bodyPost_ret (by simp [results, Tryz.results27, go_sem]; try rfl) rfl ?_
  exact ⟨rfl, below_drewed ((((Below.refl w.heap.size w).alloc (Nat.le_refl _) _).alloc (by simp) _).alloc (by simp; omega) _)⟩
 by_cases h5 : K = 5
 ·subst h5
  rw [show asOpF 5 E C l = ⟨4, E, C, l, 0, 0, 0, 0, 0, [], 0, sS⟩ from rfl, show asOpS 5 (.slice a n c) = .slice a n c from rfl, show isCmd 5 = true from rfl]
  unfold opv cmdv nilV sS
  dsimp only
  go_enter Tryz.func27, Tryz.ntmps27
  go_wp2_with fail
  refine wp_region_held_at (S := fun w1 => w1.cell? ⟨w.heap.size, 0, none⟩ = some (.int .i64 5) ∧ w1.cell? ⟨w.heap.size, 1, none⟩ = some (.int .u64 E) ∧ w1.cell? ⟨w.heap.size, 2, none⟩ = some (.int .i64 C) ∧ w1.cell? ⟨w.heap.size, 3, none⟩ = some (.slice a n c)) 14 rfl (by kernel_rfl) (by go_keep) (fun hH => ?_)
  refine wpU 1 ?_ rfl ?_ ?_
  rotate_left
  ·intro u h; (try simp only [ls3]); go_simp; try with_reducible rfl
  try simp only [ls7, Act.put]
  refine wpU 2 ?_ rfl ?_ ?_
  rotate_left
  ·intro u h; (try simp only [ls3]); go_simp; try with_reducible rfl
  try simp only [ls7, Act.put]
  refine wpU 5 ?_ rfl ?_ ?_
  rotate_left
  ·intro u h; (try simp only [ls3]); go_simp; try with_reducible rfl
  try simp only [ls7, Act.put]
  refine wpU 6 ?_ rfl ?_ ?_
  rotate_left
  ·intro u h; (try simp only [ls3]); go_simp; try with_reducible rfl
  try simp only [ls7, Act.put]
  refine wpU 7 ?_ rfl ?_ ?_
  rotate_left
  ·intro u h; (try simp only [ls3]); go_simp; try with_reducible rfl
  try simp only [ls7, Act.put]
  refine wpU 8 ?_ rfl ?_ ?_
  rotate_left
  ·intro u h; (try simp only [ls3]); go_simp; try with_reducible rfl
  try simp only [ls7, Act.put]
  refine wpU 9 ?_ rfl ?_ ?_
  rotate_left
  ·intro u h; (try simp only [ls3]); go_simp; try with_reducible rfl
  try simp only [ls7, Act.put]
  refine wpU 10 ?_ rfl ?_ ?_
  rotate_left
  ·intro u h; (try simp only [ls3]); go_simp; try with_reducible rfl
  try simp only [ls7, Act.put]
  refine wpAnyH_ready (rs := [0]) (by decide +kernel) (by simp) ?_
  refine AllReadyH.cons rfl (fun K hK => ?_) AllReadyH.nil
  (try simp only [ls3])
  go_simp
  refine Calls.mono (kinds_c _) ?_
  rintro e w4 ⟨rfl, rfl⟩
  go_simp
  refine hK.out _ _ (by go_keep) (fun hH => ?_)
  clear hK K
  try simp only [ls7, Act.put]
  refine wpU 3 ?_ rfl ?_ ?_
  rotate_left
  ·intro u h; (try simp only [ls3]); go_simp; try with_reducible rfl
  try simp only [ls7, Act.put]
  refine wpAnyH_ready (rs := [4]) (by decide +kernel) (by simp) ?_
  refine AllReadyH.cons rfl (fun K hK => ?_) AllReadyH.nil
  (try simp only [ls3])
  go_simp
  refine hK.out _ _ (by go_keep) (fun hH => ?_)
  clear hK K
  try simp only [ls7, Act.put]
  refine wpU 11 ?_ rfl ?_ ?_
  rotate_left
  ·intro u h; (try simp only [ls3]); go_simp; try with_reducible rfl
  try simp only [ls7, Act.put]
  refine wpAnyH_ready (rs := [12]) (by decide +kernel) (by simp) ?_
  refine AllReadyH.cons rfl (fun K hK => ?_) AllReadyH.nil
  (try simp only [ls3])
  go_simp
  refine hK.out _ _ (by go_keep) (fun hH => ?_)
  clear hK K
  try simp only [ls7, Act.put]
  refine wpU 13 ?_ rfl ?_ ?_
  rotate_left
  ·intro u h; (try simp only [ls3]); go_simp; try with_reducible rfl
  try simp only [ls7, Act.put]
  refine wpAnyH_done (by decide +kernel) ?_ _
  go_wp2_with fail
  (try simp only [Exit.inBlock, Exit.then])
  refine bodyPost_ret (by simp [results, Tryz.results27, go_sem]; try rfl) rfl ?_
  exact ⟨rfl, below_drewed ((((Below.refl w.heap.size w).alloc (Nat.le_refl _) _).alloc (by simp) _).alloc (by simp; omega) _)⟩
 have hno : isCmd K = false := by
  unfold isCmd
  by_cases h : 1 ≤ K
  ·rw [decide_eq_true h, decide_eq_false (by omega)]; rfl
  ·rw [decide_eq_false h]; rfl
 rw [show asOpF K E C l = zeroO by unfold asOpF; rw [hno]; rfl, show asOpS K (.slice a n c) = nilV by unfold asOpS; rw [hno]; rfl, hno]
 unfold opv cmdv nilV zeroO sS
 dsimp only
 by_cases h : K < 1
 ·clear h1 h2 h3 h4 h5 hno
  go_enter Tryz.func27, Tryz.ntmps27
  go_wp2_with fail
  (try simp only [Exit.inBlock, Exit.then])
  refine bodyPost_ret (by simp [results, Tryz.results27, go_sem]; try rfl) rfl ?_
  exact ⟨rfl, (below1 w _).alloc (by rw [size_alloc]; omega) _⟩
 ·have h' : 5 < K := by omega
  clear h1 h2 h3 h4 h5 hno
  go_enter Tryz.func27, Tryz.ntmps27
  go_wp2_with fail
  (try simp only [Exit.inBlock, Exit.then])
  refine bodyPost_ret (by simp [results, Tryz.results27, go_sem]; try rfl) rfl ?_
  exact ⟨rfl, (below1 w _).alloc (by rw [size_alloc]; omega) _⟩
end Go.Proofs.YtjjgbillihedgaaGreatDoor
