/- parts of the proof, merged: TlH -/
import Derived.Test.YtjjgbillihedgaaGreatDoorQb10
set_option linter.unusedVariables false
set_option maxHeartbeats 16000000
set_option maxRecDepth 100000
namespace Go.Proofs.YtjjgbillihedgaaGreatDoor
open Go.RowKit
open Rf
open Sg
open Wide
open Tl
namespace Tl
def nilV : Value := .slice none 0 0
/-- an op that has only what its kind names -/
def namedF (o : OpD) : OpD :=
 if o.K = 1 then ⟨o.K, 0, 0, o.P, 0, 0, 0, 0, 0, [], 0, sS⟩ else if o.K = 2 then ⟨o.K, o.E, 0, [], 0, 0, 0, 0, 0, [], 0, sS⟩ else if o.K = 3 then ⟨o.K, o.E, 0, o.P, 0, 0, 0, 0, 0, [], 0, sS⟩ else if o.K = 5 then ⟨o.K, o.E, 0, o.P, 0, 0, 0, 0, 0, [], 0, sS⟩
 else if o.K = 4 then ⟨o.K, o.E, o.C, [], 0, 0, 0, 0, 0, [], 0, sS⟩ else if o.K = 6 then ⟨o.K, o.E, o.C, [], 0, 0, 0, 0, 0, [], 0, sS⟩ else if o.K = 7 then ⟨o.K, 0, 0, [], o.A, o.N, 0, 0, 0, [], 0, sS⟩
 else if o.K = 8 then ⟨o.K, 0, 0, [], 0, 0, o.cK, o.cE, o.cC, o.cP, 0, sS⟩ else if o.K = 9 then ⟨o.K, 0, 0, [], 0, 0, 0, 0, 0, [], o.U, sS⟩ else if o.K = 10 then ⟨o.K, 0, 0, [], 0, 0, 0, 0, 0, [], 0, o.B⟩ else ⟨o.K, 0, 0, [], 0, 0, 0, 0, 0, [], 0, sS⟩
def namedS (o : OpD) (s : Value) : Value := if o.K = 1 ∨ o.K = 3 ∨ o.K = 5 then s else nilV
def namedT (o : OpD) (t : Value) : Value := if o.K = 8 then t else nilV
end Tl
theorem named_c (o : OpD) (a b : Option Addr) (n m c d : Nat) (w : World) :
 Calls Tryz.prog 50 #[opv o (.slice a n c) (.slice b m d)] w fun e w' => e = .returned (opv (namedF o) (namedS o (.slice a n c)) (namedT o (.slice b m d))) ∧ Below w.heap.size w w' := by
 obtain ⟨K, E, C, P, A, N, cK, cE, cC, cP, U, B⟩ := o
 by_cases h1 : K = 1
 ·subst h1
  rw [show namedF ⟨1, E, C, P, A, N, cK, cE, cC, cP, U, B⟩ = ⟨1, 0, 0, P, 0, 0, 0, 0, 0, [], 0, sS⟩ from by unfold namedF; dsimp only; rfl]
  rw [show namedS ⟨1, E, C, P, A, N, cK, cE, cC, cP, U, B⟩ (.slice a n c) = .slice a n c from rfl]
  rw [show namedT ⟨1, E, C, P, A, N, cK, cE, cC, cP, U, B⟩ (.slice b m d) = nilV from rfl]
  unfold opv nilV
  try unfold sS
  dsimp only
  go_enter Tryz.func50, Tryz.ntmps50
  go_wp2_with fail
  (try simp only [Exit.inBlock, Exit.then])
  refine bodyPost_ret (by simp [results, Tryz.results50, go_sem]; try rfl) rfl ?_
  exact ⟨rfl, (((Below.refl w.heap.size w).alloc (Nat.le_refl _) _).alloc (by simp) _).alloc (by simp; omega) _⟩
 by_cases h2 : K = 2
 ·subst h2
  rw [show namedF ⟨2, E, C, P, A, N, cK, cE, cC, cP, U, B⟩ = ⟨2, E, 0, [], 0, 0, 0, 0, 0, [], 0, sS⟩ from by unfold namedF; dsimp only; rfl]
  rw [show namedS ⟨2, E, C, P, A, N, cK, cE, cC, cP, U, B⟩ (.slice a n c) = nilV from rfl]
  rw [show namedT ⟨2, E, C, P, A, N, cK, cE, cC, cP, U, B⟩ (.slice b m d) = nilV from rfl]
  unfold opv nilV
  try unfold sS
  dsimp only
  go_enter Tryz.func50, Tryz.ntmps50
  go_wp2_with fail
  (try simp only [Exit.inBlock, Exit.then])
  refine bodyPost_ret (by simp [results, Tryz.results50, go_sem]; try rfl) rfl ?_
  exact ⟨rfl, (((Below.refl w.heap.size w).alloc (Nat.le_refl _) _).alloc (by simp) _).alloc (by simp; omega) _⟩
 by_cases h3 : K = 3
 ·subst h3
  rw [show namedF ⟨3, E, C, P, A, N, cK, cE, cC, cP, U, B⟩ = ⟨3, E, 0, P, 0, 0, 0, 0, 0, [], 0, sS⟩ from by unfold namedF; dsimp only; rfl]
  rw [show namedS ⟨3, E, C, P, A, N, cK, cE, cC, cP, U, B⟩ (.slice a n c) = .slice a n c from rfl]
  rw [show namedT ⟨3, E, C, P, A, N, cK, cE, cC, cP, U, B⟩ (.slice b m d) = nilV from rfl]
  unfold opv nilV
  try unfold sS
  dsimp only
  go_enter Tryz.func50, Tryz.ntmps50
  go_wp2_with fail
  go_region
  all_goals go_wp2_with fail
  all_goals
   (try simp only [Exit.inBlock, Exit.then])
   refine bodyPost_ret (by simp [results, Tryz.results50, go_sem]; try rfl) rfl ?_
   exact ⟨rfl, below_drewed ((((Below.refl w.heap.size w).alloc (Nat.le_refl _) _).alloc (by simp) _).alloc (by simp; omega) _)⟩
 by_cases h5 : K = 5
 ·subst h5
  rw [show namedF ⟨5, E, C, P, A, N, cK, cE, cC, cP, U, B⟩ = ⟨5, E, 0, P, 0, 0, 0, 0, 0, [], 0, sS⟩ from by unfold namedF; dsimp only; rfl]
  rw [show namedS ⟨5, E, C, P, A, N, cK, cE, cC, cP, U, B⟩ (.slice a n c) = .slice a n c from rfl]
  rw [show namedT ⟨5, E, C, P, A, N, cK, cE, cC, cP, U, B⟩ (.slice b m d) = nilV from rfl]
  unfold opv nilV
  try unfold sS
  dsimp only
  go_enter Tryz.func50, Tryz.ntmps50
  go_wp2_with fail
  go_region
  all_goals go_wp2_with fail
  all_goals
   (try simp only [Exit.inBlock, Exit.then])
   refine bodyPost_ret (by simp [results, Tryz.results50, go_sem]; try rfl) rfl ?_
   exact ⟨rfl, below_drewed ((((Below.refl w.heap.size w).alloc (Nat.le_refl _) _).alloc (by simp) _).alloc (by simp; omega) _)⟩
 by_cases h4 : K = 4
 ·subst h4
  rw [show namedF ⟨4, E, C, P, A, N, cK, cE, cC, cP, U, B⟩ = ⟨4, E, C, [], 0, 0, 0, 0, 0, [], 0, sS⟩ from by unfold namedF; dsimp only; rfl]
  rw [show namedS ⟨4, E, C, P, A, N, cK, cE, cC, cP, U, B⟩ (.slice a n c) = nilV from rfl]
  rw [show namedT ⟨4, E, C, P, A, N, cK, cE, cC, cP, U, B⟩ (.slice b m d) = nilV from rfl]
  unfold opv nilV
  try unfold sS
  dsimp only
  go_enter Tryz.func50, Tryz.ntmps50
  go_wp2_with fail
  go_region
  all_goals go_wp2_with fail
  all_goals
   (try simp only [Exit.inBlock, Exit.then])
   refine bodyPost_ret (by simp [results, Tryz.results50, go_sem]; try rfl) rfl ?_
   exact ⟨rfl, below_drewed ((((Below.refl w.heap.size w).alloc (Nat.le_refl _) _).alloc (by simp) _).alloc (by simp; omega) _)⟩
 by_cases h6 : K = 6
 ·subst h6
  rw [show namedF ⟨6, E, C, P, A, N, cK, cE, cC, cP, U, B⟩ = ⟨6, E, C, [], 0, 0, 0, 0, 0, [], 0, sS⟩ from by unfold namedF; dsimp only; rfl]
  rw [show namedS ⟨6, E, C, P, A, N, cK, cE, cC, cP, U, B⟩ (.slice a n c) = nilV from rfl]
  rw [show namedT ⟨6, E, C, P, A, N, cK, cE, cC, cP, U, B⟩ (.slice b m d) = nilV from rfl]
  unfold opv nilV
  try unfold sS
  dsimp only
  go_enter Tryz.func50, Tryz.ntmps50
  go_wp2_with fail
  go_region
  all_goals go_wp2_with fail
  all_goals
   (try simp only [Exit.inBlock, Exit.then])
   refine bodyPost_ret (by simp [results, Tryz.results50, go_sem]; try rfl) rfl ?_
   exact ⟨rfl, below_drewed ((((Below.refl w.heap.size w).alloc (Nat.le_refl _) _).alloc (by simp) _).alloc (by simp; omega) _)⟩
 by_cases h7 : K = 7
 ·subst h7
  rw [show namedF ⟨7, E, C, P, A, N, cK, cE, cC, cP, U, B⟩ = ⟨7, 0, 0, [], A, N, 0, 0, 0, [], 0, sS⟩ from by unfold namedF; dsimp only; rfl]
  rw [show namedS ⟨7, E, C, P, A, N, cK, cE, cC, cP, U, B⟩ (.slice a n c) = nilV from rfl]
  rw [show namedT ⟨7, E, C, P, A, N, cK, cE, cC, cP, U, B⟩ (.slice b m d) = nilV from rfl]
  unfold opv nilV
  try unfold sS
  dsimp only
  go_enter Tryz.func50, Tryz.ntmps50
  go_wp2_with fail
  (try simp only [Exit.inBlock, Exit.then])
  refine bodyPost_ret (by simp [results, Tryz.results50, go_sem]; try rfl) rfl ?_
  exact ⟨rfl, (((Below.refl w.heap.size w).alloc (Nat.le_refl _) _).alloc (by simp) _).alloc (by simp; omega) _⟩
 by_cases h8 : K = 8
 ·subst h8
  rw [show namedF ⟨8, E, C, P, A, N, cK, cE, cC, cP, U, B⟩ = ⟨8, 0, 0, [], 0, 0, cK, cE, cC, cP, 0, sS⟩ from by unfold namedF; dsimp only; rfl]
  rw [show namedS ⟨8, E, C, P, A, N, cK, cE, cC, cP, U, B⟩ (.slice a n c) = nilV from rfl]
  rw [show namedT ⟨8, E, C, P, A, N, cK, cE, cC, cP, U, B⟩ (.slice b m d) = .slice b m d from rfl]
  unfold opv nilV
  try unfold sS
  dsimp only
  go_enter Tryz.func50, Tryz.ntmps50
  go_wp2_with fail
  (try simp only [Exit.inBlock, Exit.then])
  refine bodyPost_ret (by simp [results, Tryz.results50, go_sem]; try rfl) rfl ?_
  exact ⟨rfl, (((Below.refl w.heap.size w).alloc (Nat.le_refl _) _).alloc (by simp) _).alloc (by simp; omega) _⟩
 by_cases h9 : K = 9
 ·subst h9
  rw [show namedF ⟨9, E, C, P, A, N, cK, cE, cC, cP, U, B⟩ = ⟨9, 0, 0, [], 0, 0, 0, 0, 0, [], U, sS⟩ from by unfold namedF; dsimp only; rfl]
  rw [show namedS ⟨9, E, C, P, A, N, cK, cE, cC, cP, U, B⟩ (.slice a n c) = nilV from rfl]
  rw [show namedT ⟨9, E, C, P, A, N, cK, cE, cC, cP, U, B⟩ (.slice b m d) = nilV from rfl]
  unfold opv nilV
  try unfold sS
  dsimp only
  go_enter Tryz.func50, Tryz.ntmps50
  go_wp2_with fail
  (try simp only [Exit.inBlock, Exit.then])
  refine bodyPost_ret (by simp [results, Tryz.results50, go_sem]; try rfl) rfl ?_
  exact ⟨rfl, (((Below.refl w.heap.size w).alloc (Nat.le_refl _) _).alloc (by simp) _).alloc (by simp; omega) _⟩
 by_cases h10 : K = 10
 ·subst h10
  rw [show namedF ⟨10, E, C, P, A, N, cK, cE, cC, cP, U, B⟩ = ⟨10, 0, 0, [], 0, 0, 0, 0, 0, [], 0, B⟩ from by unfold namedF; dsimp only; rfl]
  rw [show namedS ⟨10, E, C, P, A, N, cK, cE, cC, cP, U, B⟩ (.slice a n c) = nilV from rfl]
  rw [show namedT ⟨10, E, C, P, A, N, cK, cE, cC, cP, U, B⟩ (.slice b m d) = nilV from rfl]
  unfold opv nilV
  try unfold sS
  dsimp only
  go_enter Tryz.func50, Tryz.ntmps50
  go_wp2_with fail
  (try simp only [Exit.inBlock, Exit.then])
  refine bodyPost_ret (by simp [results, Tryz.results50, go_sem]; try rfl) rfl ?_
  exact ⟨rfl, (((Below.refl w.heap.size w).alloc (Nat.le_refl _) _).alloc (by simp) _).alloc (by simp; omega) _⟩
 rw [show namedF ⟨K, E, C, P, A, N, cK, cE, cC, cP, U, B⟩ = ⟨K, 0, 0, [], 0, 0, 0, 0, 0, [], 0, sS⟩ from by unfold namedF; dsimp only; rw [if_neg h1, if_neg h2, if_neg h3, if_neg h5, if_neg h4, if_neg h6, if_neg h7, if_neg h8, if_neg h9, if_neg h10]]
 rw [show namedS ⟨K, E, C, P, A, N, cK, cE, cC, cP, U, B⟩ (.slice a n c) = nilV from if_neg (by rintro (h | h | h); exact h1 h; exact h3 h; exact h5 h)]
 rw [show namedT ⟨K, E, C, P, A, N, cK, cE, cC, cP, U, B⟩ (.slice b m d) = nilV from if_neg h8]
 unfold opv nilV
 try unfold sS
 dsimp only
 have e1 : (K == 1) = false := beq_eq_false_iff_ne.2 h1
 have e2 : (K == 2) = false := beq_eq_false_iff_ne.2 h2
 have e3 : (K == 3) = false := beq_eq_false_iff_ne.2 h3
 have e5 : (K == 5) = false := beq_eq_false_iff_ne.2 h5
 have e4 : (K == 4) = false := beq_eq_false_iff_ne.2 h4
 have e6 : (K == 6) = false := beq_eq_false_iff_ne.2 h6
 have e7 : (K == 7) = false := beq_eq_false_iff_ne.2 h7
 have e8 : (K == 8) = false := beq_eq_false_iff_ne.2 h8
 have e9 : (K == 9) = false := beq_eq_false_iff_ne.2 h9
 have e10 : (K == 10) = false := beq_eq_false_iff_ne.2 h10
 clear h1 h2 h3 h5 h4 h6 h7 h8 h9 h10
 go_enter Tryz.func50, Tryz.ntmps50
 go_wp2_with fail
 (try simp only [Exit.inBlock, Exit.then])
 refine bodyPost_ret (by simp [results, Tryz.results50, go_sem]; try rfl) rfl ?_
 exact ⟨rfl, (((Below.refl w.heap.size w).alloc (Nat.le_refl _) _).alloc (by simp) _).alloc (by simp; omega) _⟩
end Go.Proofs.YtjjgbillihedgaaGreatDoor
