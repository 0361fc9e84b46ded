/- parts of the proof, merged: TlP2 -/
import Derived.Test.YtjjgbillihedgaaGreatDoorQb19
set_option linter.unusedVariables false
set_option maxRecDepth 100000
namespace Go.Proofs.YtjjgbillihedgaaGreatDoor
open Go.ChangeShapes Go.WideShapes Go.RowKit Go.Deep
open Rf
open Sg
open Wide
open Tl
theorem open_ops {H : Type} {enc : TypeId × Value → H} {w : World} {base : Nat} {spare : Nat → Bool} {held : Bool} {r : Reach} {b0 : Nat} {v : Value} {d : DataW H} {p : List MemPlace}
 (hv : Value.okWide Tryz.prog w r b0 55 v) (h : DataW.Trod enc Tryz.prog w base spare held 55 v d p) : ∃ l : List OpD, (∀ y ∈ l, y.Ok ∧ y.B.size ≤ maxLen) ∧ InOps w v l := by
 obtain ⟨fuel, hf⟩ := h
 have hvk : ∃ a n c, v = .slice a n c := by
  unfold Value.okWide at hv
  simp only [Tryz.underlying55] at hv
  unfold Cell.okWide at hv
  cases v <;> simp [Cell.ok, Tryz.underlying55] at hv ⊢
 obtain ⟨a, n, c, rfl⟩ := hvk
 rcases open_slice row_Op hf with ⟨hcs, _⟩ | ⟨x, n, c, m, f, D, Pl, hcs, _, hl, hm, hmm, _, hi⟩
 ·simp [Value.cells] at hcs
  obtain ⟨rfl, rfl, rfl⟩ := hcs
  exact ⟨[], by simp, ⟨none, 0, rfl, .inl rfl⟩⟩
 ·simp [Value.cells] at hcs
  obtain ⟨rfl, rfl, rfl⟩ := hcs
  have hlm : n ≤ m := by rw [hmm]; split <;> omega
  have key : ∀ i, i < n → ∃ y : OpD, (y.Ok ∧ y.B.size ≤ maxLen) ∧ ∃ s t, (∀ j u, (opc y s t)[j]? = some u → w.cell? ((x.add (i * 12)).add j) = some u) ∧ OpIn w y s t := by
   intro i hin
   obtain ⟨cs', hc, ht'⟩ := hi i (by omega)
   rw [cells_Op] at hc
   obtain ⟨y, hy, s, t, rfl, hv, hB⟩ := in_op ht'
   obtain ⟨_, _, hat⟩ := World.cells?_some hc
   refine ⟨y, ⟨hy, hB⟩, s, t, fun j u hu => ?_, hv⟩
   have hj : j < 12 := by
    rcases Nat.lt_or_ge j 12 with h | h
    ·exact h
    ·rw [Array.getElem?_eq_none (by show 12 ≤ j; exact h)] at hu; cases hu
   have e := hat j hj
   rw [e]
   rw [← hu]
   simp
  obtain ⟨l, hll, hq⟩ := pick_list _ n key
  refine ⟨l, fun y hy => ?_, some x, c, by rw [hll], ?_⟩
  ·obtain ⟨j, hj, rfl⟩ := List.getElem_of_mem hy
   exact (hq j hj).1
  ·rcases Nat.eq_zero_or_pos n with h0 | h0
   ·exact .inl (List.eq_nil_of_length_eq_zero (by omega))
   ·obtain ⟨b, off, spot⟩ := x
    obtain ⟨_, s0, t0, hc0, _⟩ := hq 0 (by omega)
    have hc0' := hc0 0 _ rfl
    have hspot : spot = none := by simpa [Addr.add] using World.cell?_spot hc0'
    subst hspot
    have hlt := World.block_lt_of_cell? _ _ hc0'
    refine .inr ⟨b, off, rfl, by simpa [Addr.add] using hlt, fun j hj => ?_⟩
    obtain ⟨_, s, t, f0, f1⟩ := hq j hj
    refine ⟨s, t, fun i u hu => ?_, f1⟩
    have := f0 i u hu
    simpa only [Addr.add_lit] using this
end Go.Proofs.YtjjgbillihedgaaGreatDoor
