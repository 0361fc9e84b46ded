/- parts of the proof, merged: TlP1 -/
import Derived.Lib.SmallJoins
import Derived.OpenShut
import Derived.Test.YtjjgbillihedgaaGreatDoorQy15
set_option linter.unusedVariables false
namespace Go.Proofs.YtjjgbillihedgaaGreatDoor
open Go.ChangeShapes Go.WideShapes Go.RowKit Go.Deep
open Rf
open Sg
open Wide
open Tl
theorem pick_list {α : Type} (Q : Nat → α → Prop) : ∀ n : Nat, (∀ i, i < n → ∃ y, Q i y) → ∃ l : List α, l.length = n ∧ ∀ j (hj : j < l.length), Q j l[j]
 | 0, _ => ⟨[], rfl, fun j hj => absurd hj (Nat.not_lt_zero _)⟩
 | n + 1, h => by
   obtain ⟨l, hl, hq⟩ := pick_list Q n (fun i hi => h i (by omega))
   obtain ⟨y, hy⟩ := h n (by omega)
   refine ⟨l ++ [y], by simp [hl], fun j hj => ?_⟩
   rcases Nat.lt_or_ge j l.length with h' | h'
   ·rw [List.getElem_append_left h']; exact hq j h'
   ·have hj' : j = l.length := by rw [List.length_append] at hj; simp at hj; omega
    subst hj'
    rw [List.getElem_append_right (Nat.le_refl _)]
    simpa [hl] using hy
theorem list2 : ∀ {cs : List Value}, cs.length = 2 → ∃ v0 v1, cs = [v0, v1]
 | [v0, v1], _ => ⟨_, _, rfl⟩
theorem list3 : ∀ {cs : List Value}, cs.length = 3 → ∃ v0 v1 v2, cs = [v0, v1, v2]
 | [v0, v1, v2], _ => ⟨_, _, _, rfl⟩
theorem list12 : ∀ {cs : List Value}, cs.length = 12 → ∃ v0 v1 v2 v3 v4 v5 v6 v7 v8 v9 v10 v11, cs = [v0, v1, v2, v3, v4, v5, v6, v7, v8, v9, v10, v11]
 | [v0, v1, v2, v3, v4, v5, v6, v7, v8, v9, v10, v11], _ => ⟨_, _, _, _, _, _, _, _, _, _, _, _, rfl⟩
def shapeOf (P : Program) (t : TypeId) : List (Nat × TypeId) := match P.underlying t with | some (.struct fs) => fs.toList.map (fun f => (f.offset, f.type)) | _ => []
section
variable {H : Type} {enc : TypeId × Value → H} {w : World} {base : Nat} {spare : Nat → Bool} {held : Bool} {fuel : Nat}
theorem struct_open {t : TypeId} (L : List (Nat × TypeId)) (hL : shapeOf Tryz.prog t = L) (hne : L ≠ []) {cs : List Value} {x : DataW H × List MemPlace} (h : DataW.trod enc Tryz.prog w base spare held fuel t cs = some x) :
 ∃ n, cs.length = Tryz.prog.cellsOf t ∧ ∀ (i o : Nat) (T : TypeId), L[i]? = some (o, T) → ∃ y, DataW.trod enc Tryz.prog w base spare held n T ((cs.drop o).take (Tryz.prog.cellsOf T)) = some y := by
 unfold shapeOf at hL
 split at hL
 ·rename_i fs hu
  obtain ⟨xs, n, _, _, hlen, hxl, hg⟩ := DataW.trod_struct hu h
  refine ⟨n, hlen, fun i o T hi => ?_⟩
  rw [← hL] at hi
  rw [List.getElem?_map] at hi
  obtain ⟨f, hf, he⟩ := Option.map_eq_some_iff.1 hi
  cases he
  have hf' : fs[i]? = some f := by simpa using hf
  have := hg i f hf'
  have hlt : i < xs.length := by rw [hxl]; exact (Array.getElem?_eq_some_iff.1 hf').1
  exact ⟨xs[i], this.trans (List.getElem?_eq_getElem hlt)⟩
 ·exact absurd hL.symm hne
theorem shape_Int : shapeOf Tryz.prog 61 = [(0, 4), (1, 22), (2, 22)] := by kernel_rfl
theorem shape_Part : shapeOf Tryz.prog 65 = [(0, 3), (1, 63)] := by kernel_rfl
theorem shape_Op : shapeOf Tryz.prog 32 = [(0, 3), (1, 23), (2, 3), (3, 24), (4, 28), (6, 30), (10, 3), (11, 9)] := by kernel_rfl
theorem shape_Query : shapeOf Tryz.prog 28 = [(0, 26), (1, 26)] := by kernel_rfl
theorem shape_Cmd : shapeOf Tryz.prog 30 = [(0, 3), (1, 23), (2, 3), (3, 24)] := by kernel_rfl
theorem cells_Int : Tryz.prog.cellsOf 61 = 3 := by kernel_rfl
theorem cells_Part : Tryz.prog.cellsOf 65 = 2 := by kernel_rfl
theorem cells_Op : Tryz.prog.cellsOf 32 = 12 := by kernel_rfl
theorem cells_Query : Tryz.prog.cellsOf 28 = 2 := by kernel_rfl
theorem cells_Cmd : Tryz.prog.cellsOf 30 = 4 := by kernel_rfl
theorem cells_1a : Tryz.prog.cellsOf 4 = 1 ∧ Tryz.prog.cellsOf 22 = 1 ∧ Tryz.prog.cellsOf 3 = 1 ∧ Tryz.prog.cellsOf 23 = 1 ∧ Tryz.prog.cellsOf 26 = 1 ∧ Tryz.prog.cellsOf 9 = 1 ∧ Tryz.prog.cellsOf 24 = 1 ∧ Tryz.prog.cellsOf 63 = 1 := by
 refine ⟨?_, ?_, ?_, ?_, ?_, ?_, ?_, ?_⟩ <;> kernel_rfl
theorem row_Int : Tryz.prog.underlying 63 = some (.slice 61) := by kernel_rfl
theorem row_Part : Tryz.prog.underlying 24 = some (.slice 65) := by kernel_rfl
theorem row_Op : Tryz.prog.underlying 55 = some (.slice 32) := by kernel_rfl
theorem in_int {cs : List Value} {x : DataW H × List MemPlace} (h : DataW.trod enc Tryz.prog w base spare held fuel 3 cs = some x) : ∃ n : Int, cs = [.int .i64 n] ∧ i64 n := by
 obtain ⟨n, h0, _, h1⟩ := DataW.trod_int (k := .i64) (by kernel_rfl) h
 have := bounds_i64 h1
 exact ⟨n, h0, by unfold i64; omega⟩
theorem in_u64 {cs : List Value} {x : DataW H × List MemPlace} (h : DataW.trod enc Tryz.prog w base spare held fuel 22 cs = some x) : ∃ n : Int, cs = [.int .u64 n] ∧ u64 n := by
 obtain ⟨n, h0, _, h1⟩ := DataW.trod_int (k := .u64) (by kernel_rfl) h
 have := bounds_u64 h1
 exact ⟨n, h0, by unfold u64; omega⟩
theorem in_ent {cs : List Value} {x : DataW H × List MemPlace} (h : DataW.trod enc Tryz.prog w base spare held fuel 23 cs = some x) : ∃ n : Int, cs = [.int .u64 n] ∧ u64 n := by
 obtain ⟨n, h0, _, h1⟩ := DataW.trod_int (k := .u64) (by kernel_rfl) h
 have := bounds_u64 h1
 exact ⟨n, h0, by unfold u64; omega⟩
theorem in_sig {cs : List Value} {x : DataW H × List MemPlace} (h : DataW.trod enc Tryz.prog w base spare held fuel 26 cs = some x) : ∃ n : Int, cs = [.int .u32 n] ∧ u32 n := by
 obtain ⟨n, h0, _, h1⟩ := DataW.trod_int (k := .u32) (by kernel_rfl) h
 have := bounds_u32 h1
 exact ⟨n, h0, by unfold u32; omega⟩
theorem in_WI {cs : List Value} {x : DataW H × List MemPlace} (h : DataW.trod enc Tryz.prog w base spare held fuel 61 cs = some x) : ∃ y : WI, y.Ok ∧ cs = [.bool y.n, .int .u64 y.h, .int .u64 y.l] := by
 obtain ⟨n, hl, hf⟩ := struct_open _ shape_Int (by simp) h
 rw [cells_Int] at hl
 obtain ⟨k0, k1, _⟩ := cells_1a
 obtain ⟨v0, v1, v2, rfl⟩ : ∃ v0 v1 v2, cs = [v0, v1, v2] := list3 hl
 obtain ⟨y0, g0⟩ := hf 0 _ _ rfl
 obtain ⟨y1, g1⟩ := hf 1 _ _ rfl
 obtain ⟨y2, g2⟩ := hf 2 _ _ rfl
 rw [k0] at g0
 rw [k1] at g1 g2
 change DataW.trod enc _ w base spare held n _ [v0] = _ at g0
 change DataW.trod enc _ w base spare held n _ [v1] = _ at g1
 change DataW.trod enc _ w base spare held n _ [v2] = _ at g2
 obtain ⟨b, e0, _⟩ := DataW.trod_bool (by kernel_rfl) g0
 obtain ⟨p, e1, q1⟩ := in_u64 g1
 obtain ⟨q, e2, q2⟩ := in_u64 g2
 cases e0
 cases e1
 cases e2
 exact ⟨⟨b, p, q⟩, ⟨q1.1, q1.2, q2.1, q2.2⟩, rfl⟩
theorem in_vals {v : Value} {x : DataW H × List MemPlace} (h : DataW.trod enc Tryz.prog w base spare held fuel 63 [v] = some x) : ∃ l : List WI, (∀ y ∈ l, y.Ok) ∧ InV w v l := by
 rcases open_slice row_Int h with ⟨hcs, _⟩ | ⟨x, n, c, m, f, D, Pl, hcs, _, hl, hm, hmm, _, hi⟩
 ·cases hcs
  exact ⟨[], by simp, ⟨none, 0, rfl, .inl rfl⟩⟩
 ·cases hcs
  have hlm : n ≤ m := by rw [hmm]; split <;> omega
  have key : ∀ i, i < n → ∃ y : WI, y.Ok ∧ w.cell? (x.add (i * 3)) = some (.bool y.n) ∧ w.cell? ((x.add (i * 3)).add 1) = some (.int .u64 y.h) ∧ w.cell? ((x.add (i * 3)).add 2) = some (.int .u64 y.l) := by
   intro i hin
   obtain ⟨cs', hc, ht'⟩ := hi i (by omega)
   rw [cells_Int] at hc
   obtain ⟨y, hy, rfl⟩ := in_WI ht'
   obtain ⟨_, _, hat⟩ := World.cells?_some hc
   have e0 := hat 0 (by omega)
   have e1 := hat 1 (by omega)
   have e2 := hat 2 (by omega)
   exact ⟨y, hy, by simpa [Addr.add] using e0, by simpa using e1, by simpa using e2⟩
  obtain ⟨l, hll, hq⟩ := pick_list _ n key
  refine ⟨l, fun y hy => ?_, some x, c, by rw [hll], ?_⟩
  ·obtain ⟨j, hj, rfl⟩ := List.getElem_of_mem hy
   exact (hq j hj).1
  ·rcases Nat.eq_zero_or_pos n with h0 | h0
   ·exact .inl (List.eq_nil_of_length_eq_zero (by omega))
   ·obtain ⟨b, off, spot⟩ := x
    obtain ⟨_, hc0, _⟩ := hq 0 (by omega)
    have hspot : spot = none := by simpa [Addr.add] using World.cell?_spot hc0
    subst hspot
    have hlt := World.block_lt_of_cell? _ _ hc0
    refine .inr ⟨b, off, rfl, by simpa [Addr.add] using hlt, fun j hj => ?_⟩
    obtain ⟨_, f0, f1, f2⟩ := hq j hj
    simp only [Addr.add_lit] at f0 f1 f2
    exact ⟨f0, f1, f2⟩
theorem in_part {cs : List Value} {x : DataW H × List MemPlace} (h : DataW.trod enc Tryz.prog w base spare held fuel 65 cs = some x) : ∃ y : PartD, y.Ok ∧ ∃ t, cs = [.int .i64 y.C, t] ∧ InV w t y.V := by
 obtain ⟨n, hl, hf⟩ := struct_open _ shape_Part (by simp) h
 rw [cells_Part] at hl
 obtain ⟨_, _, k0, _, _, _, _, k1⟩ := cells_1a
 obtain ⟨v0, v1, rfl⟩ : ∃ v0 v1, cs = [v0, v1] := list2 hl
 obtain ⟨y0, g0⟩ := hf 0 _ _ rfl
 obtain ⟨y1, g1⟩ := hf 1 _ _ rfl
 rw [k0] at g0
 rw [k1] at g1
 change DataW.trod enc _ w base spare held n _ [v0] = _ at g0
 change DataW.trod enc _ w base spare held n _ [v1] = _ at g1
 obtain ⟨p, e1, q1⟩ := in_int g0
 obtain ⟨l, q2, q3⟩ := in_vals g1
 cases e1
 exact ⟨⟨p, l⟩, ⟨q1.1, q1.2, q2⟩, v1, rfl, q3⟩
theorem in_parts {v : Value} {x : DataW H × List MemPlace} (h : DataW.trod enc Tryz.prog w base spare held fuel 24 [v] = some x) : ∃ l : List PartD, (∀ y ∈ l, y.Ok) ∧ InS w v l := by
 rcases open_slice row_Part h with ⟨hcs, _⟩ | ⟨x, n, c, m, f, D, Pl, hcs, _, hl, hm, hmm, _, hi⟩
 ·cases hcs
  exact ⟨[], by simp, ⟨none, 0, rfl, .inl rfl⟩⟩
 ·cases hcs
  have hlm : n ≤ m := by rw [hmm]; split <;> omega
  have key : ∀ i, i < n → ∃ y : PartD, y.Ok ∧ w.cell? (x.add (i * 2)) = some (.int .i64 y.C) ∧ ∃ t, w.cell? ((x.add (i * 2)).add 1) = some t ∧ InV w t y.V := by
   intro i hin
   obtain ⟨cs', hc, ht'⟩ := hi i (by omega)
   rw [cells_Part] at hc
   obtain ⟨y, hy, t, rfl, hv⟩ := in_part ht'
   obtain ⟨_, _, hat⟩ := World.cells?_some hc
   have e0 := hat 0 (by omega)
   have e1 := hat 1 (by omega)
   exact ⟨y, hy, by simpa [Addr.add] using e0, t, by simpa using e1, hv⟩
  obtain ⟨l, hll, hq⟩ := pick_list _ n key
  refine ⟨l, fun y hy => ?_, some x, c, by rw [hll], ?_⟩
  ·obtain ⟨j, hj, rfl⟩ := List.getElem_of_mem hy
   exact (hq j hj).1
  ·rcases Nat.eq_zero_or_pos n with h0 | h0
   ·exact .inl (List.eq_nil_of_length_eq_zero (by omega))
   ·obtain ⟨b, off, spot⟩ := x
    obtain ⟨_, hc0, _⟩ := hq 0 (by omega)
    have hspot : spot = none := by simpa [Addr.add] using World.cell?_spot hc0
    subst hspot
    have hlt := World.block_lt_of_cell? _ _ hc0
    refine .inr ⟨b, off, rfl, by simpa [Addr.add] using hlt, fun j hj => ?_⟩
    obtain ⟨_, f0, t, f1, f2⟩ := hq j hj
    simp only [Addr.add_lit] at f0 f1
    exact ⟨f0, t, f1, f2⟩
theorem in_op {cs : List Value} {x : DataW H × List MemPlace} (h : DataW.trod enc Tryz.prog w base spare held fuel 32 cs = some x) : ∃ y : OpD, y.Ok ∧ ∃ s t, cs = (opc y s t).toList ∧ OpIn w y s t ∧ y.B.size ≤ maxLen := by
 obtain ⟨n, hl, hf⟩ := struct_open _ shape_Op (by simp) h
 rw [cells_Op] at hl
 obtain ⟨_, _, kI, kE, kS, kB, kP, _⟩ := cells_1a
 obtain ⟨v0, v1, v2, v3, v4, v5, v6, v7, v8, v9, v10, v11, rfl⟩ : ∃ v0 v1 v2 v3 v4 v5 v6 v7 v8 v9 v10 v11, cs = [v0, v1, v2, v3, v4, v5, v6, v7, v8, v9, v10, v11] := list12 hl
 obtain ⟨y0, g0⟩ := hf 0 _ _ rfl
 obtain ⟨y1, g1⟩ := hf 1 _ _ rfl
 obtain ⟨y2, g2⟩ := hf 2 _ _ rfl
 obtain ⟨y3, g3⟩ := hf 3 _ _ rfl
 obtain ⟨y4, g4⟩ := hf 4 _ _ rfl
 obtain ⟨y5, g5⟩ := hf 5 _ _ rfl
 obtain ⟨y6, g6⟩ := hf 6 _ _ rfl
 obtain ⟨y7, g7⟩ := hf 7 _ _ rfl
 rw [kI] at g0 g2 g6
 rw [kE] at g1
 rw [kP] at g3
 rw [cells_Query] at g4
 rw [cells_Cmd] at g5
 rw [kB] at g7
 change DataW.trod enc _ w base spare held n _ [v0] = _ at g0
 change DataW.trod enc _ w base spare held n _ [v1] = _ at g1
 change DataW.trod enc _ w base spare held n _ [v2] = _ at g2
 change DataW.trod enc _ w base spare held n _ [v3] = _ at g3
 change DataW.trod enc _ w base spare held n _ [v4, v5] = _ at g4
 change DataW.trod enc _ w base spare held n _ [v6, v7, v8, v9] = _ at g5
 change DataW.trod enc _ w base spare held n _ [v10] = _ at g6
 change DataW.trod enc _ w base spare held n _ [v11] = _ at g7
 obtain ⟨n2, _, hf2⟩ := struct_open _ shape_Query (by simp) g4
 obtain ⟨y8, g8⟩ := hf2 0 _ _ rfl
 obtain ⟨y9, g9⟩ := hf2 1 _ _ rfl
 rw [kS] at g8 g9
 change DataW.trod enc _ w base spare held n2 _ [v4] = _ at g8
 change DataW.trod enc _ w base spare held n2 _ [v5] = _ at g9
 obtain ⟨n3, _, hf3⟩ := struct_open _ shape_Cmd (by simp) g5
 obtain ⟨z0, j0⟩ := hf3 0 _ _ rfl
 obtain ⟨z1, j1⟩ := hf3 1 _ _ rfl
 obtain ⟨z2, j2⟩ := hf3 2 _ _ rfl
 obtain ⟨z3, j3⟩ := hf3 3 _ _ rfl
 rw [kI] at j0 j2
 rw [kE] at j1
 rw [kP] at j3
 change DataW.trod enc _ w base spare held n3 _ [v6] = _ at j0
 change DataW.trod enc _ w base spare held n3 _ [v7] = _ at j1
 change DataW.trod enc _ w base spare held n3 _ [v8] = _ at j2
 change DataW.trod enc _ w base spare held n3 _ [v9] = _ at j3
 obtain ⟨a0, e0, b0⟩ := in_int g0
 obtain ⟨a1, e1, b1⟩ := in_ent g1
 obtain ⟨a2, e2, b2⟩ := in_int g2
 obtain ⟨P, q3, r3⟩ := in_parts g3
 obtain ⟨a4, e4, b4⟩ := in_sig g8
 obtain ⟨a5, e5, b5⟩ := in_sig g9
 obtain ⟨a6, e6, b6⟩ := in_int j0
 obtain ⟨a7, e7, b7⟩ := in_ent j1
 obtain ⟨a8, e8, b8⟩ := in_int j2
 obtain ⟨Q, q9, r9⟩ := in_parts j3
 obtain ⟨a10, e10, b10⟩ := in_int g6
 obtain ⟨a11, e11, _, b11⟩ := DataW.trod_string (by kernel_rfl) g7
 cases e0
 cases e1
 cases e2
 cases e4
 cases e5
 cases e6
 cases e7
 cases e8
 cases e10
 cases e11
 exact ⟨⟨a0, a1, a2, P, a4, a5, a6, a7, a8, Q, a10, a11⟩, ⟨b0, b1, b2, q3, b4, b5, b6, b7, b8, q9, b10⟩, v3, v9, rfl, ⟨r3, r9⟩, b11⟩
end
end Go.Proofs.YtjjgbillihedgaaGreatDoor
