/- parts of the proof, merged: TlV4 -/
import Derived.Test.YtjjgbillihedgaaGreatDoorQy22
set_option linter.unusedSimpArgs false
set_option linter.unusedVariables false
namespace Go.Proofs.YtjjgbillihedgaaGreatDoor
open Go.RowKit
open Rf
open Sg
open Wide
open Tl
namespace Tl
def goodT (t : List UInt8) : Bool := decide ((parseF t).2 = 0)
def valsR (ts : List (List UInt8)) : List WI := ts.map fun t => (parseF t).1
def rpartF (prev : Int) (w : List UInt8) : Option PartD :=
 if (segsQ 61 w).length = 2 then
  (if 1 ≤ num19F ((segsQ 61 w).getD 0 []) ∧ num19F ((segsQ 61 w).getD 0 []) ≤ 24 ∧ prev < num19F ((segsQ 61 w).getD 0 []) then
    (if (segsQ 61 w).getD 1 [] = [45] then some ⟨num19F ((segsQ 61 w).getD 0 []), []⟩
     else if (segsQ 44 ((segsQ 61 w).getD 1 [])).length ≤ 100 ∧ (segsQ 44 ((segsQ 61 w).getD 1 [])).all goodT = true then some ⟨num19F ((segsQ 61 w).getD 0 []), valsR (segsQ 44 ((segsQ 61 w).getD 1 []))⟩ else none)
   else none)
 else none
def rpartsL (prev : Int) : List (List UInt8) → Option (List PartD)
 | [] => some []
 | w :: r => match rpartF prev w with
   | none => none
   | some p => (rpartsL p.C r).map (p :: ·)
def rcutF (s : List UInt8) : Option (Int × List PartD) :=
 if 3 ≤ (segsQ 32 s).length ∧ (segsQ 32 s).getD 0 [] = [101] ∧ num19F ((segsQ 32 s).getD 1 []) ≠ 0 ∧ num19F ((segsQ 32 s).getD 2 []) ≠ 0 then
  (rpartsL 0 ((segsQ 32 s).drop 3)).map fun ps => (num19F ((segsQ 32 s).getD 2 []) * 4294967296 + num19F ((segsQ 32 s).getD 1 []), ps)
 else none
theorem num19_itoa (n : Int) (h0 : 1 ≤ n) (h1 : n ≤ 4294967295) : num19F (Lib.itoa n) = n := by
 obtain ⟨m, rfl⟩ := Int.eq_ofNat_of_zero_le (show 0 ≤ n by omega)
 have e : Lib.itoa (m : Int) = digs m := by rw [itoa_eq, if_neg (by omega)]; rfl
 rw [e]
 unfold num19F
 have h2 := digs_len 9 m (by omega)
 have h3 := digs_ne m
 have h4 := digs_head m (by omega)
 have h5 : (digs m).length ≠ 0 := fun h => h3 (List.eq_nil_of_length_eq_zero h)
 rw [if_neg (by rintro (h | h | h); omega; omega; exact h4 h), if_pos (digs_all m), digs_val, if_neg (by omega)]
theorem valF_noeq (v : List WI) : (61 : UInt8) ∉ valF v := fun h => by
 rcases valF_mem h with h | h
 ·revert h; decide
 ·exact not_dg (by decide) (by decide) h
theorem rpart_back (p : PartD) (hp : p.Ok) (prev : Int) (h : (1 ≤ p.C ∧ p.C ≤ 24 ∧ prev < p.C) ∧ isPartF p.V = true) : rpartF prev (partT p) = some p := by
 obtain ⟨C, v⟩ := p
 obtain ⟨⟨h0, h1, h2⟩, hf⟩ := h
 obtain ⟨p0, p1, hv⟩ := hp
 obtain ⟨hl, hvf⟩ := part_form hf
 dsimp only at *
 have hs : segsQ 61 (partT ⟨C, v⟩) = [Lib.itoa C, valF v] := by
  have e : partT ⟨C, v⟩ = Lib.join [Lib.itoa C, valF v] [61] := by
   rw [join_two, Lib.join_one]
   unfold partT
   simp
  rw [e]
  refine segsQ_join 61 _ _ fun y hy => ?_
  simp at hy
  rcases hy with rfl | rfl
  ·exact itoa_eqs C
  ·exact valF_noeq v
 unfold rpartF
 rw [hs]
 have hn := num19_itoa C (by omega) (by omega)
 rw [if_pos (show ([Lib.itoa C, valF v] : List (List UInt8)).length = 2 from rfl)]
 show (if 1 ≤ num19F (Lib.itoa C) ∧ num19F (Lib.itoa C) ≤ 24 ∧ prev < num19F (Lib.itoa C) then _ else _) = _
 rw [hn, if_pos ⟨h0, h1, h2⟩]
 show (if valF v = [45] then some (⟨num19F (Lib.itoa C), []⟩ : PartD) else if (segsQ 44 (valF v)).length ≤ 100 ∧ (segsQ 44 (valF v)).all goodT = true then some ⟨num19F (Lib.itoa C), valsR (segsQ 44 (valF v))⟩ else none) = _
 rw [hn]
 by_cases hv0 : v = []
 ·subst hv0
  rfl
 ·rw [if_neg (fun e => hv0 ((valF_minus hvf).1 e))]
  have h3 : valF v = Lib.join (v.map textF) [44] := if_neg (fun e => hv0 (List.eq_nil_of_length_eq_zero e))
  have h4 : segsQ 44 (valF v) = v.map textF := by
   rw [h3]
   cases hv2 : v.map textF with
   | nil => exact absurd (List.map_eq_nil_iff.1 hv2) hv0
   | cons x xs =>
     refine segsQ_join 44 x xs fun y hy => ?_
     rw [← hv2] at hy
     obtain ⟨z, _, rfl⟩ := List.mem_map.1 hy
     exact textF_comma z
  rw [h4, if_pos ⟨by rw [List.length_map]; exact hl, List.all_eq_true.2 fun t ht => by
   obtain ⟨x, hx, rfl⟩ := List.mem_map.1 ht
   unfold goodT
   rw [text_form' x (hv x hx) (hvf x hx)]
   rfl⟩]
  unfold valsR
  rw [map_parse (fun x hx => ⟨hv x hx, hvf x hx⟩)]
theorem rparts_back : ∀ (ps : List PartD) (prev : Int), (∀ p ∈ ps, p.Ok) → rgo prev ps = true → rpartsL prev (ps.map partT) = some ps
 | [], _, _, _ => rfl
 | p :: ps, prev, hok, h => by
   rw [rgo, Bool.and_eq_true, Bool.and_eq_true, decide_eq_true_iff] at h
   rw [List.map_cons, rpartsL, rpart_back p (hok p (List.mem_cons_self ..)) prev h.1]
   dsimp only
   rw [rparts_back ps p.C (fun q hq => hok q (List.mem_cons_of_mem _ hq)) h.2]
   rfl
theorem rcut_back (e : Int) (he : isEntF e = true) (hu : u64 e) (ps : List PartD) (hp : isPartsF ps = true) (hok : ∀ p ∈ ps, p.Ok) : rcutF (whoT e ps) = some (e, ps) := by
 unfold rcutF
 rw [segs_who]
 have hb : 1 ≤ idF e ∧ 1 ≤ genF e := by
  unfold isEntF at he
  rw [Bool.and_eq_true] at he
  exact ⟨of_decide_eq_true he.1, of_decide_eq_true he.2⟩
 have h1 := num19_itoa (idF e) hb.1 (by unfold idF; omega)
 have h2 := num19_itoa (genF e) hb.2 (by obtain ⟨u0, u1⟩ := hu; unfold genF; omega)
 have e1 : (whoL e ps).getD 1 [] = Lib.itoa (idF e) := rfl
 have e2 : (whoL e ps).getD 2 [] = Lib.itoa (genF e) := rfl
 have e3 : (whoL e ps).drop 3 = ps.map partT := rfl
 rw [e1, e2, e3, h1, h2, if_pos ⟨by rw [whoL_len]; omega, rfl, by omega, by omega⟩, rparts_back ps 0 hok (by rw [rgo_parts]; exact hp)]
 obtain ⟨u0, u1⟩ := hu
 show some (_, ps) = some (e, ps)
 congr 2
 unfold idF genF
 omega
end Tl
end Go.Proofs.YtjjgbillihedgaaGreatDoor
