/- parts of the proof, merged: TlO, TlX, TlY -/
import Derived.Test.YtjjgbillihedgaaGreatDoorQb15
set_option linter.unusedSimpArgs false
set_option linter.unusedVariables false
set_option maxHeartbeats 32000000
set_option maxRecDepth 100000
namespace Go.Proofs.YtjjgbillihedgaaGreatDoor
open Go.RowKit
open Rf
open Sg
open Wide
open Tl
theorem is1_parts {o : OpD} (h : is1F o = true) : isPartsF o.P = true := by
 unfold is1F at h
 rw [Bool.and_eq_true, Bool.and_eq_true] at h
 exact h.1.2
theorem parts_bound {ps : List PartD} (h : isPartsF ps = true) : ps.length ≤ 24 ∧ ∀ p ∈ ps, p.V.length ≤ 100 := by
 obtain ⟨h1, h2⟩ := isParts_part h
 refine ⟨?_, fun p hp => (part_form (h2 p hp)).1⟩
 unfold risF at h1
 rw [Bool.and_eq_true] at h1
 have := of_decide_eq_true h1.2
 have hl := congrArg List.length this
 unfold idsOf at hl
 rw [List.length_map] at hl
 have := ids_le (partsF (idsOf ps)).1
 unfold idsOf at this
 omega
theorem who_bound (e : Int) (he : u64 e) {ps : List PartD} (h : isPartsF ps = true) (hok : ∀ p ∈ ps, p.Ok) : (whoT e ps).length ≤ 120000 := by
 obtain ⟨hl, hv⟩ := parts_bound h
 have h := join_le 4200 32 (whoL e ps) (fun x hx => by
  unfold whoL at hx
  rcases List.mem_append.1 hx with hx | hx
  ·have h1 := itoa_le (idF_i64 he)
   have h2 := itoa_le (genF_i64 he)
   simp only [List.mem_cons, List.not_mem_nil, or_false] at hx
   rcases hx with rfl | rfl | rfl
   ·simp
   ·omega
   ·omega
  ·obtain ⟨p, hp, rfl⟩ := List.mem_map.1 hx
   have := partT_len (hok p hp)
   have := hv p hp
   omega)
 rw [whoL_len] at h
 unfold whoT
 omega
/-- strings.Split at one byte: the slice has no room -/
theorem splitF_c (q : UInt8) (s : ByteArray) (hs : s.size < 4294967281) (w : World) (hg : GlobT w) :
 Calls Tryz.prog 71 #[.string s, .string ⟨#[q]⟩] w fun e w' => e = .returned (.slice (some ⟨w.heap.size, 0, none⟩) (segsQ q (byts s)).length (segsQ q (byts s)).length) ∧ OwnS w' w.heap.size (some ⟨w.heap.size, 0, none⟩) (segsQ q (byts s)).length (segsQ q (byts s)) ∧ Below w.heap.size w w' := by
 obtain ⟨m, hc⟩ := hg.1.mx
 have h := Any.strings_Split Tryz.lays146 (by kernel_rfl) s ⟨#[q]⟩ m w hs hc (by show 1 ≤ 1; omega)
 rw [splitQ_vals, ← splitQ_len] at h
 refine h.mono fun e w' ⟨h1, h2⟩ => ?_
 rw [h2]
 refine ⟨h1, ?_, below1 w _⟩
 refine own_lit w w.heap.size _ (Nat.le_refl _) ?_
 rw [splitQ_len]
 have := Lib.countB_le ⟨#[q]⟩ (by show 1 ≤ 1; omega) s.size s (Nat.le_refl _)
 unfold maxLen
 omega
theorem inT_drop {w : World} {g b c : Nat} {l : List (List UInt8)} (k : Nat) (hk : k ≤ l.length) (h : InT w (some ⟨g, b, none⟩) c l) : InT w (some ⟨g, b + k, none⟩) (c - k) (l.drop k) := by
 refine ⟨by rw [List.length_drop]; have := h.1; omega, ?_⟩
 rcases h.2 with rfl | ⟨g', o', e, hg, hc⟩
 ·left; simp
 ·cases e
  refine .inr ⟨g, b + k, rfl, hg, fun j hj => ?_⟩
  rw [List.length_drop] at hj
  rw [List.getElem_drop, Nat.add_assoc]
  exact hc (k + j) (by omega)
theorem thandle_c (e : Int) (he : u64 e) (ps : List PartD) (hs : Small ps) (hp : isPartsF ps = true) (s : Value) (w : World) (hin : InS w s ps) (hg : GlobT w) :
 Calls Tryz.prog 64 #[.int .u64 e, s] w fun x w' => (∃ g, x = .returned (.slice (some ⟨g, 1, none⟩) (ps.length + 2) (ps.length + 2)) ∧ InT w' (some ⟨g, 1, none⟩) (ps.length + 2) (handF e ps)) ∧ Below w.heap.size w w' := by
 have cw := who_c e he ps hs s w hin hg
 have hwb := who_bound e he hp (fun p h => (hs.2 p h).1)
 have cs := fun w' (hg : GlobT w') => splitF_c 32 (text (whoT e ps)) (by rw [text_size]; omega) w' hg
 rw [byts_text, segs_who] at cs
 have hL : whoL e ps = [101] :: handF e ps := rfl
 have hl : (whoL e ps).length = ps.length + 3 := whoL_len e ps
 rw [hl] at cs
 rw [hL] at cs
 have hhl : (handF e ps).length = ps.length + 2 := by unfold handF; simp
 obtain ⟨a, c, rfl, _⟩ := hin
 generalize text (whoT e ps) = T at *
 have hpl := hs.1
 clear hL hl hwb hp hs
 generalize handF e ps = H at *
 replace cw := Hd cw
 replace cs := Hd cs
 replace hhl := Hd hhl
 go_enter Tryz.func64, Tryz.ntmps64
 go_wp2_with fail
 refine cw.out.mono ?_
 rintro e w1 ⟨rfl, hb1⟩
 have cs1 := Hd (cs.out w1 (hg.on hb1))
 have hb1s := hb1.size
 replace hb1 := Hd hb1
 clear cw cs
 go_wp2_with fail
 refine cs1.out.mono ?_
 rintro e w2 ⟨rfl, hown, hb2⟩
 have hfin := Hd (below_up hb1.out hb1s hb2)
 have hIn : InT w2 (some ⟨w1.heap.size, 0, none⟩) (ps.length + 3) ([101] :: H) := by
  have := OwnS.in (l := [101] :: H) (a := some ⟨w1.heap.size, 0, none⟩) (c := ps.length + 3) hown
  exact this
 have hIn2 := Hd (inT_drop 1 (by simp) hIn)
 clear hb2 hb1 cs1 hown hIn
 go_wp2_with fail
 go_ret
 exact ⟨⟨_, rfl, hIn2.out⟩, hfin.out⟩
theorem inT_cells {w : World} {g b c : Nat} {l : List (List UInt8)} (h : InT w (some ⟨g, b, none⟩) c l) : ∀ j u, (sv l)[j]? = some u → w.cell? ⟨g, b + j, none⟩ = some u := by
 intro j u hu
 have hj : j < l.length := by
  rcases Nat.lt_or_ge j l.length with h' | h'
  ·exact h'
  ·rw [List.getElem?_eq_none (by rw [sv_length]; exact h')] at hu; cases hu
 rw [sv_get l j hj] at hu
 cases hu
 obtain ⟨g', o', e, _, hc⟩ := h.at j hj
 cases e
 exact hc
theorem own_in {w : World} {B n c : Nat} {a : Option Addr} {l : List (List UInt8)} {x : List UInt8} (hl : l.length = n) (h : w.ownsRow B 9 1 (.slice a (n + 1) c) (n + 1) (sv l ++ [.string (text x)])) : InT w a c (l ++ [x]) := by
 subst hl
 refine OwnS.in (B := B) ?_
 unfold OwnS
 rw [sv_append, List.length_append]
 exact h
theorem str_size (s : ByteArray) : (s.toList == []) = decide (s.size = 0) := by
 rw [str_empty]
 by_cases h : s.size = 0
 ·rw [decide_eq_true h, List.eq_nil_of_length_eq_zero (show (byts s).length = 0 by rw [byts_length]; exact h)]
  rfl
 ·rw [decide_eq_false h]
  cases hb : byts s with
  | nil => exact absurd (by rw [← byts_length, hb]; rfl) h
  | cons c r => rfl
theorem is1_bytes {o : OpD} (h : is1F o = true) (hK : o.K = 10) : o.B.size ≤ 16384 := by
 unfold is1F at h
 rw [Bool.and_eq_true] at h
 have ha := h.2
 unfold askF at ha
 simpa [hK] using ha
theorem rest_k1 (o : OpD) (hs : OpSmall o) (hf : is1F o = true) (hK : o.K = 1) (s t : Value) (w : World) (hin : OpIn w o s t) (hg : GlobT w) :
 Calls Tryz.prog 36 #[opv o s t] w fun e w' => (∃ a c, e = .returned (.slice a (rest1F o).length c) ∧ InT w' a c (rest1F o)) ∧ Below w.heap.size w w' := by
 have cO := ent_c 1 1 (by unfold i64; omega) (by unfold i64; omega)
 rw [show entF 1 1 = 4294967297 from by decide +kernel] at cO
 have hp := (is1_parts hf)
 have cH := fun w' (h : InS w' s o.P) (hg : GlobT w') => thandle_c 4294967297 (by unfold u64; omega) o.P hs.P hp s w' h hg
 have hr2 := Hd (show rest1F o = (handF 4294967297 o.P).drop 2 by unfold rest1F; rw [if_pos hK]; rfl)
 have hr1 := Hd (show (rest1F o).length = o.P.length by rw [hr2.out]; unfold handF; simp)
 clear hf hp hs
 obtain ⟨h1, h2⟩ := id hin
 have hb0 := below1 w (.cells (opc o s t) 32)
 have hbox := IsC.new w 32 (opc o s t)
 have hg0 := hg.on hb0
 have hP1 := h1.below hb0
 obtain ⟨a, c, rfl, _⟩ := id h1
 obtain ⟨b, d, rfl, _⟩ := id h2
 clear hin h1 h2
 obtain ⟨K, E, C, P, A, N, cK, cE', cC, cP', U, B⟩ := o
 dsimp only at *
 subst hK
 unfold opc at *
 unfold opv at *
 dsimp only at *
 replace cO := Hd cO
 replace cH := Hd cH
 replace hb0 := Hd hb0
 replace hbox := Hd hbox
 replace hP1 := Hd hP1
 have hb0s := hb0.out.size
 by_cases hP : P = []
 ·subst hP
  go_enter Tryz.func36, Tryz.ntmps36
  have j0 := hbox.out.cell 0
  have j3 := hbox.out.cell 3
  go_wp2_with fail
  generalize hW : w.alloc (.cells #[.int .i64 1, .int .u64 E, .int .i64 C, .slice a 0 c, .int .u32 A, .int .u32 N, .int .i64 cK, .int .u64 cE', .int .i64 cC, .slice b cP'.length d, .int .i64 U, .string B] 32) = W at *
  have d3 : W.drew.cell? ⟨w.heap.size, 3, none⟩ = some (.slice a 0 c) := j3
  have hP2 : InS W.drew (.slice a 0 c) [] := hP1.out
  have hg2 : GlobT W.drew := hg0.on (below_drewed (Below.refl _ _))
  refine wp_region_held_at (S := fun w1 => w1.cell? ⟨w.heap.size, 3, none⟩ = some (.slice a 0 c)) 6 rfl (by kernel_rfl) (by go_keep) (fun hH => ?_)
  refine wpU 1 ?_ rfl ?_ ?_
  rotate_left
  ·intro u h; (try simp only [ls3]); go_simp; try with_reducible rfl
  try simp only [ls7, Act.put]
  refine wpU 2 ?_ rfl ?_ ?_
  rotate_left
  ·intro u h; (try simp only [ls3]); go_simp; try with_reducible rfl
  try simp only [ls7, Act.put]
  refine wpAnyH_ready (rs := [0]) (by decide +kernel) (by simp) ?_
  refine AllReadyH.cons rfl (fun K hK => ?_) AllReadyH.nil
  (try simp only [ls3])
  go_simp
  refine Calls.mono (cO.out.on _) ?_
  rintro e w4 ⟨rfl, rfl⟩
  (try go_simp)
  refine hK.out _ _ (by go_keep) (fun hH => ?_)
  clear hK K
  try simp only [ls7, Act.put]
  refine wpAnyH_ready (rs := [3]) (by decide +kernel) (by simp) ?_
  refine AllReadyH.cons rfl (fun K hK => ?_) AllReadyH.nil
  (try simp only [ls3])
  go_simp
  refine Calls.mono (cH.out _ hP2 hg2) ?_
  rintro e w5 ⟨⟨g, rfl, hIn⟩, hb5⟩
  have y3 := cell_up d3 hb5
  (try go_simp)
  refine hK.out _ _ (by go_keep) (fun hH => ?_)
  clear hK K
  try simp only [ls7, Act.put]
  refine wpU 4 ?_ rfl ?_ ?_
  rotate_left
  ·intro u h; (try simp only [ls3]); go_simp; try with_reducible rfl
  try simp only [ls7, Act.put]
  refine wpU 5 ?_ rfl ?_ ?_
  rotate_left
  ·intro u h; (try simp only [ls3]); go_simp; try with_reducible rfl
  try simp only [ls7, Act.put]
  refine wpAnyH_done (by decide +kernel) ?_ _
  have hfin := Hd (below_up (below_drewed hb0.out) hb0s hb5)
  clear hb5
  go_wp2_with fail
  go_ret
  exact ⟨⟨_, 0, by rw [hr1.out]; rfl, by rw [hr2.out]; exact ⟨Nat.zero_le _, .inl rfl⟩⟩, hfin.out⟩
 ·have hP0 : P.length ≠ 0 := fun e => hP (List.eq_nil_of_length_eq_zero e)
  go_enter Tryz.func36, Tryz.ntmps36
  have j0 := hbox.out.cell 0
  have j3 := hbox.out.cell 3
  have q2 : (2 : Int) ≤ (P.length : Int) + 2 := by omega
  go_wp2_with fail
  generalize hW : w.alloc (.cells #[.int .i64 1, .int .u64 E, .int .i64 C, .slice a P.length c, .int .u32 A, .int .u32 N, .int .i64 cK, .int .u64 cE', .int .i64 cC, .slice b cP'.length d, .int .i64 U, .string B] 32) = W at *
  have d3 : W.drew.cell? ⟨w.heap.size, 3, none⟩ = some (.slice a P.length c) := j3
  have hP2 : InS W.drew (.slice a P.length c) P := hP1.out
  have hg2 : GlobT W.drew := hg0.on (below_drewed (Below.refl _ _))
  refine wp_region_held_at (S := fun w1 => w1.cell? ⟨w.heap.size, 3, none⟩ = some (.slice a P.length c)) 6 rfl (by kernel_rfl) (by go_keep) (fun hH => ?_)
  refine wpU 1 ?_ rfl ?_ ?_
  rotate_left
  ·intro u h; (try simp only [ls3]); go_simp; try with_reducible rfl
  try simp only [ls7, Act.put]
  refine wpU 2 ?_ rfl ?_ ?_
  rotate_left
  ·intro u h; (try simp only [ls3]); go_simp; try with_reducible rfl
  try simp only [ls7, Act.put]
  refine wpAnyH_ready (rs := [0]) (by decide +kernel) (by simp) ?_
  refine AllReadyH.cons rfl (fun K hK => ?_) AllReadyH.nil
  (try simp only [ls3])
  go_simp
  refine Calls.mono (cO.out.on _) ?_
  rintro e w4 ⟨rfl, rfl⟩
  (try go_simp)
  refine hK.out _ _ (by go_keep) (fun hH => ?_)
  clear hK K
  try simp only [ls7, Act.put]
  refine wpAnyH_ready (rs := [3]) (by decide +kernel) (by simp) ?_
  refine AllReadyH.cons rfl (fun K hK => ?_) AllReadyH.nil
  (try simp only [ls3])
  go_simp
  refine Calls.mono (cH.out _ hP2 hg2) ?_
  rintro e w5 ⟨⟨g, rfl, hIn⟩, hb5⟩
  have y3 := cell_up d3 hb5
  (try go_simp)
  refine hK.out _ _ (by go_keep) (fun hH => ?_)
  clear hK K
  try simp only [ls7, Act.put]
  refine wpU 4 ?_ rfl ?_ ?_
  rotate_left
  ·intro u h; (try simp only [ls3]); go_simp; try with_reducible rfl
  try simp only [ls7, Act.put]
  refine wpU 5 ?_ rfl ?_ ?_
  rotate_left
  ·intro u h; (try simp only [ls3]); go_simp; try with_reducible rfl
  try simp only [ls7, Act.put]
  refine wpAnyH_done (by decide +kernel) ?_ _
  have hfin := Hd (below_up (below_drewed hb0.out) hb0s hb5)
  clear hb5
  have hIn2 := Hd (inT_drop 2 (by unfold handF; simp) hIn)
  go_wp2_with fail
  go_ret
  exact ⟨⟨_, _, by rw [hr1.out]; rfl, by rw [hr2.out]; exact hIn2.out⟩, hfin.out⟩
theorem rest_k2 (o : OpD) (hs : OpSmall o) (hf : is1F o = true) (hK : o.K = 2) (s t : Value) (w : World) (hin : OpIn w o s t) (hg : GlobT w) :
 Calls Tryz.prog 36 #[opv o s t] w fun e w' => (∃ a c, e = .returned (.slice a (rest1F o).length c) ∧ InT w' a c (rest1F o)) ∧ Below w.heap.size w w' := by
 have hp := (is1_parts hf)
 have cH := fun w' (h : InS w' s o.P) (hg : GlobT w') => thandle_c o.E hs.ok.E o.P hs.P hp s w' h hg
 have hr2 := Hd (show rest1F o = handF o.E o.P by unfold rest1F; simp [hK])
 have hr1 := Hd (show (rest1F o).length = o.P.length + 2 by rw [hr2.out]; unfold handF; simp)
 clear hf hp hs
 obtain ⟨h1, h2⟩ := id hin
 have hb0 := below1 w (.cells (opc o s t) 32)
 have hbox := IsC.new w 32 (opc o s t)
 have hg0 := hg.on hb0
 have hP1 := h1.below hb0
 obtain ⟨a, c, rfl, _⟩ := id h1
 obtain ⟨b, d, rfl, _⟩ := id h2
 clear hin h1 h2
 obtain ⟨K, E, C, P, A, N, cK, cE', cC, cP', U, B⟩ := o
 dsimp only at *
 subst hK
 unfold opc at *
 unfold opv at *
 dsimp only at *
 replace cH := Hd cH
 replace hb0 := Hd hb0
 replace hbox := Hd hbox
 replace hP1 := Hd hP1
 have hb0s := hb0.out.size
 go_enter Tryz.func36, Tryz.ntmps36
 have j0 := hbox.out.cell 0
 have j1 := hbox.out.cell 1
 have j3 := hbox.out.cell 3
 go_wp2_with fail
 refine (cH.out _ hP1.out hg0).mono ?_
 rintro e w5 ⟨⟨g, rfl, hIn⟩, hb5⟩
 have hfin := Hd (below_up hb0.out hb0s hb5)
 replace hIn := Hd hIn
 clear hb5
 go_wp2_with fail
 go_ret
 exact ⟨⟨_, _, by rw [hr1.out]; rfl, by rw [hr2.out]; exact hIn.out⟩, hfin.out⟩
theorem rest_k3 (o : OpD) (hs : OpSmall o) (hf : is1F o = true) (hK : o.K = 3) (s t : Value) (w : World) (hin : OpIn w o s t) (hg : GlobT w) :
 Calls Tryz.prog 36 #[opv o s t] w fun e w' => (∃ a c, e = .returned (.slice a (rest1F o).length c) ∧ InT w' a c (rest1F o)) ∧ Below w.heap.size w w' := by
 have hp := (is1_parts hf)
 have cH := fun w' (h : InS w' s o.P) (hg : GlobT w') => thandle_c o.E hs.ok.E o.P hs.P hp s w' h hg
 have hr2 := Hd (show rest1F o = handF o.E o.P by unfold rest1F; simp [hK])
 have hr1 := Hd (show (rest1F o).length = o.P.length + 2 by rw [hr2.out]; unfold handF; simp)
 clear hf hp hs
 obtain ⟨h1, h2⟩ := id hin
 have hb0 := below1 w (.cells (opc o s t) 32)
 have hbox := IsC.new w 32 (opc o s t)
 have hg0 := hg.on hb0
 have hP1 := h1.below hb0
 obtain ⟨a, c, rfl, _⟩ := id h1
 obtain ⟨b, d, rfl, _⟩ := id h2
 clear hin h1 h2
 obtain ⟨K, E, C, P, A, N, cK, cE', cC, cP', U, B⟩ := o
 dsimp only at *
 subst hK
 unfold opc at *
 unfold opv at *
 dsimp only at *
 replace cH := Hd cH
 replace hb0 := Hd hb0
 replace hbox := Hd hbox
 replace hP1 := Hd hP1
 have hb0s := hb0.out.size
 go_enter Tryz.func36, Tryz.ntmps36
 have j0 := hbox.out.cell 0
 have j1 := hbox.out.cell 1
 have j3 := hbox.out.cell 3
 go_wp2_with fail
 refine (cH.out _ hP1.out hg0).mono ?_
 rintro e w5 ⟨⟨g, rfl, hIn⟩, hb5⟩
 have hfin := Hd (below_up hb0.out hb0s hb5)
 replace hIn := Hd hIn
 clear hb5
 go_wp2_with fail
 go_ret
 exact ⟨⟨_, _, by rw [hr1.out]; rfl, by rw [hr2.out]; exact hIn.out⟩, hfin.out⟩
theorem rest_k5 (o : OpD) (hs : OpSmall o) (hf : is1F o = true) (hK : o.K = 5) (s t : Value) (w : World) (hin : OpIn w o s t) (hg : GlobT w) :
 Calls Tryz.prog 36 #[opv o s t] w fun e w' => (∃ a c, e = .returned (.slice a (rest1F o).length c) ∧ InT w' a c (rest1F o)) ∧ Below w.heap.size w w' := by
 have hp := (is1_parts hf)
 have cH := fun w' (h : InS w' s o.P) (hg : GlobT w') => thandle_c o.E hs.ok.E o.P hs.P hp s w' h hg
 have hr2 := Hd (show rest1F o = handF o.E o.P by unfold rest1F; simp [hK])
 have hr1 := Hd (show (rest1F o).length = o.P.length + 2 by rw [hr2.out]; unfold handF; simp)
 clear hf hp hs
 obtain ⟨h1, h2⟩ := id hin
 have hb0 := below1 w (.cells (opc o s t) 32)
 have hbox := IsC.new w 32 (opc o s t)
 have hg0 := hg.on hb0
 have hP1 := h1.below hb0
 obtain ⟨a, c, rfl, _⟩ := id h1
 obtain ⟨b, d, rfl, _⟩ := id h2
 clear hin h1 h2
 obtain ⟨K, E, C, P, A, N, cK, cE', cC, cP', U, B⟩ := o
 dsimp only at *
 subst hK
 unfold opc at *
 unfold opv at *
 dsimp only at *
 replace cH := Hd cH
 replace hb0 := Hd hb0
 replace hbox := Hd hbox
 replace hP1 := Hd hP1
 have hb0s := hb0.out.size
 go_enter Tryz.func36, Tryz.ntmps36
 have j0 := hbox.out.cell 0
 have j1 := hbox.out.cell 1
 have j3 := hbox.out.cell 3
 go_wp2_with fail
 refine (cH.out _ hP1.out hg0).mono ?_
 rintro e w5 ⟨⟨g, rfl, hIn⟩, hb5⟩
 have hfin := Hd (below_up hb0.out hb0s hb5)
 replace hIn := Hd hIn
 clear hb5
 go_wp2_with fail
 go_ret
 exact ⟨⟨_, _, by rw [hr1.out]; rfl, by rw [hr2.out]; exact hIn.out⟩, hfin.out⟩
theorem rest_k4 (o : OpD) (hs : OpSmall o) (hf : is1F o = true) (hK : o.K = 4) (s t : Value) (w : World) (hin : OpIn w o s t) (hg : GlobT w) :
 Calls Tryz.prog 36 #[opv o s t] w fun e w' => (∃ a c, e = .returned (.slice a (rest1F o).length c) ∧ InT w' a c (rest1F o)) ∧ Below w.heap.size w w' := by
 obtain ⟨i0, hi, hz0, hz1, hz2⟩ := info_parts infoStr
 have cH := fun w' (hg : GlobT w') => thandle_c o.E hs.ok.E [] small_nil (by decide +kernel) (.slice none 0 0) w' (InS.nil _ _ _) hg
 have cI := fun w' (hg : GlobT w') => itoaT_c o.C hs.ok.C w' hg
 have hr2 := show rest1F o = handF o.E [] ++ [Lib.itoa o.C] by unfold rest1F; simp [hK]
 have hHl := show (handF o.E []).length = 2 by rfl
 generalize handF o.E [] = H at *
 generalize Lib.itoa o.C = I at *
 have hr1 := Hd (show (rest1F o).length = 3 by rw [hr2, List.length_append, hHl]; rfl)
 replace hHl := Hd hHl
 replace hr2 := Hd hr2
 clear hf hs
 obtain ⟨h1, h2⟩ := id hin
 have hb0 := below1 w (.cells (opc o s t) 32)
 have hbox := IsC.new w 32 (opc o s t)
 have hg0 := hg.on hb0
 have hP1 := h1.below hb0
 obtain ⟨a, c, rfl, _⟩ := id h1
 obtain ⟨b, d, rfl, _⟩ := id h2
 clear hin h1 h2
 obtain ⟨K, E, C, P, A, N, cK, cE', cC, cP', U, B⟩ := o
 dsimp only at *
 subst hK
 unfold opc at *
 unfold opv at *
 dsimp only at *
 replace cI := Hd cI
 replace cH := Hd cH
 replace hb0 := Hd hb0
 replace hbox := Hd hbox
 replace hP1 := Hd hP1
 have hb0s := hb0.out.size
 go_enter Tryz.func36, Tryz.ntmps36
 have j0 := hbox.out.cell 0
 have j1 := hbox.out.cell 1
 have j2 := hbox.out.cell 2
 go_wp2_with fail
 generalize hW : w.alloc (.cells #[.int .i64 4, .int .u64 E, .int .i64 C, .slice a P.length c, .int .u32 A, .int .u32 N, .int .i64 cK, .int .u64 cE', .int .i64 cC, .slice b cP'.length d, .int .i64 U, .string B] 32) = W at *
 have d1 : W.drew.cell? ⟨w.heap.size, 1, none⟩ = some (.int .u64 E) := j1
 have d2 : W.drew.cell? ⟨w.heap.size, 2, none⟩ = some (.int .i64 C) := j2
 have hg2 : GlobT W.drew := hg0.on (below_drewed (Below.refl _ _))
 refine wp_region_held_at (S := fun w1 => w1.cell? ⟨w.heap.size, 1, none⟩ = some (.int .u64 E) ∧ w1.cell? ⟨w.heap.size, 2, none⟩ = some (.int .i64 C)) 9 rfl (by kernel_rfl) (by go_keep) (fun hH => ?_)
 refine wpU 0 ?_ rfl ?_ ?_
 rotate_left
 ·intro u h; (try simp only [ls3]); go_simp; try with_reducible rfl
 try simp only [ls7, Act.put]
 refine wpU 1 ?_ rfl ?_ ?_
 rotate_left
 ·intro u h; (try simp only [ls3]); go_simp; try with_reducible rfl
 try simp only [ls7, Act.put]
 refine wpU 3 ?_ rfl ?_ ?_
 rotate_left
 ·intro u h; (try simp only [ls3]); go_simp; try with_reducible rfl
 try simp only [ls7, Act.put]
 refine wpU 4 ?_ rfl ?_ ?_
 rotate_left
 ·intro u h; (try simp only [ls3]); go_simp; try with_reducible rfl
 try simp only [ls7, Act.put]
 refine wpAnyH_ready (rs := [2]) (by decide +kernel) (by simp) ?_
 refine AllReadyH.cons rfl (fun K hK => ?_) AllReadyH.nil
 (try simp only [ls3])
 go_simp
 refine Calls.mono (cH.out _ hg2) ?_
 rintro e w4 ⟨⟨g, rfl, hIn⟩, hb4⟩
 have y1 := cell_up d1 hb4
 have y2 := cell_up d2 hb4
 have hg4 := hg2.on hb4
 have cI4 := Hd (cI.out w4 hg4)
 have hb6 := Hd (below_up (below_drewed hb0.out) hb0s hb4)
 have hb6s := hb6.out.size
 clear hb4
 replace hIn := Hd hIn
 (try go_simp)
 refine hK.out _ _ (by go_keep) (fun hH => ?_)
 clear hK K
 try simp only [ls7, Act.put]
 refine wpAnyH_ready (rs := [5]) (by decide +kernel) (by simp) ?_
 refine AllReadyH.cons rfl (fun K hK => ?_) AllReadyH.nil
 (try simp only [ls3])
 go_simp
 refine Calls.mono cI4.out ?_
 rintro e w5 ⟨rfl, hb5⟩
 have z1 := cell_up y1 hb5
 have z2 := cell_up y2 hb5
 replace hIn := Hd ((hIn.out.below hb5).below (below1 w5 (.cells #[.string (text I)] 9)))
 have hb7 := below_up hb6.out hb6s hb5
 have hb7s := hb7.size
 replace hb7 := Hd (hb7.alloc hb7.size (.cells #[.string (text I)] 9))
 clear hb5 hb6
 (try go_simp)
 refine hK.out _ _ (by go_keep) (fun hH => ?_)
 clear hK K
 try simp only [ls7, Act.put]
 refine wpAnyH_ready (rs := [6]) (by decide +kernel) (by simp) ?_
 refine AllReadyH.cons rfl (fun K hK => ?_) AllReadyH.nil
 (try simp only [ls3])
 go_simp
 refine hK.out _ _ (by go_keep) (fun hH => ?_)
 clear hK K
 try simp only [ls7, Act.put]
 refine wpAnyH_ready (rs := [7]) (by decide +kernel) (by simp) ?_
 refine AllReadyH.cons rfl (fun K hK => ?_) AllReadyH.nil
 (try simp only [ls3])
 rw [if_pos (by rfl)]
 refine step_append_full_src (w := w5.alloc (.cells #[.string (text I)] 9)) (xv := .slice (some ⟨w5.heap.size, 0, none⟩) 1 1) (.tmp 28) (.tmp 32) 76 76 ?_ 9 i0 (.string ⟨#[]⟩) 1 16 Tryz.underlying76 hi hz0 hz1 hz2 ?_ g 1 2 (sv H) ?_ (inT_cells hIn.out) ?_ ?_ (src_str w5 (text I)) ?_ ?_ ?_ w.heap.size ?_ ?_
 ·rfl
 ·rfl
 ·rw [sv_length, hHl.out]
 ·rfl
 ·rfl
 ·decide
 ·unfold maxLen; decide
 ·decide
 ·rw [size_alloc]; omega
 intro b' c' w6 hown hb8
 replace hIn := Hd (own_in hHl.out hown)
 have hfin := Hd (below_up hb7.out hb7.out.size hb8)
 have z3 := cell_up (cell_up z1 (below1 w5 (.cells #[.string (text I)] 9))) hb8
 have z4 := cell_up (cell_up z2 (below1 w5 (.cells #[.string (text I)] 9))) hb8
 clear hown hb8 hb7
 refine hK.out _ _ (by go_keep) (fun hH => ?_)
 clear hK K
 try simp only [ls7, Act.put]
 refine wpU 8 ?_ rfl ?_ ?_
 rotate_left
 ·intro u h; (try simp only [ls3]); go_simp; try with_reducible rfl
 try simp only [ls7, Act.put]
 refine wpAnyH_done (by decide +kernel) ?_ _
 go_wp2_with fail
 go_ret
 exact ⟨⟨_, _, by rw [hr1.out]; rfl, by rw [hr2.out]; exact hIn.out⟩, hfin.out⟩
theorem rest_k6 (o : OpD) (hs : OpSmall o) (hf : is1F o = true) (hK : o.K = 6) (s t : Value) (w : World) (hin : OpIn w o s t) (hg : GlobT w) :
 Calls Tryz.prog 36 #[opv o s t] w fun e w' => (∃ a c, e = .returned (.slice a (rest1F o).length c) ∧ InT w' a c (rest1F o)) ∧ Below w.heap.size w w' := by
 obtain ⟨i0, hi, hz0, hz1, hz2⟩ := info_parts infoStr
 have cH := fun w' (hg : GlobT w') => thandle_c o.E hs.ok.E [] small_nil (by decide +kernel) (.slice none 0 0) w' (InS.nil _ _ _) hg
 have cI := fun w' (hg : GlobT w') => itoaT_c o.C hs.ok.C w' hg
 have hr2 := show rest1F o = handF o.E [] ++ [Lib.itoa o.C] by unfold rest1F; simp [hK]
 have hHl := show (handF o.E []).length = 2 by rfl
 generalize handF o.E [] = H at *
 generalize Lib.itoa o.C = I at *
 have hr1 := Hd (show (rest1F o).length = 3 by rw [hr2, List.length_append, hHl]; rfl)
 replace hHl := Hd hHl
 replace hr2 := Hd hr2
 clear hf hs
 obtain ⟨h1, h2⟩ := id hin
 have hb0 := below1 w (.cells (opc o s t) 32)
 have hbox := IsC.new w 32 (opc o s t)
 have hg0 := hg.on hb0
 have hP1 := h1.below hb0
 obtain ⟨a, c, rfl, _⟩ := id h1
 obtain ⟨b, d, rfl, _⟩ := id h2
 clear hin h1 h2
 obtain ⟨K, E, C, P, A, N, cK, cE', cC, cP', U, B⟩ := o
 dsimp only at *
 subst hK
 unfold opc at *
 unfold opv at *
 dsimp only at *
 replace cI := Hd cI
 replace cH := Hd cH
 replace hb0 := Hd hb0
 replace hbox := Hd hbox
 replace hP1 := Hd hP1
 have hb0s := hb0.out.size
 go_enter Tryz.func36, Tryz.ntmps36
 have j0 := hbox.out.cell 0
 have j1 := hbox.out.cell 1
 have j2 := hbox.out.cell 2
 go_wp2_with fail
 generalize hW : w.alloc (.cells #[.int .i64 6, .int .u64 E, .int .i64 C, .slice a P.length c, .int .u32 A, .int .u32 N, .int .i64 cK, .int .u64 cE', .int .i64 cC, .slice b cP'.length d, .int .i64 U, .string B] 32) = W at *
 have d1 : W.drew.cell? ⟨w.heap.size, 1, none⟩ = some (.int .u64 E) := j1
 have d2 : W.drew.cell? ⟨w.heap.size, 2, none⟩ = some (.int .i64 C) := j2
 have hg2 : GlobT W.drew := hg0.on (below_drewed (Below.refl _ _))
 refine wp_region_held_at (S := fun w1 => w1.cell? ⟨w.heap.size, 1, none⟩ = some (.int .u64 E) ∧ w1.cell? ⟨w.heap.size, 2, none⟩ = some (.int .i64 C)) 9 rfl (by kernel_rfl) (by go_keep) (fun hH => ?_)
 refine wpU 0 ?_ rfl ?_ ?_
 rotate_left
 ·intro u h; (try simp only [ls3]); go_simp; try with_reducible rfl
 try simp only [ls7, Act.put]
 refine wpU 1 ?_ rfl ?_ ?_
 rotate_left
 ·intro u h; (try simp only [ls3]); go_simp; try with_reducible rfl
 try simp only [ls7, Act.put]
 refine wpU 3 ?_ rfl ?_ ?_
 rotate_left
 ·intro u h; (try simp only [ls3]); go_simp; try with_reducible rfl
 try simp only [ls7, Act.put]
 refine wpU 4 ?_ rfl ?_ ?_
 rotate_left
 ·intro u h; (try simp only [ls3]); go_simp; try with_reducible rfl
 try simp only [ls7, Act.put]
 refine wpAnyH_ready (rs := [2]) (by decide +kernel) (by simp) ?_
 refine AllReadyH.cons rfl (fun K hK => ?_) AllReadyH.nil
 (try simp only [ls3])
 go_simp
 refine Calls.mono (cH.out _ hg2) ?_
 rintro e w4 ⟨⟨g, rfl, hIn⟩, hb4⟩
 have y1 := cell_up d1 hb4
 have y2 := cell_up d2 hb4
 have hg4 := hg2.on hb4
 have cI4 := Hd (cI.out w4 hg4)
 have hb6 := Hd (below_up (below_drewed hb0.out) hb0s hb4)
 have hb6s := hb6.out.size
 clear hb4
 replace hIn := Hd hIn
 (try go_simp)
 refine hK.out _ _ (by go_keep) (fun hH => ?_)
 clear hK K
 try simp only [ls7, Act.put]
 refine wpAnyH_ready (rs := [5]) (by decide +kernel) (by simp) ?_
 refine AllReadyH.cons rfl (fun K hK => ?_) AllReadyH.nil
 (try simp only [ls3])
 go_simp
 refine Calls.mono cI4.out ?_
 rintro e w5 ⟨rfl, hb5⟩
 have z1 := cell_up y1 hb5
 have z2 := cell_up y2 hb5
 replace hIn := Hd ((hIn.out.below hb5).below (below1 w5 (.cells #[.string (text I)] 9)))
 have hb7 := below_up hb6.out hb6s hb5
 have hb7s := hb7.size
 replace hb7 := Hd (hb7.alloc hb7.size (.cells #[.string (text I)] 9))
 clear hb5 hb6
 (try go_simp)
 refine hK.out _ _ (by go_keep) (fun hH => ?_)
 clear hK K
 try simp only [ls7, Act.put]
 refine wpAnyH_ready (rs := [6]) (by decide +kernel) (by simp) ?_
 refine AllReadyH.cons rfl (fun K hK => ?_) AllReadyH.nil
 (try simp only [ls3])
 go_simp
 refine hK.out _ _ (by go_keep) (fun hH => ?_)
 clear hK K
 try simp only [ls7, Act.put]
 refine wpAnyH_ready (rs := [7]) (by decide +kernel) (by simp) ?_
 refine AllReadyH.cons rfl (fun K hK => ?_) AllReadyH.nil
 (try simp only [ls3])
 rw [if_pos (by rfl)]
 refine step_append_full_src (w := w5.alloc (.cells #[.string (text I)] 9)) (xv := .slice (some ⟨w5.heap.size, 0, none⟩) 1 1) (.tmp 28) (.tmp 32) 76 76 ?_ 9 i0 (.string ⟨#[]⟩) 1 16 Tryz.underlying76 hi hz0 hz1 hz2 ?_ g 1 2 (sv H) ?_ (inT_cells hIn.out) ?_ ?_ (src_str w5 (text I)) ?_ ?_ ?_ w.heap.size ?_ ?_
 ·rfl
 ·rfl
 ·rw [sv_length, hHl.out]
 ·rfl
 ·rfl
 ·decide
 ·unfold maxLen; decide
 ·decide
 ·rw [size_alloc]; omega
 intro b' c' w6 hown hb8
 replace hIn := Hd (own_in hHl.out hown)
 have hfin := Hd (below_up hb7.out hb7.out.size hb8)
 have z3 := cell_up (cell_up z1 (below1 w5 (.cells #[.string (text I)] 9))) hb8
 have z4 := cell_up (cell_up z2 (below1 w5 (.cells #[.string (text I)] 9))) hb8
 clear hown hb8 hb7
 refine hK.out _ _ (by go_keep) (fun hH => ?_)
 clear hK K
 try simp only [ls7, Act.put]
 refine wpU 8 ?_ rfl ?_ ?_
 rotate_left
 ·intro u h; (try simp only [ls3]); go_simp; try with_reducible rfl
 try simp only [ls7, Act.put]
 refine wpAnyH_done (by decide +kernel) ?_ _
 go_wp2_with fail
 go_ret
 exact ⟨⟨_, _, by rw [hr1.out]; rfl, by rw [hr2.out]; exact hIn.out⟩, hfin.out⟩
theorem rest_k7 (o : OpD) (hs : OpSmall o) (hf : is1F o = true) (hK : o.K = 7) (s t : Value) (w : World) (hin : OpIn w o s t) (hg : GlobT w) :
 Calls Tryz.prog 36 #[opv o s t] w fun e w' => (∃ a c, e = .returned (.slice a (rest1F o).length c) ∧ InT w' a c (rest1F o)) ∧ Below w.heap.size w w' := by
 have hA := hs.ok.A
 have hN := hs.ok.N
 unfold u32 at hA hN
 have cQ := fun w' => qtext_c o.A.toNat o.N.toNat (by omega) (by omega) w'
 unfold qv at cQ
 rw [show ((o.A.toNat : Nat) : Int) = o.A by omega, show ((o.N.toNat : Nat) : Int) = o.N by omega] at cQ
 have hr2 : rest1F o = [textS o.A.toNat ++ notL ++ textS o.N.toNat] := (show rest1F o = [qText o.A o.N] by unfold rest1F; simp [hK])
 generalize textS o.A.toNat ++ notL ++ textS o.N.toNat = T at *
 have hr1 := Hd (show (rest1F o).length = 1 by rw [hr2]; rfl)
 replace hr2 := Hd hr2
 clear hf hs hA hN
 obtain ⟨h1, h2⟩ := id hin
 have hb0 := below1 w (.cells (opc o s t) 32)
 have hbox := IsC.new w 32 (opc o s t)
 have hg0 := hg.on hb0
 have hP1 := h1.below hb0
 obtain ⟨a, c, rfl, _⟩ := id h1
 obtain ⟨b, d, rfl, _⟩ := id h2
 clear hin h1 h2
 obtain ⟨K, E, C, P, A, N, cK, cE', cC, cP', U, B⟩ := o
 dsimp only at *
 subst hK
 unfold opc at *
 unfold opv at *
 dsimp only at *
 replace cQ := Hd cQ
 replace hb0 := Hd hb0
 replace hbox := Hd hbox
 replace hP1 := Hd hP1
 have hb0s := hb0.out.size
 go_enter Tryz.func36, Tryz.ntmps36
 have j0 := hbox.out.cell 0
 have j4 := hbox.out.cell 4
 have j5 := hbox.out.cell 5
 go_wp2_with fail
 refine (cQ.out _).mono ?_
 rintro e w5 ⟨rfl, hb5⟩
 have hb6 := below_up hb0.out hb0s hb5
 clear hb5
 have hown := own_lit w5 w.heap.size [T] hb6.size (by unfold maxLen; simp)
 have hIn := Hd (OwnS.in hown)
 have hfin := Hd (hb6.alloc hb6.size (.cells (sv [T]).toArray 9))
 clear hown
 go_wp2_with fail
 go_ret
 exact ⟨⟨_, _, by rw [hr1.out]; rfl, by rw [hr2.out]; exact hIn.out⟩, hfin.out⟩
theorem rest_k9 (o : OpD) (hs : OpSmall o) (hf : is1F o = true) (hK : o.K = 9) (s t : Value) (w : World) (hin : OpIn w o s t) (hg : GlobT w) :
 Calls Tryz.prog 36 #[opv o s t] w fun e w' => (∃ a c, e = .returned (.slice a (rest1F o).length c) ∧ InT w' a c (rest1F o)) ∧ Below w.heap.size w w' := by
 have cI := fun w' (hg : GlobT w') => itoaT_c o.U hs.ok.U w' hg
 have hr2 := show rest1F o = [Lib.itoa o.U] by unfold rest1F; simp [hK]
 generalize Lib.itoa o.U = T at *
 have hr1 := Hd (show (rest1F o).length = 1 by rw [hr2]; rfl)
 replace hr2 := Hd hr2
 clear hf hs
 obtain ⟨h1, h2⟩ := id hin
 have hb0 := below1 w (.cells (opc o s t) 32)
 have hbox := IsC.new w 32 (opc o s t)
 have hg0 := hg.on hb0
 have hP1 := h1.below hb0
 obtain ⟨a, c, rfl, _⟩ := id h1
 obtain ⟨b, d, rfl, _⟩ := id h2
 clear hin h1 h2
 obtain ⟨K, E, C, P, A, N, cK, cE', cC, cP', U, B⟩ := o
 dsimp only at *
 subst hK
 unfold opc at *
 unfold opv at *
 dsimp only at *
 replace cI := Hd cI
 replace hb0 := Hd hb0
 replace hbox := Hd hbox
 replace hP1 := Hd hP1
 have hb0s := hb0.out.size
 go_enter Tryz.func36, Tryz.ntmps36
 have j0 := hbox.out.cell 0
 have j10 := hbox.out.cell 10
 go_wp2_with fail
 refine (cI.out _ hg0).mono ?_
 rintro e w5 ⟨rfl, hb5⟩
 have hb6 := below_up hb0.out hb0s hb5
 clear hb5
 have hown := own_lit w5 w.heap.size [T] hb6.size (by unfold maxLen; simp)
 have hIn := Hd (OwnS.in hown)
 have hfin := Hd (hb6.alloc hb6.size (.cells (sv [T]).toArray 9))
 clear hown
 go_wp2_with fail
 go_ret
 exact ⟨⟨_, _, by rw [hr1.out]; rfl, by rw [hr2.out]; exact hIn.out⟩, hfin.out⟩
theorem rest_k10 (o : OpD) (hs : OpSmall o) (hf : is1F o = true) (hK : o.K = 10) (s t : Value) (w : World) (hin : OpIn w o s t) (hg : GlobT w) :
 Calls Tryz.prog 36 #[opv o s t] w fun e w' => (∃ a c, e = .returned (.slice a (rest1F o).length c) ∧ InT w' a c (rest1F o)) ∧ Below w.heap.size w w' := by
 have hBl := is1_bytes hf hK
 have cI := fun w' => hex_c o.B (by omega) w'
 have e0 := str_size o.B
 have hr2 := show rest1F o = (if o.B.size = 0 then [] else [hexF (byts o.B)]) by unfold rest1F; simp [hK]
 clear hf hs
 obtain ⟨h1, h2⟩ := id hin
 have hb0 := below1 w (.cells (opc o s t) 32)
 have hbox := IsC.new w 32 (opc o s t)
 have hg0 := hg.on hb0
 have hP1 := h1.below hb0
 obtain ⟨a, c, rfl, _⟩ := id h1
 obtain ⟨b, d, rfl, _⟩ := id h2
 clear hin h1 h2
 obtain ⟨K, E, C, P, A, N, cK, cE', cC, cP', U, B⟩ := o
 dsimp only at *
 subst hK
 unfold opc at *
 unfold opv at *
 dsimp only at *
 replace cI := Hd cI
 replace hb0 := Hd hb0
 replace hbox := Hd hbox
 replace hP1 := Hd hP1
 have hb0s := hb0.out.size
 by_cases hB : B.size = 0
 ·rw [decide_eq_true hB] at e0
  rw [if_pos hB] at hr2
  have hr1 := Hd (show (rest1F _).length = 0 by rw [hr2]; rfl)
  replace hr2 := Hd hr2
  clear hB
  go_enter Tryz.func36, Tryz.ntmps36
  have j0 := hbox.out.cell 0
  have j11 := hbox.out.cell 11
  go_wp2_with fail
  go_ret
  exact ⟨⟨none, 0, by rw [hr1.out]; rfl, by rw [hr2.out]; exact ⟨Nat.le_refl _, .inl rfl⟩⟩, hb0.out⟩
 ·rw [decide_eq_false hB] at e0
  rw [if_neg hB] at hr2
  generalize hexF (byts B) = T at *
  have hr1 := Hd (show (rest1F _).length = 1 by rw [hr2]; rfl)
  replace hr2 := Hd hr2
  clear hB
  go_enter Tryz.func36, Tryz.ntmps36
  have j0 := hbox.out.cell 0
  have j11 := hbox.out.cell 11
  go_wp2_with fail
  refine (cI.out _).mono ?_
  rintro e w5 ⟨rfl, hb5⟩
  have hb6 := below_up hb0.out hb0s hb5
  clear hb5
  have hown := own_lit w5 w.heap.size [T] hb6.size (by unfold maxLen; simp)
  have hIn := Hd (OwnS.in hown)
  have hfin := Hd (hb6.alloc hb6.size (.cells (sv [T]).toArray 9))
  clear hown
  go_wp2_with fail
  go_ret
  exact ⟨⟨_, _, by rw [hr1.out]; rfl, by rw [hr2.out]; exact hIn.out⟩, hfin.out⟩
theorem rest_k11 (o : OpD) (hs : OpSmall o) (hf : is1F o = true) (hK : o.K = 11) (s t : Value) (w : World) (hin : OpIn w o s t) (hg : GlobT w) :
 Calls Tryz.prog 36 #[opv o s t] w fun e w' => (∃ a c, e = .returned (.slice a (rest1F o).length c) ∧ InT w' a c (rest1F o)) ∧ Below w.heap.size w w' := by
 have hr2 := show rest1F o = [] by unfold rest1F; simp [hK]
 have hr1 := Hd (show (rest1F o).length = 0 by rw [hr2]; rfl)
 replace hr2 := Hd hr2
 clear hf hs
 obtain ⟨h1, h2⟩ := id hin
 have hb0 := below1 w (.cells (opc o s t) 32)
 have hbox := IsC.new w 32 (opc o s t)
 have hg0 := hg.on hb0
 have hP1 := h1.below hb0
 obtain ⟨a, c, rfl, _⟩ := id h1
 obtain ⟨b, d, rfl, _⟩ := id h2
 clear hin h1 h2
 obtain ⟨K, E, C, P, A, N, cK, cE', cC, cP', U, B⟩ := o
 dsimp only at *
 subst hK
 unfold opc at *
 unfold opv at *
 dsimp only at *
 replace hb0 := Hd hb0
 replace hbox := Hd hbox
 replace hP1 := Hd hP1
 have hb0s := hb0.out.size
 go_enter Tryz.func36, Tryz.ntmps36
 have j0 := hbox.out.cell 0
 go_wp2_with fail
 go_ret
 exact ⟨⟨none, 0, by rw [hr1.out]; rfl, by rw [hr2.out]; exact ⟨Nat.le_refl _, .inl rfl⟩⟩, hb0.out⟩
/-- the words behind an op's first one -/
theorem rest1_c (o : OpD) (hs : OpSmall o) (hf : is1F o = true) (s t : Value) (w : World) (hin : OpIn w o s t) (hg : GlobT w) :
 Calls Tryz.prog 36 #[opv o s t] w fun e w' => (∃ a c, e = .returned (.slice a (rest1F o).length c) ∧ InT w' a c (rest1F o)) ∧ Below w.heap.size w w' := by
 by_cases k1 : o.K = 1
 ·exact rest_k1 o hs hf k1 s t w hin hg
 by_cases k2 : o.K = 2
 ·exact rest_k2 o hs hf k2 s t w hin hg
 by_cases k3 : o.K = 3
 ·exact rest_k3 o hs hf k3 s t w hin hg
 by_cases k5 : o.K = 5
 ·exact rest_k5 o hs hf k5 s t w hin hg
 by_cases k4 : o.K = 4
 ·exact rest_k4 o hs hf k4 s t w hin hg
 by_cases k6 : o.K = 6
 ·exact rest_k6 o hs hf k6 s t w hin hg
 by_cases k7 : o.K = 7
 ·exact rest_k7 o hs hf k7 s t w hin hg
 by_cases k9 : o.K = 9
 ·exact rest_k9 o hs hf k9 s t w hin hg
 by_cases k10 : o.K = 10
 ·exact rest_k10 o hs hf k10 s t w hin hg
 by_cases k11 : o.K = 11
 ·exact rest_k11 o hs hf k11 s t w hin hg
 exfalso
 unfold is1F at hf
 rw [Bool.and_eq_true] at hf
 have ha := hf.2
 unfold askF at ha
 rw [if_neg k1, if_neg k11, if_neg k2, if_neg k3, if_neg k5, if_neg k4, if_neg k6, if_neg k7, if_neg k9, if_neg k10] at ha
 cases ha
theorem words_b (w : World) : Calls Tryz.prog 35 #[] w fun e w' => e = .returned (.slice (some ⟨w.heap.size, 0, none⟩) 12 12) ∧ Below w.heap.size w w' ∧ ∀ k : Nat, k < 12 → w'.cell? ⟨w.heap.size, k, none⟩ = some (.string (text (wordB k))) :=
 (words_c w).mono fun e w' ⟨h1, h2⟩ => by
   subst h2
   refine ⟨h1, below1 w _, fun k hk => ?_⟩
   have := (IsC.new w 9 (wordL.map Value.string).toArray).cell k
   rw [this]
   have hl : k < wordL.length := hk
   unfold wordB
   rw [text_byts, List.getElem?_toArray, List.getElem?_map, List.getElem?_eq_getElem hl, Int.toNat_natCast]
   simp [List.getD_eq_getElem?_getD, List.getElem?_eq_getElem hl]
theorem cell_grown {w w' : World} {row : Option Nat} {a : Addr} {v : Value} (hg : w.grownBy w' row) (hr : row ≠ some a.block) (h : w.cell? a = some v) : w'.cell? a = some v := by
 have hlt := World.block_lt_of_cell? _ _ h
 rw [World.cell?_of_block (w := w) (hg.block a.block hlt (fun e => hr e.symm))]
 exact h
theorem lt_of_cell {w : World} {b i : Nat} {v : Value} (h : w.cell? ⟨b, i, none⟩ = some v) : b < w.heap.size := World.block_lt_of_cell? _ _ h
theorem cell_grown2 {w w' : World} {g n c b i : Nat} {v : Value} (hg : w.grownBy w' (Value.slice (some ⟨g, 0, none⟩) n c).ownBlock) (hr : b < g) (h : w.cell? ⟨b, i, none⟩ = some v) : w'.cell? ⟨b, i, none⟩ = some v :=
 cell_grown hg (by intro e; simp [Value.ownBlock] at e; omega) h
theorem line_own {w : World} {B c : Nat} {a : Option Addr} {L : List (List UInt8)} {x : List UInt8} {n : Nat} (h : w.ownsRow B 9 1 (.slice a (n + L.length) c) (n + L.length) (sv [x] ++ sv L)) : InT w a c ([x] ++ L) := by
 refine OwnS.in (B := B) ?_
 have hn : n = 1 := by
  have := h.1
  rw [List.length_append, sv_length, sv_length] at this
  simp at this
  omega
 subst hn
 unfold OwnS
 rw [← sv_append] at h
 rw [show ([x] ++ L).length = 1 + L.length by rw [List.length_append]; rfl]
 exact h
theorem lineG (o : OpD) (hs : OpSmall o) (s t : Value) (w : World) (hin : OpIn w o s t) (hg : GlobT w) (f : Bool) (L : List (List UInt8)) (hk : f = true → 1 ≤ o.K ∧ o.K ≤ 11) (hLl : L.length ≤ 1000) (hjl : (Lib.join ([wordB o.K] ++ L) [32]).length ≤ 140737488355328)
 (cI : ∀ w', OpIn w' o s t → Calls Tryz.prog 9 #[opv o s t] w' fun e w'' => e = .returned (.bool f) ∧ Below w'.heap.size w' w'')
 (cR : f = true → ∀ w', OpIn w' o s t → GlobT w' → Calls Tryz.prog 36 #[opv o s t] w' fun e w'' => (∃ a c, e = .returned (.slice a L.length c) ∧ InT w'' a c L) ∧ Below w'.heap.size w' w'') :
 Calls Tryz.prog 11 #[opv o s t] w fun e w' => e = .returned (.string (text (if f = true then Lib.join ([wordB o.K] ++ L) [32] else []))) ∧ Below w.heap.size w w' := by
 obtain ⟨i0, hi, hz0, hz1, hz2⟩ := info_parts infoStr
 obtain ⟨h1, h2⟩ := id hin
 have hb0 := below1 w (.cells (opc o s t) 32)
 have hbox := IsC.new w 32 (opc o s t)
 have hin0 := hin.below hb0
 have hg0 := hg.on hb0
 have cI1 := cI _ hin0
 obtain ⟨a, c, rfl, _⟩ := id h1
 obtain ⟨b, d, rfl, _⟩ := id h2
 obtain ⟨R, hR⟩ : ∃ R, text (if f = true then Lib.join ([wordB o.K] ++ L) [32] else []) = R := ⟨_, rfl⟩
 rw [hR]
 clear hin h1 h2 cI hs
 obtain ⟨Kn, E, C, P, A, N, cK, cE', cC, cP', U, B⟩ := o
 dsimp only at *
 unfold opc at *
 unfold opv at *
 dsimp only at *
 replace cI1 := Hd cI1
 replace hb0 := Hd hb0
 replace hbox := Hd hbox
 have hb0s := hb0.out.size
 go_enter Tryz.func11, Tryz.ntmps11
 obtain ⟨j0, j1, j2, j3, j4, j5, j6, j7, j8, j9, j10, j11⟩ := cells12 hbox.out
 go_wp2_with fail
 refine cI1.out.mono ?_
 rintro e w1 ⟨rfl, hb1⟩
 have y0 := cell_up j0 hb1
 have y1 := cell_up j1 hb1
 have y2 := cell_up j2 hb1
 have y3 := cell_up j3 hb1
 have y4 := cell_up j4 hb1
 have y5 := cell_up j5 hb1
 have y6 := cell_up j6 hb1
 have y7 := cell_up j7 hb1
 have y8 := cell_up j8 hb1
 have y9 := cell_up j9 hb1
 have y10 := cell_up j10 hb1
 have y11 := cell_up j11 hb1
 have hb2 := Hd (below_up hb0.out hb0s hb1)
 have hin1 := hin0.below hb1
 have hg1 := hg0.on hb1
 clear hb1 cI1 j0 j1 j2 j3 j4 j5 j6 j7 j8 j9 j10 j11 hbox hb0 hin0 hg0 hb0s
 cases f with
 | false =>
   rw [if_neg (by decide)] at hR
   subst hR
   clear hin1
   go_wp2_with fail
   go_ret
   exact ⟨rfl, hb2.out⟩
 | true =>
   obtain ⟨k1, k11⟩ := hk rfl
   rw [if_pos rfl] at hR
   have hres := Hd (show text (Lib.join (wordB Kn :: L) [32]) = R from hR)
   have hLen := Hd (show ([wordB Kn] ++ L).length = 1 + L.length by rw [List.length_append]; rfl)
   replace hjl := Hd hjl
   have q1 : (Kn.toNat : Int) = Kn := by omega
   have q2 : 0 ≤ Kn := by omega
   have q3 : Kn < 12 := by omega
   replace cR := Hd (cR rfl)
   obtain ⟨W, hW⟩ : ∃ W, w1 = W := ⟨_, rfl⟩
   have hinX := Hd (hin1.below (below_drewed (Below.refl w1.heap.size w1)))
   have hgX := Hd (hg1.on (below_drewed (Below.refl w1.heap.size w1)))
   have hbX := Hd (below_drewed hb2.out)
   have hbXs := hbX.out.size
   clear hR hin1 hg1 hb2 hk hW
   go_wp2_with fail
   refine wp_region_held_at (S := fun w1 => w1.cell? ⟨w.heap.size, 0, none⟩ = some (.int .i64 Kn) ∧ w1.cell? ⟨w.heap.size, 1, none⟩ = some (.int .u64 E) ∧ w1.cell? ⟨w.heap.size, 2, none⟩ = some (.int .i64 C) ∧ w1.cell? ⟨w.heap.size, 3, none⟩ = some (.slice a P.length c) ∧ w1.cell? ⟨w.heap.size, 4, none⟩ = some (.int .u32 A) ∧ w1.cell? ⟨w.heap.size, 5, none⟩ = some (.int .u32 N) ∧ w1.cell? ⟨w.heap.size, 6, none⟩ = some (.int .i64 cK) ∧ w1.cell? ⟨w.heap.size, 7, none⟩ = some (.int .u64 cE') ∧ w1.cell? ⟨w.heap.size, 8, none⟩ = some (.int .i64 cC) ∧ w1.cell? ⟨w.heap.size, 9, none⟩ = some (.slice b cP'.length d) ∧ w1.cell? ⟨w.heap.size, 10, none⟩ = some (.int .i64 U) ∧ w1.cell? ⟨w.heap.size, 11, none⟩ = some (.string B)) 11 rfl (by kernel_rfl) (by go_keep) (fun hH => ?_)
   refine wpU 1 ?_ rfl ?_ ?_
   rotate_left
   ·intro u h; (try simp only [ls3]); go_simp; try with_reducible rfl
   try simp only [ls7, Act.put]
   refine wpU 2 ?_ rfl ?_ ?_
   rotate_left
   ·intro u h; (try simp only [ls3]); go_simp; try with_reducible rfl
   try simp only [ls7, Act.put]
   refine wpU 6 ?_ rfl ?_ ?_
   rotate_left
   ·intro u h; (try simp only [ls3]); go_simp; try with_reducible rfl
   try simp only [ls7, Act.put]
   refine wpAnyH_ready (rs := [0]) (by decide +kernel) (by simp) ?_
   refine AllReadyH.cons rfl (fun K hK => ?_) AllReadyH.nil
   (try simp only [ls3])
   go_simp
   refine Calls.mono (words_b _) ?_
   rintro e w4 ⟨rfl, hb4, hcell⟩
   replace y0 := cell_up y0 (below_d hb4)
   replace y1 := cell_up y1 (below_d hb4)
   replace y2 := cell_up y2 (below_d hb4)
   replace y3 := cell_up y3 (below_d hb4)
   replace y4 := cell_up y4 (below_d hb4)
   replace y5 := cell_up y5 (below_d hb4)
   replace y6 := cell_up y6 (below_d hb4)
   replace y7 := cell_up y7 (below_d hb4)
   replace y8 := cell_up y8 (below_d hb4)
   replace y9 := cell_up y9 (below_d hb4)
   replace y10 := cell_up y10 (below_d hb4)
   replace y11 := cell_up y11 (below_d hb4)
   have hk : w4.cell? ⟨w1.heap.size, Kn.toNat, none⟩ = some (.string (text (wordB Kn))) := hcell Kn.toNat (by omega)
   replace hinX := Hd (hinX.out.below hb4)
   replace hgX := Hd (hgX.out.on hb4)
   replace hbX := Hd (below_up hbX.out hbXs hb4)
   clear hbXs hb4 hcell
   have hbXs := hbX.out.size
   (try go_simp)
   refine hK.out _ _ (by go_keep) (fun hH => ?_)
   clear hK K
   try simp only [ls7, Act.put]
   refine wpAnyH_more (N := fun w2 => w2.cell? ⟨w1.heap.size, Kn.toNat, none⟩ = some (.string (text (wordB Kn)))) (by first | assumption | go_keep) (by assumption) (fun hH => ?_)
   refine wpU 3 ?_ rfl ?_ ?_
   rotate_left
   ·intro u h; (try simp only [ls3]); go_simp; try with_reducible rfl
   try simp only [ls7, Act.put]
   refine wpU 4 ?_ rfl ?_ ?_
   rotate_left
   ·intro u h; (try simp only [ls3]); go_simp; try with_reducible rfl
   try simp only [ls7, Act.put]
   refine wpAnyH_ready (rs := [5, 7]) (by decide +kernel) (by simp) ?_
   refine AllReadyH.cons rfl (fun K hK => ?_) ?_
   ·(try simp only [ls3])
    go_simp
    refine hK.out _ _ (by go_keep) (fun hH => ?_)
    clear hK K
    try simp only [ls7, Act.put]
    have hnb := Hd (lt_of_cell y0)
    have hnk := Hd (lt_of_cell hk)
    have hown := Hd (own_lit _ w.heap.size [wordB Kn] hbXs (by unfold maxLen; simp))
    replace y0 := cell_up y0 (below1 _ (.cells (sv [wordB Kn]).toArray 9))
    replace y1 := cell_up y1 (below1 _ (.cells (sv [wordB Kn]).toArray 9))
    replace y2 := cell_up y2 (below1 _ (.cells (sv [wordB Kn]).toArray 9))
    replace y3 := cell_up y3 (below1 _ (.cells (sv [wordB Kn]).toArray 9))
    replace y4 := cell_up y4 (below1 _ (.cells (sv [wordB Kn]).toArray 9))
    replace y5 := cell_up y5 (below1 _ (.cells (sv [wordB Kn]).toArray 9))
    replace y6 := cell_up y6 (below1 _ (.cells (sv [wordB Kn]).toArray 9))
    replace y7 := cell_up y7 (below1 _ (.cells (sv [wordB Kn]).toArray 9))
    replace y8 := cell_up y8 (below1 _ (.cells (sv [wordB Kn]).toArray 9))
    replace y9 := cell_up y9 (below1 _ (.cells (sv [wordB Kn]).toArray 9))
    replace y10 := cell_up y10 (below1 _ (.cells (sv [wordB Kn]).toArray 9))
    replace y11 := cell_up y11 (below1 _ (.cells (sv [wordB Kn]).toArray 9))
    replace hk := cell_up hk (below1 _ (.cells (sv [wordB Kn]).toArray 9))
    replace hinX := Hd (hinX.out.below (below1 _ (.cells (sv [wordB Kn]).toArray 9)))
    replace hgX := Hd (hgX.out.on (below1 _ (.cells (sv [wordB Kn]).toArray 9)))
    (try replace hIn := Hd (hIn.out.below (below1 _ (.cells (sv [wordB Kn]).toArray 9))))
    replace hbX := Hd (hbX.out.alloc hbXs (.cells (sv [wordB Kn]).toArray 9))
    clear hbXs
    have hbXs := hbX.out.size
    refine wpAnyH_ready (rs := [7]) (by decide +kernel) (by simp) ?_
    refine AllReadyH.cons rfl (fun K hK => ?_) AllReadyH.nil
    (try simp only [ls3])
    go_simp
    refine Calls.mono (cR.out _ hinX.out hgX.out) ?_
    rintro e w5 ⟨⟨ra, rc, rfl, hIn⟩, hb5⟩
    replace y0 := cell_up y0 hb5
    replace y1 := cell_up y1 hb5
    replace y2 := cell_up y2 hb5
    replace y3 := cell_up y3 hb5
    replace y4 := cell_up y4 hb5
    replace y5 := cell_up y5 hb5
    replace y6 := cell_up y6 hb5
    replace y7 := cell_up y7 hb5
    replace y8 := cell_up y8 hb5
    replace y9 := cell_up y9 hb5
    replace y10 := cell_up y10 hb5
    replace y11 := cell_up y11 hb5
    replace hinX := Hd (hinX.out.below hb5)
    replace hgX := Hd (hgX.out.on hb5)
    replace hk := cell_up hk hb5
    replace hIn := Hd hIn
    (try replace hown := Hd (OwnS.below (l := [wordB Kn]) hown.out hb5))
    replace hbX := Hd (below_up hbX.out hbXs hb5)
    clear hbXs hb5
    have hbXs := hbX.out.size
    (try go_simp)
    refine hK.out _ _ (by go_keep) (fun hH => ?_)
    clear hK K
    try simp only [ls7, Act.put]
    refine wpAnyH_ready (rs := [8]) (by decide +kernel) (by simp) ?_
    refine AllReadyH.cons rfl (fun K hK => ?_) AllReadyH.nil
    (try simp only [ls3])
    rw [if_pos (by rfl)]
    have hsrc := src_in hIn.out
    refine step_append_own_src (.tmp 11) (.tmp 13) 76 76 ?_ w.heap.size 9 i0 (.string ⟨#[]⟩) 1 16 Tryz.underlying76 hi hz0 hz1 hz2 ?_ ?_ hown.out ?_ hsrc ?_ ?_ ?_ ?_
    ·rfl
    ·rfl
    ·rfl
    ·rfl
    ·show 1 + L.length ≤ _; unfold maxLen; omega
    ·show (1 + L.length) * 16 ≤ _; omega
    ·exact hbXs
    intro b' c' w6 hown3 hg1
    have hb6 := Below.grown hbX.out hg1 hbXs (fun q hq => by have := World.ownsRow.lt hown.out q hq; omega)
    replace hk := cell_grown2 hg1 hnk.out hk
    replace y0 := cell_grown2 hg1 hnb.out y0
    replace y1 := cell_grown2 hg1 hnb.out y1
    replace y2 := cell_grown2 hg1 hnb.out y2
    replace y3 := cell_grown2 hg1 hnb.out y3
    replace y4 := cell_grown2 hg1 hnb.out y4
    replace y5 := cell_grown2 hg1 hnb.out y5
    replace y6 := cell_grown2 hg1 hnb.out y6
    replace y7 := cell_grown2 hg1 hnb.out y7
    replace y8 := cell_grown2 hg1 hnb.out y8
    replace y9 := cell_grown2 hg1 hnb.out y9
    replace y10 := cell_grown2 hg1 hnb.out y10
    replace y11 := cell_grown2 hg1 hnb.out y11
    replace hown3 := line_own hown3
    have cj := joinT_c 32 ([wordB Kn] ++ L) (by simp) (by rw [hLen.out]; omega) hjl.out b' c' w6 hown3
    rw [hLen.out] at cj
    replace cj := Hd cj
    have hb6s := hb6.size
    replace hb6 := Hd hb6
    clear hown3 hg1 hsrc hown hbX hIn
    refine hK.out _ _ (by go_keep) (fun hH => ?_)
    clear hK K
    try simp only [ls7, Act.put]
    refine wpAnyH_ready (rs := [9]) (by decide +kernel) (by simp) ?_
    refine AllReadyH.cons rfl (fun K hK => ?_) AllReadyH.nil
    (try simp only [ls3])
    go_simp
    refine Calls.mono cj.out ?_
    rintro e w7 ⟨rfl, hb7⟩
    replace y0 := cell_up y0 hb7
    replace y1 := cell_up y1 hb7
    replace y2 := cell_up y2 hb7
    replace y3 := cell_up y3 hb7
    replace y4 := cell_up y4 hb7
    replace y5 := cell_up y5 hb7
    replace y6 := cell_up y6 hb7
    replace y7 := cell_up y7 hb7
    replace y8 := cell_up y8 hb7
    replace y9 := cell_up y9 hb7
    replace y10 := cell_up y10 hb7
    replace y11 := cell_up y11 hb7
    replace hk := cell_up hk hb7
    have hfin := Hd (below_up hb6.out hb6s hb7)
    clear hb7
    (try go_simp)
    refine hK.out _ _ (by go_keep) (fun hH => ?_)
    clear hK K
    try simp only [ls7, Act.put]
    refine wpU 10 ?_ rfl ?_ ?_
    rotate_left
    ·intro u h; (try simp only [ls3]); go_simp; try with_reducible rfl
    try simp only [ls7, Act.put]
    refine wpAnyH_done (by decide +kernel) ?_ _
    go_wp2_with fail
    go_ret
    exact ⟨by rw [hres.out]; rfl, hfin.out⟩
   refine AllReadyH.cons rfl (fun K hK => ?_) ?_
   ·(try simp only [ls3])
    go_simp
    refine Calls.mono (cR.out _ hinX.out hgX.out) ?_
    rintro e w5 ⟨⟨ra, rc, rfl, hIn⟩, hb5⟩
    replace y0 := cell_up y0 hb5
    replace y1 := cell_up y1 hb5
    replace y2 := cell_up y2 hb5
    replace y3 := cell_up y3 hb5
    replace y4 := cell_up y4 hb5
    replace y5 := cell_up y5 hb5
    replace y6 := cell_up y6 hb5
    replace y7 := cell_up y7 hb5
    replace y8 := cell_up y8 hb5
    replace y9 := cell_up y9 hb5
    replace y10 := cell_up y10 hb5
    replace y11 := cell_up y11 hb5
    replace hinX := Hd (hinX.out.below hb5)
    replace hgX := Hd (hgX.out.on hb5)
    replace hk := cell_up hk hb5
    replace hIn := Hd hIn
    (try replace hown := Hd (OwnS.below (l := [wordB Kn]) hown.out hb5))
    replace hbX := Hd (below_up hbX.out hbXs hb5)
    clear hbXs hb5
    have hbXs := hbX.out.size
    (try go_simp)
    refine hK.out _ _ (by go_keep) (fun hH => ?_)
    clear hK K
    try simp only [ls7, Act.put]
    refine wpAnyH_ready (rs := [5]) (by decide +kernel) (by simp) ?_
    refine AllReadyH.cons rfl (fun K hK => ?_) AllReadyH.nil
    (try simp only [ls3])
    go_simp
    refine hK.out _ _ (by go_keep) (fun hH => ?_)
    clear hK K
    try simp only [ls7, Act.put]
    have hnb := Hd (lt_of_cell y0)
    have hnk := Hd (lt_of_cell hk)
    have hown := Hd (own_lit _ w.heap.size [wordB Kn] hbXs (by unfold maxLen; simp))
    replace y0 := cell_up y0 (below1 _ (.cells (sv [wordB Kn]).toArray 9))
    replace y1 := cell_up y1 (below1 _ (.cells (sv [wordB Kn]).toArray 9))
    replace y2 := cell_up y2 (below1 _ (.cells (sv [wordB Kn]).toArray 9))
    replace y3 := cell_up y3 (below1 _ (.cells (sv [wordB Kn]).toArray 9))
    replace y4 := cell_up y4 (below1 _ (.cells (sv [wordB Kn]).toArray 9))
    replace y5 := cell_up y5 (below1 _ (.cells (sv [wordB Kn]).toArray 9))
    replace y6 := cell_up y6 (below1 _ (.cells (sv [wordB Kn]).toArray 9))
    replace y7 := cell_up y7 (below1 _ (.cells (sv [wordB Kn]).toArray 9))
    replace y8 := cell_up y8 (below1 _ (.cells (sv [wordB Kn]).toArray 9))
    replace y9 := cell_up y9 (below1 _ (.cells (sv [wordB Kn]).toArray 9))
    replace y10 := cell_up y10 (below1 _ (.cells (sv [wordB Kn]).toArray 9))
    replace y11 := cell_up y11 (below1 _ (.cells (sv [wordB Kn]).toArray 9))
    replace hk := cell_up hk (below1 _ (.cells (sv [wordB Kn]).toArray 9))
    replace hinX := Hd (hinX.out.below (below1 _ (.cells (sv [wordB Kn]).toArray 9)))
    replace hgX := Hd (hgX.out.on (below1 _ (.cells (sv [wordB Kn]).toArray 9)))
    (try replace hIn := Hd (hIn.out.below (below1 _ (.cells (sv [wordB Kn]).toArray 9))))
    replace hbX := Hd (hbX.out.alloc hbXs (.cells (sv [wordB Kn]).toArray 9))
    clear hbXs
    have hbXs := hbX.out.size
    refine wpAnyH_ready (rs := [8]) (by decide +kernel) (by simp) ?_
    refine AllReadyH.cons rfl (fun K hK => ?_) AllReadyH.nil
    (try simp only [ls3])
    rw [if_pos (by rfl)]
    have hsrc := src_in hIn.out
    refine step_append_own_src (.tmp 11) (.tmp 13) 76 76 ?_ w.heap.size 9 i0 (.string ⟨#[]⟩) 1 16 Tryz.underlying76 hi hz0 hz1 hz2 ?_ ?_ hown.out ?_ hsrc ?_ ?_ ?_ ?_
    ·rfl
    ·rfl
    ·rfl
    ·rfl
    ·show 1 + L.length ≤ _; unfold maxLen; omega
    ·show (1 + L.length) * 16 ≤ _; omega
    ·exact hbXs
    intro b' c' w6 hown3 hg1
    have hb6 := Below.grown hbX.out hg1 hbXs (fun q hq => by have := World.ownsRow.lt hown.out q hq; omega)
    replace hk := cell_grown2 hg1 hnk.out hk
    replace y0 := cell_grown2 hg1 hnb.out y0
    replace y1 := cell_grown2 hg1 hnb.out y1
    replace y2 := cell_grown2 hg1 hnb.out y2
    replace y3 := cell_grown2 hg1 hnb.out y3
    replace y4 := cell_grown2 hg1 hnb.out y4
    replace y5 := cell_grown2 hg1 hnb.out y5
    replace y6 := cell_grown2 hg1 hnb.out y6
    replace y7 := cell_grown2 hg1 hnb.out y7
    replace y8 := cell_grown2 hg1 hnb.out y8
    replace y9 := cell_grown2 hg1 hnb.out y9
    replace y10 := cell_grown2 hg1 hnb.out y10
    replace y11 := cell_grown2 hg1 hnb.out y11
    replace hown3 := line_own hown3
    have cj := joinT_c 32 ([wordB Kn] ++ L) (by simp) (by rw [hLen.out]; omega) hjl.out b' c' w6 hown3
    rw [hLen.out] at cj
    replace cj := Hd cj
    have hb6s := hb6.size
    replace hb6 := Hd hb6
    clear hown3 hg1 hsrc hown hbX hIn
    refine hK.out _ _ (by go_keep) (fun hH => ?_)
    clear hK K
    try simp only [ls7, Act.put]
    refine wpAnyH_ready (rs := [9]) (by decide +kernel) (by simp) ?_
    refine AllReadyH.cons rfl (fun K hK => ?_) AllReadyH.nil
    (try simp only [ls3])
    go_simp
    refine Calls.mono cj.out ?_
    rintro e w7 ⟨rfl, hb7⟩
    replace y0 := cell_up y0 hb7
    replace y1 := cell_up y1 hb7
    replace y2 := cell_up y2 hb7
    replace y3 := cell_up y3 hb7
    replace y4 := cell_up y4 hb7
    replace y5 := cell_up y5 hb7
    replace y6 := cell_up y6 hb7
    replace y7 := cell_up y7 hb7
    replace y8 := cell_up y8 hb7
    replace y9 := cell_up y9 hb7
    replace y10 := cell_up y10 hb7
    replace y11 := cell_up y11 hb7
    replace hk := cell_up hk hb7
    have hfin := Hd (below_up hb6.out hb6s hb7)
    clear hb7
    (try go_simp)
    refine hK.out _ _ (by go_keep) (fun hH => ?_)
    clear hK K
    try simp only [ls7, Act.put]
    refine wpU 10 ?_ rfl ?_ ?_
    rotate_left
    ·intro u h; (try simp only [ls3]); go_simp; try with_reducible rfl
    try simp only [ls7, Act.put]
    refine wpAnyH_done (by decide +kernel) ?_ _
    go_wp2_with fail
    go_ret
    exact ⟨by rw [hres.out]; rfl, hfin.out⟩
   exact AllReadyH.nil
namespace Tl
theorem wordB_len (k : Int) : (wordB k).length ≤ 7 := by
 unfold wordB
 by_cases h : k.toNat < 12
 ·have hh : ∀ n : Fin 12, (byts (wordL.getD n.val sS)).length ≤ 7 := by decide
  exact hh ⟨k.toNat, h⟩
 ·have : wordL.getD k.toNat sS = sS := by
   rw [List.getD_eq_getElem?_getD, List.getElem?_eq_none (by show wordL.length ≤ _; have : wordL.length = 12 := rfl; omega)]
   rfl
  rw [this]
  decide
theorem qText_len (a n : Int) : (qText a n).length ≤ 205 := by
 unfold qText
 have h1 := text_len a.toNat
 have h2 := text_len n.toNat
 have h3 : notL.length = 5 := rfl
 rw [List.length_append, List.length_append]
 omega
theorem rest1_len (o : OpD) (ok : o.Ok) (hf : is1F o = true) : (rest1F o).length ≤ 27 ∧ ∀ x ∈ rest1F o, x.length ≤ 40000 := by
 obtain ⟨hl, hv⟩ := parts_bound (is1_parts hf)
 have hpt : ∀ x ∈ o.P.map partT, x.length ≤ 40000 := by
  intro x hx
  obtain ⟨p, hp, rfl⟩ := List.mem_map.1 hx
  have := partT_len (ok.P p hp)
  have := hv p hp
  omega
 have hi : ∀ n : Int, i64 n → (Lib.itoa n).length ≤ 40000 := fun n h => by have := itoa_le h; omega
 have hh : ∀ ps : List PartD, (∀ x ∈ ps.map partT, x.length ≤ 40000) → ps.length ≤ 24 → (handF o.E ps).length ≤ 26 ∧ ∀ x ∈ handF o.E ps, x.length ≤ 40000 := by
  intro ps h h24
  unfold handF
  refine ⟨by simp; omega, fun x hx => ?_⟩
  rcases List.mem_cons.1 hx with rfl | hx
  ·exact hi _ (idF_i64 ok.E)
  rcases List.mem_cons.1 hx with rfl | hx
  ·exact hi _ (genF_i64 ok.E)
  ·exact h x hx
 have hc : (handF o.E [] ++ [Lib.itoa o.C]).length ≤ 27 ∧ ∀ x ∈ handF o.E [] ++ [Lib.itoa o.C], x.length ≤ 40000 := by
  obtain ⟨h1, h2⟩ := hh [] (by simp) (by simp)
  refine ⟨by rw [List.length_append]; simp; omega, fun x hx => ?_⟩
  rcases List.mem_append.1 hx with hx | hx
  ·exact h2 x hx
  ·rw [List.mem_singleton.1 hx]; exact hi _ ok.C
 unfold rest1F
 by_cases k1 : o.K = 1
 ·rw [if_pos k1]; exact ⟨by rw [List.length_map]; omega, hpt⟩
 rw [if_neg k1]
 by_cases k2 : o.K = 2
 ·rw [if_pos k2]; have := hh o.P hpt hl; exact ⟨by omega, this.2⟩
 rw [if_neg k2]
 by_cases k3 : o.K = 3
 ·rw [if_pos k3]; have := hh o.P hpt hl; exact ⟨by omega, this.2⟩
 rw [if_neg k3]
 by_cases k5 : o.K = 5
 ·rw [if_pos k5]; have := hh o.P hpt hl; exact ⟨by omega, this.2⟩
 rw [if_neg k5]
 by_cases k4 : o.K = 4
 ·rw [if_pos k4]; exact hc
 rw [if_neg k4]
 by_cases k6 : o.K = 6
 ·rw [if_pos k6]; exact hc
 rw [if_neg k6]
 by_cases k7 : o.K = 7
 ·rw [if_pos k7]
  refine ⟨by simp, fun x hx => ?_⟩
  rw [List.mem_singleton.1 hx]
  have := qText_len o.A o.N
  omega
 rw [if_neg k7]
 by_cases k9 : o.K = 9
 ·rw [if_pos k9]
  refine ⟨by simp, fun x hx => ?_⟩
  rw [List.mem_singleton.1 hx]
  exact hi _ ok.U
 rw [if_neg k9]
 by_cases k10 : o.K = 10
 ·rw [if_pos k10]
  have hb := is1_bytes hf k10
  split
  ·exact ⟨by simp, by simp⟩
  ·refine ⟨by simp, fun x hx => ?_⟩
   rw [List.mem_singleton.1 hx, hexF_len, byts_length]
   omega
 rw [if_neg k10]
 exact ⟨by simp, by simp⟩
theorem told1_len (o : OpD) (ok : o.Ok) (hf : is1F o = true) : (told1F o).length ≤ 1200000 := by
 obtain ⟨h1, h2⟩ := rest1_len o ok hf
 have := join_le 40000 32 (wordB o.K :: rest1F o) (fun x hx => by
  rcases List.mem_cons.1 hx with rfl | hx
  ·have := wordB_len o.K; omega
  ·exact h2 x hx)
 unfold told1F
 rw [List.length_cons] at this
 omega
theorem line1_len (o : OpD) (ok : o.Ok) : (line1F o).length ≤ 1200000 := by
 unfold line1F
 cases h : is1F o
 ·rw [if_neg (by decide)]; simp
 ·rw [if_pos rfl]; exact told1_len o ok h
theorem line_len (o : OpD) (ok : o.Ok) : (lineF o).length ≤ 3000000 := by
 unfold lineF
 cases h : isOpF o
 ·rw [if_neg (by decide)]; simp
 ·rw [if_pos rfl]
  unfold restF
  by_cases k8 : o.K = 8
  ·rw [if_pos k8]
   have := join_le 1200000 32 [wordB o.K, line1F (asOpF o.cK o.cE o.cC o.cP)] (fun x hx => by
    rcases List.mem_cons.1 hx with rfl | hx
    ·have := wordB_len o.K; omega
    ·rw [List.mem_singleton.1 hx]; exact line1_len _ (asOp_ok ok))
   simp at this
   omega
  ·rw [if_neg k8]
   rw [show isOpF o = is1F o from if_neg k8] at h
   have := told1_len o ok h
   unfold told1F at this
   omega
end Tl
theorem line1_c (o : OpD) (hs : OpSmall o) (h8 : o.K ≠ 8) (s t : Value) (w : World) (hin : OpIn w o s t) (hg : GlobT w) :
 Calls Tryz.prog 11 #[opv o s t] w fun e w' => e = .returned (.string (text (line1F o))) ∧ Below w.heap.size w w' := by
 have hlen : is1F o = true → (rest1F o).length ≤ 1000 ∧ (Lib.join ([wordB o.K] ++ rest1F o) [32]).length ≤ 140737488355328 := fun hf => by
  have h1 := rest1_len o hs.ok hf
  have h2 := told1_len o hs.ok hf
  unfold told1F at h2
  exact ⟨by omega, by show (Lib.join (wordB o.K :: rest1F o) [32]).length ≤ _; omega⟩
 unfold line1F told1F
 cases hf : is1F o with
 | false =>
   have := lineG o hs s t w hin hg false [] (fun h => by cases h) (by simp) (by rw [List.append_nil, Lib.join_one]; have := wordB_len o.K; omega) (fun w' h => by rw [← hf]; exact is1_c o hs h8 s t w' h) (fun h => by cases h)
   exact this
 | true =>
   exact lineG o hs s t w hin hg true (rest1F o) (fun _ => is1_kind hf) (hlen hf).1 (hlen hf).2 (fun w' h => by rw [← hf]; exact is1_c o hs h8 s t w' h) (fun _ w' h hg => rest1_c o hs hf s t w' h hg)
theorem rest8_c (o : OpD) (hs : OpSmall o) (hK : o.K = 8) (s t : Value) (w : World) (hin : OpIn w o s t) (hg : GlobT w) :
 Calls Tryz.prog 36 #[opv o s t] w fun e w' => (∃ a c, e = .returned (.slice a 1 c) ∧ InT w' a c [line1F (asOpF o.cK o.cE o.cC o.cP)]) ∧ Below w.heap.size w w' := by
 obtain ⟨h1, h2⟩ := id hin
 have hb0 := below1 w (.cells (opc o s t) 32)
 have hbox := IsC.new w 32 (opc o s t)
 have hg0 := hg.on hb0
 have hsm := asOp_small hs
 have hkd := asOp_kind o.cK o.cE o.cC o.cP
 have hin2 := (asOp_in (K := o.cK) (E := o.cE) (C := o.cC) h2).below hb0
 obtain ⟨a, c, rfl, _⟩ := id h1
 obtain ⟨b, d, rfl, _⟩ := id h2
 have cA := fun w' => asOp_c o.cK o.cE o.cC o.cP b o.cP.length d w'
 have c1 := fun w' (h : OpIn w' (asOpF o.cK o.cE o.cC o.cP) (asOpS o.cK (.slice b o.cP.length d)) nilV) (hg : GlobT w') => line1_c _ hsm hkd _ _ w' h hg
 generalize line1F (asOpF o.cK o.cE o.cC o.cP) = T at *
 generalize asOpF o.cK o.cE o.cC o.cP = x at *
 generalize asOpS o.cK (.slice b o.cP.length d) = xs at *
 generalize isCmd o.cK = kc at *
 unfold nilV at *
 obtain ⟨a1, e1, rfl, _⟩ := id hin2.1
 clear hin hs h1 h2 hsm hkd
 obtain ⟨K, E, C, P, A, N, cK, cE', cC, cP', U, B⟩ := o
 obtain ⟨xK, xE, xC, xP, xA, xN, xcK, xcE', xcC, xcP', xU, xB⟩ := x
 dsimp only at *
 subst hK
 unfold opc at *
 unfold opv at *
 unfold cmdv at *
 dsimp only at *
 replace cA := Hd cA
 replace c1 := Hd c1
 replace hb0 := Hd hb0
 replace hbox := Hd hbox
 replace hin2 := Hd hin2
 have hb0s := hb0.out.size
 go_enter Tryz.func36, Tryz.ntmps36
 have j0 := hbox.out.cell 0
 have j6 := hbox.out.cell 6
 have j7 := hbox.out.cell 7
 have j8 := hbox.out.cell 8
 have j9 := hbox.out.cell 9
 go_wp2_with fail
 refine (cA.out _).mono ?_
 rintro e w3 ⟨rfl, hb5⟩
 replace hin2 := Hd ((hin2.out.below hb5).below (below1 w3 (.cells #[.int .i64 xK, .int .u64 xE, .int .i64 xC, .slice a1 xP.length e1, .int .u32 xA, .int .u32 xN, .int .i64 xcK, .int .u64 xcE', .int .i64 xcC, .slice none 0 0, .int .i64 xU, .string xB] 32)))
 have hg1 := (hg0.on hb5).on (below1 w3 (.cells #[.int .i64 xK, .int .u64 xE, .int .i64 xC, .slice a1 xP.length e1, .int .u32 xA, .int .u32 xN, .int .i64 xcK, .int .u64 xcE', .int .i64 xcC, .slice none 0 0, .int .i64 xU, .string xB] 32))
 have hb6 := below_up hb0.out hb0s hb5
 have hb7 := Hd (hb6.alloc hb6.size (.cells #[.int .i64 xK, .int .u64 xE, .int .i64 xC, .slice a1 xP.length e1, .int .u32 xA, .int .u32 xN, .int .i64 xcK, .int .u64 xcE', .int .i64 xcC, .slice none 0 0, .int .i64 xU, .string xB] 32))
 have hb7s := hb7.out.size
 have c2 := Hd (c1.out _ hin2.out hg1)
 clear hb5 hb6 cA hb0 j0 j6 j7 j8 j9 c1 hin2
 go_wp2_with fail
 refine c2.out.mono ?_
 rintro e w4 ⟨rfl, hb8⟩
 have hb9 := below_up hb7.out hb7s hb8
 have hown := own_lit w4 w.heap.size [T] hb9.size (by unfold maxLen; simp)
 have hIn := Hd (OwnS.in hown)
 have hfin := Hd (hb9.alloc hb9.size (.cells (sv [T]).toArray 9))
 clear hb8 c2 hb7 hb9 hown
 go_wp2_with fail
 go_ret
 exact ⟨⟨_, _, rfl, hIn.out⟩, hfin.out⟩
/-- an op's line -/
theorem line_c (o : OpD) (hs : OpSmall o) (s t : Value) (w : World) (hin : OpIn w o s t) (hg : GlobT w) :
 Calls Tryz.prog 11 #[opv o s t] w fun e w' => e = .returned (.string (text (lineF o))) ∧ Below w.heap.size w w' := by
 by_cases h8 : o.K = 8
 ·have hl1 := line1_len (asOpF o.cK o.cE o.cC o.cP) (asOp_ok hs.ok)
  have hj : (Lib.join ([wordB o.K] ++ [line1F (asOpF o.cK o.cE o.cC o.cP)]) [32]).length ≤ 140737488355328 := by
   have := join_le 1200000 32 [wordB o.K, line1F (asOpF o.cK o.cE o.cC o.cP)] (fun x hx => by
    rcases List.mem_cons.1 hx with rfl | hx
    ·have := wordB_len o.K; omega
    ·rw [List.mem_singleton.1 hx]; exact hl1)
   simp at this ⊢
   omega
  have := lineG o hs s t w hin hg (isOpF o) [line1F (asOpF o.cK o.cE o.cC o.cP)] (fun _ => by omega) (by simp) hj (fun w' h => isOp_c o hs s t w' h) (fun _ w' h hg => rest8_c o hs h8 s t w' h hg)
  unfold lineF restF
  rw [if_pos h8]
  exact this
 ·have := line1_c o hs h8 s t w hin hg
  unfold line1F told1F at this
  unfold lineF restF
  rw [if_neg h8, show isOpF o = is1F o from if_neg h8]
  exact this
end Go.Proofs.YtjjgbillihedgaaGreatDoor
