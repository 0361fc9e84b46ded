/- parts of the proof, merged: TlC1, TlC2, TlC3 -/
import Derived.Test.YtjjgbillihedgaaGreatDoorQb16
set_option linter.unusedSimpArgs false
set_option linter.unusedVariables false
set_option maxHeartbeats 32000000
set_option maxRecDepth 100000
namespace Go.Proofs.YtjjgbillihedgaaGreatDoor
open Go.RowKit
open Rf
open Sg
open Wide
open Tl
namespace Tl
theorem parseF_ok (l : List UInt8) : (parseF l).1.Ok := by
 have hz : (zero : WI).Ok := by unfold zero WI.Ok; dsimp only; omega
 unfold parseF
 split
 ·exact hz
 split
 ·exact hz
 split
 ·rename_i h
  refine mk_ok _ ?_
  rw [In_iff]
  unfold neg
  split <;> omega
 ·exact hz
theorem atoi_bd (l : List UInt8) : i64 (atoiV l) := by
 unfold atoiV
 cases h : Lib.atoiAll l with
 | ok v =>
   dsimp only
   unfold Lib.atoiAll at h
   cases l with
   | nil => cases h
   | cons c r =>
     dsimp only at h
     cases hm : Lib.parseMag (if c.toNat = 43 ∨ c.toNat = 45 then r else c :: r) with
     | ok u =>
       rw [hm] at h
       dsimp only at h
       split at h
       ·cases h
       split at h
       ·cases h
       cases h
       unfold i64
       split <;> omega
     | _ => rw [hm] at h; cases h
 | range =>
   dsimp only
   unfold Lib.atoiSat i64
   split <;> omega
 | _ => unfold i64; dsimp only; omega
def wvs (l : List WI) : List Value := l.flatMap fun x => [.bool x.n, .int .u64 x.h, .int .u64 x.l]
theorem wvs_append (l m : List WI) : wvs (l ++ m) = wvs l ++ wvs m := by unfold wvs; rw [List.flatMap_append]
theorem wvs_get : ∀ (l : List WI) (j : Nat) (hj : j < l.length), (wvs l)[j * 3]? = some (.bool l[j].n) ∧ (wvs l)[j * 3 + 1]? = some (.int .u64 l[j].h) ∧ (wvs l)[j * 3 + 2]? = some (.int .u64 l[j].l)
 | x :: l, 0, _ => ⟨rfl, rfl, rfl⟩
 | x :: l, j + 1, hj => by
   obtain ⟨h0, h1, h2⟩ := wvs_get l j (by simpa using hj)
   have e : wvs (x :: l) = .bool x.n :: .int .u64 x.h :: .int .u64 x.l :: wvs l := rfl
   rw [e, show (j + 1) * 3 = j * 3 + 1 + 1 + 1 by omega, show j * 3 + 1 + 1 + 1 + 1 = (j * 3 + 1) + 1 + 1 + 1 by omega, show j * 3 + 1 + 1 + 1 + 2 = (j * 3 + 2) + 1 + 1 + 1 by omega]
   simp only [List.getElem?_cons_succ, List.getElem_cons_succ]
   exact ⟨h0, h1, h2⟩
end Tl
/-- numbers of the call's own -/
def OwnV (w : World) (B : Nat) (a : Option Addr) (c : Nat) (l : List WI) : Prop := w.ownsRow B 61 3 (.slice a l.length c) l.length (wvs l)
theorem OwnV.alloc {w : World} {B : Nat} {a : Option Addr} {c : Nat} {l : List WI} (h : OwnV w B a c l) (o : Obj) : OwnV (w.alloc o) B a c l := World.ownsRow.alloc h o
theorem OwnV.nil (w : World) (B : Nat) : OwnV w B none 0 [] := World.ownsRow_nil w B 61 3
theorem OwnV.below {w w' : World} {B : Nat} {a : Option Addr} {c : Nat} {l : List WI} (h : OwnV w B a c l) (hb : Below w.heap.size w w') : OwnV w' B a c l :=
 World.ownsRow.kept (row := none) h ⟨hb.os, hb.tape, hb.output, hb.size, fun k hk _ => hb.block k hk⟩ (by cases (Value.slice a l.length c).ownBlock <;> simp)
theorem OwnV.in {w : World} {B : Nat} {a : Option Addr} {c : Nat} {l : List WI} (h : OwnV w B a c l) : InV w (.slice a l.length c) l := by
 rcases Nat.eq_zero_or_pos l.length with h0 | h0
 ·exact ⟨_, _, rfl, .inl (List.eq_nil_of_length_eq_zero h0)⟩
 ·rcases h.2 with ⟨hv, hn⟩ | ⟨g, cap, cur, hv, hb, hg, hc⟩
  ·omega
  ·obtain ⟨rfl, rfl⟩ : a = some ⟨g, 0, none⟩ ∧ c = cap := by cases hv; exact ⟨rfl, rfl⟩
   refine ⟨_, _, rfl, .inr ⟨g, 0, rfl, lt_of_block hg, fun j hj => ?_⟩⟩
   have key : ∀ i u, (wvs l)[i]? = some u → w.cell? ⟨g, i, none⟩ = some u := fun i u hu => by
    have := World.ownsRow.cells h (g := g) rfl i u hu
    rw [addr_add, Nat.zero_add] at this
    exact this
   rw [Nat.zero_add]
   obtain ⟨k0, k1, k2⟩ := wvs_get l j hj
   exact ⟨key _ _ k0, key _ _ k1, key _ _ k2⟩
theorem OwnV.mono {w : World} {B B' : Nat} {a : Option Addr} {c : Nat} {l : List WI} (h : OwnV w B a c l) (hB : B' ≤ B) : OwnV w B' a c l := by
 refine ⟨h.1, ?_⟩
 rcases h.2 with h' | ⟨g, cap, cur, h1, h2, h3⟩
 ·exact .inl h'
 ·exact .inr ⟨g, cap, cur, h1, by omega, h3⟩
theorem infoWI : (Tryz.prog.info? 61).map (fun i => (i.zero, i.size, i.bytes)) = some (some (.agg #[.bool false, .int .u64 0, .int .u64 0]), 3, 24) := by kernel_rfl
theorem src_wi (w : World) (x : WI) : Src Tryz.prog 3 63 (.slice (some ⟨w.heap.size, 0, none⟩) 1 1) 1 [.bool x.n, .int .u64 x.h, .int .u64 x.l] (w.alloc (.cells #[.bool x.n, .int .u64 x.h, .int .u64 x.l] 61)) :=
 Src.ofSlice _ Tryz.underlying63 ⟨w.heap.size, 0, none⟩ 1 1 _ rfl (by
  intro j u hj
  have hc := (IsC.new w 61 #[.bool x.n, .int .u64 x.h, .int .u64 x.l]).cell j
  rw [addr_add, Nat.zero_add, hc]
  simpa using hj) (by intro u hu; simp at hu; rcases hu with rfl | rfl | rfl <;> rfl)
theorem cell_set_ne {w : World} {b c i j : Nat} {v u : Value} (hne : b ≠ c) (h : w.cell? ⟨b, j, none⟩ = some u) : (w.setCell ⟨c, i, none⟩ v).cell? ⟨b, j, none⟩ = some u := by
 rw [World.cell?_of_block (w := w) (Below.heap_setCell w ⟨c, i, none⟩ v b hne)]
 exact h
theorem inT_set {w : World} {g o b i c : Nat} {v : Value} {l : List (List UInt8)} (h : InT w (some ⟨g, o, none⟩) c l) (hne : g ≠ b) : InT (w.setCell ⟨b, i, none⟩ v) (some ⟨g, o, none⟩) c l := by
 refine ⟨h.1, ?_⟩
 rcases h.2 with h' | ⟨g', o', e, hg, hc⟩
 ·exact .inl h'
 ·cases e
  exact .inr ⟨g, o, rfl, by simpa using hg, fun j hj => cell_set_ne hne (hc j hj)⟩
theorem inT_grown {w w' : World} {g o c : Nat} {row : Option Nat} {l : List (List UInt8)} (h : InT w (some ⟨g, o, none⟩) c l) (hg : w.grownBy w' row) (hr : row ≠ some g) : InT w' (some ⟨g, o, none⟩) c l := by
 refine ⟨h.1, ?_⟩
 rcases h.2 with h' | ⟨g', o', e, hlt, hc⟩
 ·exact .inl h'
 ·cases e
  exact .inr ⟨g, o, rfl, Nat.lt_of_lt_of_le hlt hg.size, fun j hj => cell_grown (a := ⟨g, o + j, none⟩) hg hr (hc j hj)⟩
theorem isC_grown {w w' : World} {b : Nat} {T : TypeId} {cs : Array Value} {row : Option Nat} (h : IsC w b T cs) (hg : w.grownBy w' row) (hr : row ≠ some b) : IsC w' b T cs :=
 (hg.block b h.lt (fun e => hr e.symm)).trans h
/-- strconv.Atoi, any text -/
theorem atoiT_c (s : ByteArray) (hs : s.size ≤ 100000) (w : World) (hg : GlobT w) :
 Calls Tryz.prog 101 #[.string s] w fun e w' => ∃ ev, e = .returned (.tuple #[.int .i64 (atoiV (byts s)), ev]) ∧ Below w.heap.size w w' := atoi_c s (by omega) w hg.1
theorem cutPart_c (s : ByteArray) (hs : s.size ≤ 100000) (w : World) (hg : GlobT w) :
 Calls Tryz.prog 102 #[.string s] w fun e w' => (∃ a c, e = .returned (.tuple #[partv (cutPartF (byts s)).1.C (.slice a (cutPartF (byts s)).1.V.length c), .bool (cutPartF (byts s)).2]) ∧ OwnV w' w.heap.size a c (cutPartF (byts s)).1.V) ∧ Below w.heap.size w w' := by
 obtain ⟨i0, hi, hz0, hz1, hz2⟩ := info_parts infoWI
 have hb0 := below1 w (.cells #[.int .i64 0, .slice none 0 0] 65)
 have hbox := IsC.new w 65 #[.int .i64 0, .slice none 0 0]
 have hg0 := hg.on hb0
 have cc := cutS_c s ⟨#[61]⟩ (by omega) _ hg0
 rw [show byts ⟨#[61]⟩ = [61] from rfl] at cc
 obtain ⟨R, hR⟩ : ∃ R, cutPartF (byts s) = R := ⟨_, rfl⟩
 rw [hR]
 unfold cutPartF at hR
 obtain ⟨hl1, hl2⟩ := cut_le (byts s) [61]
 rw [byts_length] at hl1 hl2
 generalize Lib.cut (byts s) [61] = Cc at *
 obtain ⟨L, r, bb⟩ := Cc
 dsimp only at *
 have hls := text_size L
 have hrs := text_size r
 have cA := fun w' (h : GlobT w') => atoiT_c (text L) (by rw [hls]; omega) w' h
 rw [byts_text] at cA
 have hC := atoi_bd L
 generalize atoiV L = C at *
 obtain ⟨R0, R2⟩ := R
 obtain ⟨RC, RV⟩ := R0
 dsimp only at *
 obtain ⟨hRp, hR2⟩ := Prod.mk.inj hR
 obtain ⟨hRC, hRV⟩ := PartD.mk.inj hRp
 subst hRC
 rw [hRV] at hR2
 have hVok : ∀ x ∈ RV, x.Ok := by
  intro x hx
  rw [← hRV] at hx
  split at hx
  ·cases hx
  ·obtain ⟨y, _, rfl⟩ := List.mem_map.1 hx
   exact parseF_ok y
 have hVl : RV.length ≤ 100001 := by
  rw [← hRV]
  split
  ·simp
  ·rw [List.length_map]
   have := segsQ_len 44 r
   omega
 have hPok : (⟨C, RV⟩ : PartD).Ok := ⟨hC.1, hC.2, hVok⟩
 have cP := fun t w' (hin : InV w' t RV) (hg : GlobT w') => part_c ⟨C, RV⟩ hPok (by show RV.length ≤ _; omega) t w' hin hg
 have hcmp := bytes_eq (text (partT ⟨C, RV⟩)) s
 rw [byts_text] at hcmp
 have e0 : ((text r).toList == [45]) = decide (r = [45]) := by
  rw [toList_text, Bool.eq_iff_iff, beq_iff_eq, decide_eq_true_iff]
 clear hR hRp hPok hl1
 dsimp only at cP
 obtain ⟨T, hT⟩ : ∃ T, partT ⟨C, RV⟩ = T := ⟨_, rfl⟩
 rw [hT] at hR2 hcmp
 simp only [hT] at cP
 clear hT
 replace cc := Hd cc
 replace cA := Hd cA
 replace cP := Hd cP
 replace hb0 := Hd hb0
 replace hbox := Hd hbox
 replace hR2 := Hd hR2
 replace hVok := Hd hVok
 replace hRV := Hd hRV
 have hb0s := hb0.out.size
 go_enter Tryz.func102, Tryz.ntmps102
 go_wp2_with fail
 refine cc.out.mono ?_
 rintro e w1 ⟨rfl, hb1⟩
 have cA1 := Hd (cA.out w1 (hg0.on hb1))
 have hg1 := hg0.on hb1
 replace hb0 := Hd (below_up hb0.out hb0s hb1)
 replace hbox := Hd (isC_of hb1 hbox.out)
 clear cc hb1 cA hb0s
 have hb0s := hb0.out.size
 go_wp2_with fail
 refine cA1.out.mono ?_
 rintro e w2 ⟨ev, rfl, hb2⟩
 have hg2 := (hg1.on hb2).on (below1 w2 (.cells #[.int .i64 C, .slice none 0 0] 65))
 have hbx2 := isC_of hb2 hbox.out
 have hlt2 := hbx2.lt
 replace hbox := Hd (hbx2.alloc (.cells #[.int .i64 C, .slice none 0 0] 65))
 have hprt := Hd (IsC.new w2 65 #[.int .i64 C, .slice none 0 0])
 have hb3 := below_up hb0.out hb0s hb2
 replace hb0 := Hd (hb3.alloc hb3.size (.cells #[.int .i64 C, .slice none 0 0] 65))
 clear cA1 hb2 hb0s hbx2 hb3 hg1 hg0
 have hb0s := hb0.out.size
 by_cases hm : r = [45]
 ·rw [decide_eq_true hm] at e0
  have hrv := hRV.out
  rw [if_pos hm] at hrv
  subst hrv
  clear hm hRV hVok hVl
  have h100 := Hd (show decide (([] : List WI).length ≤ 100) = true from rfl)
  have hinV := InV.nil (w2.alloc (.cells #[.int .i64 C, .slice none 0 0] 65)) 0 none
  have x0 := hbox.out.cell 0
  have x1 := hbox.out.cell 1
  have f0 := hbox.out.f 0
  have f1 := hbox.out.f 1
  have hne : w2.heap.size ≠ w.heap.size := by omega
  have k0 := hprt.out.cell 0
  have k1 := hprt.out.cell 1
  generalize hW : w2.alloc (.cells #[.int .i64 C, .slice none 0 0] 65) = W at *
  have hltW := hbox.out.lt
  replace hW := Hd hW
  replace hb0 := Hd hb0
  clear hprt
  go_wp2_with fail
  try rw [hW.out]
  have cP1 := Hd (cP.out _ W.drew hinV (hg2.on (below_drewed (Below.refl _ _))))
  refine wp_region_held_at (S := fun w1 => w1.cell? ⟨w2.heap.size, 0, none⟩ = some (.int .i64 C) ∧ w1.cell? ⟨w2.heap.size, 1, none⟩ = some (.slice none 0 0)) 13 rfl (by kernel_rfl) (by go_keep) (fun hH => ?_)
  refine wpU 0 ?_ rfl ?_ ?_
  rotate_left
  ·intro u h; (try simp only [ls3]); go_simp; try with_reducible rfl
  try simp only [ls7, Act.put]
  refine wpU 1 ?_ rfl ?_ ?_
  rotate_left
  ·intro u h; (try simp only [ls3]); go_simp; try with_reducible rfl
  try simp only [ls7, Act.put]
  refine wpU 2 ?_ rfl ?_ ?_
  rotate_left
  ·intro u h; (try simp only [ls3]); go_simp; try with_reducible rfl
  try simp only [ls7, Act.put]
  refine wpU 3 ?_ rfl ?_ ?_
  rotate_left
  ·intro u h; (try simp only [ls3]); go_simp; try with_reducible rfl
  try simp only [ls7, Act.put]
  refine wpU 4 ?_ rfl ?_ ?_
  rotate_left
  ·intro u h; (try simp only [ls3]); go_simp; try with_reducible rfl
  try simp only [ls7, Act.put]
  refine wpU 5 ?_ rfl ?_ ?_
  rotate_left
  ·intro u h; (try simp only [ls3]); go_simp; try with_reducible rfl
  try simp only [ls7, Act.put]
  refine wpU 6 ?_ rfl ?_ ?_
  rotate_left
  ·intro u h; (try simp only [ls3]); go_simp; try with_reducible rfl
  try simp only [ls7, Act.put]
  refine wpU 8 ?_ rfl ?_ ?_
  rotate_left
  ·intro u h; (try simp only [ls3]); go_simp; try with_reducible rfl
  try simp only [ls7, Act.put]
  refine wpAnyH_ready (rs := [7]) (by decide +kernel) (by simp) ?_
  refine AllReadyH.cons rfl (fun K hK => ?_) AllReadyH.nil
  (try simp only [ls3])
  go_simp
  refine Calls.mono cP1.out ?_
  rintro e w8 ⟨rfl, hb8⟩
  replace k0 := cell_up (show W.drew.cell? ⟨w2.heap.size, 0, none⟩ = some (.int .i64 C) from k0) hb8
  replace k1 := cell_up (show W.drew.cell? ⟨w2.heap.size, 1, none⟩ = some (.slice none 0 0) from k1) hb8
  replace f0 : w8.frozen? ⟨w.heap.size, 0, none⟩ = false := (hb8.frozen (p := ⟨w.heap.size, 0, none⟩) hltW).trans f0
  replace f1 : w8.frozen? ⟨w.heap.size, 1, none⟩ = false := (hb8.frozen (p := ⟨w.heap.size, 1, none⟩) hltW).trans f1
  replace x0 := cell_up (show W.drew.cell? ⟨w.heap.size, 0, none⟩ = some (.int .i64 0) from x0) hb8
  replace x1 := cell_up (show W.drew.cell? ⟨w.heap.size, 1, none⟩ = some (.slice none 0 0) from x1) hb8
  have hbX := isC_of (show Below W.drew.heap.size W.drew w8 from hb8) hbox.out
  have hinX := Hd (InV.below (w := W.drew) hinV hb8)
  have hbY := Hd (below_up (below_drewed hb0.out) hb0s hb8)
  (try have hownX := Hd (OwnV.below hown.out hb8))
  clear hb8
  (try go_simp)
  refine hK.out _ _ (by go_keep) (fun hH => ?_)
  clear hK K
  try simp only [ls7, Act.put]
  refine wpU 9 ?_ rfl ?_ ?_
  rotate_left
  ·intro u h; (try simp only [ls3]); go_simp; try with_reducible rfl
  try simp only [ls7, Act.put]
  refine wpU 10 ?_ rfl ?_ ?_
  rotate_left
  ·intro u h; (try simp only [ls3]); go_simp; try with_reducible rfl
  try simp only [ls7, Act.put]
  refine wpAnyH_ready (rs := [11]) (by decide +kernel) (by simp) ?_
  refine AllReadyH.cons rfl (fun K hK => ?_) AllReadyH.nil
  (try simp only [ls3])
  go_simp
  refine hK.out _ _ (by exact ⟨cell_set_ne hne (cell_set_ne hne k0), cell_set_ne hne (cell_set_ne hne k1)⟩) (fun hH => ?_)
  clear hK K
  try simp only [ls7, Act.put]
  refine wpU 12 ?_ rfl ?_ ?_
  rotate_left
  ·intro u h; (try simp only [ls3]); go_simp; try with_reducible rfl
  try simp only [ls7, Act.put]
  refine wpAnyH_done (by decide +kernel) ?_ _
  have hs2 := (hbX.set 0 (.int .i64 C)).set 1 (.slice none 0 0)
  have t0 : ((w8.setCell ⟨w.heap.size, 0, none⟩ (.int .i64 C)).setCell ⟨w.heap.size, 1, none⟩ (.slice none 0 0)).cell? ⟨w.heap.size, 0, none⟩ = some (.int .i64 C) := hs2.cell 0
  have t1 : ((w8.setCell ⟨w.heap.size, 0, none⟩ (.int .i64 C)).setCell ⟨w.heap.size, 1, none⟩ (.slice none 0 0)).cell? ⟨w.heap.size, 1, none⟩ = some (.slice none 0 0) := hs2.cell 1
  have t2 : Below w.heap.size w ((w8.setCell ⟨w.heap.size, 0, none⟩ (.int .i64 C)).setCell ⟨w.heap.size, 1, none⟩ (.slice none 0 0)) := (hbY.out.setCell (p := ⟨w.heap.size, 0, none⟩) (Nat.le_refl _) (.int .i64 C)).setCell (p := ⟨w.heap.size, 1, none⟩) (Nat.le_refl _) (.slice none 0 0)
  have t3 : OwnV ((w8.setCell ⟨w.heap.size, 0, none⟩ (.int .i64 C)).setCell ⟨w.heap.size, 1, none⟩ (.slice none 0 0)) w.heap.size none 0 [] := OwnV.nil _ _
  replace t0 := Hd t0
  replace t1 := Hd t1
  replace t2 := Hd t2
  replace t3 := Hd t3
  have hr2 := hR2.out
  rw [h100.out, Bool.true_and] at hr2
  subst hr2
  clear hR2 hbX hbY hinX hs2
  go_wp2_with fail
  obtain ⟨wf, hwf⟩ : ∃ wf, (w8.setCell ⟨w.heap.size, 0, none⟩ (.int .i64 C)).setCell ⟨w.heap.size, 1, none⟩ (.slice none 0 0) = wf := ⟨_, rfl⟩
  have s0 := t0.out
  have s1 := t1.out
  have s2 := t2.out
  have s3 := t3.out
  rw [hwf] at s0 s1 s2 s3 ⊢
  (try simp only [Exit.inBlock, Exit.then])
  refine bodyPost_ret (by simp [results, Tryz.results102, go_sem, s0, s1]; try rfl) rfl ?_
  exact ⟨⟨_, _, rfl, s3⟩, s2⟩
 ·rw [decide_eq_false hm] at e0
  have hrv := hRV.out
  rw [if_neg hm] at hrv
  have cS := splitF_c 44 (text r) (by rw [hrs]; omega) _ hg2
  rw [byts_text] at cS
  have hPm : ∀ x ∈ segsQ 44 r, x.length ≤ 100000 := fun x hx => by have := segsQ_mem 44 r x hx; omega
  clear hm hRV
  have hPne := segsQ_ne 44 r
  generalize segsQ 44 r = PS at *
  have hPl : PS.length = RV.length := by rw [← hrv, List.length_map]
  replace cS := Hd cS
  replace hrv := Hd hrv
  replace hPm := Hd hPm
  replace hPl := Hd hPl
  go_wp2_with fail
  refine cS.out.mono ?_
  rintro e w3 ⟨rfl, hown, hb4⟩
  have hSin := Hd (OwnS.in hown)
  have hbs : (w2.alloc (.cells #[.int .i64 C, .slice none 0 0] 65)).heap.size = w2.heap.size + 1 := size_alloc _ _
  have hb4s := hb4.size
  replace hbox := Hd (isC_of hb4 hbox.out)
  replace hprt := Hd (isC_of hb4 hprt.out)
  replace hb0 := Hd (below_up hb0.out hb0s hb4)
  have hslt : w2.heap.size + 1 < w3.heap.size := by
   obtain ⟨_, _, e, hlt, _⟩ := (OwnS.in hown).at 0 (List.length_pos_iff.2 hPne)
   cases e
   rw [hbs] at hlt
   exact hlt
  rw [hbs] at hSin
  clear hown hb4 cS hb0s hb4s hg2 hbs
  have hb0s := hb0.out.size
  have hPlt : PS.length ≤ 100001 := by have := hPl.out; omega
  clear hPne
  go_wp2_with fail
  go_loopw [32] (fun i wr => ∃ k : Nat, k ≤ PS.length ∧ i = .int .i64 k ∧ IsC wr w.heap.size 65 #[.int .i64 0, .slice none 0 0] ∧ (∃ a c, IsC wr w2.heap.size 65 #[.int .i64 C, .slice a k c] ∧ wr.ownsRow w3.heap.size 61 3 (.slice a k c) k (wvs (RV.take k))) ∧ InT wr (some ⟨w2.heap.size + 1, 0, none⟩) PS.length PS ∧ Below w.heap.size w wr ∧ w3.heap.size ≤ wr.heap.size) (fun i _ => PS.length - (intOf i).toNat)
  case atStart => exact ⟨0, Nat.zero_le _, rfl, hbox.out, ⟨none, 0, hprt.out, World.ownsRow_nil _ _ _ _⟩, hSin.out, hb0.out, Nat.le_refl _⟩
  case round =>
   clear hbox hprt hSin hb0 hb0s
   obtain ⟨k, hk, rfl, hbox, ⟨a, c, hprt, hown⟩, hSin, hb0, h3⟩ := hrel
   have hgr := hg.on hb0
   have hb0s := hb0.size
   by_cases hlt : k < PS.length
   ·obtain ⟨_, _, e, hglt, hcell⟩ := hSin.at k hlt
    cases e
    rw [Nat.zero_add] at hcell
    have hltI : (k : Int) < (PS.length : Int) := by omega
    have hkR : k < RV.length := by have := hPl.out; omega
    have hxe : RV[k] = (parseF PS[k]).1 := by
     have h0 := hrv.out
     have : RV[k]? = (PS.map fun t => (parseF t).1)[k]? := by rw [h0]
     rw [List.getElem?_eq_getElem hkR, List.getElem?_map, List.getElem?_eq_getElem hlt] at this
     exact Option.some.inj this
    have hxl := hPm.out PS[k] (List.getElem_mem hlt)
    have hst : RV.take (k + 1) = RV.take k ++ [RV[k]] := List.take_succ_eq_append_getElem hkR
    rw [hxe] at hst
    have hXok := parseF_ok PS[k]
    generalize PS[k] = x at *
    have cW := fun w' => wparse_c (text x) (by rw [text_size]; unfold maxLen; omega) w'
    rw [byts_text] at cW
    unfold wv at cW
    obtain ⟨⟨X, ex⟩, hXe⟩ : ∃ p, parseF x = p := ⟨_, rfl⟩
    rw [hXe] at cW hst hXok
    dsimp only at cW hst hXok
    clear hXe hxe
    replace cW := Hd cW
    replace hst := Hd hst
    replace hbox := Hd hbox
    replace hprt := Hd hprt
    replace hown := Hd hown
    replace hSin := Hd hSin
    replace hb0 := Hd hb0
    go_wp2_with fail
    refine (cW.out _).mono ?_
    rintro e w4 ⟨rfl, hb4⟩
    have hbq := below1 w4 (.cells #[.bool X.n, .int .u64 X.h, .int .u64 X.l] 61)
    have hbx4 := (isC_of hb4 hbox.out).alloc (.cells #[.bool X.n, .int .u64 X.h, .int .u64 X.l] 61)
    have hpr4 := (isC_of hb4 hprt.out).alloc (.cells #[.bool X.n, .int .u64 X.h, .int .u64 X.l] 61)
    have hSi4 := (hSin.out.below hb4).below hbq
    have hb5 := below_up hb0.out hb0s hb4
    have hb6 := hb5.alloc hb5.size (.cells #[.bool X.n, .int .u64 X.h, .int .u64 X.l] 61)
    have hw4 : w3.heap.size ≤ w4.heap.size := Nat.le_trans h3 hb4.size
    have hown4 : (w4.alloc (.cells #[.bool X.n, .int .u64 X.h, .int .u64 X.l] 61)).ownsRow w3.heap.size 61 3 (.slice a k c) k (wvs (RV.take k)) :=
     World.ownsRow.alloc (World.ownsRow.kept (row := none) hown.out ⟨hb4.os, hb4.tape, hb4.output, hb4.size, fun k hk _ => hb4.block k hk⟩ (by cases (Value.slice a k c).ownBlock <;> simp)) _
    have hint := IsC.new w4 61 #[.bool X.n, .int .u64 X.h, .int .u64 X.l]
    have i0' := hint.cell 0
    have i1' := hint.cell 1
    have i2' := hint.cell 2
    have p1 := hpr4.cell 1
    have hbn := below1 (w4.alloc (.cells #[.bool X.n, .int .u64 X.h, .int .u64 X.l] 61)) (.cells #[.bool X.n, .int .u64 X.h, .int .u64 X.l] 61)
    have hsrc := src_wi (w4.alloc (.cells #[.bool X.n, .int .u64 X.h, .int .u64 X.l] 61)) X
    rw [size_alloc] at hsrc
    clear hb4 hbq hb5 hint hbox hprt hSin hb0 hown hcell hglt
    replace hbx4 := Hd (hbx4.alloc (.cells #[.bool X.n, .int .u64 X.h, .int .u64 X.l] 61))
    replace hpr4 := Hd (hpr4.alloc (.cells #[.bool X.n, .int .u64 X.h, .int .u64 X.l] 61))
    replace hSi4 := Hd (hSi4.below hbn)
    have hb6s := hb6.size
    replace hb6 := Hd (hb6.alloc hb6s (.cells #[.bool X.n, .int .u64 X.h, .int .u64 X.l] 61))
    replace hown4 := Hd (World.ownsRow.alloc hown4 (.cells #[.bool X.n, .int .u64 X.h, .int .u64 X.l] 61))
    clear hbn
    go_wp2_with (at_builtin; refine wpList_append_own_src _ rfl (.tmp 42) (.tmp 44) 63 63 rfl w3.heap.size 61 i0 (.agg #[.bool false, .int .u64 0, .int .u64 0]) 3 24 Tryz.underlying63 hi hz0 hz1 hz2 rfl rfl hown4.out rfl hsrc ?_ ?_ ?_ ?_)
    ·unfold maxLen; omega
    ·omega
    ·rw [size_alloc, size_alloc]; omega
    intro b' c' w6 hown6 hg6
    have hrow := World.ownsRow.lt hown4.out
    have hbx6 := isC_grown hbx4.out hg6 (fun e => by have := hrow _ e; omega)
    have hpr6 := isC_grown hpr4.out hg6 (fun e => by have := hrow _ e; omega)
    have hSi6 := inT_grown hSi4.out hg6 (fun e => by have := hrow _ e; omega)
    have hb7 := Below.grown hb6.out hg6 (by rw [size_alloc, size_alloc]; omega) (fun q hq => by have := hrow q hq; omega)
    rw [show ([.bool X.n, .int .u64 X.h, .int .u64 X.l] : List Value) = wvs [X] from rfl, ← wvs_append, ← hst.out] at hown6
    have q0 := hpr6.cell 1
    have q1 := hpr6.f 1
    have hne1 : w.heap.size ≠ w2.heap.size := by omega
    have hne2 : w2.heap.size + 1 ≠ w2.heap.size := by omega
    have hbx7 := Hd (hbx6.set_other (c := w2.heap.size) (i := 1) (v := .slice b' (k + 1) c') hne1)
    have hpr7 := Hd (show IsC (w6.setCell ⟨w2.heap.size, 1, none⟩ (.slice b' (k + 1) c')) w2.heap.size 65 #[.int .i64 C, .slice b' (k + 1) c'] from hpr6.set 1 (.slice b' (k + 1) c'))
    have hSi7 := Hd (inT_set (i := 1) (v := .slice b' (k + 1) c') hSi6 hne2)
    have hb8 := Hd (hb7.setCell (p := ⟨w2.heap.size, 1, none⟩) (by show w.heap.size ≤ w2.heap.size; omega) (.slice b' (k + 1) c'))
    have hown7 := Hd (ownsRow_setCell_below hown6 (a := ⟨w2.heap.size, 1, none⟩) (by show w2.heap.size < w3.heap.size; omega) (.slice b' (k + 1) c'))
    have hsz := hg6.size
    rw [size_alloc, size_alloc] at hsz
    clear hown6 hg6 hrow hbx6 hpr6 hSi6 hb7 hbx4 hpr4 hSi4 hb6 hown4 hsrc
    go_wp2_with fail
    go_roundw
    case rel => exact ⟨k + 1, by omega, by go_num, hbx7.out, ⟨b', c', hpr7.out, hown7.out⟩, hSi7.out, hb8.out, by simp; omega⟩
    case measure => simp [intOf]; omega
   ·obtain rfl : k = PS.length := by omega
    rw [hPl.out, List.take_length] at hown
    rw [hPl.out] at hprt
    have hinV : InV wr (.slice a RV.length c) RV := OwnV.in hown
    replace hown := Hd (show OwnV wr.drew w3.heap.size a c RV from hown)
    have hlw : w.heap.size < w3.heap.size := by omega
    have hle : w.heap.size ≤ w3.heap.size := by omega
    have x0 := hbox.cell 0
    have x1 := hbox.cell 1
    have f0 := hbox.f 0
    have f1 := hbox.f 1
    have k0 := hprt.cell 0
    have k1 := hprt.cell 1
    have hne : w2.heap.size ≠ w.heap.size := by omega
    have hltW := hbox.lt
    replace hb0 := Hd hb0
    replace hbox := Hd hbox
    clear hprt hSin
    have cP1 := Hd (cP.out _ wr.drew hinV (hgr.on (below_drewed (Below.refl _ _))))
    by_cases h1 : RV.length ≤ 100
    ·have h100 := Hd (show decide (RV.length ≤ 100) = true from decide_eq_true h1)
     have h1I : (RV.length : Int) ≤ 100 := by omega
     clear h1
     go_wp2_with fail
     refine wp_region_held_at (S := fun w1 => w1.cell? ⟨w2.heap.size, 0, none⟩ = some (.int .i64 C) ∧ w1.cell? ⟨w2.heap.size, 1, none⟩ = some (.slice a RV.length c)) 13 rfl (by kernel_rfl) (by go_keep) (fun hH => ?_)
     refine wpU 0 ?_ rfl ?_ ?_
     rotate_left
     ·intro u h; (try simp only [ls3]); go_simp; try with_reducible rfl
     try simp only [ls7, Act.put]
     refine wpU 1 ?_ rfl ?_ ?_
     rotate_left
     ·intro u h; (try simp only [ls3]); go_simp; try with_reducible rfl
     try simp only [ls7, Act.put]
     refine wpU 2 ?_ rfl ?_ ?_
     rotate_left
     ·intro u h; (try simp only [ls3]); go_simp; try with_reducible rfl
     try simp only [ls7, Act.put]
     refine wpU 3 ?_ rfl ?_ ?_
     rotate_left
     ·intro u h; (try simp only [ls3]); go_simp; try with_reducible rfl
     try simp only [ls7, Act.put]
     refine wpU 4 ?_ rfl ?_ ?_
     rotate_left
     ·intro u h; (try simp only [ls3]); go_simp; try with_reducible rfl
     try simp only [ls7, Act.put]
     refine wpU 5 ?_ rfl ?_ ?_
     rotate_left
     ·intro u h; (try simp only [ls3]); go_simp; try with_reducible rfl
     try simp only [ls7, Act.put]
     refine wpU 6 ?_ rfl ?_ ?_
     rotate_left
     ·intro u h; (try simp only [ls3]); go_simp; try with_reducible rfl
     try simp only [ls7, Act.put]
     refine wpU 8 ?_ rfl ?_ ?_
     rotate_left
     ·intro u h; (try simp only [ls3]); go_simp; try with_reducible rfl
     try simp only [ls7, Act.put]
     refine wpAnyH_ready (rs := [7]) (by decide +kernel) (by simp) ?_
     refine AllReadyH.cons rfl (fun K hK => ?_) AllReadyH.nil
     (try simp only [ls3])
     go_simp
     refine Calls.mono cP1.out ?_
     rintro e w8 ⟨rfl, hb8⟩
     replace k0 := cell_up (show wr.drew.cell? ⟨w2.heap.size, 0, none⟩ = some (.int .i64 C) from k0) hb8
     replace k1 := cell_up (show wr.drew.cell? ⟨w2.heap.size, 1, none⟩ = some (.slice a RV.length c) from k1) hb8
     replace f0 : w8.frozen? ⟨w.heap.size, 0, none⟩ = false := (hb8.frozen (p := ⟨w.heap.size, 0, none⟩) hltW).trans f0
     replace f1 : w8.frozen? ⟨w.heap.size, 1, none⟩ = false := (hb8.frozen (p := ⟨w.heap.size, 1, none⟩) hltW).trans f1
     replace x0 := cell_up (show wr.drew.cell? ⟨w.heap.size, 0, none⟩ = some (.int .i64 0) from x0) hb8
     replace x1 := cell_up (show wr.drew.cell? ⟨w.heap.size, 1, none⟩ = some (.slice none 0 0) from x1) hb8
     have hbX := isC_of (show Below wr.drew.heap.size wr.drew w8 from hb8) hbox.out
     have hinX := Hd (InV.below (w := wr.drew) hinV hb8)
     have hbY := Hd (below_up (below_drewed hb0.out) hb0s hb8)
     (try have hownX := Hd (OwnV.below hown.out hb8))
     clear hb8
     (try go_simp)
     refine hK.out _ _ (by go_keep) (fun hH => ?_)
     clear hK K
     try simp only [ls7, Act.put]
     refine wpU 9 ?_ rfl ?_ ?_
     rotate_left
     ·intro u h; (try simp only [ls3]); go_simp; try with_reducible rfl
     try simp only [ls7, Act.put]
     refine wpU 10 ?_ rfl ?_ ?_
     rotate_left
     ·intro u h; (try simp only [ls3]); go_simp; try with_reducible rfl
     try simp only [ls7, Act.put]
     refine wpAnyH_ready (rs := [11]) (by decide +kernel) (by simp) ?_
     refine AllReadyH.cons rfl (fun K hK => ?_) AllReadyH.nil
     (try simp only [ls3])
     go_simp
     refine hK.out _ _ (by exact ⟨cell_set_ne hne (cell_set_ne hne k0), cell_set_ne hne (cell_set_ne hne k1)⟩) (fun hH => ?_)
     clear hK K
     try simp only [ls7, Act.put]
     refine wpU 12 ?_ rfl ?_ ?_
     rotate_left
     ·intro u h; (try simp only [ls3]); go_simp; try with_reducible rfl
     try simp only [ls7, Act.put]
     refine wpAnyH_done (by decide +kernel) ?_ _
     have hs2 := (hbX.set 0 (.int .i64 C)).set 1 (.slice a RV.length c)
     have t0 : ((w8.setCell ⟨w.heap.size, 0, none⟩ (.int .i64 C)).setCell ⟨w.heap.size, 1, none⟩ (.slice a RV.length c)).cell? ⟨w.heap.size, 0, none⟩ = some (.int .i64 C) := hs2.cell 0
     have t1 : ((w8.setCell ⟨w.heap.size, 0, none⟩ (.int .i64 C)).setCell ⟨w.heap.size, 1, none⟩ (.slice a RV.length c)).cell? ⟨w.heap.size, 1, none⟩ = some (.slice a RV.length c) := hs2.cell 1
     have t2 : Below w.heap.size w ((w8.setCell ⟨w.heap.size, 0, none⟩ (.int .i64 C)).setCell ⟨w.heap.size, 1, none⟩ (.slice a RV.length c)) := (hbY.out.setCell (p := ⟨w.heap.size, 0, none⟩) (Nat.le_refl _) (.int .i64 C)).setCell (p := ⟨w.heap.size, 1, none⟩) (Nat.le_refl _) (.slice a RV.length c)
     have t3 : OwnV ((w8.setCell ⟨w.heap.size, 0, none⟩ (.int .i64 C)).setCell ⟨w.heap.size, 1, none⟩ (.slice a RV.length c)) w.heap.size a c RV := OwnV.mono (B := w3.heap.size) (ownsRow_setCell_below (a := ⟨w.heap.size, 1, none⟩) (ownsRow_setCell_below (a := ⟨w.heap.size, 0, none⟩) hownX.out hlw (.int .i64 C)) hlw (.slice a RV.length c)) hle
     replace t0 := Hd t0
     replace t1 := Hd t1
     replace t2 := Hd t2
     replace t3 := Hd t3
     have hr2 := hR2.out
     rw [h100.out, Bool.true_and] at hr2
     subst hr2
     clear hR2 hbX hbY hinX hs2
     go_wp2_with fail
     obtain ⟨wf, hwf⟩ : ∃ wf, (w8.setCell ⟨w.heap.size, 0, none⟩ (.int .i64 C)).setCell ⟨w.heap.size, 1, none⟩ (.slice a RV.length c) = wf := ⟨_, rfl⟩
     have s0 := t0.out
     have s1 := t1.out
     have s2 := t2.out
     have s3 := t3.out
     rw [hwf] at s0 s1 s2 s3 ⊢
     (try simp only [Exit.inBlock, Exit.then])
     refine bodyPost_ret (by simp [results, Tryz.results102, go_sem, s0, s1]; try rfl) rfl ?_
     exact ⟨⟨_, _, rfl, s3⟩, s2⟩
    ·have h100 := Hd (show decide (RV.length ≤ 100) = false from decide_eq_false h1)
     have h1I : decide ((RV.length : Int) ≤ 100) = false := decide_eq_false (by omega)
     clear h1 cP1
     go_wp2_with fail
     have hbX : IsC wr.drew w.heap.size 65 #[.int .i64 0, .slice none 0 0] := hbox.out
     have hbY := Hd (below_drewed hb0.out)
     have hinX := Hd hinV
     have hownX := hown
     refine wp_region_held_at (S := fun w1 => w1.cell? ⟨w2.heap.size, 0, none⟩ = some (.int .i64 C) ∧ w1.cell? ⟨w2.heap.size, 1, none⟩ = some (.slice a RV.length c)) 13 rfl (by kernel_rfl) (by go_keep) (fun hH => ?_)
     refine wpU 0 ?_ rfl ?_ ?_
     rotate_left
     ·intro u h; (try simp only [ls3]); go_simp; try with_reducible rfl
     try simp only [ls7, Act.put]
     refine wpU 1 ?_ rfl ?_ ?_
     rotate_left
     ·intro u h; (try simp only [ls3]); go_simp; try with_reducible rfl
     try simp only [ls7, Act.put]
     refine wpU 2 ?_ rfl ?_ ?_
     rotate_left
     ·intro u h; (try simp only [ls3]); go_simp; try with_reducible rfl
     try simp only [ls7, Act.put]
     refine wpU 3 ?_ rfl ?_ ?_
     rotate_left
     ·intro u h; (try simp only [ls3]); go_simp; try with_reducible rfl
     try simp only [ls7, Act.put]
     refine wpU 4 ?_ rfl ?_ ?_
     rotate_left
     ·intro u h; (try simp only [ls3]); go_simp; try with_reducible rfl
     try simp only [ls7, Act.put]
     refine wpU 5 ?_ rfl ?_ ?_
     rotate_left
     ·intro u h; (try simp only [ls3]); go_simp; try with_reducible rfl
     try simp only [ls7, Act.put]
     refine wpAnyH_take (i := 6) (v := undef) rfl (by decide +kernel) (by decide +kernel) (by decide +kernel) (fun _ _ _ h => h) (Or.inr ⟨by rfl, rfl⟩) (by assumption) ?_
     try simp only [ls7, Act.put]
     refine wpAnyH_take (i := 7) (v := undef) rfl (by decide +kernel) (by decide +kernel) (by decide +kernel) (fun _ _ _ h => h) (Or.inr ⟨by rfl, rfl⟩) (by assumption) ?_
     try simp only [ls7, Act.put]
     refine wpAnyH_take (i := 8) (v := undef) rfl (by decide +kernel) (by decide +kernel) (by decide +kernel) (fun _ _ _ h => h) (Or.inr ⟨by rfl, rfl⟩) (by assumption) ?_
     try simp only [ls7, Act.put]
     refine wpAnyH_take (i := 9) (v := undef) rfl (by decide +kernel) (by decide +kernel) (by decide +kernel) (fun _ _ _ h => h) (Or.inr ⟨by rfl, rfl⟩) (by assumption) ?_
     try simp only [ls7, Act.put]
     refine wpU 10 ?_ rfl ?_ ?_
     rotate_left
     ·intro u h; (try simp only [ls3]); go_simp; try with_reducible rfl
     try simp only [ls7, Act.put]
     refine wpAnyH_ready (rs := [11]) (by decide +kernel) (by simp) ?_
     refine AllReadyH.cons rfl (fun K hK => ?_) AllReadyH.nil
     (try simp only [ls3])
     go_simp
     refine hK.out _ _ (by exact ⟨cell_set_ne hne (cell_set_ne hne k0), cell_set_ne hne (cell_set_ne hne k1)⟩) (fun hH => ?_)
     clear hK K
     try simp only [ls7, Act.put]
     refine wpU 12 ?_ rfl ?_ ?_
     rotate_left
     ·intro u h; (try simp only [ls3]); go_simp; try with_reducible rfl
     try simp only [ls7, Act.put]
     refine wpAnyH_done (by decide +kernel) ?_ _
     have hs2 := (hbX.set 0 (.int .i64 C)).set 1 (.slice a RV.length c)
     have t0 : (((wr.setCell ⟨w.heap.size, 0, none⟩ (.int .i64 C)).setCell ⟨w.heap.size, 1, none⟩ (.slice a RV.length c)).drew).cell? ⟨w.heap.size, 0, none⟩ = some (.int .i64 C) := hs2.cell 0
     have t1 : (((wr.setCell ⟨w.heap.size, 0, none⟩ (.int .i64 C)).setCell ⟨w.heap.size, 1, none⟩ (.slice a RV.length c)).drew).cell? ⟨w.heap.size, 1, none⟩ = some (.slice a RV.length c) := hs2.cell 1
     have t2 : Below w.heap.size w (((wr.setCell ⟨w.heap.size, 0, none⟩ (.int .i64 C)).setCell ⟨w.heap.size, 1, none⟩ (.slice a RV.length c)).drew) := (hbY.out.setCell (p := ⟨w.heap.size, 0, none⟩) (Nat.le_refl _) (.int .i64 C)).setCell (p := ⟨w.heap.size, 1, none⟩) (Nat.le_refl _) (.slice a RV.length c)
     have t3 : OwnV (((wr.setCell ⟨w.heap.size, 0, none⟩ (.int .i64 C)).setCell ⟨w.heap.size, 1, none⟩ (.slice a RV.length c)).drew) w.heap.size a c RV := OwnV.mono (B := w3.heap.size) (ownsRow_setCell_below (a := ⟨w.heap.size, 1, none⟩) (ownsRow_setCell_below (a := ⟨w.heap.size, 0, none⟩) hownX.out hlw (.int .i64 C)) hlw (.slice a RV.length c)) hle
     replace t0 := Hd t0
     replace t1 := Hd t1
     replace t2 := Hd t2
     replace t3 := Hd t3
     have hr2 := hR2.out
     rw [h100.out, Bool.false_and] at hr2
     subst hr2
     clear hR2 hbX hbY hinX hs2
     go_wp2_with fail
     obtain ⟨wf, hwf⟩ : ∃ wf, ((wr.setCell ⟨w.heap.size, 0, none⟩ (.int .i64 C)).setCell ⟨w.heap.size, 1, none⟩ (.slice a RV.length c)).drew = wf := ⟨_, rfl⟩
     have s0 := t0.out
     have s1 := t1.out
     have s2 := t2.out
     have s3 := t3.out
     rw [hwf] at s0 s1 s2 s3 ⊢
     (try simp only [Exit.inBlock, Exit.then])
     refine bodyPost_ret (by simp [results, Tryz.results102, go_sem, s0, s1]; try rfl) rfl ?_
     exact ⟨⟨_, _, rfl, s3⟩, s2⟩
theorem own_apart {w : World} {B B' : Nat} {e e' : TypeId} {s s' : Nat} {v v' : Value} {n n' : Nat} {xs xs' : List Value} (h : w.ownsRow B e s v n xs) (h' : w.ownsRow B' e' s' v' n' xs') (hne : e ≠ e') : v.ownBlock = none ∨ v.ownBlock ≠ v'.ownBlock := by
 rcases h.2 with ⟨hv, _⟩ | ⟨g, cap, cur, hv, _, hg, _⟩
 ·left; rw [hv]; rfl
 ·right
  rcases h'.2 with ⟨hv', _⟩ | ⟨g', cap', cur', hv', _, hg', _⟩
  ·rw [hv, hv']; simp [Value.ownBlock]
  ·rw [hv, hv']
   intro e
   simp [Value.ownBlock] at e
   subst e
   rw [hg] at hg'
   cases hg'
   exact hne rfl
namespace Tl
/-- parts with the places of their numbers -/
def qvs (q : List (PartD × Option Addr × Nat)) : List Value := q.flatMap fun x => [.int .i64 x.1.C, .slice x.2.1 x.1.V.length x.2.2]
theorem qvs_append (l m : List (PartD × Option Addr × Nat)) : qvs (l ++ m) = qvs l ++ qvs m := by unfold qvs; rw [List.flatMap_append]
theorem qvs_get : ∀ (l : List (PartD × Option Addr × Nat)) (j : Nat) (hj : j < l.length), (qvs l)[j * 2]? = some (.int .i64 l[j].1.C) ∧ (qvs l)[j * 2 + 1]? = some (.slice l[j].2.1 l[j].1.V.length l[j].2.2)
 | x :: l, 0, _ => ⟨rfl, rfl⟩
 | x :: l, j + 1, hj => by
   obtain ⟨h0, h1⟩ := qvs_get l j (by simpa using hj)
   have e : qvs (x :: l) = .int .i64 x.1.C :: .slice x.2.1 x.1.V.length x.2.2 :: qvs l := rfl
   rw [e, show (j + 1) * 2 = j * 2 + 1 + 1 by omega, show j * 2 + 1 + 1 + 1 = (j * 2 + 1) + 1 + 1 by omega]
   simp only [List.getElem?_cons_succ, List.getElem_cons_succ]
   exact ⟨h0, h1⟩
end Tl
/-- parts of the call's own -/
def OwnQ (w : World) (B : Nat) (a : Option Addr) (c : Nat) (l : List PartD) : Prop := ∃ q : List (PartD × Option Addr × Nat), q.map Prod.fst = l ∧ w.ownsRow B 65 2 (.slice a l.length c) l.length (qvs q) ∧ ∀ x ∈ q, OwnV w B x.2.1 x.2.2 x.1.V
theorem OwnQ.nil (w : World) (B : Nat) : OwnQ w B none 0 [] := ⟨[], rfl, World.ownsRow_nil w B 65 2, by simp⟩
theorem OwnQ.below {w w' : World} {B : Nat} {a : Option Addr} {c : Nat} {l : List PartD} (h : OwnQ w B a c l) (hb : Below w.heap.size w w') : OwnQ w' B a c l := by
 obtain ⟨q, h1, h2, h3⟩ := h
 exact ⟨q, h1, World.ownsRow.kept (row := none) h2 ⟨hb.os, hb.tape, hb.output, hb.size, fun k hk _ => hb.block k hk⟩ (by cases (Value.slice a l.length c).ownBlock <;> simp), fun x hx => (h3 x hx).below hb⟩
theorem OwnQ.in {w : World} {B : Nat} {a : Option Addr} {c : Nat} {l : List PartD} (h : OwnQ w B a c l) : InS w (.slice a l.length c) l := by
 obtain ⟨q, h1, h2, h3⟩ := h
 have hql : q.length = l.length := by rw [← h1, List.length_map]
 rcases Nat.eq_zero_or_pos l.length with h0 | h0
 ·exact ⟨_, _, rfl, .inl (List.eq_nil_of_length_eq_zero h0)⟩
 ·rcases h2.2 with ⟨hv, hn⟩ | ⟨g, cap, cur, hv, hb, hg, hc⟩
  ·rw [hn] at h0; exact absurd h0 (by decide)
  ·obtain ⟨rfl, rfl⟩ : a = some ⟨g, 0, none⟩ ∧ c = cap := by cases hv; exact ⟨rfl, rfl⟩
   refine ⟨_, _, rfl, .inr ⟨g, 0, rfl, lt_of_block hg, fun j hj => ?_⟩⟩
   have key : ∀ i u, (qvs q)[i]? = some u → w.cell? ⟨g, i, none⟩ = some u := fun i u hu => by
    have := World.ownsRow.cells h2 (g := g) rfl i u hu
    rw [addr_add, Nat.zero_add] at this
    exact this
   rw [Nat.zero_add]
   have hjq : j < q.length := by omega
   obtain ⟨k0, k1⟩ := qvs_get q j hjq
   have he : l[j] = q[j].1 := by
    subst h1
    exact List.getElem_map _
   rw [he]
   exact ⟨key _ _ k0, _, key _ _ k1, OwnV.in (h3 _ (List.getElem_mem hjq))⟩
theorem OwnS.addr {w : World} {B c : Nat} {a : Option Addr} {l : List (List UInt8)} (h : OwnS w B a c l) (hl : l ≠ []) : ∃ g, a = some ⟨g, 0, none⟩ ∧ l.length ≤ c := by
 rcases h.2 with ⟨hv, hn⟩ | ⟨g, cap, cur, hv, hb, hg, hc⟩
 ·exact absurd (List.eq_nil_of_length_eq_zero hn) hl
 ·obtain ⟨rfl, rfl⟩ : a = some ⟨g, 0, none⟩ ∧ c = cap := by cases hv; exact ⟨rfl, rfl⟩
  exact ⟨g, rfl, hc.1⟩
theorem OwnS.cell {w : World} {B c g : Nat} {l : List (List UInt8)} (h : OwnS w B (some ⟨g, 0, none⟩) c l) (j : Nat) (hj : j < l.length) : w.cell? ⟨g, j, none⟩ = some (.string (text l[j])) := by
 obtain ⟨g', o', e, _, hc⟩ := (OwnS.in h).at j hj
 cases e
 rw [Nat.zero_add] at hc
 exact hc
theorem src_str2 (w : World) (x y : ByteArray) : Src Tryz.prog 1 76 (.slice (some ⟨w.heap.size, 0, none⟩) 2 2) 2 [.string x, .string y] (w.alloc (.cells #[.string x, .string y] 9)) :=
 Src.ofSlice _ Tryz.underlying76 ⟨w.heap.size, 0, none⟩ 2 2 _ rfl (by
  intro j u hj
  have hc := (IsC.new w 9 #[.string x, .string y]).cell j
  rw [addr_add, Nat.zero_add, hc]
  simpa using hj) (by intro u hu; simp at hu; rcases hu with rfl | rfl <;> rfl)
theorem src_pd (w : World) (C : Int) (a : Option Addr) (n c : Nat) : Src Tryz.prog 2 24 (.slice (some ⟨w.heap.size, 0, none⟩) 1 1) 1 [.int .i64 C, .slice a n c] (w.alloc (.cells #[.int .i64 C, .slice a n c] 65)) :=
 Src.ofSlice _ Tryz.underlying24 ⟨w.heap.size, 0, none⟩ 1 1 _ rfl (by
  intro j u hj
  have hc := (IsC.new w 65 #[.int .i64 C, .slice a n c]).cell j
  rw [addr_add, Nat.zero_add, hc]
  simpa using hj) (by intro u hu; simp at hu; rcases hu with rfl | rfl <;> rfl)
namespace Tl
theorem cutPart_ok (s : List UInt8) : (cutPartF s).1.Ok := by
 obtain ⟨h0, h1⟩ := atoi_bd (Lib.cut s [61]).1
 refine ⟨h0, h1, fun x hx => ?_⟩
 unfold cutPartF at hx
 dsimp only at hx
 split at hx
 ·cases hx
 ·obtain ⟨y, _, rfl⟩ := List.mem_map.1 hx
  exact parseF_ok y
theorem cutPart_len (s : List UInt8) : (cutPartF s).1.V.length ≤ s.length + 1 := by
 unfold cutPartF
 dsimp only
 split
 ·simp
 ·rw [List.length_map]
  have := segsQ_len 44 (Lib.cut s [61]).2.1
  have := (cut_le s [61]).2
  omega
theorem entF_u64 (a b : Int) : u64 (entF a b) := by
 unfold entF u64
 split <;> omega
end Tl
theorem cut_c (s : ByteArray) (hs : s.size ≤ 100000) (w : World) (hg : GlobT w) :
 Calls Tryz.prog 72 #[.string s] w fun x w' => (∃ a c, x = .returned (.tuple #[.int .u64 (cutF (byts s)).1, .slice a (cutF (byts s)).2.1.length c, .int .i64 (cutF (byts s)).2.2]) ∧ OwnQ w' w.heap.size a c (cutF (byts s)).2.1) ∧ Below w.heap.size w w' := by
 obtain ⟨i0, hi, hz0, hz1, hz2⟩ := info_parts infoStr
 obtain ⟨j0, hj, hy0, hy1, hy2⟩ := info_parts infoPart
 have cS := splitF_c 32 s (by omega) w hg
 have hne := segsQ_ne 32 (byts s)
 have hml := segsQ_mem 32 (byts s)
 have hWl := segsQ_len 32 (byts s)
 rw [byts_length] at hml hWl
 obtain ⟨R, hR⟩ : ∃ R, cutF (byts s) = R := ⟨_, rfl⟩
 rw [hR]
 unfold cutF at hR
 generalize segsQ 32 (byts s) = Ws at *
 dsimp only at hR
 have cA1 := fun w' (h : GlobT w') => atoiT_c (text (Ws.getD 1 [])) (by rw [text_size, List.getD_eq_getElem?_getD]; cases hh : Ws[1]? with | none => simp | some x => have := hml x (List.mem_of_getElem? hh); simp; omega) w' h
 have cA2 := fun w' (h : GlobT w') => atoiT_c (text (Ws.getD 2 [])) (by rw [text_size, List.getD_eq_getElem?_getD]; cases hh : Ws[2]? with | none => simp | some x => have := hml x (List.mem_of_getElem? hh); simp; omega) w' h
 rw [byts_text] at cA1 cA2
 have hW1 : (Ws ++ [[], []])[1]? = some (Ws.getD 1 []) := by
  rw [List.getD_eq_getElem?_getD]
  rcases Nat.lt_or_ge 1 Ws.length with h | h
  ·rw [List.getElem?_append_left h, List.getElem?_eq_getElem h]; rfl
  ·have : Ws.length = 1 := by have := List.length_pos_iff.2 hne; omega
   rw [List.getElem?_eq_none (show Ws.length ≤ 1 by omega), List.getElem?_append_right (by omega), this]; rfl
 have hW2 : (Ws ++ [[], []])[2]? = some (Ws.getD 2 []) := by
  rw [List.getD_eq_getElem?_getD]
  rcases Nat.lt_or_ge 2 Ws.length with h | h
  ·rw [List.getElem?_append_left h, List.getElem?_eq_getElem h]; rfl
  ·have h0 := List.length_pos_iff.2 hne
   rw [List.getElem?_append_right (by omega), List.getElem?_eq_none h]
   have : 2 - Ws.length = 0 ∨ 2 - Ws.length = 1 := by omega
   rcases this with h | h <;> rw [h] <;> rfl
 have hI1 := atoi_bd (Ws.getD 1 [])
 have hI2 := atoi_bd (Ws.getD 2 [])
 generalize Ws.getD 1 [] = G1 at *
 generalize Ws.getD 2 [] = G2 at *
 have cO := ent_c (atoiV G1) (atoiV G2) hI1 hI2
 have hEu := entF_u64 (atoiV G1) (atoiV G2)
 generalize atoiV G1 = I1 at *
 generalize atoiV G2 = I2 at *
 generalize entF I1 I2 = E at *
 obtain ⟨n, hn⟩ : ∃ n, Ws.length = n := ⟨_, rfl⟩
 have hn0 : 0 < n := by have := List.length_pos_iff.2 hne; omega
 have hWW : (Ws ++ [[], []]).length = n + 2 := by rw [List.length_append, hn]; rfl
 have hsvl : (sv Ws).length = n * 1 := by rw [sv_length, hn, Nat.mul_one]
 rw [hn] at cS hWl
 replace hn := Hd hn
 replace cS := Hd cS
 replace cA1 := Hd cA1
 replace cA2 := Hd cA2
 replace cO := Hd cO
 replace hR := Hd hR
 replace hml := Hd hml
 replace hW1 := Hd hW1
 replace hW2 := Hd hW2
 replace hWW := Hd hWW
 replace hsvl := Hd hsvl
 clear hne
 go_enter Tryz.func72, Tryz.ntmps72
 go_wp2_with fail
 refine cS.out.mono ?_
 rintro x w1 ⟨rfl, hown, hb1⟩
 have hb1s := hb1.size
 have hsrc := src_str2 w1 ⟨#[]⟩ ⟨#[]⟩
 have hIn1 := inT_cells ((OwnS.in (by rw [← hn.out] at hown; exact hown)).below (below1 w1 (.cells #[.string ⟨#[]⟩, .string ⟨#[]⟩] 9)))
 go_wp2_with (at_builtin; refine wpList_append_full_src rfl (.tmp 18) (.tmp 19) 76 76 rfl 9 i0 (.string ⟨#[]⟩) 1 16 Tryz.underlying76 hi hz0 hz1 hz2 rfl w.heap.size 0 n (sv Ws) hsvl.out hIn1 rfl rfl hsrc ?_ ?_ ?_ w.heap.size ?_ ?_)
 ·decide
 ·unfold maxLen; omega
 ·omega
 ·rw [size_alloc]; omega
 intro b' c' w2 hown2 hb2
 have hg2 := (hg.on hb1).on ((below1 w1 (.cells #[.string ⟨#[]⟩, .string ⟨#[]⟩] 9)).trans (hb2.mono (by (try rw [size_alloc]); omega)))
 have hO : OwnS w2 w.heap.size b' c' (Ws ++ [[], []]) := by
  unfold OwnS
  rw [hWW.out, sv_append]
  exact hown2
 have hb3 := (hb1.trans ((below1 w1 (.cells #[.string ⟨#[]⟩, .string ⟨#[]⟩] 9)).mono hb1s)).trans (hb2.mono (by (try rw [size_alloc]); omega))
 obtain ⟨g, rfl, hcap⟩ := hO.addr (by simp)
 rw [hWW.out] at hcap
 have r1 : w2.cell? ⟨g, 1, none⟩ = some (.string (text G1)) := by
  have h := OwnS.cell hO 1 (by rw [hWW.out]; omega)
  have h2 := hW1.out
  rw [List.getElem?_eq_getElem (by rw [hWW.out]; omega)] at h2
  rw [Option.some.inj h2] at h
  exact h
 have r2 : w2.cell? ⟨g, 2, none⟩ = some (.string (text G2)) := by
  have h := OwnS.cell hO 2 (by rw [hWW.out]; omega)
  have h2 := hW2.out
  rw [List.getElem?_eq_getElem (by rw [hWW.out]; omega)] at h2
  rw [Option.some.inj h2] at h
  exact h
 have q1 : (1 : Int) < (n : Int) + 2 := by omega
 have q2 : (2 : Int) < (n : Int) + 2 := by omega
 have cA1' := Hd (cA1.out w2 hg2)
 clear hown hb1 hsrc hIn1 hown2 hb2 hb1s cS cA1 hW1 hW2 hsvl
 have hb3s := hb3.size
 replace hO := Hd hO
 replace hb3 := Hd hb3
 go_wp2_with fail
 refine cA1'.out.mono ?_
 rintro x w3 ⟨ev, rfl, hb4⟩
 have hg3 := hg2.on hb4
 replace r2 := cell_up r2 hb4
 replace hO := Hd (hO.out.below hb4)
 replace hb3 := Hd (below_up hb3.out hb3s hb4)
 have cA2' := Hd (cA2.out w3 hg3)
 clear hb4 hb3s r1 cA1' cA2 hg2
 have hb3s := hb3.out.size
 go_wp2_with fail
 refine cA2'.out.mono ?_
 rintro x w4 ⟨ev2, rfl, hb4⟩
 have hg4 := hg3.on hb4
 replace hO := Hd (hO.out.below hb4)
 replace hb3 := Hd (below_up hb3.out hb3s hb4)
 clear hb4 hb3s r2 cA2' hg3
 have hb3s := hb3.out.size
 go_wp2_with fail
 refine (cO.out.on _).mono ?_
 rintro x w' ⟨rfl, rfl⟩
 obtain ⟨ge, hge⟩ : ∃ b, (E != 0) = b := ⟨_, rfl⟩
 obtain ⟨lo, hlo⟩ : ∃ lo, min 3 n = lo := ⟨_, rfl⟩
 have hmin : min (3 : Int) (n : Int) = (lo : Int) := by omega
 have q3 : lo ≤ n := by omega
 have q4 : (lo : Int) ≤ (n : Int) := by omega
 have q5 : (n : Int) ≤ (c' : Int) := by omega
 have q6 : (0 : Int) ≤ (lo : Int) := by omega
 have q7 : c' - lo ≠ 0 := by omega
 obtain ⟨m, hm⟩ : ∃ m, n - lo = m := ⟨_, rfl⟩
 have hX : (Ws.drop 3).length = m := by rw [List.length_drop, hn.out]; omega
 have hXg : ∀ k (hk : k < (Ws.drop 3).length), (Ws ++ [[], []])[lo + k]? = some (Ws.drop 3)[k] := by
  intro k hk
  rw [List.length_drop, hn.out] at hk
  have hl3 : lo = 3 := by omega
  subst hl3
  rw [List.getElem?_append_left (by rw [hn.out]; omega), List.getElem?_eq_getElem (by rw [hn.out]; omega), List.getElem_drop]
 have hXl : ∀ x ∈ Ws.drop 3, x.length ≤ s.size := fun x hx => hml.out x (List.mem_of_mem_drop hx)
 generalize Ws.drop 3 = X at *
 have hm1 : m ≤ 99999 := by omega
 replace hlo := Hd hlo
 replace hX := Hd hX
 replace hXg := Hd hXg
 replace hXl := Hd hXl
 clear cO hml
 go_wp2_with fail
 go_loopw [11, 12, 50] (fun b gd i wr => ∃ k : Nat, k ≤ m ∧ i = .int .i64 k ∧ (∃ a c, b = .slice a (((X.take k).map cutPartF).map Prod.fst).length c ∧ OwnQ wr w.heap.size a c (((X.take k).map cutPartF).map Prod.fst)) ∧ gd = .bool (ge && ((X.take k).map cutPartF).all Prod.snd) ∧ OwnS wr w.heap.size (some ⟨g, 0, none⟩) c' (Ws ++ [[], []]) ∧ Below w.heap.size w wr) (fun _ _ i _ => m - (intOf i).toNat)
 case atStart => exact ⟨0, Nat.zero_le _, rfl, ⟨none, 0, rfl, OwnQ.nil _ _⟩, by simp, hO.out, hb3.out⟩
 case round =>
  clear hO hb3 hg4
  obtain ⟨k, hk, rfl, ⟨a, c, rfl, hown⟩, rfl, hO, hb⟩ := hrel
  have hbz := hb.size
  have hgr := hg.on hb
  by_cases hlt : k < m
  ·have hltI : (k : Int) < (m : Int) := by omega
   have hkX : k < X.length := by rw [hX.out]; exact hlt
   have hcell : wr.cell? ⟨g, lo + k, none⟩ = some (.string (text X[k])) := by
    have h1 := hXg.out k hkX
    have h := OwnS.cell hO (lo + k) (by rw [hWW.out]; omega)
    rw [List.getElem?_eq_getElem (by rw [hWW.out]; omega)] at h1
    rw [Option.some.inj h1] at h
    exact h
   have hxl := hXl.out X[k] (List.getElem_mem hkX)
   have hst : X.take (k + 1) = X.take k ++ [X[k]] := List.take_succ_eq_append_getElem hkX
   have hlen : (((X.take k).map cutPartF).map Prod.fst).length = k := by rw [List.length_map, List.length_map, List.length_take]; omega
   generalize X[k] = x at *
   have cP := cutPart_c (text x) (by rw [text_size]; omega) wr hgr
   rw [byts_text] at cP
   unfold partv at cP
   have hst1 : ((X.take (k + 1)).map cutPartF).map Prod.fst = ((X.take k).map cutPartF).map Prod.fst ++ [(cutPartF x).1] := by rw [hst, List.map_append, List.map_append]; rfl
   have hst2 : ((X.take (k + 1)).map cutPartF).all Prod.snd = (((X.take k).map cutPartF).all Prod.snd && (cutPartF x).2) := by rw [hst, List.map_append, List.all_append]; simp
   have hVl := cutPart_len x
   generalize hL : ((X.take k).map cutPartF).map Prod.fst = L at *
   generalize hA : ((X.take k).map cutPartF).all Prod.snd = al at *
   generalize hL1 : ((X.take (k + 1)).map cutPartF).map Prod.fst = L1 at *
   generalize hA1 : ((X.take (k + 1)).map cutPartF).all Prod.snd = al1 at *
   obtain ⟨⟨⟨PC, PV⟩, is⟩, hp⟩ : ∃ p, cutPartF x = p := ⟨_, rfl⟩
   rw [hp] at cP hst1 hst2 hVl
   dsimp only at cP hst1 hst2 hVl
   clear hL hA hst hp
   obtain ⟨q, hq, hrow, hqv⟩ := hown
   rw [hlen] at hrow
   have hql : L.length = k := hlen
   rw [hlen]
   replace cP := Hd cP
   replace hst1 := Hd hst1
   replace hst2 := Hd hst2
   replace hL1 := Hd hL1
   replace hA1 := Hd hA1
   replace hq := Hd hq
   replace hrow := Hd hrow
   replace hqv := Hd hqv
   replace hO := Hd hO
   replace hb := Hd hb
   replace hlen := Hd hlen
   replace hql := Hd hql
   obtain ⟨gk, hgk⟩ : ∃ gk, (ge && al) = gk := ⟨_, rfl⟩
   rw [hgk]
   replace hgk := Hd hgk
   cases gk with
   | false =>
     go_wp2_with fail
     refine cP.out.mono ?_
     rintro x w5 ⟨⟨pa, pc, rfl, hv⟩, hb5⟩
     have hob := below1 w5 (.cells #[.int .i64 PC, .slice pa PV.length pc] 65)
     have hobb := hob.trans ((below1 (w5.alloc (.cells #[.int .i64 PC, .slice pa PV.length pc] 65)) (.cells #[.int .i64 PC, .slice pa PV.length pc] 65)).mono (by rw [size_alloc]; omega))
     have hbox := IsC.new w5 65 #[.int .i64 PC, .slice pa PV.length pc]
     have u0 := hbox.cell 0
     have u1 := hbox.cell 1
     have hv2 := Hd ((hv.mono hbz).below hobb)
     have hrow5 : ((w5.alloc (.cells #[.int .i64 PC, .slice pa PV.length pc] 65)).alloc (.cells #[.int .i64 PC, .slice pa PV.length pc] 65)).ownsRow w.heap.size 65 2 (.slice a k c) k (qvs q) :=
      World.ownsRow.alloc (World.ownsRow.alloc (World.ownsRow.kept (row := none) hrow.out ⟨hb5.os, hb5.tape, hb5.output, hb5.size, fun k hk _ => hb5.block k hk⟩ (by cases (Value.slice a k c).ownBlock <;> simp)) _) _
     replace hqv := Hd (fun y hy => ((hqv.out y hy).below hb5).below hobb)
     replace hO := Hd ((hO.out.below hb5).below hobb)
     have hb6 := below_up hb.out hbz hb5
     have hb7 := (hb6.alloc hb6.size (.cells #[.int .i64 PC, .slice pa PV.length pc] 65))
     have hb8 := Hd (hb7.alloc hb7.size (.cells #[.int .i64 PC, .slice pa PV.length pc] 65))
     have hw5 := hb6.size
     have hsrc := src_pd (w5.alloc (.cells #[.int .i64 PC, .slice pa PV.length pc] 65)) PC pa PV.length pc
     rw [size_alloc] at hsrc
     clear hb5 hob hobb hbox hv hb6 hb7 hrow cP hb hcell
     replace hrow5 := Hd hrow5
     go_wp2_with (at_builtin; refine wpList_append_own_src _ rfl (.tmp 63) (.tmp 65) 24 24 rfl w.heap.size 65 j0 (.agg #[.int .i64 0, .slice none 0 0]) 2 32 Tryz.underlying24 hj hy0 hy1 hy2 rfl rfl hrow5.out rfl hsrc ?_ ?_ ?_ ?_)
     ·unfold maxLen; omega
     ·omega
     ·(try rw [size_alloc, size_alloc]); omega
     intro b'' c'' w6 hown6 hg6
     have hlt6 := World.ownsRow.lt hrow5.out
     have hfin := Hd (Below.grown hb8.out hg6 (by (try rw [size_alloc, size_alloc]); omega) (fun q hq => (hlt6 q hq).1))
     have hO6 := Hd (show OwnS w6 w.heap.size (some ⟨g, 0, none⟩) c' (Ws ++ [[], []]) from World.ownsRow.kept hO.out hg6 (own_apart hO.out hrow5.out (by decide)))
     have hQ6 : OwnQ w6 w.heap.size b'' c'' (L ++ [⟨PC, PV⟩]) := by
      refine ⟨q ++ [(⟨PC, PV⟩, pa, pc)], by rw [List.map_append, hq.out]; rfl, ?_, fun y hy => ?_⟩
      ·rw [List.length_append, hql.out, qvs_append]
       exact hown6
      ·rcases List.mem_append.1 hy with hy | hy
       ·exact World.ownsRow.kept (hqv.out y hy) hg6 (own_apart (hqv.out y hy) hrow5.out (by decide))
       ·rw [List.mem_singleton.1 hy]
        exact World.ownsRow.kept hv2.out hg6 (own_apart hv2.out hrow5.out (by decide))
     replace hQ6 := Hd hQ6
     clear hown6 hg6 hlt6 hsrc hrow5 hb8 hO hqv hv2 u0 u1
     go_wp2_with fail
     go_roundw
     case rel => exact ⟨k + 1, by omega, by go_num, ⟨b'', c'', by rw [hL1.out, hst1.out, List.length_append, hql.out]; rfl, by rw [hL1.out, hst1.out]; exact hQ6.out⟩, by rw [hA1.out, hst2.out, ← Bool.and_assoc, hgk.out]; first | rfl | simp, hO6.out, hfin.out⟩
     case measure => simp [intOf]; omega
   | true =>
     go_wp2_with fail
     refine cP.out.mono ?_
     rintro x w5 ⟨⟨pa, pc, rfl, hv⟩, hb5⟩
     have hob := below1 w5 (.cells #[.int .i64 PC, .slice pa PV.length pc] 65)
     have hobb := hob.trans ((below1 (w5.alloc (.cells #[.int .i64 PC, .slice pa PV.length pc] 65)) (.cells #[.int .i64 PC, .slice pa PV.length pc] 65)).mono (by rw [size_alloc]; omega))
     have hbox := IsC.new w5 65 #[.int .i64 PC, .slice pa PV.length pc]
     have u0 := hbox.cell 0
     have u1 := hbox.cell 1
     have hv2 := Hd ((hv.mono hbz).below hobb)
     have hrow5 : ((w5.alloc (.cells #[.int .i64 PC, .slice pa PV.length pc] 65)).alloc (.cells #[.int .i64 PC, .slice pa PV.length pc] 65)).ownsRow w.heap.size 65 2 (.slice a k c) k (qvs q) :=
      World.ownsRow.alloc (World.ownsRow.alloc (World.ownsRow.kept (row := none) hrow.out ⟨hb5.os, hb5.tape, hb5.output, hb5.size, fun k hk _ => hb5.block k hk⟩ (by cases (Value.slice a k c).ownBlock <;> simp)) _) _
     replace hqv := Hd (fun y hy => ((hqv.out y hy).below hb5).below hobb)
     replace hO := Hd ((hO.out.below hb5).below hobb)
     have hb6 := below_up hb.out hbz hb5
     have hb7 := (hb6.alloc hb6.size (.cells #[.int .i64 PC, .slice pa PV.length pc] 65))
     have hb8 := Hd (hb7.alloc hb7.size (.cells #[.int .i64 PC, .slice pa PV.length pc] 65))
     have hw5 := hb6.size
     have hsrc := src_pd (w5.alloc (.cells #[.int .i64 PC, .slice pa PV.length pc] 65)) PC pa PV.length pc
     rw [size_alloc] at hsrc
     clear hb5 hob hobb hbox hv hb6 hb7 hrow cP hb hcell
     replace hrow5 := Hd hrow5
     go_wp2_with (at_builtin; refine wpList_append_own_src _ rfl (.tmp 63) (.tmp 65) 24 24 rfl w.heap.size 65 j0 (.agg #[.int .i64 0, .slice none 0 0]) 2 32 Tryz.underlying24 hj hy0 hy1 hy2 rfl rfl hrow5.out rfl hsrc ?_ ?_ ?_ ?_)
     ·unfold maxLen; omega
     ·omega
     ·(try rw [size_alloc, size_alloc]); omega
     intro b'' c'' w6 hown6 hg6
     have hlt6 := World.ownsRow.lt hrow5.out
     have hfin := Hd (Below.grown hb8.out hg6 (by (try rw [size_alloc, size_alloc]); omega) (fun q hq => (hlt6 q hq).1))
     have hO6 := Hd (show OwnS w6 w.heap.size (some ⟨g, 0, none⟩) c' (Ws ++ [[], []]) from World.ownsRow.kept hO.out hg6 (own_apart hO.out hrow5.out (by decide)))
     have hQ6 : OwnQ w6 w.heap.size b'' c'' (L ++ [⟨PC, PV⟩]) := by
      refine ⟨q ++ [(⟨PC, PV⟩, pa, pc)], by rw [List.map_append, hq.out]; rfl, ?_, fun y hy => ?_⟩
      ·rw [List.length_append, hql.out, qvs_append]
       exact hown6
      ·rcases List.mem_append.1 hy with hy | hy
       ·exact World.ownsRow.kept (hqv.out y hy) hg6 (own_apart (hqv.out y hy) hrow5.out (by decide))
       ·rw [List.mem_singleton.1 hy]
        exact World.ownsRow.kept hv2.out hg6 (own_apart hv2.out hrow5.out (by decide))
     replace hQ6 := Hd hQ6
     clear hown6 hg6 hlt6 hsrc hrow5 hb8 hO hqv hv2 u0 u1
     go_wp2_with fail
     go_roundw
     case rel => exact ⟨k + 1, by omega, by go_num, ⟨b'', c'', by rw [hL1.out, hst1.out, List.length_append, hql.out]; rfl, by rw [hL1.out, hst1.out]; exact hQ6.out⟩, by rw [hA1.out, hst2.out, ← Bool.and_assoc, hgk.out]; first | rfl | simp, hO6.out, hfin.out⟩
     case measure => simp [intOf]; omega
  ·obtain rfl : k = m := by omega
   have hlen : (((X.take k).map cutPartF).map Prod.fst).length = k := by rw [List.length_map, List.length_map, List.length_take, hX.out]; omega
   rw [show X.take k = X from List.take_of_length_le (by rw [hX.out]; exact Nat.le_refl _)] at hown hlen ⊢
   have hR' := hR.out
   have hgd : decide (E ≠ 0) = ge := by
    rw [← hge]
    by_cases h : E = 0
    ·subst h; rfl
    ·rw [decide_eq_true h]; symm; exact bne_iff_ne.2 h
   rw [hgd] at hR'
   have hSm : Tl.Small ((X.map cutPartF).map Prod.fst) := by
    refine ⟨by rw [hlen]; omega, fun p hp => ?_⟩
    rw [List.map_map] at hp
    obtain ⟨x, hx, rfl⟩ := List.mem_map.1 hp
    refine ⟨cutPart_ok x, ?_⟩
    have h1 := cutPart_len x
    have h2 := hXl.out x hx
    show (cutPartF x).1.V.length ≤ _
    omega
   have hwl := whoT_len E hEu _ hSm
   have hinS := OwnQ.in hown
   have cRi := rising_c _ hSm (by rw [hlen]; omega) _ wr hinS
   have cW := fun w' (h : InS w' (.slice a ((X.map cutPartF).map Prod.fst).length c) ((X.map cutPartF).map Prod.fst)) (hg : GlobT w') => who_c E hEu _ hSm _ w' h hg
   have hcmp := bytes_eq (text (whoT E ((X.map cutPartF).map Prod.fst))) s
   rw [byts_text] at hcmp
   have hwsz := text_size (whoT E ((X.map cutPartF).map Prod.fst))
   clear hSm hXl hXg hgd
   generalize (X.map cutPartF).map Prod.fst = L at *
   generalize (X.map cutPartF).all Prod.snd = al at *
   generalize hT : whoT E L = T at *
   rw [hlen] at cRi cW hinS ⊢
   obtain ⟨gk, hgk⟩ : ∃ gk, (ge && al) = gk := ⟨_, rfl⟩
   rw [hgk] at hR' ⊢
   replace hb := Hd hb
   replace cRi := Hd cRi
   replace cW := Hd cW
   replace hlen := Hd hlen
   clear hgk hR hO
   cases gk with
   | false =>
     rw [if_neg (by rintro ⟨h, _⟩; cases h)] at hR'
     subst hR'
     go_wp2_with fail
     (try simp only [Exit.inBlock, Exit.then])
     refine bodyPost_ret (by simp [results, Tryz.results72, go_sem]; try rfl) rfl ?_
     exact ⟨⟨none, 0, rfl, OwnQ.nil _ _⟩, hb.out⟩
   | true =>
     generalize risF L = rs at *
     cases rs with
     | false =>
       rw [if_neg (by rintro ⟨_, h, _⟩; cases h)] at hR'
       subst hR'
       go_wp2_with fail
       refine cRi.out.mono ?_
       rintro x w5 ⟨rfl, hb5⟩
       have hfin := Hd (below_up hb.out hbz hb5)
       clear hb5 cRi
       go_wp2_with fail
       (try simp only [Exit.inBlock, Exit.then])
       refine bodyPost_ret (by simp [results, Tryz.results72, go_sem]; try rfl) rfl ?_
       exact ⟨⟨none, 0, rfl, OwnQ.nil _ _⟩, hfin.out⟩
     | true =>
       by_cases hE : T = byts s
       ·rw [if_pos ⟨rfl, rfl, hE⟩] at hR'
        rw [decide_eq_true hE] at hcmp
        subst hR'
        clear hE
        go_wp2_with fail
        refine cRi.out.mono ?_
        rintro x w5 ⟨rfl, hb5⟩
        have hin5 := hinS.below hb5
        have cW5 := Hd (cW.out w5 hin5 (hgr.on hb5))
        have hb6 := below_up hb.out hbz hb5
        have hb6s := hb6.size
        replace hb6 := Hd hb6
        replace hown := Hd (hown.below hb5)
        clear hb5 cRi cW hin5
        go_wp2_with fail
        refine cW5.out.mono ?_
        rintro x w6 ⟨rfl, hb7⟩
        have hfin := Hd (below_up hb6.out hb6s hb7)
        have hin7 := Hd (hown.out.below hb7)
        clear hb7 cW5
        go_wp2_with fail
        (try simp only [Exit.inBlock, Exit.then])
        refine bodyPost_ret (by simp [results, Tryz.results72, go_sem]; try rfl) rfl ?_
        exact ⟨⟨a, c, by show _ = Ending.returned (.tuple #[.int .u64 E, .slice a L.length c, .int .i64 0]); rw [hlen.out], by show OwnQ w6 w.heap.size a c L; exact hin7.out⟩, hfin.out⟩
       ·rw [if_neg (by rintro ⟨_, _, h⟩; exact hE h)] at hR'
        rw [decide_eq_false hE] at hcmp
        subst hR'
        clear hE
        go_wp2_with fail
        refine cRi.out.mono ?_
        rintro x w5 ⟨rfl, hb5⟩
        have hin5 := hinS.below hb5
        have cW5 := Hd (cW.out w5 hin5 (hgr.on hb5))
        have hb6 := below_up hb.out hbz hb5
        have hb6s := hb6.size
        replace hb6 := Hd hb6
        clear hb5 cRi cW hin5
        go_wp2_with fail
        refine cW5.out.mono ?_
        rintro x w6 ⟨rfl, hb7⟩
        have hfin := Hd (below_up hb6.out hb6s hb7)
        clear hb7 cW5
        go_wp2_with fail
        (try simp only [Exit.inBlock, Exit.then])
        refine bodyPost_ret (by simp [results, Tryz.results72, go_sem]; try rfl) rfl ?_
        exact ⟨⟨none, 0, rfl, OwnQ.nil _ _⟩, hfin.out⟩
theorem idxS_bd (x : ByteArray) : ∀ (l : List ByteArray) (i : Nat), Lib.idxFromS l x i = -1 ∨ ((i : Int) ≤ Lib.idxFromS l x i ∧ Lib.idxFromS l x i < (i : Int) + l.length)
 | [], i => .inl rfl
 | y :: l, i => by
   unfold Lib.idxFromS
   split
   ·right; simp; omega
   ·rcases idxS_bd x l (i + 1) with h | ⟨h1, h2⟩
    ·exact .inl h
    ·right; simp at h1 h2 ⊢; omega
theorem idx_bd (x : Int) : ∀ (l : List Int) (i : Nat), Lib.idxFrom l x i = -1 ∨ ((i : Int) ≤ Lib.idxFrom l x i ∧ Lib.idxFrom l x i < (i : Int) + l.length)
 | [], i => .inl rfl
 | y :: l, i => by
   unfold Lib.idxFrom
   split
   ·right; simp; omega
   ·rcases idx_bd x l (i + 1) with h | ⟨h1, h2⟩
    ·exact .inl h
    ·right; simp at h1 h2 ⊢; omega
theorem kindOf_bd (w : List UInt8) : 0 ≤ kindOf w ∧ kindOf w ≤ 11 := by
 unfold kindOf Lib.idxOfS
 have hl : (wordL.drop 1).length = 11 := rfl
 rcases idxS_bd (text w) (wordL.drop 1) 0 with h | ⟨h1, h2⟩
 ·rw [h]; omega
 ·rw [hl] at h2; omega
theorem asCmdK_bd (k : Int) : -1 ≤ asCmdK k ∧ asCmdK k ≤ 5 := by
 unfold asCmdK Lib.idxOf
 have hl : ([0, 1, 2, 3, 5, 4] : List Int).length = 6 := rfl
 rcases idx_bd k [0, 1, 2, 3, 5, 4] 0 with h | ⟨h1, h2⟩
 ·rw [h]; omega
 ·rw [hl] at h2; omega
/-- a cell block, filled anew -/
theorem isC_set4 {w : World} {b : Nat} {T : TypeId} {z0 z1 z2 z3 : Value} (h : IsC w b T #[z0, z1, z2, z3]) (v0 v1 v2 v3 : Value) :
 IsC ((((w.setCell ⟨b, 0, none⟩ v0).setCell ⟨b, 1, none⟩ v1).setCell ⟨b, 2, none⟩ v2).setCell ⟨b, 3, none⟩ v3) b T #[v0, v1, v2, v3] := (((h.set 0 v0).set 1 v1).set 2 v2).set 3 v3
theorem index_kinds (k : Int) (w : World) (b : Nat) (h : IsC w b 3 #[.int .i64 0, .int .i64 1, .int .i64 2, .int .i64 3, .int .i64 5, .int .i64 4]) :
 Calls Tryz.prog 105 #[.slice (some ⟨b, 0, none⟩) 6 6, .int .i64 k] w fun e w' => e = .returned (.int .i64 (asCmdK k)) ∧ w' = w := by
 refine (Any.slices_Index_int Tryz.lays108 b 0 6 6 [0, 1, 2, 3, 5, 4] k w (by decide) (by decide) (fun j hj => ?_)).mono fun e w' h => h
 rw [Nat.zero_add, h.cell j]
 have : ∀ i : Fin 6, (#[.int .i64 0, .int .i64 1, .int .i64 2, .int .i64 3, .int .i64 5, .int .i64 4] : Array Value)[i.val]? = some (.int .i64 (([0, 1, 2, 3, 5, 4] : List Int).getD i.val 0)) := by
  intro i
  match i with
  | ⟨0, _⟩ => rfl
  | ⟨1, _⟩ => rfl
  | ⟨2, _⟩ => rfl
  | ⟨3, _⟩ => rfl
  | ⟨4, _⟩ => rfl
  | ⟨5, _⟩ => rfl
 exact this ⟨j, hj⟩
theorem kinds_b (w : World) : Calls Tryz.prog 60 #[] w fun e w' => e = .returned (.slice (some ⟨w.heap.size, 0, none⟩) 6 6) ∧ Below w.heap.size w w' ∧ IsC w' w.heap.size 3 #[.int .i64 0, .int .i64 1, .int .i64 2, .int .i64 3, .int .i64 5, .int .i64 4] :=
 (kinds_c w).mono fun e w' ⟨h1, h2⟩ => by
   subst h2
   exact ⟨h1, below1 w _, IsC.new w _ _⟩
theorem asCmd_c (o : OpD) (a b : Option Addr) (n m c d : Nat) (w : World) :
 Calls Tryz.prog 76 #[opv o (.slice a n c) (.slice b m d)] w fun e w' => e = .returned (.tuple #[cmdv (asCmdK o.K) o.E o.C (.slice a n c), .bool (decide (0 < asCmdK o.K))]) ∧ Below w.heap.size w w' := by
 obtain ⟨Kn, E, C, P, A, N, cK, cE', cC, cP', U, B⟩ := o
 have hk := asCmdK_bd Kn
 unfold opv cmdv
 dsimp only
 have hb0 := below1 w (.cells #[.int .i64 Kn, .int .u64 E, .int .i64 C, .slice a n c, .int .u32 A, .int .u32 N, .int .i64 cK, .int .u64 cE', .int .i64 cC, .slice b m d, .int .i64 U, .string B] 32)
 have hbox := (IsC.new w 32 #[.int .i64 Kn, .int .u64 E, .int .i64 C, .slice a n c, .int .u32 A, .int .u32 N, .int .i64 cK, .int .u64 cE', .int .i64 cC, .slice b m d, .int .i64 U, .string B]).alloc (.cells #[.int .i64 0, .int .u64 0, .int .i64 0, .slice none 0 0] 30)
 have hcb := IsC.new (w.alloc (.cells #[.int .i64 Kn, .int .u64 E, .int .i64 C, .slice a n c, .int .u32 A, .int .u32 N, .int .i64 cK, .int .u64 cE', .int .i64 cC, .slice b m d, .int .i64 U, .string B] 32)) 30 #[.int .i64 0, .int .u64 0, .int .i64 0, .slice none 0 0]
 rw [size_alloc] at hcb
 have hb1 := hb0.alloc (by rw [size_alloc]; omega) (.cells #[.int .i64 0, .int .u64 0, .int .i64 0, .slice none 0 0] 30)
 have hkb := fun w' => kinds_b w'
 replace hkb := Hd hkb
 replace hb1 := Hd hb1
 clear hb0
 go_enter Tryz.func76, Tryz.ntmps76
 go_wp2_with fail
 obtain ⟨W, hW⟩ : ∃ W, (w.alloc (.cells #[.int .i64 Kn, .int .u64 E, .int .i64 C, .slice a n c, .int .u32 A, .int .u32 N, .int .i64 cK, .int .u64 cE', .int .i64 cC, .slice b m d, .int .i64 U, .string B] 32)).alloc (.cells #[.int .i64 0, .int .u64 0, .int .i64 0, .slice none 0 0] 30) = W := ⟨_, rfl⟩
 rw [hW] at hbox hcb hb1 ⊢
 have j0 : W.drew.cell? ⟨w.heap.size, 0, none⟩ = some (.int .i64 Kn) := hbox.cell 0
 replace hbox := Hd hbox
 replace hcb := Hd hcb
 have hb1s := hb1.out.size
 clear hW
 refine wp_region_held_at (S := fun w1 => w1.cell? ⟨w.heap.size, 0, none⟩ = some (.int .i64 Kn)) 5 rfl (by kernel_rfl) (by go_keep) (fun hH => ?_)
 refine wpU 1 ?_ rfl ?_ ?_
 rotate_left
 ·intro u h; (try simp only [ls3]); go_simp; try with_reducible rfl
 try simp only [ls7, Act.put]
 refine wpU 2 ?_ rfl ?_ ?_
 rotate_left
 ·intro u h; (try simp only [ls3]); go_simp; try with_reducible rfl
 try simp only [ls7, Act.put]
 refine wpAnyH_ready (rs := [0]) (by decide +kernel) (by simp) ?_
 refine AllReadyH.cons rfl (fun K hK => ?_) AllReadyH.nil
 (try simp only [ls3])
 go_simp
 refine Calls.mono (hkb.out _) ?_
 rintro e w4 ⟨rfl, hb4, hkc⟩
 have y0 := cell_up j0 hb4
 have hbox4 := isC_of (w := W.drew) hb4 hbox.out
 have hcb4 := isC_of (w := W.drew) hb4 hcb.out
 have hb5 := Hd (below_up (below_drewed hb1.out) hb1s hb4)
 have hkc' := Hd (show IsC w4 W.heap.size _ _ from hkc)
 clear hb4 hkc
 (try go_simp)
 refine hK.out _ _ (by go_keep) (fun hH => ?_)
 clear hK K
 try simp only [ls7, Act.put]
 refine wpAnyH_ready (rs := [3]) (by decide +kernel) (by simp) ?_
 refine AllReadyH.cons rfl (fun K hK => ?_) AllReadyH.nil
 (try simp only [ls3])
 go_simp
 refine Calls.mono (index_kinds Kn w4 W.heap.size hkc'.out) ?_
 rintro e w5 ⟨rfl, rfl⟩
 (try go_simp)
 refine hK.out _ _ (by go_keep) (fun hH => ?_)
 clear hK K
 try simp only [ls7, Act.put]
 refine wpU 4 ?_ rfl ?_ ?_
 rotate_left
 ·intro u h; (try simp only [ls3]); go_simp; try with_reducible rfl
 try simp only [ls7, Act.put]
 refine wpAnyH_done (by decide +kernel) ?_ _
 have y1 := hbox4.cell 1
 have y2 := hbox4.cell 2
 have y3 := hbox4.cell 3
 have f0 := hcb4.f 0
 have f1 := hcb4.f 1
 have f2 := hcb4.f 2
 have f3 := hcb4.f 3
 have x0 := hcb4.cell 0
 have x1 := hcb4.cell 1
 have x2 := hcb4.cell 2
 have x3 := hcb4.cell 3
 have hs4 := isC_set4 hcb4 (.int .i64 (asCmdK Kn)) (.int .u64 E) (.int .i64 C) (.slice a n c)
 have t0 := hs4.cell 0
 have t1 := hs4.cell 1
 have t2 := hs4.cell 2
 have t3 := hs4.cell 3
 have hfin := (((hb5.out.setCell (p := ⟨w.heap.size + 1, 0, none⟩) (Nat.le_succ _) (.int .i64 (asCmdK Kn))).setCell (p := ⟨w.heap.size + 1, 1, none⟩) (Nat.le_succ _) (.int .u64 E)).setCell (p := ⟨w.heap.size + 1, 2, none⟩) (Nat.le_succ _) (.int .i64 C)).setCell (p := ⟨w.heap.size + 1, 3, none⟩) (Nat.le_succ _) (.slice a n c)
 replace t0 := Hd t0
 replace t1 := Hd t1
 replace t2 := Hd t2
 replace t3 := Hd t3
 replace hfin := Hd hfin
 clear hs4 hbox4 hcb4 hb5
 go_wp2_with fail
 obtain ⟨wf, hwf⟩ : ∃ wf, (((w5.setCell ⟨w.heap.size + 1, 0, none⟩ (.int .i64 (asCmdK Kn))).setCell ⟨w.heap.size + 1, 1, none⟩ (.int .u64 E)).setCell ⟨w.heap.size + 1, 2, none⟩ (.int .i64 C)).setCell ⟨w.heap.size + 1, 3, none⟩ (.slice a n c) = wf := ⟨_, rfl⟩
 have s0 := t0.out
 have s1 := t1.out
 have s2 := t2.out
 have s3 := t3.out
 have s4 := hfin.out
 rw [hwf] at s0 s1 s2 s3 s4 ⊢
 (try simp only [Exit.inBlock, Exit.then])
 refine bodyPost_ret (by simp [results, Tryz.results76, go_sem, s0, s1, s2, s3]; try rfl) rfl ?_
 exact ⟨rfl, s4⟩
end Go.Proofs.YtjjgbillihedgaaGreatDoor
