/- parts of the proof, merged: TlIs0, TlVB, TlVQ -/
import Derived.Test.YtjjgbillihedgaaGreatDoorQy28
set_option linter.unusedSimpArgs false
set_option linter.unusedVariables false
set_option maxHeartbeats 16000000
set_option maxRecDepth 100000
namespace Go.Proofs.YtjjgbillihedgaaGreatDoor
open Go.RowKit
open Go.BigFrame
open Rf
open Sg
open Wide
open Tl
namespace Tl
/-- the letters of a kind -/
def bL (k : Int) (x : UInt8) : Bool := decide (x ∈ namesF k)
theorem bL_def (k : Int) (x : UInt8) : bL k x = decide (x ∈ namesF k) := rfl
theorem ba0e : ((⟨#[]⟩ : ByteArray) = ByteArray.empty) = True := eq_true rfl
theorem ba0s : (⟨#[]⟩ : ByteArray).size = 0 := rfl
theorem ba_pos {B : ByteArray} (h : ¬ B = ⟨#[]⟩) : 0 < B.size := Nat.pos_of_ne_zero fun e => h (ba_nil e)
theorem alt {z n r : Prop} (h : z ∨ n) (k : r) : n ∨ (z ∧ r) := h.elim (fun h => .inr ⟨h, k⟩) .inl
theorem nzI (x : Int) : x = 0 ∨ (x != 0) = true := (Classical.em (x = 0)).imp id bne_iff_ne.2
theorem nzL (l : List PartD) : l = [] ∨ (decide (0 < l.length) = true ∧ decide ((0 : Int) < (l.length : Int)) = true) := (Classical.em (l = [])).imp id fun h => ⟨decide_eq_true (List.length_pos_iff.2 h), decide_eq_true (Int.natCast_pos.2 (List.length_pos_iff.2 h))⟩
theorem nzB (b : ByteArray) : b = ⟨#[]⟩ ∨ (decide (0 < b.size) = true ∧ decide ((0 : Int) < (b.size : Int)) = true) := (Classical.em (b = ⟨#[]⟩)).imp id fun h => ⟨decide_eq_true (ba_pos h), decide_eq_true (Int.natCast_pos.2 (ba_pos h))⟩
def off4 (o : OpD) : Bool := offE o || offC o || offP o || offQ o || offU o || offB o
def off8 (o : OpD) : Bool := (bL o.K 101 && !isEntF o.E) || !isPartsF o.P || (decide (o.K = 3 ∨ o.K = 5) && decide (o.P.length ≠ 1)) || (decide (o.C < 0) && bL o.K 99) || decide (o.U < 0) || decide (16384 < o.B.size)
def off10 (o : OpD) : Bool := bL o.K 113 && (!Sg.isF o.A.toNat || !Sg.isF o.N.toNat)
def last12 (o : OpD) : Bool := !bL o.K 100 || (isCmd o.cK && is1F (asOpF o.cK o.cE o.cC o.cP))
theorem kinds11 {K : Int} (h : 1 ≤ K ∧ K ≤ 11) : K = 1 ∨ K = 2 ∨ K = 3 ∨ K = 4 ∨ K = 5 ∨ K = 6 ∨ K = 7 ∨ K = 8 ∨ K = 9 ∨ K = 10 ∨ K = 11 := by omega
theorem isOp_offs (o : OpD) (hK : 1 ≤ o.K ∧ o.K ≤ 11) : isOpF o = (!off4 o && !offD o && !off8 o && !off10 o && last12 o) := by
 have hn := named_off o hK.1 hK.2
 have e : isOpF o = ((!(off4 o) && !offD o) && (isPartsF o.P && (if o.K = 8 then isCmd o.cK && is1F (asOpF o.cK o.cE o.cC o.cP) else askF o))) := by
  unfold isOpF is1F
  rw [hn]
  unfold off4
  split <;> simp [Bool.and_assoc]
 rw [e]
 clear e hn
 cases h4 : off4 o with
 | true => simp
 | false =>
   cases hD : offD o with
   | true => simp
   | false =>
     obtain ⟨K, E, C, P, A, N, cK, cE, cC, cP, U, B⟩ := o
     dsimp only at hK ⊢
     have hnn : ∀ x : Int, decide (0 ≤ x) = !decide (x < 0) := fun x => by
      by_cases h : x < 0
      ·rw [decide_eq_true h, decide_eq_false (by omega)]; rfl
      ·rw [decide_eq_false h, decide_eq_true (by omega)]; rfl
     have hbn : ∀ x : Nat, decide (x ≤ 16384) = !decide (16384 < x) := fun x => by
      by_cases h : 16384 < x
      ·rw [decide_eq_true h, decide_eq_false (by omega)]; rfl
      ·rw [decide_eq_false h, decide_eq_true (by omega)]; rfl
     rcases kinds11 hK with rfl | rfl | rfl | rfl | rfl | rfl | rfl | rfl | rfl | rfl | rfl <;>
     ·simp [off4, offE, offC, offP, offQ, offU, offB, nz, namesF] at h4
      simp [off8, off10, last12, bL, namesF, askF]
      cases hp : isPartsF P <;> cases he : isEntF E <;> simp_all
      all_goals first | rfl | exact hnn _ | exact hbn _
/-- a kind's letters, all of them -/
theorem letters (k : Int) (h : 1 ≤ k ∧ k ≤ 11) : (bL k 101 = false ∧ bL k 99 = false ∧ bL k 112 = true ∧ bL k 113 = false ∧ bL k 117 = false ∧ bL k 98 = false ∧ bL k 100 = false) ∨ (bL k 101 = true ∧ bL k 99 = false ∧ bL k 112 = false ∧ bL k 113 = false ∧ bL k 117 = false ∧ bL k 98 = false ∧ bL k 100 = false) ∨ (bL k 101 = true ∧ bL k 99 = false ∧ bL k 112 = true ∧ bL k 113 = false ∧ bL k 117 = false ∧ bL k 98 = false ∧ bL k 100 = false) ∨ (bL k 101 = true ∧ bL k 99 = true ∧ bL k 112 = false ∧ bL k 113 = false ∧ bL k 117 = false ∧ bL k 98 = false ∧ bL k 100 = false) ∨ (bL k 101 = false ∧ bL k 99 = false ∧ bL k 112 = false ∧ bL k 113 = true ∧ bL k 117 = false ∧ bL k 98 = false ∧ bL k 100 = false) ∨ (bL k 101 = false ∧ bL k 99 = false ∧ bL k 112 = false ∧ bL k 113 = false ∧ bL k 117 = false ∧ bL k 98 = false ∧ bL k 100 = true) ∨ (bL k 101 = false ∧ bL k 99 = false ∧ bL k 112 = false ∧ bL k 113 = false ∧ bL k 117 = true ∧ bL k 98 = false ∧ bL k 100 = false) ∨ (bL k 101 = false ∧ bL k 99 = false ∧ bL k 112 = false ∧ bL k 113 = false ∧ bL k 117 = false ∧ bL k 98 = true ∧ bL k 100 = false) ∨ (bL k 101 = false ∧ bL k 99 = false ∧ bL k 112 = false ∧ bL k 113 = false ∧ bL k 117 = false ∧ bL k 98 = false ∧ bL k 100 = false) := by
 rcases kinds11 h with rfl | rfl | rfl | rfl | rfl | rfl | rfl | rfl | rfl | rfl | rfl <;> decide
theorem letters2 (k : Int) (h : 1 ≤ k ∧ k ≤ 11) : (bL k 101 = false → bL k 99 = false ∧ k ≠ 3 ∧ k ≠ 5) ∧ (bL k 101 = true → bL k 117 = false ∧ bL k 98 = false) ∧ (k = 3 → bL k 99 = false) ∧ (k = 5 → bL k 99 = false) ∧ (bL k 100 = true → k = 8) := by
 rcases kinds11 h with rfl | rfl | rfl | rfl | rfl | rfl | rfl | rfl | rfl | rfl | rfl <;> decide
end Tl
theorem has_let (k : Int) (NM : ByteArray) (hNM : text (namesF k) = NM) : ∀ (x : UInt8) (b : Bool), bL k x = b → Still 29 #[.string NM, .int .u8 (x.toNat : Int)] (.bool b) := fun x b hb => by
 have := rhas_c NM (by rw [← hNM, text_size]; unfold namesF; (repeat' split); all_goals decide) x
 rw [← hNM, byts_text] at this
 rw [← hNM, ← hb]
 exact this
theorem stq {f : FuncId} {args : Array Value} {v : Value} (h : Still f args v) (W : World) : ∀ n, Calls Tryz.prog f args (W.drewN n) fun e w' => e = .returned v ∧ w' = W.drewN n :=
 fun n => (h (W.drewN n)).mono fun _ _ ⟨h1, h2⟩ => ⟨h1, h2.symm⟩
end Go.Proofs.YtjjgbillihedgaaGreatDoor
namespace Go.Proofs.YtjjgbillihedgaaGreatDoor
open Go.RowKit
open Rf
open Sg
open Wide
open Tl
theorem rcommand_c (K E C : Int) (hK : isCmd K = true) (P : List PartD) (s : Value) (w : World) (hin : InS w s P) : Calls Tryz.prog 33 #[cmdv K E C s] w fun e w' => e = .returned (opv (asOpF K E C P) s (.slice none 0 0)) ∧ Below w.heap.size w w' := by
 obtain ⟨a, c, rfl, hx1⟩ := hin
 clear hx1
 have h0 : 1 ≤ K ∧ K ≤ 5 := by
  unfold isCmd at hK
  rw [Bool.and_eq_true] at hK
  exact ⟨of_decide_eq_true hK.1, of_decide_eq_true hK.2⟩
 unfold asOpF
 rw [if_pos hK]
 unfold opv cmdv
 dsimp only
 generalize P.length = n at *
 clear hK
 by_cases k1 : K = 1
 ·subst k1
  rw [show kindF 1 = 1 from by decide]
  clear h0
  have hb1 := (below1 w (.cells #[.int .i64 1, .int .u64 E, .int .i64 C, .slice a n c] 36)).alloc (by rw [size_alloc]; omega) (.cells #[.int .i64 0, .int .u64 0, .int .i64 0, .slice none 0 0, .int .u32 0, .int .u32 0, .int .i64 0, .int .u64 0, .int .i64 0, .slice none 0 0, .int .i64 0, .string ⟨#[]⟩] 38)
  have hb2 := hb1.alloc hb1.size (.cells #[.int .i64 0, .int .i64 1, .int .i64 2, .int .i64 3, .int .i64 5, .int .i64 4] 114)
  have hA0 := (IsC.new w 36 #[.int .i64 1, .int .u64 E, .int .i64 C, .slice a n c]).alloc (.cells #[.int .i64 0, .int .u64 0, .int .i64 0, .slice none 0 0, .int .u32 0, .int .u32 0, .int .i64 0, .int .u64 0, .int .i64 0, .slice none 0 0, .int .i64 0, .string ⟨#[]⟩] 38)
  have hA := hA0.alloc (.cells #[.int .i64 0, .int .i64 1, .int .i64 2, .int .i64 3, .int .i64 5, .int .i64 4] 114)
  have hZ := (IsC.new (w.alloc (.cells #[.int .i64 1, .int .u64 E, .int .i64 C, .slice a n c] 36)) 38 #[.int .i64 0, .int .u64 0, .int .i64 0, .slice none 0 0, .int .u32 0, .int .u32 0, .int .i64 0, .int .u64 0, .int .i64 0, .slice none 0 0, .int .i64 0, .string ⟨#[]⟩]).alloc (.cells #[.int .i64 0, .int .i64 1, .int .i64 2, .int .i64 3, .int .i64 5, .int .i64 4] 114)
  have hD := IsC.new ((w.alloc (.cells #[.int .i64 1, .int .u64 E, .int .i64 C, .slice a n c] 36)).alloc (.cells #[.int .i64 0, .int .u64 0, .int .i64 0, .slice none 0 0, .int .u32 0, .int .u32 0, .int .i64 0, .int .u64 0, .int .i64 0, .slice none 0 0, .int .i64 0, .string ⟨#[]⟩] 38)) 114 #[.int .i64 0, .int .i64 1, .int .i64 2, .int .i64 3, .int .i64 5, .int .i64 4]
  rw [size_alloc] at hZ
  rw [size_alloc, size_alloc] at hD
  have a0 := hA.cell 0
  have d0 := hD.cell 1
  clear hb1 hA0
  replace hA := Hd hA
  replace hZ := Hd hZ
  replace hb2 := Hd hb2
  go_enter Tryz.func33, Tryz.ntmps33
  go_upto_region 5 with fail
  obtain ⟨W, hW⟩ : ∃ W, ((w.alloc (.cells #[.int .i64 1, .int .u64 E, .int .i64 C, .slice a n c] 36)).alloc (.cells #[.int .i64 0, .int .u64 0, .int .i64 0, .slice none 0 0, .int .u32 0, .int .u32 0, .int .i64 0, .int .u64 0, .int .i64 0, .slice none 0 0, .int .i64 0, .string ⟨#[]⟩] 38)).alloc (.cells #[.int .i64 0, .int .i64 1, .int .i64 2, .int .i64 3, .int .i64 5, .int .i64 4] 114) = W := ⟨_, rfl⟩
  rw [hW] at hA hZ hb2
  rw [hW]
  replace hW := Hd hW
  clear a0 d0 hD
  have x1 := hA.out.cell 1
  have x2 := hA.out.cell 2
  have x3 := hA.out.cell 3
  obtain ⟨z0, z1, z2, z3, z4, z5, z6, z7, z8, z9, z10, z11⟩ := cells12 hZ.out
  obtain ⟨f0, f1, f2, f3, f4, f5, f6, f7, f8, f9, f10, f11⟩ := fr12 hZ.out
  have hs12 : IsC (set12 W (w.heap.size + 1) (.int .i64 1) (.int .u64 E) (.int .i64 C) (.slice a n c) (.int .u32 0) (.int .u32 0) (.int .i64 0) (.int .u64 0) (.int .i64 0) (.slice none 0 0) (.int .i64 0) (.string ⟨#[]⟩)) (w.heap.size + 1) 38 #[.int .i64 1, .int .u64 E, .int .i64 C, .slice a n c, .int .u32 0, .int .u32 0, .int .i64 0, .int .u64 0, .int .i64 0, .slice none 0 0, .int .i64 0, .string ⟨#[]⟩] := isC_set12 hZ.out
  have t0 := Hd (hs12.cell 0)
  have t1 := Hd (hs12.cell 1)
  have t2 := Hd (hs12.cell 2)
  have t3 := Hd (hs12.cell 3)
  have t4 := Hd (hs12.cell 4)
  have t5 := Hd (hs12.cell 5)
  have t6 := Hd (hs12.cell 6)
  have t7 := Hd (hs12.cell 7)
  have t8 := Hd (hs12.cell 8)
  have t9 := Hd (hs12.cell 9)
  have t10 := Hd (hs12.cell 10)
  have t11 := Hd (hs12.cell 11)
  have hfin := Hd (show Below w.heap.size w (set12 W (w.heap.size + 1) (.int .i64 1) (.int .u64 E) (.int .i64 C) (.slice a n c) (.int .u32 0) (.int .u32 0) (.int .i64 0) (.int .u64 0) (.int .i64 0) (.slice none 0 0) (.int .i64 0) (.string ⟨#[]⟩)) from below_set12 (w := W) hb2.out (by omega))
  clear hs12 hA hZ hb2
  go_wp2_with fail
  obtain ⟨wf, hwf⟩ : ∃ wf, set12 W (w.heap.size + 1) (.int .i64 1) (.int .u64 E) (.int .i64 C) (.slice a n c) (.int .u32 0) (.int .u32 0) (.int .i64 0) (.int .u64 0) (.int .i64 0) (.slice none 0 0) (.int .i64 0) (.string ⟨#[]⟩) = wf := ⟨_, rfl⟩
  have s0 := t0.out
  have s1 := t1.out
  have s2 := t2.out
  have s3 := t3.out
  have s4 := t4.out
  have s5 := t5.out
  have s6 := t6.out
  have s7 := t7.out
  have s8 := t8.out
  have s9 := t9.out
  have s10 := t10.out
  have s11 := t11.out
  have r0 := hfin.out
  rw [hwf] at s0 s1 s2 s3 s4 s5 s6 s7 s8 s9 s10 s11 r0
  rw [show (((((((((((W.setCell ⟨w.heap.size + 1, 0, none⟩ (.int .i64 1)).setCell ⟨w.heap.size + 1, 1, none⟩ (.int .u64 E)).setCell ⟨w.heap.size + 1, 2, none⟩ (.int .i64 C)).setCell ⟨w.heap.size + 1, 3, none⟩ (.slice a n c)).setCell ⟨w.heap.size + 1, 4, none⟩ (.int .u32 0)).setCell ⟨w.heap.size + 1, 5, none⟩ (.int .u32 0)).setCell ⟨w.heap.size + 1, 6, none⟩ (.int .i64 0)).setCell ⟨w.heap.size + 1, 7, none⟩ (.int .u64 0)).setCell ⟨w.heap.size + 1, 8, none⟩ (.int .i64 0)).setCell ⟨w.heap.size + 1, 9, none⟩ (.slice none 0 0)).setCell ⟨w.heap.size + 1, 10, none⟩ (.int .i64 0)).setCell ⟨w.heap.size + 1, 11, none⟩ (.string ⟨#[]⟩) = wf from hwf]
  (try simp only [Exit.inBlock, Exit.then])
  refine bodyPost_ret (by simp [results, Tryz.results33, go_sem, s0, s1, s2, s3, s4, s5, s6, s7, s8, s9, s10, s11]; try rfl) rfl ?_
  exact ⟨rfl, r0⟩
 by_cases k2 : K = 2
 ·subst k2
  rw [show kindF 2 = 2 from by decide]
  clear h0
  have hb1 := (below1 w (.cells #[.int .i64 2, .int .u64 E, .int .i64 C, .slice a n c] 36)).alloc (by rw [size_alloc]; omega) (.cells #[.int .i64 0, .int .u64 0, .int .i64 0, .slice none 0 0, .int .u32 0, .int .u32 0, .int .i64 0, .int .u64 0, .int .i64 0, .slice none 0 0, .int .i64 0, .string ⟨#[]⟩] 38)
  have hb2 := hb1.alloc hb1.size (.cells #[.int .i64 0, .int .i64 1, .int .i64 2, .int .i64 3, .int .i64 5, .int .i64 4] 114)
  have hA0 := (IsC.new w 36 #[.int .i64 2, .int .u64 E, .int .i64 C, .slice a n c]).alloc (.cells #[.int .i64 0, .int .u64 0, .int .i64 0, .slice none 0 0, .int .u32 0, .int .u32 0, .int .i64 0, .int .u64 0, .int .i64 0, .slice none 0 0, .int .i64 0, .string ⟨#[]⟩] 38)
  have hA := hA0.alloc (.cells #[.int .i64 0, .int .i64 1, .int .i64 2, .int .i64 3, .int .i64 5, .int .i64 4] 114)
  have hZ := (IsC.new (w.alloc (.cells #[.int .i64 2, .int .u64 E, .int .i64 C, .slice a n c] 36)) 38 #[.int .i64 0, .int .u64 0, .int .i64 0, .slice none 0 0, .int .u32 0, .int .u32 0, .int .i64 0, .int .u64 0, .int .i64 0, .slice none 0 0, .int .i64 0, .string ⟨#[]⟩]).alloc (.cells #[.int .i64 0, .int .i64 1, .int .i64 2, .int .i64 3, .int .i64 5, .int .i64 4] 114)
  have hD := IsC.new ((w.alloc (.cells #[.int .i64 2, .int .u64 E, .int .i64 C, .slice a n c] 36)).alloc (.cells #[.int .i64 0, .int .u64 0, .int .i64 0, .slice none 0 0, .int .u32 0, .int .u32 0, .int .i64 0, .int .u64 0, .int .i64 0, .slice none 0 0, .int .i64 0, .string ⟨#[]⟩] 38)) 114 #[.int .i64 0, .int .i64 1, .int .i64 2, .int .i64 3, .int .i64 5, .int .i64 4]
  rw [size_alloc] at hZ
  rw [size_alloc, size_alloc] at hD
  have a0 := hA.cell 0
  have d0 := hD.cell 2
  clear hb1 hA0
  replace hA := Hd hA
  replace hZ := Hd hZ
  replace hb2 := Hd hb2
  go_enter Tryz.func33, Tryz.ntmps33
  go_upto_region 5 with fail
  obtain ⟨W, hW⟩ : ∃ W, ((w.alloc (.cells #[.int .i64 2, .int .u64 E, .int .i64 C, .slice a n c] 36)).alloc (.cells #[.int .i64 0, .int .u64 0, .int .i64 0, .slice none 0 0, .int .u32 0, .int .u32 0, .int .i64 0, .int .u64 0, .int .i64 0, .slice none 0 0, .int .i64 0, .string ⟨#[]⟩] 38)).alloc (.cells #[.int .i64 0, .int .i64 1, .int .i64 2, .int .i64 3, .int .i64 5, .int .i64 4] 114) = W := ⟨_, rfl⟩
  rw [hW] at hA hZ hb2
  rw [hW]
  replace hW := Hd hW
  clear a0 d0 hD
  have x1 := hA.out.cell 1
  have x2 := hA.out.cell 2
  have x3 := hA.out.cell 3
  obtain ⟨z0, z1, z2, z3, z4, z5, z6, z7, z8, z9, z10, z11⟩ := cells12 hZ.out
  obtain ⟨f0, f1, f2, f3, f4, f5, f6, f7, f8, f9, f10, f11⟩ := fr12 hZ.out
  have hs12 : IsC (set12 W (w.heap.size + 1) (.int .i64 2) (.int .u64 E) (.int .i64 C) (.slice a n c) (.int .u32 0) (.int .u32 0) (.int .i64 0) (.int .u64 0) (.int .i64 0) (.slice none 0 0) (.int .i64 0) (.string ⟨#[]⟩)) (w.heap.size + 1) 38 #[.int .i64 2, .int .u64 E, .int .i64 C, .slice a n c, .int .u32 0, .int .u32 0, .int .i64 0, .int .u64 0, .int .i64 0, .slice none 0 0, .int .i64 0, .string ⟨#[]⟩] := isC_set12 hZ.out
  have t0 := Hd (hs12.cell 0)
  have t1 := Hd (hs12.cell 1)
  have t2 := Hd (hs12.cell 2)
  have t3 := Hd (hs12.cell 3)
  have t4 := Hd (hs12.cell 4)
  have t5 := Hd (hs12.cell 5)
  have t6 := Hd (hs12.cell 6)
  have t7 := Hd (hs12.cell 7)
  have t8 := Hd (hs12.cell 8)
  have t9 := Hd (hs12.cell 9)
  have t10 := Hd (hs12.cell 10)
  have t11 := Hd (hs12.cell 11)
  have hfin := Hd (show Below w.heap.size w (set12 W (w.heap.size + 1) (.int .i64 2) (.int .u64 E) (.int .i64 C) (.slice a n c) (.int .u32 0) (.int .u32 0) (.int .i64 0) (.int .u64 0) (.int .i64 0) (.slice none 0 0) (.int .i64 0) (.string ⟨#[]⟩)) from below_set12 (w := W) hb2.out (by omega))
  clear hs12 hA hZ hb2
  go_wp2_with fail
  obtain ⟨wf, hwf⟩ : ∃ wf, set12 W (w.heap.size + 1) (.int .i64 2) (.int .u64 E) (.int .i64 C) (.slice a n c) (.int .u32 0) (.int .u32 0) (.int .i64 0) (.int .u64 0) (.int .i64 0) (.slice none 0 0) (.int .i64 0) (.string ⟨#[]⟩) = wf := ⟨_, rfl⟩
  have s0 := t0.out
  have s1 := t1.out
  have s2 := t2.out
  have s3 := t3.out
  have s4 := t4.out
  have s5 := t5.out
  have s6 := t6.out
  have s7 := t7.out
  have s8 := t8.out
  have s9 := t9.out
  have s10 := t10.out
  have s11 := t11.out
  have r0 := hfin.out
  rw [hwf] at s0 s1 s2 s3 s4 s5 s6 s7 s8 s9 s10 s11 r0
  rw [show (((((((((((W.setCell ⟨w.heap.size + 1, 0, none⟩ (.int .i64 2)).setCell ⟨w.heap.size + 1, 1, none⟩ (.int .u64 E)).setCell ⟨w.heap.size + 1, 2, none⟩ (.int .i64 C)).setCell ⟨w.heap.size + 1, 3, none⟩ (.slice a n c)).setCell ⟨w.heap.size + 1, 4, none⟩ (.int .u32 0)).setCell ⟨w.heap.size + 1, 5, none⟩ (.int .u32 0)).setCell ⟨w.heap.size + 1, 6, none⟩ (.int .i64 0)).setCell ⟨w.heap.size + 1, 7, none⟩ (.int .u64 0)).setCell ⟨w.heap.size + 1, 8, none⟩ (.int .i64 0)).setCell ⟨w.heap.size + 1, 9, none⟩ (.slice none 0 0)).setCell ⟨w.heap.size + 1, 10, none⟩ (.int .i64 0)).setCell ⟨w.heap.size + 1, 11, none⟩ (.string ⟨#[]⟩) = wf from hwf]
  (try simp only [Exit.inBlock, Exit.then])
  refine bodyPost_ret (by simp [results, Tryz.results33, go_sem, s0, s1, s2, s3, s4, s5, s6, s7, s8, s9, s10, s11]; try rfl) rfl ?_
  exact ⟨rfl, r0⟩
 by_cases k3 : K = 3
 ·subst k3
  rw [show kindF 3 = 3 from by decide]
  clear h0
  have hb1 := (below1 w (.cells #[.int .i64 3, .int .u64 E, .int .i64 C, .slice a n c] 36)).alloc (by rw [size_alloc]; omega) (.cells #[.int .i64 0, .int .u64 0, .int .i64 0, .slice none 0 0, .int .u32 0, .int .u32 0, .int .i64 0, .int .u64 0, .int .i64 0, .slice none 0 0, .int .i64 0, .string ⟨#[]⟩] 38)
  have hb2 := hb1.alloc hb1.size (.cells #[.int .i64 0, .int .i64 1, .int .i64 2, .int .i64 3, .int .i64 5, .int .i64 4] 114)
  have hA0 := (IsC.new w 36 #[.int .i64 3, .int .u64 E, .int .i64 C, .slice a n c]).alloc (.cells #[.int .i64 0, .int .u64 0, .int .i64 0, .slice none 0 0, .int .u32 0, .int .u32 0, .int .i64 0, .int .u64 0, .int .i64 0, .slice none 0 0, .int .i64 0, .string ⟨#[]⟩] 38)
  have hA := hA0.alloc (.cells #[.int .i64 0, .int .i64 1, .int .i64 2, .int .i64 3, .int .i64 5, .int .i64 4] 114)
  have hZ := (IsC.new (w.alloc (.cells #[.int .i64 3, .int .u64 E, .int .i64 C, .slice a n c] 36)) 38 #[.int .i64 0, .int .u64 0, .int .i64 0, .slice none 0 0, .int .u32 0, .int .u32 0, .int .i64 0, .int .u64 0, .int .i64 0, .slice none 0 0, .int .i64 0, .string ⟨#[]⟩]).alloc (.cells #[.int .i64 0, .int .i64 1, .int .i64 2, .int .i64 3, .int .i64 5, .int .i64 4] 114)
  have hD := IsC.new ((w.alloc (.cells #[.int .i64 3, .int .u64 E, .int .i64 C, .slice a n c] 36)).alloc (.cells #[.int .i64 0, .int .u64 0, .int .i64 0, .slice none 0 0, .int .u32 0, .int .u32 0, .int .i64 0, .int .u64 0, .int .i64 0, .slice none 0 0, .int .i64 0, .string ⟨#[]⟩] 38)) 114 #[.int .i64 0, .int .i64 1, .int .i64 2, .int .i64 3, .int .i64 5, .int .i64 4]
  rw [size_alloc] at hZ
  rw [size_alloc, size_alloc] at hD
  have a0 := hA.cell 0
  have d0 := hD.cell 3
  clear hb1 hA0
  replace hA := Hd hA
  replace hZ := Hd hZ
  replace hb2 := Hd hb2
  go_enter Tryz.func33, Tryz.ntmps33
  go_upto_region 5 with fail
  obtain ⟨W, hW⟩ : ∃ W, ((w.alloc (.cells #[.int .i64 3, .int .u64 E, .int .i64 C, .slice a n c] 36)).alloc (.cells #[.int .i64 0, .int .u64 0, .int .i64 0, .slice none 0 0, .int .u32 0, .int .u32 0, .int .i64 0, .int .u64 0, .int .i64 0, .slice none 0 0, .int .i64 0, .string ⟨#[]⟩] 38)).alloc (.cells #[.int .i64 0, .int .i64 1, .int .i64 2, .int .i64 3, .int .i64 5, .int .i64 4] 114) = W := ⟨_, rfl⟩
  rw [hW] at hA hZ hb2
  rw [hW]
  replace hW := Hd hW
  clear a0 d0 hD
  have x1 := hA.out.cell 1
  have x2 := hA.out.cell 2
  have x3 := hA.out.cell 3
  obtain ⟨z0, z1, z2, z3, z4, z5, z6, z7, z8, z9, z10, z11⟩ := cells12 hZ.out
  obtain ⟨f0, f1, f2, f3, f4, f5, f6, f7, f8, f9, f10, f11⟩ := fr12 hZ.out
  have hs12 : IsC (set12 W (w.heap.size + 1) (.int .i64 3) (.int .u64 E) (.int .i64 C) (.slice a n c) (.int .u32 0) (.int .u32 0) (.int .i64 0) (.int .u64 0) (.int .i64 0) (.slice none 0 0) (.int .i64 0) (.string ⟨#[]⟩)) (w.heap.size + 1) 38 #[.int .i64 3, .int .u64 E, .int .i64 C, .slice a n c, .int .u32 0, .int .u32 0, .int .i64 0, .int .u64 0, .int .i64 0, .slice none 0 0, .int .i64 0, .string ⟨#[]⟩] := isC_set12 hZ.out
  have t0 := Hd (hs12.cell 0)
  have t1 := Hd (hs12.cell 1)
  have t2 := Hd (hs12.cell 2)
  have t3 := Hd (hs12.cell 3)
  have t4 := Hd (hs12.cell 4)
  have t5 := Hd (hs12.cell 5)
  have t6 := Hd (hs12.cell 6)
  have t7 := Hd (hs12.cell 7)
  have t8 := Hd (hs12.cell 8)
  have t9 := Hd (hs12.cell 9)
  have t10 := Hd (hs12.cell 10)
  have t11 := Hd (hs12.cell 11)
  have hfin := Hd (show Below w.heap.size w (set12 W (w.heap.size + 1) (.int .i64 3) (.int .u64 E) (.int .i64 C) (.slice a n c) (.int .u32 0) (.int .u32 0) (.int .i64 0) (.int .u64 0) (.int .i64 0) (.slice none 0 0) (.int .i64 0) (.string ⟨#[]⟩)) from below_set12 (w := W) hb2.out (by omega))
  clear hs12 hA hZ hb2
  go_wp2_with fail
  obtain ⟨wf, hwf⟩ : ∃ wf, set12 W (w.heap.size + 1) (.int .i64 3) (.int .u64 E) (.int .i64 C) (.slice a n c) (.int .u32 0) (.int .u32 0) (.int .i64 0) (.int .u64 0) (.int .i64 0) (.slice none 0 0) (.int .i64 0) (.string ⟨#[]⟩) = wf := ⟨_, rfl⟩
  have s0 := t0.out
  have s1 := t1.out
  have s2 := t2.out
  have s3 := t3.out
  have s4 := t4.out
  have s5 := t5.out
  have s6 := t6.out
  have s7 := t7.out
  have s8 := t8.out
  have s9 := t9.out
  have s10 := t10.out
  have s11 := t11.out
  have r0 := hfin.out
  rw [hwf] at s0 s1 s2 s3 s4 s5 s6 s7 s8 s9 s10 s11 r0
  rw [show (((((((((((W.setCell ⟨w.heap.size + 1, 0, none⟩ (.int .i64 3)).setCell ⟨w.heap.size + 1, 1, none⟩ (.int .u64 E)).setCell ⟨w.heap.size + 1, 2, none⟩ (.int .i64 C)).setCell ⟨w.heap.size + 1, 3, none⟩ (.slice a n c)).setCell ⟨w.heap.size + 1, 4, none⟩ (.int .u32 0)).setCell ⟨w.heap.size + 1, 5, none⟩ (.int .u32 0)).setCell ⟨w.heap.size + 1, 6, none⟩ (.int .i64 0)).setCell ⟨w.heap.size + 1, 7, none⟩ (.int .u64 0)).setCell ⟨w.heap.size + 1, 8, none⟩ (.int .i64 0)).setCell ⟨w.heap.size + 1, 9, none⟩ (.slice none 0 0)).setCell ⟨w.heap.size + 1, 10, none⟩ (.int .i64 0)).setCell ⟨w.heap.size + 1, 11, none⟩ (.string ⟨#[]⟩) = wf from hwf]
  (try simp only [Exit.inBlock, Exit.then])
  refine bodyPost_ret (by simp [results, Tryz.results33, go_sem, s0, s1, s2, s3, s4, s5, s6, s7, s8, s9, s10, s11]; try rfl) rfl ?_
  exact ⟨rfl, r0⟩
 by_cases k4 : K = 4
 ·subst k4
  rw [show kindF 4 = 5 from by decide]
  clear h0
  have hb1 := (below1 w (.cells #[.int .i64 4, .int .u64 E, .int .i64 C, .slice a n c] 36)).alloc (by rw [size_alloc]; omega) (.cells #[.int .i64 0, .int .u64 0, .int .i64 0, .slice none 0 0, .int .u32 0, .int .u32 0, .int .i64 0, .int .u64 0, .int .i64 0, .slice none 0 0, .int .i64 0, .string ⟨#[]⟩] 38)
  have hb2 := hb1.alloc hb1.size (.cells #[.int .i64 0, .int .i64 1, .int .i64 2, .int .i64 3, .int .i64 5, .int .i64 4] 114)
  have hA0 := (IsC.new w 36 #[.int .i64 4, .int .u64 E, .int .i64 C, .slice a n c]).alloc (.cells #[.int .i64 0, .int .u64 0, .int .i64 0, .slice none 0 0, .int .u32 0, .int .u32 0, .int .i64 0, .int .u64 0, .int .i64 0, .slice none 0 0, .int .i64 0, .string ⟨#[]⟩] 38)
  have hA := hA0.alloc (.cells #[.int .i64 0, .int .i64 1, .int .i64 2, .int .i64 3, .int .i64 5, .int .i64 4] 114)
  have hZ := (IsC.new (w.alloc (.cells #[.int .i64 4, .int .u64 E, .int .i64 C, .slice a n c] 36)) 38 #[.int .i64 0, .int .u64 0, .int .i64 0, .slice none 0 0, .int .u32 0, .int .u32 0, .int .i64 0, .int .u64 0, .int .i64 0, .slice none 0 0, .int .i64 0, .string ⟨#[]⟩]).alloc (.cells #[.int .i64 0, .int .i64 1, .int .i64 2, .int .i64 3, .int .i64 5, .int .i64 4] 114)
  have hD := IsC.new ((w.alloc (.cells #[.int .i64 4, .int .u64 E, .int .i64 C, .slice a n c] 36)).alloc (.cells #[.int .i64 0, .int .u64 0, .int .i64 0, .slice none 0 0, .int .u32 0, .int .u32 0, .int .i64 0, .int .u64 0, .int .i64 0, .slice none 0 0, .int .i64 0, .string ⟨#[]⟩] 38)) 114 #[.int .i64 0, .int .i64 1, .int .i64 2, .int .i64 3, .int .i64 5, .int .i64 4]
  rw [size_alloc] at hZ
  rw [size_alloc, size_alloc] at hD
  have a0 := hA.cell 0
  have d0 := hD.cell 4
  clear hb1 hA0
  replace hA := Hd hA
  replace hZ := Hd hZ
  replace hb2 := Hd hb2
  go_enter Tryz.func33, Tryz.ntmps33
  go_upto_region 5 with fail
  obtain ⟨W, hW⟩ : ∃ W, ((w.alloc (.cells #[.int .i64 4, .int .u64 E, .int .i64 C, .slice a n c] 36)).alloc (.cells #[.int .i64 0, .int .u64 0, .int .i64 0, .slice none 0 0, .int .u32 0, .int .u32 0, .int .i64 0, .int .u64 0, .int .i64 0, .slice none 0 0, .int .i64 0, .string ⟨#[]⟩] 38)).alloc (.cells #[.int .i64 0, .int .i64 1, .int .i64 2, .int .i64 3, .int .i64 5, .int .i64 4] 114) = W := ⟨_, rfl⟩
  rw [hW] at hA hZ hb2
  rw [hW]
  replace hW := Hd hW
  clear a0 d0 hD
  have x1 := hA.out.cell 1
  have x2 := hA.out.cell 2
  have x3 := hA.out.cell 3
  obtain ⟨z0, z1, z2, z3, z4, z5, z6, z7, z8, z9, z10, z11⟩ := cells12 hZ.out
  obtain ⟨f0, f1, f2, f3, f4, f5, f6, f7, f8, f9, f10, f11⟩ := fr12 hZ.out
  have hs12 : IsC (set12 W (w.heap.size + 1) (.int .i64 5) (.int .u64 E) (.int .i64 C) (.slice a n c) (.int .u32 0) (.int .u32 0) (.int .i64 0) (.int .u64 0) (.int .i64 0) (.slice none 0 0) (.int .i64 0) (.string ⟨#[]⟩)) (w.heap.size + 1) 38 #[.int .i64 5, .int .u64 E, .int .i64 C, .slice a n c, .int .u32 0, .int .u32 0, .int .i64 0, .int .u64 0, .int .i64 0, .slice none 0 0, .int .i64 0, .string ⟨#[]⟩] := isC_set12 hZ.out
  have t0 := Hd (hs12.cell 0)
  have t1 := Hd (hs12.cell 1)
  have t2 := Hd (hs12.cell 2)
  have t3 := Hd (hs12.cell 3)
  have t4 := Hd (hs12.cell 4)
  have t5 := Hd (hs12.cell 5)
  have t6 := Hd (hs12.cell 6)
  have t7 := Hd (hs12.cell 7)
  have t8 := Hd (hs12.cell 8)
  have t9 := Hd (hs12.cell 9)
  have t10 := Hd (hs12.cell 10)
  have t11 := Hd (hs12.cell 11)
  have hfin := Hd (show Below w.heap.size w (set12 W (w.heap.size + 1) (.int .i64 5) (.int .u64 E) (.int .i64 C) (.slice a n c) (.int .u32 0) (.int .u32 0) (.int .i64 0) (.int .u64 0) (.int .i64 0) (.slice none 0 0) (.int .i64 0) (.string ⟨#[]⟩)) from below_set12 (w := W) hb2.out (by omega))
  clear hs12 hA hZ hb2
  go_wp2_with fail
  obtain ⟨wf, hwf⟩ : ∃ wf, set12 W (w.heap.size + 1) (.int .i64 5) (.int .u64 E) (.int .i64 C) (.slice a n c) (.int .u32 0) (.int .u32 0) (.int .i64 0) (.int .u64 0) (.int .i64 0) (.slice none 0 0) (.int .i64 0) (.string ⟨#[]⟩) = wf := ⟨_, rfl⟩
  have s0 := t0.out
  have s1 := t1.out
  have s2 := t2.out
  have s3 := t3.out
  have s4 := t4.out
  have s5 := t5.out
  have s6 := t6.out
  have s7 := t7.out
  have s8 := t8.out
  have s9 := t9.out
  have s10 := t10.out
  have s11 := t11.out
  have r0 := hfin.out
  rw [hwf] at s0 s1 s2 s3 s4 s5 s6 s7 s8 s9 s10 s11 r0
  rw [show (((((((((((W.setCell ⟨w.heap.size + 1, 0, none⟩ (.int .i64 5)).setCell ⟨w.heap.size + 1, 1, none⟩ (.int .u64 E)).setCell ⟨w.heap.size + 1, 2, none⟩ (.int .i64 C)).setCell ⟨w.heap.size + 1, 3, none⟩ (.slice a n c)).setCell ⟨w.heap.size + 1, 4, none⟩ (.int .u32 0)).setCell ⟨w.heap.size + 1, 5, none⟩ (.int .u32 0)).setCell ⟨w.heap.size + 1, 6, none⟩ (.int .i64 0)).setCell ⟨w.heap.size + 1, 7, none⟩ (.int .u64 0)).setCell ⟨w.heap.size + 1, 8, none⟩ (.int .i64 0)).setCell ⟨w.heap.size + 1, 9, none⟩ (.slice none 0 0)).setCell ⟨w.heap.size + 1, 10, none⟩ (.int .i64 0)).setCell ⟨w.heap.size + 1, 11, none⟩ (.string ⟨#[]⟩) = wf from hwf]
  (try simp only [Exit.inBlock, Exit.then])
  refine bodyPost_ret (by simp [results, Tryz.results33, go_sem, s0, s1, s2, s3, s4, s5, s6, s7, s8, s9, s10, s11]; try rfl) rfl ?_
  exact ⟨rfl, r0⟩
 by_cases k5 : K = 5
 ·subst k5
  rw [show kindF 5 = 4 from by decide]
  clear h0
  have hb1 := (below1 w (.cells #[.int .i64 5, .int .u64 E, .int .i64 C, .slice a n c] 36)).alloc (by rw [size_alloc]; omega) (.cells #[.int .i64 0, .int .u64 0, .int .i64 0, .slice none 0 0, .int .u32 0, .int .u32 0, .int .i64 0, .int .u64 0, .int .i64 0, .slice none 0 0, .int .i64 0, .string ⟨#[]⟩] 38)
  have hb2 := hb1.alloc hb1.size (.cells #[.int .i64 0, .int .i64 1, .int .i64 2, .int .i64 3, .int .i64 5, .int .i64 4] 114)
  have hA0 := (IsC.new w 36 #[.int .i64 5, .int .u64 E, .int .i64 C, .slice a n c]).alloc (.cells #[.int .i64 0, .int .u64 0, .int .i64 0, .slice none 0 0, .int .u32 0, .int .u32 0, .int .i64 0, .int .u64 0, .int .i64 0, .slice none 0 0, .int .i64 0, .string ⟨#[]⟩] 38)
  have hA := hA0.alloc (.cells #[.int .i64 0, .int .i64 1, .int .i64 2, .int .i64 3, .int .i64 5, .int .i64 4] 114)
  have hZ := (IsC.new (w.alloc (.cells #[.int .i64 5, .int .u64 E, .int .i64 C, .slice a n c] 36)) 38 #[.int .i64 0, .int .u64 0, .int .i64 0, .slice none 0 0, .int .u32 0, .int .u32 0, .int .i64 0, .int .u64 0, .int .i64 0, .slice none 0 0, .int .i64 0, .string ⟨#[]⟩]).alloc (.cells #[.int .i64 0, .int .i64 1, .int .i64 2, .int .i64 3, .int .i64 5, .int .i64 4] 114)
  have hD := IsC.new ((w.alloc (.cells #[.int .i64 5, .int .u64 E, .int .i64 C, .slice a n c] 36)).alloc (.cells #[.int .i64 0, .int .u64 0, .int .i64 0, .slice none 0 0, .int .u32 0, .int .u32 0, .int .i64 0, .int .u64 0, .int .i64 0, .slice none 0 0, .int .i64 0, .string ⟨#[]⟩] 38)) 114 #[.int .i64 0, .int .i64 1, .int .i64 2, .int .i64 3, .int .i64 5, .int .i64 4]
  rw [size_alloc] at hZ
  rw [size_alloc, size_alloc] at hD
  have a0 := hA.cell 0
  have d0 := hD.cell 5
  clear hb1 hA0
  replace hA := Hd hA
  replace hZ := Hd hZ
  replace hb2 := Hd hb2
  go_enter Tryz.func33, Tryz.ntmps33
  go_upto_region 5 with fail
  obtain ⟨W, hW⟩ : ∃ W, ((w.alloc (.cells #[.int .i64 5, .int .u64 E, .int .i64 C, .slice a n c] 36)).alloc (.cells #[.int .i64 0, .int .u64 0, .int .i64 0, .slice none 0 0, .int .u32 0, .int .u32 0, .int .i64 0, .int .u64 0, .int .i64 0, .slice none 0 0, .int .i64 0, .string ⟨#[]⟩] 38)).alloc (.cells #[.int .i64 0, .int .i64 1, .int .i64 2, .int .i64 3, .int .i64 5, .int .i64 4] 114) = W := ⟨_, rfl⟩
  rw [hW] at hA hZ hb2
  rw [hW]
  replace hW := Hd hW
  clear a0 d0 hD
  have x1 := hA.out.cell 1
  have x2 := hA.out.cell 2
  have x3 := hA.out.cell 3
  obtain ⟨z0, z1, z2, z3, z4, z5, z6, z7, z8, z9, z10, z11⟩ := cells12 hZ.out
  obtain ⟨f0, f1, f2, f3, f4, f5, f6, f7, f8, f9, f10, f11⟩ := fr12 hZ.out
  have hs12 : IsC (set12 W (w.heap.size + 1) (.int .i64 4) (.int .u64 E) (.int .i64 C) (.slice a n c) (.int .u32 0) (.int .u32 0) (.int .i64 0) (.int .u64 0) (.int .i64 0) (.slice none 0 0) (.int .i64 0) (.string ⟨#[]⟩)) (w.heap.size + 1) 38 #[.int .i64 4, .int .u64 E, .int .i64 C, .slice a n c, .int .u32 0, .int .u32 0, .int .i64 0, .int .u64 0, .int .i64 0, .slice none 0 0, .int .i64 0, .string ⟨#[]⟩] := isC_set12 hZ.out
  have t0 := Hd (hs12.cell 0)
  have t1 := Hd (hs12.cell 1)
  have t2 := Hd (hs12.cell 2)
  have t3 := Hd (hs12.cell 3)
  have t4 := Hd (hs12.cell 4)
  have t5 := Hd (hs12.cell 5)
  have t6 := Hd (hs12.cell 6)
  have t7 := Hd (hs12.cell 7)
  have t8 := Hd (hs12.cell 8)
  have t9 := Hd (hs12.cell 9)
  have t10 := Hd (hs12.cell 10)
  have t11 := Hd (hs12.cell 11)
  have hfin := Hd (show Below w.heap.size w (set12 W (w.heap.size + 1) (.int .i64 4) (.int .u64 E) (.int .i64 C) (.slice a n c) (.int .u32 0) (.int .u32 0) (.int .i64 0) (.int .u64 0) (.int .i64 0) (.slice none 0 0) (.int .i64 0) (.string ⟨#[]⟩)) from below_set12 (w := W) hb2.out (by omega))
  clear hs12 hA hZ hb2
  go_wp2_with fail
  obtain ⟨wf, hwf⟩ : ∃ wf, set12 W (w.heap.size + 1) (.int .i64 4) (.int .u64 E) (.int .i64 C) (.slice a n c) (.int .u32 0) (.int .u32 0) (.int .i64 0) (.int .u64 0) (.int .i64 0) (.slice none 0 0) (.int .i64 0) (.string ⟨#[]⟩) = wf := ⟨_, rfl⟩
  have s0 := t0.out
  have s1 := t1.out
  have s2 := t2.out
  have s3 := t3.out
  have s4 := t4.out
  have s5 := t5.out
  have s6 := t6.out
  have s7 := t7.out
  have s8 := t8.out
  have s9 := t9.out
  have s10 := t10.out
  have s11 := t11.out
  have r0 := hfin.out
  rw [hwf] at s0 s1 s2 s3 s4 s5 s6 s7 s8 s9 s10 s11 r0
  rw [show (((((((((((W.setCell ⟨w.heap.size + 1, 0, none⟩ (.int .i64 4)).setCell ⟨w.heap.size + 1, 1, none⟩ (.int .u64 E)).setCell ⟨w.heap.size + 1, 2, none⟩ (.int .i64 C)).setCell ⟨w.heap.size + 1, 3, none⟩ (.slice a n c)).setCell ⟨w.heap.size + 1, 4, none⟩ (.int .u32 0)).setCell ⟨w.heap.size + 1, 5, none⟩ (.int .u32 0)).setCell ⟨w.heap.size + 1, 6, none⟩ (.int .i64 0)).setCell ⟨w.heap.size + 1, 7, none⟩ (.int .u64 0)).setCell ⟨w.heap.size + 1, 8, none⟩ (.int .i64 0)).setCell ⟨w.heap.size + 1, 9, none⟩ (.slice none 0 0)).setCell ⟨w.heap.size + 1, 10, none⟩ (.int .i64 0)).setCell ⟨w.heap.size + 1, 11, none⟩ (.string ⟨#[]⟩) = wf from hwf]
  (try simp only [Exit.inBlock, Exit.then])
  refine bodyPost_ret (by simp [results, Tryz.results33, go_sem, s0, s1, s2, s3, s4, s5, s6, s7, s8, s9, s10, s11]; try rfl) rfl ?_
  exact ⟨rfl, r0⟩
 omega
end Go.Proofs.YtjjgbillihedgaaGreatDoor
namespace Go.Proofs.YtjjgbillihedgaaGreatDoor
open Go.RowKit
section
variable {P : Program} {ops : Array Oper} {C : World → Prop} {Q : Exit → Act → World → Prop}
theorem wpList_of_quiet : ∀ (l : List Oper) (a : Act) (w : World), C w → wpQuiet P ops C (fun a' => ∀ w', C w' → Q .normal a' w') l a → wpList P ops Q l a w
 | [], _, w, hC, h => h w hC
 | o :: rest, a, w, hC, h => by
   unfold wpQuiet at h
   unfold wpList
   split at h
   ·rename_i hw
    rw [if_pos hw]
    left
    obtain ⟨v, h1, h2⟩ := h
    have h3 := h1 w hC
    unfold Oper.quietAt at h3
    unfold Oper.wp
    generalize (execOp a.eval o).run P w = r at h3 ⊢
    cases r with
    | ok n w' =>
      cases n with
      | value u =>
        obtain ⟨rfl, rfl⟩ := h3
        rw [Oper.upon_value]
        exact wpList_of_quiet rest _ _ hC h2
      | skip =>
        obtain ⟨rfl, rfl⟩ := h3
        rw [Oper.upon_skip]
        exact wpList_of_quiet rest _ _ hC h2
      | enter f args =>
        obtain ⟨rfl, h4⟩ := h3
        rw [Oper.upon_enter]
        refine h4.mono ?_
        rintro e w'' ⟨rfl, h5⟩
        exact wpList_of_quiet rest _ _ h5 h2
      | _ => exact h3.elim
    | _ => exact h3.elim
   ·rename_i hw
    rw [if_neg hw]
    exact wpList_of_quiet rest _ _ hC h
end
theorem wp_region_quietF {P : Program} {id : Nat} {Q : Exit → Act → World → Prop} {a : Act} {w : World} {l : List Oper}
 (h : wpQuiet P l.toArray (fun w' => ∃ n, w' = w.drewN n) (fun a' => ∀ w', (∃ n, w' = w.drewN n) → Q .normal a' w') l a) : (Code.region id l.toArray false).wp P Q a w :=
 wp_region_lit (wpList_of_quiet (C := fun w' => ∃ n, w' = w.drewN n) l a w ⟨0, rfl⟩ h)
abbrev Qs := @Calls.quiet_of_same
end Go.Proofs.YtjjgbillihedgaaGreatDoor
