/- parts of the proof, merged: WvW3 -/
import Derived.Laws.Externs
import Derived.Shelf.Spec.BitsCarry
import Derived.Test.YtjjgbillihedgaaGreatDoorQb2
set_option maxHeartbeats 1600000
set_option maxRecDepth 10000
namespace Go.Proofs.YtjjgbillihedgaaGreatDoor
open Go.RowKit
open Rf
open Wide
theorem run_add64_here (x y c : Int) (hx : 0 ≤ x) (hy : 0 ≤ y) (hc0 : 0 ≤ c) (hc : c ≤ 1) (w : World) :
 (callFunc 170 #[.int .u64 x, .int .u64 y, .int .u64 c]).run Tryz.prog w = .ok (.value (.tuple #[.int .u64 ((x + y + c) % 18446744073709551616), .int .u64 ((x + y + c) / 18446744073709551616)])) w := by
 rw [run_callFunc_extern Tryz.func170 (by kernel_rfl) (by kernel_rfl) (by kernel_rfl) (e := add64Entry) (by kernel_rfl), run_add64 x y c hx hy hc0 hc]
 rfl
theorem run_sub64_here (x y b : Int) (hx : 0 ≤ x) (hy : 0 ≤ y) (hy1 : y ≤ 18446744073709551615) (hb0 : 0 ≤ b) (hb : b ≤ 1) (w : World) :
 (callFunc 173 #[.int .u64 x, .int .u64 y, .int .u64 b]).run Tryz.prog w = .ok (.value (.tuple #[.int .u64 ((x - y - b) % 18446744073709551616), .int .u64 (if x < y + b then 1 else 0)])) w := by
 obtain ⟨X, rfl⟩ := Int.eq_ofNat_of_zero_le hx
 obtain ⟨Y, rfl⟩ := Int.eq_ofNat_of_zero_le hy
 obtain ⟨B, rfl⟩ := Int.eq_ofNat_of_zero_le hb0
 rw [run_callFunc_extern Tryz.func173 (by kernel_rfl) (by kernel_rfl) (by kernel_rfl) (e := sub64Entry) (by kernel_rfl), run_sub64 X Y B (by omega)]
 have e1 : (((X + 18446744073709551616 - Y - B) % 18446744073709551616 : Nat) : Int) = ((X : Int) - Y - B) % 18446744073709551616 := by omega
 have e2 : ((if X < Y + B then 1 else 0 : Nat) : Int) = if (X : Int) < Y + B then 1 else 0 := by
  by_cases h : X < Y + B
  ·rw [if_pos h, if_pos (by omega)]; rfl
  ·rw [if_neg h, if_neg (by omega)]; rfl
 rw [e1, e2]
 rfl
theorem R_in {v : Int} (h : In v = true) : R v = (mk v, 0) := if_pos h
theorem R_out {v : Int} (h : ¬ In v = true) : R v = (zero, 3) := if_neg h
theorem below_set3 {B b : Nat} {w w1 : World} (h : Below B w w1) (hb : B ≤ b) (v0 v1 v2 : Value) : Below B w (((w1.setCell ⟨b, 0, none⟩ v0).setCell ⟨b, 1, none⟩ v1).setCell ⟨b, 2, none⟩ v2) :=
 Below.setCell (Below.setCell (Below.setCell h hb v0) hb v1) hb v2
theorem block_set {w : World} {b i : Nat} {v : Value} {cs : Array Value} {T : TypeId} {fz : Nat × Nat} (h : w.heap[b]? = some (.cells cs T fz)) : (w.setCell ⟨b, i, none⟩ v).heap[b]? = some (.cells (cs.setIfInBounds i v) T fz) := by
 show (w.heap.modify b _)[b]? = _
 rw [Array.getElem?_modify, if_pos rfl, h]
 rfl
theorem IsN.set {w : World} {b : Nat} {x : WI} (hx : IsN w b x) (n : Bool) (h l : Int) : IsN (((w.setCell ⟨b, 0, none⟩ (.bool n)).setCell ⟨b, 1, none⟩ (.int .u64 h)).setCell ⟨b, 2, none⟩ (.int .u64 l)) b ⟨n, h, l⟩ :=
 block_set (block_set (block_set hx))
theorem check_c (x y : WI) (ho : x.Ok) (hp : y.Ok) (d : Bool) (w : World) : Calls Tryz.prog 168 #[wv x, wv y, .bool d] w fun e w' => e = .returned (.int .i64 (if (x.form && y.form && !(d && nil2 y.h y.l)) = true then 0 else 1)) ∧ Below w.heap.size w w' := by
 have cx := form_c x ho
 have cy := form_c y hp
 have t := or_nil y.h y.l hp.1 hp.2.1 hp.2.2.1 hp.2.2.2
 generalize x.form = f at *
 generalize y.form = g at *
 generalize nil2 y.h y.l = z at *
 clear ho hp
 obtain ⟨n, h, l⟩ := x
 obtain ⟨m, j, k⟩ := y
 replace cx := Hd cx
 replace cy := Hd cy
 unfold wv at *
 dsimp only at *
 cases f with
 | false =>
   clear t
   go_enter Tryz.func168, Tryz.ntmps168
   go_wp2_with fail
   refine (cx.out _).mono ?_
   rintro e w1 ⟨rfl, hb1⟩
   obtain ⟨gx, gy, hb⟩ := two_new (x := ⟨n, h, l⟩) (y := ⟨m, j, k⟩) hb1
   clear gx gy hb1
   go_wp2_with fail
   go_ret
   exact ⟨rfl, hb⟩
 | true =>
   cases g with
   | false =>
     clear t
     go_enter Tryz.func168, Tryz.ntmps168
     go_wp2_with fail
     refine (cx.out _).mono ?_
     rintro e w1 ⟨rfl, hb1⟩
     obtain ⟨gx, gy, hb⟩ := two_new (x := ⟨n, h, l⟩) (y := ⟨m, j, k⟩) hb1
     obtain ⟨y0, y1, y2⟩ := gy.all
     dsimp only at y0 y1 y2
     have hs := hb.size
     clear gx gy hb1
     go_wp2_with fail
     refine (cy.out _).mono ?_
     rintro e w2 ⟨rfl, hb2⟩
     replace hb2 := hb.trans (hb2.mono hs)
     clear hb y0 y1 y2
     go_wp2_with fail
     go_ret
     exact ⟨rfl, hb2⟩
   | true =>
     cases d <;> cases z <;>
     ·go_enter Tryz.func168, Tryz.ntmps168
      go_wp2_with fail
      refine (cx.out _).mono ?_
      rintro e w1 ⟨rfl, hb1⟩
      obtain ⟨gx, gy, hb⟩ := two_new (x := ⟨n, h, l⟩) (y := ⟨m, j, k⟩) hb1
      obtain ⟨y0, y1, y2⟩ := gy.all
      dsimp only at y0 y1 y2
      have hs := hb.size
      clear gx hb1
      replace gy := Hd gy
      go_wp2_with fail
      refine (cy.out _).mono ?_
      rintro e w2 ⟨rfl, hb2⟩
      clear y0 y1 y2
      obtain ⟨y0, y1, y2⟩ := (gy.out.below hb2).all
      dsimp only at y0 y1 y2
      replace hb2 := hb.trans (hb2.mono hs)
      clear hb gy
      go_wp2_with fail
      go_ret
      exact ⟨rfl, hb2⟩
theorem fit_c (n : Bool) (h l : Int) (o1 : 0 ≤ h) (o2 : h ≤ 18446744073709551615) (o3 : 0 ≤ l) (o4 : l ≤ 18446744073709551615) (w : World) :
 Calls Tryz.prog 171 #[.bool n, .int .u64 h, .int .u64 l] w fun e w' => e = .returned (.tuple #[wv (R (neg n (h * 18446744073709551616 + l))).1, .int .i64 (R (neg n (h * 18446744073709551616 + l))).2]) ∧ Below w.heap.size w w' := by
 by_cases h1 : h < 9223372036854775808
 ·have hi : In (neg n (h * 18446744073709551616 + l)) = true := by
   rw [In_iff]; unfold neg; split <;> omega
  rw [R_in hi, ← made_mk n h l o1 o3 o4]
  have cm := Hd (made_c n h l o1 o2 o3 o4)
  generalize made n h l = r at *
  clear hi
  obtain ⟨rn, rh, rl⟩ := r
  unfold wv at *
  dsimp only at *
  go_enter Tryz.func171, Tryz.ntmps171
  go_wp2_with fail
  refine (cm.out _).mono ?_
  rintro e w1 ⟨rfl, hb1⟩
  obtain ⟨gz, hb⟩ := one_new (x := ⟨false, 0, 0⟩) hb1
  have hs := hb.size
  obtain ⟨z0, z1, z2⟩ := gz.all
  have zf := gz.f
  obtain ⟨r0, r1, r2⟩ := (gz.set rn rh rl).all
  dsimp only at r0 r1 r2
  clear hb1 gz
  go_wp2_with fail
  (try simp only [Exit.inBlock, Exit.then])
  refine bodyPost_ret (by simp [results, Tryz.results171, go_sem, r0, r1, r2]; try rfl) rfl ?_
  exact ⟨rfl, below_set3 hb (by omega) _ _ _⟩
 ·have hi : ¬ In (neg n (h * 18446744073709551616 + l)) = true := by
   rw [In_iff]; unfold neg; split <;> omega
  rw [R_out hi]
  clear hi
  unfold wv zero
  dsimp only
  go_enter Tryz.func171, Tryz.ntmps171
  go_wp2_with fail
  go_returns
  exact ⟨rfl, wbelow1 _ _⟩
end Go.Proofs.YtjjgbillihedgaaGreatDoor
