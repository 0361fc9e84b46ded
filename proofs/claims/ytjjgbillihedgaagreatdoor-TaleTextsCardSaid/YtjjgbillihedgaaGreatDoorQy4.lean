/- parts of the proof, merged: WvW, WvW2, WvW3, WvW4, WvW5, WvW6 -/
import Derived.Laws.Externs
import Derived.Shelf.Spec.BitsCarry
import Derived.Shelf.Bits.Mul64
import Derived.Deep.DrawnRows
import Derived.Test.YtjjgbillihedgaaGreatDoorQy2
set_option maxHeartbeats 8000000
set_option maxRecDepth 10000
namespace Go.Proofs.YtjjgbillihedgaaGreatDoor
open Go.RowKit
open Rf
open Wide
def wv (x : WI) : Value := .agg #[.bool x.n, .int .u64 x.h, .int .u64 x.l]
/-- block b is a number of the call's own -/
def IsN (w : World) (b : Nat) (x : WI) : Prop := w.heap[b]? = some (.cells #[.bool x.n, .int .u64 x.h, .int .u64 x.l] 61 (0, 0))
section
variable {w w' : World} {b : Nat} {x : WI}
theorem IsN.lt (h : IsN w b x) : b < w.heap.size := lt_of_block h
theorem IsN.c0 (h : IsN w b x) : w.cell? ⟨b, 0, none⟩ = some (.bool x.n) := by unfold IsN at h; simp [World.cell?, h]
theorem IsN.c1 (h : IsN w b x) : w.cell? ⟨b, 1, none⟩ = some (.int .u64 x.h) := by unfold IsN at h; simp [World.cell?, h]
theorem IsN.c2 (h : IsN w b x) : w.cell? ⟨b, 2, none⟩ = some (.int .u64 x.l) := by unfold IsN at h; simp [World.cell?, h]
theorem IsN.f (h : IsN w b x) (i : Nat) : w.frozen? ⟨b, i, none⟩ = false := by unfold IsN at h; simp [World.frozen?, h]
theorem IsN.below (h : IsN w b x) (hb : Below w.heap.size w w') : IsN w' b x := (hb.block b h.lt).trans h
theorem IsN.new (w : World) (x : WI) : IsN (w.alloc (.cells #[.bool x.n, .int .u64 x.h, .int .u64 x.l] 61)) w.heap.size x := heap_alloc_new w _
theorem IsN.alloc (h : IsN w b x) (o : Obj) : IsN (w.alloc o) b x := h.below ((Below.refl _ _).alloc (Nat.le_refl _) o)
end
theorem wsize_alloc (w : World) (o : Obj) : (w.alloc o).heap.size = w.heap.size + 1 := by simp
theorem wbelow1 (w : World) (o : Obj) : Below w.heap.size w (w.alloc o) := (Below.refl _ _).alloc (Nat.le_refl _) _
theorem below2 (w : World) (o p : Obj) : Below w.heap.size w ((w.alloc o).alloc p) := (wbelow1 w o).alloc (by rw [wsize_alloc]; omega) _
theorem below3 (w : World) (o p q : Obj) : Below w.heap.size w (((w.alloc o).alloc p).alloc q) := (below2 w o p).alloc (by rw [wsize_alloc, wsize_alloc]; omega) _
theorem or_nil (h l : Int) (h0 : 0 ≤ h) (h1 : h ≤ 18446744073709551615) (l0 : 0 ≤ l) (l1 : l ≤ 18446744073709551615) : (bits .or .u64 h l == 0) = nil2 h l := by
 obtain ⟨m, rfl⟩ := Int.eq_ofNat_of_zero_le h0
 obtain ⟨k, rfl⟩ := Int.eq_ofNat_of_zero_le l0
 rw [u64_or_nat m k (by omega) (by omega)]
 cases e : nil2 (m : Int) (k : Int) with
 | true =>
   obtain ⟨a, b⟩ := nil2_true e
   have : m = 0 := by omega
   have : k = 0 := by omega
   subst m; subst k; rfl
 | false =>
   have := nil2_false e
   refine beq_eq_false_iff_ne.2 fun hh => ?_
   have h2 : m ||| k = 0 := by exact_mod_cast hh
   have := Nat.or_eq_zero_iff.1 h2
   omega
theorem form_c (x : WI) (ho : x.Ok) (w : World) : Calls Tryz.prog 92 #[wv x] w fun e w' => e = .returned (.bool x.form) ∧ Below w.heap.size w w' := by
 obtain ⟨n, h, l⟩ := x
 obtain ⟨o1, o2, o3, o4⟩ := ho
 dsimp only at o1 o2 o3 o4
 have t : (bits .or .u64 h l != 0) = !nil2 h l := by rw [bne, or_nil h l o1 o2 o3 o4]
 unfold wv WI.form
 dsimp only
 by_cases h1 : h < 9223372036854775808
 ·rw [decide_eq_true h1]
  cases n with
  | false =>
    go_enter Tryz.func92, Tryz.ntmps92
    go_wp2
    go_ret
    exact ⟨rfl, (Below.refl _ _).alloc (Nat.le_refl _) _⟩
  | true =>
    generalize nil2 h l = z at *
    cases z <;>
    ·go_enter Tryz.func92, Tryz.ntmps92
     go_wp2
     go_ret
     exact ⟨rfl, (Below.refl _ _).alloc (Nat.le_refl _) _⟩
 ·rw [decide_eq_false h1]
  go_enter Tryz.func92, Tryz.ntmps92
  go_wp2
  go_ret
  exact ⟨rfl, (Below.refl _ _).alloc (Nat.le_refl _) _⟩
theorem made_c (n : Bool) (h l : Int) (o1 : 0 ≤ h) (o2 : h ≤ 18446744073709551615) (o3 : 0 ≤ l) (o4 : l ≤ 18446744073709551615) (w : World) :
 Calls Tryz.prog 48 #[.bool n, .int .u64 h, .int .u64 l] w fun e w' => e = .returned (wv (made n h l)) ∧ Below w.heap.size w w' := by
 have t : (bits .or .u64 h l != 0) = !nil2 h l := by rw [bne, or_nil h l o1 o2 o3 o4]
 unfold wv made
 dsimp only
 generalize nil2 h l = z at *
 cases n <;> cases z <;>
 ·go_enter Tryz.func48, Tryz.ntmps48
  go_wp2
  go_returns
  exact ⟨rfl, (Below.refl _ _).alloc (Nat.le_refl _) _⟩
theorem ofWord_c (n : Int) (w : World) : Calls Tryz.prog 49 #[.int .u64 n] w fun e w' => e = .returned (wv ⟨false, 0, n⟩) ∧ Below w.heap.size w w' := by
 unfold wv
 go_enter Tryz.func49, Tryz.ntmps49
 go_wp2
 go_returns
 exact ⟨rfl, (Below.refl _ _).alloc (Nat.le_refl _) _⟩
end Go.Proofs.YtjjgbillihedgaaGreatDoor
namespace Go.Proofs.YtjjgbillihedgaaGreatDoor
open Go.RowKit
open Rf
open Wide
abbrev oN (x : WI) : Obj := .cells #[.bool x.n, .int .u64 x.h, .int .u64 x.l] 61
theorem IsN.all {w : World} {b : Nat} {x : WI} (h : IsN w b x) : w.cell? ⟨b, 0, none⟩ = some (.bool x.n) ∧ w.cell? ⟨b, 1, none⟩ = some (.int .u64 x.h) ∧ w.cell? ⟨b, 2, none⟩ = some (.int .u64 x.l) := ⟨h.c0, h.c1, h.c2⟩
theorem one_new {w w1 : World} {x : WI} (hb : Below (w.alloc (oN x)).heap.size (w.alloc (oN x)) w1) : IsN w1 w.heap.size x ∧ Below w.heap.size w w1 :=
 ⟨(IsN.new w x).below hb, (wbelow1 w _).trans (hb.mono (by rw [wsize_alloc]; omega))⟩
theorem two_new {w w1 : World} {x y : WI} (hb : Below ((w.alloc (oN x)).alloc (oN y)).heap.size ((w.alloc (oN x)).alloc (oN y)) w1) :
 IsN w1 w.heap.size x ∧ IsN w1 (w.heap.size + 1) y ∧ Below w.heap.size w w1 := by
 refine ⟨((IsN.new w x).alloc _).below hb, ?_, (below2 w _ _).trans (hb.mono (by rw [wsize_alloc, wsize_alloc]; omega))⟩
 have := (IsN.new (w.alloc (oN x)) y).below hb
 rwa [wsize_alloc] at this
theorem three_new {w w1 : World} {x y z : WI} (hb : Below (((w.alloc (oN x)).alloc (oN y)).alloc (oN z)).heap.size (((w.alloc (oN x)).alloc (oN y)).alloc (oN z)) w1) :
 IsN w1 w.heap.size x ∧ IsN w1 (w.heap.size + 1) y ∧ IsN w1 (w.heap.size + 2) z ∧ Below w.heap.size w w1 := by
 refine ⟨(((IsN.new w x).alloc _).alloc _).below hb, ?_, ?_, (below3 w _ _ _).trans (hb.mono (by rw [wsize_alloc, wsize_alloc, wsize_alloc]; omega))⟩
 ·have := ((IsN.new (w.alloc (oN x)) y).alloc _).below hb
  rwa [wsize_alloc] at this
 ·have := (IsN.new ((w.alloc (oN x)).alloc (oN y)) z).below hb
  rwa [wsize_alloc, wsize_alloc] at this
theorem sgn_pos {v : Int} (h : 0 < v) : sgn v = 1 := by unfold sgn; rw [if_neg (by omega), if_neg (by omega)]
theorem sgn_neg {v : Int} (h : v < 0) : sgn v = -1 := by unfold sgn; rw [if_pos h]
theorem sgn_nil : sgn 0 = 0 := rfl
theorem size_c (x y : WI) (ho : x.Ok) (hp : y.Ok) (w : World) : Calls Tryz.prog 172 #[wv x, wv y] w fun e w' => e = .returned (.int .i64 (sgn (x.sz - y.sz))) ∧ Below w.heap.size w w' := by
 obtain ⟨n, h, l⟩ := x
 obtain ⟨m, g, k⟩ := y
 obtain ⟨o1, o2, o3, o4⟩ := ho
 obtain ⟨p1, p2, p3, p4⟩ := hp
 dsimp only at o1 o2 o3 o4 p1 p2 p3 p4
 unfold wv WI.sz
 dsimp only
 rcases Int.lt_trichotomy h g with hh | hh | hh
 ·have t : (h == g) = false := beq_eq_false_iff_ne.2 (by omega)
  rw [sgn_neg (by omega)]
  go_enter Tryz.func172, Tryz.ntmps172
  go_wp2
  go_ret
  exact ⟨rfl, below2 _ _ _⟩
 ·subst hh
  rcases Int.lt_trichotomy l k with hl | hl | hl
  ·have t : (l == k) = false := beq_eq_false_iff_ne.2 (by omega)
   rw [sgn_neg (by omega)]
   go_enter Tryz.func172, Tryz.ntmps172
   go_wp2
   go_ret
   exact ⟨rfl, below2 _ _ _⟩
  ·subst hl
   rw [Int.sub_self, sgn_nil]
   go_enter Tryz.func172, Tryz.ntmps172
   go_wp2
   go_ret
   exact ⟨rfl, below2 _ _ _⟩
  ·rw [sgn_pos (by omega)]
   go_enter Tryz.func172, Tryz.ntmps172
   go_wp2
   go_ret
   exact ⟨rfl, below2 _ _ _⟩
 ·rw [sgn_pos (by omega)]
  go_enter Tryz.func172, Tryz.ntmps172
  go_wp2
  go_ret
  exact ⟨rfl, below2 _ _ _⟩
theorem run_add64_here (x y c : Int) (hx : 0 ≤ x) (hy : 0 ≤ y) (hc0 : 0 ≤ c) (hc : c ≤ 1) (w : World) :
 (callFunc 170 #[.int .u64 x, .int .u64 y, .int .u64 c]).run Tryz.prog w = .ok (.value (.tuple #[.int .u64 ((x + y + c) % 18446744073709551616), .int .u64 ((x + y + c) / 18446744073709551616)])) w := by
 rw [run_callFunc_extern Tryz.func170 (by kernel_rfl) (by kernel_rfl) (by kernel_rfl) (e := add64Entry) (by kernel_rfl), run_add64 x y c hx hy hc0 hc]
 rfl
theorem run_sub64_here (x y b : Int) (hx : 0 ≤ x) (hy : 0 ≤ y) (hy1 : y ≤ 18446744073709551615) (hb0 : 0 ≤ b) (hb : b ≤ 1) (w : World) :
 (callFunc 173 #[.int .u64 x, .int .u64 y, .int .u64 b]).run Tryz.prog w = .ok (.value (.tuple #[.int .u64 ((x - y - b) % 18446744073709551616), .int .u64 (if x < y + b then 1 else 0)])) w := by
 obtain ⟨X, rfl⟩ := Int.eq_ofNat_of_zero_le hx
 obtain ⟨Y, rfl⟩ := Int.eq_ofNat_of_zero_le hy
 obtain ⟨B, rfl⟩ := Int.eq_ofNat_of_zero_le hb0
 rw [run_callFunc_extern Tryz.func173 (by kernel_rfl) (by kernel_rfl) (by kernel_rfl) (e := sub64Entry) (by kernel_rfl), run_sub64 X Y B (by omega)]
 have e1 : (((X + 18446744073709551616 - Y - B) % 18446744073709551616 : Nat) : Int) = ((X : Int) - Y - B) % 18446744073709551616 := by omega
 have e2 : ((if X < Y + B then 1 else 0 : Nat) : Int) = if (X : Int) < Y + B then 1 else 0 := by
  by_cases h : X < Y + B
  ·rw [if_pos h, if_pos (by omega)]; rfl
  ·rw [if_neg h, if_neg (by omega)]; rfl
 rw [e1, e2]
 rfl
theorem R_in {v : Int} (h : In v = true) : R v = (mk v, 0) := if_pos h
theorem R_out {v : Int} (h : ¬ In v = true) : R v = (zero, 3) := if_neg h
theorem below_set3 {B b : Nat} {w w1 : World} (h : Below B w w1) (hb : B ≤ b) (v0 v1 v2 : Value) : Below B w (((w1.setCell ⟨b, 0, none⟩ v0).setCell ⟨b, 1, none⟩ v1).setCell ⟨b, 2, none⟩ v2) :=
 Below.setCell (Below.setCell (Below.setCell h hb v0) hb v1) hb v2
theorem block_set {w : World} {b i : Nat} {v : Value} {cs : Array Value} {T : TypeId} {fz : Nat × Nat} (h : w.heap[b]? = some (.cells cs T fz)) : (w.setCell ⟨b, i, none⟩ v).heap[b]? = some (.cells (cs.setIfInBounds i v) T fz) := by
 show (w.heap.modify b _)[b]? = _
 rw [Array.getElem?_modify, if_pos rfl, h]
 rfl
theorem IsN.set {w : World} {b : Nat} {x : WI} (hx : IsN w b x) (n : Bool) (h l : Int) : IsN (((w.setCell ⟨b, 0, none⟩ (.bool n)).setCell ⟨b, 1, none⟩ (.int .u64 h)).setCell ⟨b, 2, none⟩ (.int .u64 l)) b ⟨n, h, l⟩ :=
 block_set (block_set (block_set hx))
theorem check_c (x y : WI) (ho : x.Ok) (hp : y.Ok) (d : Bool) (w : World) : Calls Tryz.prog 168 #[wv x, wv y, .bool d] w fun e w' => e = .returned (.int .i64 (if (x.form && y.form && !(d && nil2 y.h y.l)) = true then 0 else 1)) ∧ Below w.heap.size w w' := by
 have cx := form_c x ho
 have cy := form_c y hp
 have t := or_nil y.h y.l hp.1 hp.2.1 hp.2.2.1 hp.2.2.2
 generalize x.form = f at *
 generalize y.form = g at *
 generalize nil2 y.h y.l = z at *
 clear ho hp
 obtain ⟨n, h, l⟩ := x
 obtain ⟨m, j, k⟩ := y
 replace cx := Hd cx
 replace cy := Hd cy
 unfold wv at *
 dsimp only at *
 cases f with
 | false =>
   clear t
   go_enter Tryz.func168, Tryz.ntmps168
   go_wp2_with fail
   refine (cx.out _).mono ?_
   rintro e w1 ⟨rfl, hb1⟩
   obtain ⟨gx, gy, hb⟩ := two_new (x := ⟨n, h, l⟩) (y := ⟨m, j, k⟩) hb1
   clear gx gy hb1
   go_wp2_with fail
   go_ret
   exact ⟨rfl, hb⟩
 | true =>
   cases g with
   | false =>
     clear t
     go_enter Tryz.func168, Tryz.ntmps168
     go_wp2_with fail
     refine (cx.out _).mono ?_
     rintro e w1 ⟨rfl, hb1⟩
     obtain ⟨gx, gy, hb⟩ := two_new (x := ⟨n, h, l⟩) (y := ⟨m, j, k⟩) hb1
     obtain ⟨y0, y1, y2⟩ := gy.all
     dsimp only at y0 y1 y2
     have hs := hb.size
     clear gx gy hb1
     go_wp2_with fail
     refine (cy.out _).mono ?_
     rintro e w2 ⟨rfl, hb2⟩
     replace hb2 := hb.trans (hb2.mono hs)
     clear hb y0 y1 y2
     go_wp2_with fail
     go_ret
     exact ⟨rfl, hb2⟩
   | true =>
     cases d <;> cases z <;>
     ·go_enter Tryz.func168, Tryz.ntmps168
      go_wp2_with fail
      refine (cx.out _).mono ?_
      rintro e w1 ⟨rfl, hb1⟩
      obtain ⟨gx, gy, hb⟩ := two_new (x := ⟨n, h, l⟩) (y := ⟨m, j, k⟩) hb1
      obtain ⟨y0, y1, y2⟩ := gy.all
      dsimp only at y0 y1 y2
      have hs := hb.size
      clear gx hb1
      replace gy := Hd gy
      go_wp2_with fail
      refine (cy.out _).mono ?_
      rintro e w2 ⟨rfl, hb2⟩
      clear y0 y1 y2
      obtain ⟨y0, y1, y2⟩ := (gy.out.below hb2).all
      dsimp only at y0 y1 y2
      replace hb2 := hb.trans (hb2.mono hs)
      clear hb gy
      go_wp2_with fail
      go_ret
      exact ⟨rfl, hb2⟩
theorem fit_c (n : Bool) (h l : Int) (o1 : 0 ≤ h) (o2 : h ≤ 18446744073709551615) (o3 : 0 ≤ l) (o4 : l ≤ 18446744073709551615) (w : World) :
 Calls Tryz.prog 171 #[.bool n, .int .u64 h, .int .u64 l] w fun e w' => e = .returned (.tuple #[wv (R (neg n (h * 18446744073709551616 + l))).1, .int .i64 (R (neg n (h * 18446744073709551616 + l))).2]) ∧ Below w.heap.size w w' := by
 by_cases h1 : h < 9223372036854775808
 ·have hi : In (neg n (h * 18446744073709551616 + l)) = true := by
   rw [In_iff]; unfold neg; split <;> omega
  rw [R_in hi, ← made_mk n h l o1 o3 o4]
  have cm := Hd (made_c n h l o1 o2 o3 o4)
  generalize made n h l = r at *
  clear hi
  obtain ⟨rn, rh, rl⟩ := r
  unfold wv at *
  dsimp only at *
  go_enter Tryz.func171, Tryz.ntmps171
  go_wp2_with fail
  refine (cm.out _).mono ?_
  rintro e w1 ⟨rfl, hb1⟩
  obtain ⟨gz, hb⟩ := one_new (x := ⟨false, 0, 0⟩) hb1
  have hs := hb.size
  obtain ⟨z0, z1, z2⟩ := gz.all
  have zf := gz.f
  obtain ⟨r0, r1, r2⟩ := (gz.set rn rh rl).all
  dsimp only at r0 r1 r2
  clear hb1 gz
  go_wp2_with fail
  (try simp only [Exit.inBlock, Exit.then])
  refine bodyPost_ret (by simp [results, Tryz.results171, go_sem, r0, r1, r2]; try rfl) rfl ?_
  exact ⟨rfl, below_set3 hb (by omega) _ _ _⟩
 ·have hi : ¬ In (neg n (h * 18446744073709551616 + l)) = true := by
   rw [In_iff]; unfold neg; split <;> omega
  rw [R_out hi]
  clear hi
  unfold wv zero
  dsimp only
  go_enter Tryz.func171, Tryz.ntmps171
  go_wp2_with fail
  go_returns
  exact ⟨rfl, wbelow1 _ _⟩
theorem IsN.set_other {w : World} {b c i : Nat} {v : Value} {x : WI} (h : IsN w b x) (hne : b ≠ c) : IsN (w.setCell ⟨c, i, none⟩ v) b x := by
 unfold IsN at *
 show (w.heap.modify c _)[b]? = _
 rw [Array.getElem?_modify, if_neg (fun hh => hne hh.symm)]
 exact h
theorem IsN.set3_other {w : World} {b c : Nat} {v0 v1 v2 : Value} {x : WI} (h : IsN w b x) (hne : b ≠ c) : IsN (((w.setCell ⟨c, 0, none⟩ v0).setCell ⟨c, 1, none⟩ v1).setCell ⟨c, 2, none⟩ v2) b x := ((h.set_other hne).set_other hne).set_other hne
/-- a result's cell behind the last call: the three stores, and what stands there -/
theorem last_set {B b : Nat} {w w1 : World} {x : WI} (hz : IsN w1 b x) (r : WI) (h : Below B w w1) (hb : B ≤ b) :
 (((w1.setCell ⟨b, 0, none⟩ (.bool r.n)).setCell ⟨b, 1, none⟩ (.int .u64 r.h)).setCell ⟨b, 2, none⟩ (.int .u64 r.l)).cell? ⟨b, 0, none⟩ = some (.bool r.n) ∧
 (((w1.setCell ⟨b, 0, none⟩ (.bool r.n)).setCell ⟨b, 1, none⟩ (.int .u64 r.h)).setCell ⟨b, 2, none⟩ (.int .u64 r.l)).cell? ⟨b, 1, none⟩ = some (.int .u64 r.h) ∧
 (((w1.setCell ⟨b, 0, none⟩ (.bool r.n)).setCell ⟨b, 1, none⟩ (.int .u64 r.h)).setCell ⟨b, 2, none⟩ (.int .u64 r.l)).cell? ⟨b, 2, none⟩ = some (.int .u64 r.l) ∧
 Below B w (((w1.setCell ⟨b, 0, none⟩ (.bool r.n)).setCell ⟨b, 1, none⟩ (.int .u64 r.h)).setCell ⟨b, 2, none⟩ (.int .u64 r.l)) :=
 ⟨(hz.set r.n r.h r.l).c0, (hz.set r.n r.h r.l).c1, (hz.set r.n r.h r.l).c2, below_set3 h hb _ _ _⟩
theorem add_c (x y : WI) (ho : x.Ok) (hp : y.Ok) (w : World) : Calls Tryz.prog 151 #[wv x, wv y] w fun e w' => e = .returned (.tuple #[wv (addF x y).1, .int .i64 (addF x y).2]) ∧ Below w.heap.size w w' := by
 have cc := check_c x y ho hp false
 rw [Bool.false_and, Bool.not_false, Bool.and_true] at cc
 unfold addF
 by_cases hb : (x.form && y.form) = true
 ·rw [if_pos hb] at cc ⊢
  obtain ⟨hf, hg⟩ : x.form = true ∧ y.form = true := by simpa using hb
  have fx := form_lt hf
  have fy := form_lt hg
  have cs := size_c x y ho hp
  replace cc := Hd cc
  obtain ⟨n, h, l⟩ := x
  obtain ⟨m, g, k⟩ := y
  obtain ⟨o1, o2, o3, o4⟩ := ho
  obtain ⟨p1, p2, p3, p4⟩ := hp
  dsimp only at o1 o2 o3 o4 p1 p2 p3 p4 fx fy
  clear hb hf hg
  by_cases hnm : n = m
  ·subst hnm
   obtain ⟨lo, hlo⟩ : ∃ lo, (l + k + 0) % 18446744073709551616 = lo := ⟨_, rfl⟩
   obtain ⟨c, hc⟩ : ∃ c, (l + k + 0) / 18446744073709551616 = c := ⟨_, rfl⟩
   obtain ⟨hi, hhi⟩ : ∃ hi, (h + g + c) % 18446744073709551616 = hi := ⟨_, rfl⟩
   obtain ⟨c2, hc2⟩ : ∃ c2, (h + g + c) / 18446744073709551616 = c2 := ⟨_, rfl⟩
   have r1 := fun w => run_add64_here l k 0 o3 p3 (by omega) (by omega) w
   have r2 := fun w => run_add64_here h g c o1 p1 (by omega) (by omega) w
   rw [hlo, hc] at r1
   rw [hhi, hc2] at r2
   have ev : (⟨n, h, l⟩ : WI).val + (⟨n, g, k⟩ : WI).val = neg n (hi * 18446744073709551616 + lo) := by
    unfold WI.val WI.sz neg
    dsimp only
    cases n <;> simp only [if_true, if_false, Bool.false_eq_true] <;> omega
   rw [ev]
   have cf := Hd (fit_c n hi lo (by omega) (by omega) (by omega) (by omega))
   generalize R (neg n (hi * 18446744073709551616 + lo)) = r at *
   clear cs ev hlo hc hhi hc2
   unfold wv at *
   dsimp only at *
   obtain ⟨⟨rn, rh, rl⟩, rc⟩ := r
   dsimp only at *
   go_enter Tryz.func151, Tryz.ntmps151
   go_wp2_with fail
   refine (cc.out _).mono ?_
   rintro e w1 ⟨rfl, hb1⟩
   obtain ⟨gx, gy, gz, hb⟩ := three_new (x := ⟨n, h, l⟩) (y := ⟨n, g, k⟩) (z := ⟨false, 0, 0⟩) hb1
   have hs := hb.size
   obtain ⟨x0, x1, x2⟩ := gx.all
   obtain ⟨y0, y1, y2⟩ := gy.all
   dsimp only at x0 x1 x2 y0 y1 y2
   clear hb1
   replace gx := Hd gx
   replace gy := Hd gy
   replace gz := Hd gz
   replace hb := Hd hb
   go_wp2_with fail
   refine (cf.out _).mono ?_
   rintro e w9 ⟨rfl, hb9⟩
   have gz9 := gz.out.below hb9
   obtain ⟨z0, z1, z2⟩ := gz9.all
   have zf := gz9.f
   obtain ⟨r0, r1, r2, hfin⟩ := last_set (w := w) (B := w.heap.size) gz9 ⟨rn, rh, rl⟩ (hb.out.trans (hb9.mono hs)) (by omega)
   dsimp only at r0 r1 r2 hfin
   replace hfin := Hd hfin
   clear x0 x1 x2 y0 y1 y2 gx gy gz gz9 hb9 hb
   go_wp2_with fail
   (try simp only [Exit.inBlock, Exit.then])
   refine bodyPost_ret (by simp [results, Tryz.results151, go_sem, r0, r1, r2]; try rfl) rfl ?_
   exact ⟨rfl, hfin.out⟩
  ·have hm : m = !n := by cases n <;> cases m <;> simp_all
   subst hm
   clear hnm
   by_cases hs : (⟨n, h, l⟩ : WI).sz - (⟨!n, g, k⟩ : WI).sz < 0
   ·rw [sgn_neg hs] at cs
    unfold WI.sz at hs
    dsimp only at hs
    obtain ⟨lo, hlo⟩ : ∃ lo, (k - l - 0) % 18446744073709551616 = lo := ⟨_, rfl⟩
    obtain ⟨c, hc⟩ : ∃ c : Int, (if k < l + 0 then 1 else 0) = c := ⟨_, rfl⟩
    have hcb : (k < l ∧ c = 1) ∨ (¬ k < l ∧ c = 0) := by
     by_cases hkl : k < l
     ·rw [if_pos (by omega)] at hc; exact .inl ⟨hkl, hc.symm⟩
     ·rw [if_neg (by omega)] at hc; exact .inr ⟨hkl, hc.symm⟩
    obtain ⟨hi, hhi⟩ : ∃ hi, (g - h - c) % 18446744073709551616 = hi := ⟨_, rfl⟩
    obtain ⟨c2, hc2⟩ : ∃ c2 : Int, (if g < h + c then 1 else 0) = c2 := ⟨_, rfl⟩
    have r1 := fun w => run_sub64_here k l 0 p3 o3 o4 (by omega) (by omega) w
    have r2 := fun w => run_sub64_here g h c p1 o1 o2 (by omega) (by omega) w
    rw [hlo, hc] at r1
    rw [hhi, hc2] at r2
    have ev : (⟨n, h, l⟩ : WI).val + (⟨!n, g, k⟩ : WI).val = neg (!n) (hi * 18446744073709551616 + lo) := by
     unfold WI.val WI.sz neg
     dsimp only
     clear r1 r2 hc hc2 cs cc
     cases n <;> simp only [Bool.not_true, Bool.not_false, if_true, if_false, Bool.false_eq_true] <;> omega
    rw [ev]
    have hb : 0 ≤ hi ∧ hi ≤ 18446744073709551615 ∧ 0 ≤ lo ∧ lo ≤ 18446744073709551615 := by clear r1 r2 hc hc2 cs cc; omega
    have cf := Hd (fit_c (!n) hi lo hb.1 hb.2.1 hb.2.2.1 hb.2.2.2)
    generalize R (neg (!n) (hi * 18446744073709551616 + lo)) = r at *
    clear ev hlo hc hhi hc2 hcb hb hs
    replace cs := Hd cs
    unfold wv at *
    dsimp only at *
    obtain ⟨⟨rn, rh, rl⟩, rc⟩ := r
    dsimp only at *
    cases n with
    | false =>
      go_enter Tryz.func151, Tryz.ntmps151
      go_wp2_with fail
      refine (cc.out _).mono ?_
      rintro e w1 ⟨rfl, hb1⟩
      obtain ⟨gx, gy, gz, hb⟩ := three_new (x := ⟨false, h, l⟩) (y := ⟨true, g, k⟩) (z := ⟨false, 0, 0⟩) hb1
      have hs := hb.size
      obtain ⟨x0, x1, x2⟩ := gx.all
      obtain ⟨y0, y1, y2⟩ := gy.all
      dsimp only at x0 x1 x2 y0 y1 y2
      clear hb1
      replace gx := Hd gx
      replace gy := Hd gy
      replace gz := Hd gz
      replace hb := Hd hb
      go_wp2_with fail
      refine (cs.out _).mono ?_
      rintro e w2 ⟨rfl, hb2⟩
      clear x0 x1 x2 y0 y1 y2
      have gx2 := gx.out.below hb2
      have gy2 := gy.out.below hb2
      have gz2 := gz.out.below hb2
      obtain ⟨x0, x1, x2⟩ := gx2.all
      obtain ⟨y0, y1, y2⟩ := gy2.all
      have xf := gx2.f
      have yf := gy2.f
      dsimp only at x0 x1 x2 y0 y1 y2
      have vx := (gx2.set true g k).set3_other (c := w.heap.size + 1) (v0 := .bool false) (v1 := .int .u64 h) (v2 := .int .u64 l) (by omega)
      have vy := (gy2.set3_other (c := w.heap.size) (v0 := .bool true) (v1 := .int .u64 g) (v2 := .int .u64 k) (by omega)).set false h l
      have vz := (gz2.set3_other (c := w.heap.size) (v0 := .bool true) (v1 := .int .u64 g) (v2 := .int .u64 k) (by omega)).set3_other (c := w.heap.size + 1) (v0 := .bool false) (v1 := .int .u64 h) (v2 := .int .u64 l) (by omega)
      obtain ⟨s0, s1, s2⟩ := (gx2.set true g k).all
      obtain ⟨u0, u1, u2⟩ := (gy2.set3_other (c := w.heap.size) (v0 := .bool true) (v1 := .int .u64 g) (v2 := .int .u64 k) (by omega)).all
      have uf := (gy2.set3_other (c := w.heap.size) (v0 := .bool true) (v1 := .int .u64 g) (v2 := .int .u64 k) (by omega)).f
      have hb3 := below_set3 (below_set3 (hb.out.trans (hb2.mono hs)) (b := w.heap.size) (by omega) (.bool true) (.int .u64 g) (.int .u64 k)) (b := w.heap.size + 1) (by omega) (.bool false) (.int .u64 h) (.int .u64 l)
      obtain ⟨t0, t1, t2⟩ := vx.all
      obtain ⟨q0, q1, q2⟩ := vy.all
      dsimp only at s0 s1 s2 u0 u1 u2 t0 t1 t2 q0 q1 q2
      replace vz := Hd vz
      replace hb3 := Hd hb3
      have hs3 := hb3.out.size
      clear gx gy gx2 gy2 gz gz2 vx vy hb hb2 hs
      have hs := hs3
      have hb := hb3
      have gz := vz
      clear hs3 hb3 vz
      go_wp2_with fail
      refine (cf.out _).mono ?_
      rintro e w9 ⟨rfl, hb9⟩
      have gz9 := gz.out.below hb9
      obtain ⟨z0, z1, z2⟩ := gz9.all
      have zf := gz9.f
      obtain ⟨r0, r1, r2, hfin⟩ := last_set (w := w) (B := w.heap.size) gz9 ⟨rn, rh, rl⟩ (hb.out.trans (hb9.mono hs)) (by omega)
      dsimp only at r0 r1 r2 hfin
      replace hfin := Hd hfin
      clear x0 x1 x2 y0 y1 y2 s0 s1 s2 u0 u1 u2 uf xf yf t0 t1 t2 q0 q1 q2 gz gz9 hb9 hb
      go_wp2_with fail
      (try simp only [Exit.inBlock, Exit.then])
      refine bodyPost_ret (by simp [results, Tryz.results151, go_sem, r0, r1, r2]; try rfl) rfl ?_
      exact ⟨rfl, hfin.out⟩
    | true =>
      go_enter Tryz.func151, Tryz.ntmps151
      go_wp2_with fail
      refine (cc.out _).mono ?_
      rintro e w1 ⟨rfl, hb1⟩
      obtain ⟨gx, gy, gz, hb⟩ := three_new (x := ⟨true, h, l⟩) (y := ⟨false, g, k⟩) (z := ⟨false, 0, 0⟩) hb1
      have hs := hb.size
      obtain ⟨x0, x1, x2⟩ := gx.all
      obtain ⟨y0, y1, y2⟩ := gy.all
      dsimp only at x0 x1 x2 y0 y1 y2
      clear hb1
      replace gx := Hd gx
      replace gy := Hd gy
      replace gz := Hd gz
      replace hb := Hd hb
      go_wp2_with fail
      refine (cs.out _).mono ?_
      rintro e w2 ⟨rfl, hb2⟩
      clear x0 x1 x2 y0 y1 y2
      have gx2 := gx.out.below hb2
      have gy2 := gy.out.below hb2
      have gz2 := gz.out.below hb2
      obtain ⟨x0, x1, x2⟩ := gx2.all
      obtain ⟨y0, y1, y2⟩ := gy2.all
      have xf := gx2.f
      have yf := gy2.f
      dsimp only at x0 x1 x2 y0 y1 y2
      have vx := (gx2.set false g k).set3_other (c := w.heap.size + 1) (v0 := .bool true) (v1 := .int .u64 h) (v2 := .int .u64 l) (by omega)
      have vy := (gy2.set3_other (c := w.heap.size) (v0 := .bool false) (v1 := .int .u64 g) (v2 := .int .u64 k) (by omega)).set true h l
      have vz := (gz2.set3_other (c := w.heap.size) (v0 := .bool false) (v1 := .int .u64 g) (v2 := .int .u64 k) (by omega)).set3_other (c := w.heap.size + 1) (v0 := .bool true) (v1 := .int .u64 h) (v2 := .int .u64 l) (by omega)
      obtain ⟨s0, s1, s2⟩ := (gx2.set false g k).all
      obtain ⟨u0, u1, u2⟩ := (gy2.set3_other (c := w.heap.size) (v0 := .bool false) (v1 := .int .u64 g) (v2 := .int .u64 k) (by omega)).all
      have uf := (gy2.set3_other (c := w.heap.size) (v0 := .bool false) (v1 := .int .u64 g) (v2 := .int .u64 k) (by omega)).f
      have hb3 := below_set3 (below_set3 (hb.out.trans (hb2.mono hs)) (b := w.heap.size) (by omega) (.bool false) (.int .u64 g) (.int .u64 k)) (b := w.heap.size + 1) (by omega) (.bool true) (.int .u64 h) (.int .u64 l)
      obtain ⟨t0, t1, t2⟩ := vx.all
      obtain ⟨q0, q1, q2⟩ := vy.all
      dsimp only at s0 s1 s2 u0 u1 u2 t0 t1 t2 q0 q1 q2
      replace vz := Hd vz
      replace hb3 := Hd hb3
      have hs3 := hb3.out.size
      clear gx gy gx2 gy2 gz gz2 vx vy hb hb2 hs
      have hs := hs3
      have hb := hb3
      have gz := vz
      clear hs3 hb3 vz
      go_wp2_with fail
      refine (cf.out _).mono ?_
      rintro e w9 ⟨rfl, hb9⟩
      have gz9 := gz.out.below hb9
      obtain ⟨z0, z1, z2⟩ := gz9.all
      have zf := gz9.f
      obtain ⟨r0, r1, r2, hfin⟩ := last_set (w := w) (B := w.heap.size) gz9 ⟨rn, rh, rl⟩ (hb.out.trans (hb9.mono hs)) (by omega)
      dsimp only at r0 r1 r2 hfin
      replace hfin := Hd hfin
      clear x0 x1 x2 y0 y1 y2 s0 s1 s2 u0 u1 u2 uf xf yf t0 t1 t2 q0 q1 q2 gz gz9 hb9 hb
      go_wp2_with fail
      (try simp only [Exit.inBlock, Exit.then])
      refine bodyPost_ret (by simp [results, Tryz.results151, go_sem, r0, r1, r2]; try rfl) rfl ?_
      exact ⟨rfl, hfin.out⟩
   ·have hsg : 0 ≤ sgn ((⟨n, h, l⟩ : WI).sz - (⟨!n, g, k⟩ : WI).sz) := by unfold sgn; rw [if_neg hs]; split <;> omega
    generalize hsv : sgn ((⟨n, h, l⟩ : WI).sz - (⟨!n, g, k⟩ : WI).sz) = sv at *
    clear hsv
    unfold WI.sz at hs
    dsimp only at hs
    obtain ⟨lo, hlo⟩ : ∃ lo, (l - k - 0) % 18446744073709551616 = lo := ⟨_, rfl⟩
    obtain ⟨c, hc⟩ : ∃ c : Int, (if l < k + 0 then 1 else 0) = c := ⟨_, rfl⟩
    have hcb : (l < k ∧ c = 1) ∨ (¬ l < k ∧ c = 0) := by
     by_cases hkl : l < k
     ·rw [if_pos (by omega)] at hc; exact .inl ⟨hkl, hc.symm⟩
     ·rw [if_neg (by omega)] at hc; exact .inr ⟨hkl, hc.symm⟩
    obtain ⟨hi, hhi⟩ : ∃ hi, (h - g - c) % 18446744073709551616 = hi := ⟨_, rfl⟩
    obtain ⟨c2, hc2⟩ : ∃ c2 : Int, (if h < g + c then 1 else 0) = c2 := ⟨_, rfl⟩
    have r1 := fun w => run_sub64_here l k 0 o3 p3 p4 (by omega) (by omega) w
    have r2 := fun w => run_sub64_here h g c o1 p1 p2 (by omega) (by omega) w
    rw [hlo, hc] at r1
    rw [hhi, hc2] at r2
    have ev : (⟨n, h, l⟩ : WI).val + (⟨!n, g, k⟩ : WI).val = neg n (hi * 18446744073709551616 + lo) := by
     unfold WI.val WI.sz neg
     dsimp only
     clear r1 r2 hc hc2 cs cc
     cases n <;> simp only [Bool.not_true, Bool.not_false, if_true, if_false, Bool.false_eq_true] <;> omega
    rw [ev]
    have hb : 0 ≤ hi ∧ hi ≤ 18446744073709551615 ∧ 0 ≤ lo ∧ lo ≤ 18446744073709551615 := by clear r1 r2 hc hc2 cs cc; omega
    have cf := Hd (fit_c n hi lo hb.1 hb.2.1 hb.2.2.1 hb.2.2.2)
    generalize R (neg n (hi * 18446744073709551616 + lo)) = r at *
    clear ev hlo hc hhi hc2 hcb hb hs
    replace cs := Hd cs
    unfold wv at *
    dsimp only at *
    obtain ⟨⟨rn, rh, rl⟩, rc⟩ := r
    dsimp only at *
    cases n with
    | false =>
      go_enter Tryz.func151, Tryz.ntmps151
      go_wp2_with fail
      refine (cc.out _).mono ?_
      rintro e w1 ⟨rfl, hb1⟩
      obtain ⟨gx, gy, gz, hb⟩ := three_new (x := ⟨false, h, l⟩) (y := ⟨true, g, k⟩) (z := ⟨false, 0, 0⟩) hb1
      have hs := hb.size
      obtain ⟨x0, x1, x2⟩ := gx.all
      obtain ⟨y0, y1, y2⟩ := gy.all
      dsimp only at x0 x1 x2 y0 y1 y2
      clear hb1
      replace gx := Hd gx
      replace gy := Hd gy
      replace gz := Hd gz
      replace hb := Hd hb
      go_wp2_with fail
      refine (cs.out _).mono ?_
      rintro e w2 ⟨rfl, hb2⟩
      clear x0 x1 x2 y0 y1 y2
      have gx2 := gx.out.below hb2
      have gy2 := gy.out.below hb2
      have gz2 := gz.out.below hb2
      obtain ⟨x0, x1, x2⟩ := gx2.all
      obtain ⟨y0, y1, y2⟩ := gy2.all
      dsimp only at x0 x1 x2 y0 y1 y2
      replace gz2 := Hd gz2
      replace hb2 := Hd (hb.out.trans (hb2.mono hs))
      clear gx gy gx2 gy2 gz hb hs
      have hb := hb2
      have gz := gz2
      have hs := hb.out.size
      clear gz2 hb2
      go_wp2_with fail
      refine (cf.out _).mono ?_
      rintro e w9 ⟨rfl, hb9⟩
      have gz9 := gz.out.below hb9
      obtain ⟨z0, z1, z2⟩ := gz9.all
      have zf := gz9.f
      obtain ⟨r0, r1, r2, hfin⟩ := last_set (w := w) (B := w.heap.size) gz9 ⟨rn, rh, rl⟩ (hb.out.trans (hb9.mono hs)) (by omega)
      dsimp only at r0 r1 r2 hfin
      replace hfin := Hd hfin
      clear x0 x1 x2 y0 y1 y2 gz gz9 hb9 hb
      go_wp2_with fail
      (try simp only [Exit.inBlock, Exit.then])
      refine bodyPost_ret (by simp [results, Tryz.results151, go_sem, r0, r1, r2]; try rfl) rfl ?_
      exact ⟨rfl, hfin.out⟩
    | true =>
      go_enter Tryz.func151, Tryz.ntmps151
      go_wp2_with fail
      refine (cc.out _).mono ?_
      rintro e w1 ⟨rfl, hb1⟩
      obtain ⟨gx, gy, gz, hb⟩ := three_new (x := ⟨true, h, l⟩) (y := ⟨false, g, k⟩) (z := ⟨false, 0, 0⟩) hb1
      have hs := hb.size
      obtain ⟨x0, x1, x2⟩ := gx.all
      obtain ⟨y0, y1, y2⟩ := gy.all
      dsimp only at x0 x1 x2 y0 y1 y2
      clear hb1
      replace gx := Hd gx
      replace gy := Hd gy
      replace gz := Hd gz
      replace hb := Hd hb
      go_wp2_with fail
      refine (cs.out _).mono ?_
      rintro e w2 ⟨rfl, hb2⟩
      clear x0 x1 x2 y0 y1 y2
      have gx2 := gx.out.below hb2
      have gy2 := gy.out.below hb2
      have gz2 := gz.out.below hb2
      obtain ⟨x0, x1, x2⟩ := gx2.all
      obtain ⟨y0, y1, y2⟩ := gy2.all
      dsimp only at x0 x1 x2 y0 y1 y2
      replace gz2 := Hd gz2
      replace hb2 := Hd (hb.out.trans (hb2.mono hs))
      clear gx gy gx2 gy2 gz hb hs
      have hb := hb2
      have gz := gz2
      have hs := hb.out.size
      clear gz2 hb2
      go_wp2_with fail
      refine (cf.out _).mono ?_
      rintro e w9 ⟨rfl, hb9⟩
      have gz9 := gz.out.below hb9
      obtain ⟨z0, z1, z2⟩ := gz9.all
      have zf := gz9.f
      obtain ⟨r0, r1, r2, hfin⟩ := last_set (w := w) (B := w.heap.size) gz9 ⟨rn, rh, rl⟩ (hb.out.trans (hb9.mono hs)) (by omega)
      dsimp only at r0 r1 r2 hfin
      replace hfin := Hd hfin
      clear x0 x1 x2 y0 y1 y2 gz gz9 hb9 hb
      go_wp2_with fail
      (try simp only [Exit.inBlock, Exit.then])
      refine bodyPost_ret (by simp [results, Tryz.results151, go_sem, r0, r1, r2]; try rfl) rfl ?_
      exact ⟨rfl, hfin.out⟩
 ·rw [if_neg hb] at cc ⊢
  clear hb
  replace cc := Hd cc
  obtain ⟨n, h, l⟩ := x
  obtain ⟨m, g, k⟩ := y
  unfold wv zero at *
  dsimp only at *
  go_enter Tryz.func151, Tryz.ntmps151
  go_wp2_with fail
  refine (cc.out _).mono ?_
  rintro e w1 ⟨rfl, hb1⟩
  obtain ⟨gx, gy, gz, hb⟩ := three_new (x := ⟨n, h, l⟩) (y := ⟨m, g, k⟩) (z := ⟨false, 0, 0⟩) hb1
  have hs := hb.size
  obtain ⟨z0, z1, z2⟩ := gz.all
  have zf := gz.f
  obtain ⟨r0, r1, r2, hfin⟩ := last_set (w := w) (B := w.heap.size) gz ⟨false, 0, 0⟩ hb (by omega)
  dsimp only at r0 r1 r2 hfin
  replace hfin := Hd hfin
  clear gx gy gz hb1 hb
  go_wp2_with fail
  (try simp only [Exit.inBlock, Exit.then])
  refine bodyPost_ret (by simp [results, Tryz.results151, go_sem, r0, r1, r2]; try rfl) rfl ?_
  exact ⟨rfl, hfin.out⟩
attribute [local go_sem ↓] Go.wp_at_zero Go.wp_at_succ
theorem IsN.drew {w : World} {b : Nat} {x : WI} (h : IsN w b x) : IsN w.drew b x := h
theorem wbelow_drewed {B : Nat} {a w : World} (h : Below B a w) : Below B a w.drew := h.trans ⟨rfl, rfl, rfl, Nat.le_refl _, fun _ _ => rfl⟩
theorem mul64_nat (x y : Nat) (hx : x < 18446744073709551616) (hy : y < 18446744073709551616) (w : World) :
 Calls Tryz.prog 169 #[.int .u64 x, .int .u64 y] w fun e w' => e = .returned (.tuple #[.int .u64 ((x * y / 18446744073709551616 : Nat) : Int), .int .u64 ((x * y % 18446744073709551616 : Nat) : Int)]) ∧ w = w' := by
 obtain ⟨bd, bt, bw, hhi⟩ := Lib.mul64_hi x y hx hy
 have ba := Lib.half_mul_le (a := x / 4294967296) (b := y / 4294967296) (by omega) (by omega)
 have bb := Lib.half_mul_le (a := x / 4294967296) (b := y % 4294967296) (by omega) (by omega)
 have bc := Lib.half_mul_le (a := x % 4294967296) (b := y / 4294967296) (by omega) (by omega)
 have ba' : x / 4294967296 * (y / 4294967296) < 18446744073709551616 := by omega
 have bb' : x / 4294967296 * (y % 4294967296) < 18446744073709551616 := by omega
 have bc' : x % 4294967296 * (y / 4294967296) < 18446744073709551616 := by omega
 have bh1 : x / 4294967296 * (y / 4294967296) + (x / 4294967296 * (y % 4294967296) + x % 4294967296 * (y % 4294967296) / 4294967296) / 4294967296 < 18446744073709551616 := by omega
 have bh : x / 4294967296 * (y / 4294967296) + (x / 4294967296 * (y % 4294967296) + x % 4294967296 * (y % 4294967296) / 4294967296) / 4294967296 + ((x / 4294967296 * (y % 4294967296) + x % 4294967296 * (y % 4294967296) / 4294967296) % 4294967296 + x % 4294967296 * (y / 4294967296)) / 4294967296 < 18446744073709551616 := by omega
 go_enter Tryz.func169, Tryz.ntmps169
 go_wp2
 simp only [Mul64.maskN x hx, Mul64.maskN y hy, Mul64.divN, Mul64.mulN, Mul64.addN, Mul64.wrapN _ bd, Mul64.wrapN _ bb', Mul64.wrapN _ bt, Mul64.maskN _ bt, Mul64.wrapN _ bc', Mul64.wrapN _ bw, Mul64.wrapN _ ba', Mul64.wrapN _ bh1, Mul64.wrapN _ bh, Mul64.wrapM (x * y)]
 rw [hhi]
 go_ret2
 exact ⟨rfl, rfl⟩
theorem mul64_c (x y : Int) (x0 : 0 ≤ x) (x1 : x ≤ 18446744073709551615) (y0 : 0 ≤ y) (y1 : y ≤ 18446744073709551615) (w : World) :
 Calls Tryz.prog 169 #[.int .u64 x, .int .u64 y] w fun e w' => e = .returned (.tuple #[.int .u64 (x * y / 18446744073709551616), .int .u64 (x * y % 18446744073709551616)]) ∧ w = w' := by
 obtain ⟨X, rfl⟩ := Int.eq_ofNat_of_zero_le x0
 obtain ⟨Y, rfl⟩ := Int.eq_ofNat_of_zero_le y0
 have h := mul64_nat X Y (by omega) (by omega) w
 have e : ((X * Y : Nat) : Int) = (X : Int) * Y := Int.natCast_mul X Y
 rw [Int.natCast_ediv, Int.natCast_emod, e] at h
 exact h
end Go.Proofs.YtjjgbillihedgaaGreatDoor
namespace Go.Proofs.YtjjgbillihedgaaGreatDoor
open Go.RowKit
open Rf
open Wide
theorem prod_val (x y : WI) : x.val * y.val = neg (x.n != y.n) (x.sz * y.sz) := by
 unfold WI.val neg
 cases x.n <;> cases y.n <;> simp [Int.neg_mul, Int.mul_neg]
theorem prod_two (h l k : Int) : (h * 18446744073709551616 + l) * k = h * k * 18446744073709551616 + l * k := by
 rw [Int.add_mul, Int.mul_right_comm]
theorem neg_big {b : Bool} {s : Int} (h : 170141183460469231731687303715884105728 ≤ s) : ¬ In (neg b s) = true := by
 rw [In_iff]; unfold neg; cases b <;> simp <;> omega
theorem big_prod {h l g k : Int} (h0 : 1 ≤ h) (l0 : 0 ≤ l) (g0 : 1 ≤ g) (k0 : 0 ≤ k) : 170141183460469231731687303715884105728 ≤ (h * 18446744073709551616 + l) * (g * 18446744073709551616 + k) :=
 Int.le_trans (by decide) (Int.mul_le_mul (a := 18446744073709551616) (b := 18446744073709551616) (by omega) (by omega) (by decide) (by omega))
/-- what the product's two words and what is over them say -/
theorem mul_says (b : Bool) (A B : Int) (a0 : 0 ≤ A) (b0 : 0 ≤ B) (a1 : A / 18446744073709551616 ≤ 18446744073709551615) (b1 : B / 18446744073709551616 ≤ 18446744073709551615) :
 R (neg b (B * 18446744073709551616 + A)) = if nil2 (B / 18446744073709551616) ((A / 18446744073709551616 + B % 18446744073709551616 + 0) / 18446744073709551616) = true
  then R (neg b ((A / 18446744073709551616 + B % 18446744073709551616 + 0) % 18446744073709551616 * 18446744073709551616 + A % 18446744073709551616)) else (zero, 3) := by
 split
 ·rename_i h
  obtain ⟨h1, h2⟩ := nil2_true h
  congr 2
  omega
 ·rename_i h
  have h := nil2_false (Bool.eq_false_iff.2 h)
  exact R_out (neg_big (by omega))
theorem mul_both (n m : Bool) (h l g k : Int) (ho : WI.Ok ⟨n, h, l⟩) (hp : WI.Ok ⟨m, g, k⟩) (hb : ((⟨n, h, l⟩ : WI).form && (⟨m, g, k⟩ : WI).form) = true) (h1 : h ≠ 0) (g1 : g ≠ 0) (w : World) : Calls Tryz.prog 150 #[wv ⟨n, h, l⟩, wv ⟨m, g, k⟩] w fun e w' => e = .returned (.tuple #[wv zero, .int .i64 3]) ∧ Below w.heap.size w w' := by
 have cc := check_c ⟨n, h, l⟩ ⟨m, g, k⟩ ho hp false
 rw [Bool.false_and, Bool.not_false, Bool.and_true, if_pos hb] at cc
 clear hb
 obtain ⟨o1, o2, o3, o4⟩ := ho
 obtain ⟨p1, p2, p3, p4⟩ := hp
 dsimp only at o1 o2 o3 o4 p1 p2 p3 p4
 (try unfold zero)
 unfold wv at *
 dsimp only at *
 replace cc := Hd cc
 have t1 : (h != 0) = true := by simpa using h1
 have t2 : (g != 0) = true := by simpa using g1
 have t3 : (h == 0) = false := by simpa using h1
 have t4 : (g == 0) = false := by simpa using g1
 go_enter Tryz.func150, Tryz.ntmps150
 go_wp2_with fail
 refine (cc.out _).mono ?_
 rintro e w1 ⟨rfl, hb1⟩
 obtain ⟨gx, gy, gz, hb⟩ := three_new (x := ⟨n, h, l⟩) (y := ⟨m, g, k⟩) (z := ⟨false, 0, 0⟩) hb1
 have hs := hb.size
 clear hb1
 obtain ⟨x0, x1, x2⟩ := gx.all
 obtain ⟨y0, y1, y2⟩ := gy.all
 obtain ⟨z0, z1, z2⟩ := gz.all
 have xf := gx.f
 have yf := gy.f
 have zf := gz.f
 obtain ⟨r0, r1, r2, hfin⟩ := last_set (w := w) (B := w.heap.size) gz ⟨false, 0, 0⟩ hb (by omega)
 dsimp only at r0 r1 r2 hfin
 replace hfin := Hd hfin
 dsimp only at x0 x1 x2 y0 y1 y2 z0 z1 z2
 clear gx gy gz hb
 go_wp2_with fail
 (try simp only [Exit.inBlock, Exit.then])
 refine bodyPost_ret (by simp [results, Tryz.results150, go_sem, r0, r1, r2]; try rfl) rfl ?_
 exact ⟨rfl, hfin.out⟩
theorem mul_straight_fits (n m : Bool) (h l k : Int) (ho : WI.Ok ⟨n, h, l⟩) (hp : WI.Ok ⟨m, 0, k⟩) (hb : ((⟨n, h, l⟩ : WI).form && (⟨m, 0, k⟩ : WI).form) = true) (h1 : h ≠ 0) (hz : nil2 (h * k / 18446744073709551616) ((l * k / 18446744073709551616 + h * k % 18446744073709551616 + 0) / 18446744073709551616) = true) (w : World) : Calls Tryz.prog 150 #[wv ⟨n, h, l⟩, wv ⟨m, 0, k⟩] w fun e w' => e = .returned (.tuple #[wv (R (neg (n != m) (((l * k / 18446744073709551616 + h * k % 18446744073709551616 + 0) % 18446744073709551616) * 18446744073709551616 + l * k % 18446744073709551616))).1, .int .i64 (R (neg (n != m) (((l * k / 18446744073709551616 + h * k % 18446744073709551616 + 0) % 18446744073709551616) * 18446744073709551616 + l * k % 18446744073709551616))).2]) ∧ Below w.heap.size w w' := by
 have cc := check_c ⟨n, h, l⟩ ⟨m, 0, k⟩ ho hp false
 rw [Bool.false_and, Bool.not_false, Bool.and_true, if_pos hb] at cc
 clear hb
 obtain ⟨o1, o2, o3, o4⟩ := ho
 obtain ⟨p1, p2, p3, p4⟩ := hp
 dsimp only at o1 o2 o3 o4 p1 p2 p3 p4
 (try unfold zero)
 unfold wv at *
 dsimp only at *
 replace cc := Hd cc
 have t1 : (h != 0) = true := by simpa using h1
 have t3 : (h == 0) = false := by simpa using h1
 have m1 := mul64_c l k o3 o4 p3 p4
 have m2 := mul64_c h k o1 o2 p3 p4
 have q1 : 0 ≤ l * k := Int.mul_nonneg o3 p3
 have q2 : 0 ≤ h * k := Int.mul_nonneg o1 p3
 have q3 : l * k ≤ 18446744073709551615 * 18446744073709551615 := Int.mul_le_mul o4 p4 p3 (by decide)
 have q4 : h * k ≤ 18446744073709551615 * 18446744073709551615 := Int.mul_le_mul o2 p4 p3 (by decide)
 generalize l * k = a at *
 generalize h * k = b at *
 obtain ⟨hi, hhi⟩ : ∃ hi, a / 18446744073709551616 = hi := ⟨_, rfl⟩
 obtain ⟨lo, hlo⟩ : ∃ lo, a % 18446744073709551616 = lo := ⟨_, rfl⟩
 obtain ⟨ov, hov⟩ : ∃ ov, b / 18446744073709551616 = ov := ⟨_, rfl⟩
 obtain ⟨mi, hmi⟩ : ∃ mi, b % 18446744073709551616 = mi := ⟨_, rfl⟩
 rw [hhi, hlo] at m1
 rw [hov, hmi] at m2
 rw [hov, hhi, hmi] at hz
 rw [hhi, hmi, hlo]
 have ma := fun w => run_add64_here hi mi 0 (by omega) (by omega) (by omega) (by omega) w
 obtain ⟨su, hsu⟩ : ∃ su, (hi + mi + 0) % 18446744073709551616 = su := ⟨_, rfl⟩
 obtain ⟨ca, hca⟩ : ∃ ca, (hi + mi + 0) / 18446744073709551616 = ca := ⟨_, rfl⟩
 rw [hsu, hca] at ma
 rw [hca] at hz
 rw [hsu]
 have t : (bits .or .u64 ov ca != 0) = false := by rw [bne, or_nil ov ca (by omega) (by omega) (by omega) (by omega), hz]; rfl
 have cf := Hd (fit_c (n != m) su lo (by omega) (by omega) (by omega) (by omega))
 generalize R (neg (n != m) (su * 18446744073709551616 + lo)) = r at *
 obtain ⟨⟨rn, rh, rl⟩, rc⟩ := r
 unfold wv at *
 dsimp only at *
 replace m1 := Hd m1
 replace m2 := Hd m2
 clear hhi hlo hov hmi hsu hca hz q1 q2 q3 q4
 go_enter Tryz.func150, Tryz.ntmps150
 go_wp2_with fail
 refine (cc.out _).mono ?_
 rintro e w1 ⟨rfl, hb1⟩
 obtain ⟨gx, gy, gz, hb⟩ := three_new (x := ⟨n, h, l⟩) (y := ⟨m, 0, k⟩) (z := ⟨false, 0, 0⟩) hb1
 have hs := hb.size
 clear hb1
 obtain ⟨x0, x1, x2⟩ := gx.all
 obtain ⟨y0, y1, y2⟩ := gy.all
 dsimp only at x0 x1 x2 y0 y1 y2
 replace gz := Hd gz
 replace hb := Hd hb
 clear gx gy
 go_wp2_with fail
 refine (m1.out _).mono ?_
 rintro e w2 ⟨rfl, rfl⟩
 go_wp2_with fail
 refine (m2.out _).mono ?_
 rintro e w2 ⟨rfl, rfl⟩
 go_wp2_with fail
 refine (cf.out _).mono ?_
 rintro e w9 ⟨rfl, hb9⟩
 have gz9 := gz.out.below hb9
 obtain ⟨z0, z1, z2⟩ := gz9.all
 have zf := gz9.f
 obtain ⟨r0, r1, r2, hfin⟩ := last_set (w := w) (B := w.heap.size) gz9 ⟨rn, rh, rl⟩ (hb.out.trans (hb9.mono hs)) (by omega)
 dsimp only at r0 r1 r2 hfin
 replace hfin := Hd hfin
 clear gz gz9 hb9 hb
 go_wp2_with fail
 (try simp only [Exit.inBlock, Exit.then])
 refine bodyPost_ret (by simp [results, Tryz.results150, go_sem, r0, r1, r2]; try rfl) rfl ?_
 exact ⟨rfl, hfin.out⟩
theorem mul_straight_over (n m : Bool) (h l k : Int) (ho : WI.Ok ⟨n, h, l⟩) (hp : WI.Ok ⟨m, 0, k⟩) (hb : ((⟨n, h, l⟩ : WI).form && (⟨m, 0, k⟩ : WI).form) = true) (h1 : h ≠ 0) (hz : nil2 (h * k / 18446744073709551616) ((l * k / 18446744073709551616 + h * k % 18446744073709551616 + 0) / 18446744073709551616) = false) (w : World) : Calls Tryz.prog 150 #[wv ⟨n, h, l⟩, wv ⟨m, 0, k⟩] w fun e w' => e = .returned (.tuple #[wv zero, .int .i64 3]) ∧ Below w.heap.size w w' := by
 have cc := check_c ⟨n, h, l⟩ ⟨m, 0, k⟩ ho hp false
 rw [Bool.false_and, Bool.not_false, Bool.and_true, if_pos hb] at cc
 clear hb
 obtain ⟨o1, o2, o3, o4⟩ := ho
 obtain ⟨p1, p2, p3, p4⟩ := hp
 dsimp only at o1 o2 o3 o4 p1 p2 p3 p4
 (try unfold zero)
 unfold wv at *
 dsimp only at *
 replace cc := Hd cc
 have t1 : (h != 0) = true := by simpa using h1
 have t3 : (h == 0) = false := by simpa using h1
 have m1 := mul64_c l k o3 o4 p3 p4
 have m2 := mul64_c h k o1 o2 p3 p4
 have q1 : 0 ≤ l * k := Int.mul_nonneg o3 p3
 have q2 : 0 ≤ h * k := Int.mul_nonneg o1 p3
 have q3 : l * k ≤ 18446744073709551615 * 18446744073709551615 := Int.mul_le_mul o4 p4 p3 (by decide)
 have q4 : h * k ≤ 18446744073709551615 * 18446744073709551615 := Int.mul_le_mul o2 p4 p3 (by decide)
 generalize l * k = a at *
 generalize h * k = b at *
 obtain ⟨hi, hhi⟩ : ∃ hi, a / 18446744073709551616 = hi := ⟨_, rfl⟩
 obtain ⟨lo, hlo⟩ : ∃ lo, a % 18446744073709551616 = lo := ⟨_, rfl⟩
 obtain ⟨ov, hov⟩ : ∃ ov, b / 18446744073709551616 = ov := ⟨_, rfl⟩
 obtain ⟨mi, hmi⟩ : ∃ mi, b % 18446744073709551616 = mi := ⟨_, rfl⟩
 rw [hhi, hlo] at m1
 rw [hov, hmi] at m2
 rw [hov, hhi, hmi] at hz
 have ma := fun w => run_add64_here hi mi 0 (by omega) (by omega) (by omega) (by omega) w
 obtain ⟨su, hsu⟩ : ∃ su, (hi + mi + 0) % 18446744073709551616 = su := ⟨_, rfl⟩
 obtain ⟨ca, hca⟩ : ∃ ca, (hi + mi + 0) / 18446744073709551616 = ca := ⟨_, rfl⟩
 rw [hsu, hca] at ma
 rw [hca] at hz
 have t : (bits .or .u64 ov ca != 0) = true := by rw [bne, or_nil ov ca (by omega) (by omega) (by omega) (by omega), hz]; rfl
 replace m1 := Hd m1
 replace m2 := Hd m2
 clear hhi hlo hov hmi hsu hca hz q1 q2 q3 q4
 go_enter Tryz.func150, Tryz.ntmps150
 go_wp2_with fail
 refine (cc.out _).mono ?_
 rintro e w1 ⟨rfl, hb1⟩
 obtain ⟨gx, gy, gz, hb⟩ := three_new (x := ⟨n, h, l⟩) (y := ⟨m, 0, k⟩) (z := ⟨false, 0, 0⟩) hb1
 have hs := hb.size
 clear hb1
 obtain ⟨x0, x1, x2⟩ := gx.all
 obtain ⟨y0, y1, y2⟩ := gy.all
 dsimp only at x0 x1 x2 y0 y1 y2
 replace gz := Hd gz
 replace hb := Hd hb
 clear gx gy
 go_wp2_with fail
 refine (m1.out _).mono ?_
 rintro e w2 ⟨rfl, rfl⟩
 go_wp2_with fail
 refine (m2.out _).mono ?_
 rintro e w2 ⟨rfl, rfl⟩
 have gz9 := gz.out
 obtain ⟨z0, z1, z2⟩ := gz9.all
 have zf := gz9.f
 obtain ⟨r0, r1, r2, hfin⟩ := last_set (w := w) (B := w.heap.size) gz9 ⟨false, 0, 0⟩ hb.out (by omega)
 dsimp only at r0 r1 r2 hfin
 replace hfin := Hd hfin
 clear gz gz9 hb
 go_wp2_with fail
 (try simp only [Exit.inBlock, Exit.then])
 refine bodyPost_ret (by simp [results, Tryz.results150, go_sem, r0, r1, r2]; try rfl) rfl ?_
 exact ⟨rfl, hfin.out⟩
theorem mul_swap_fits (n m : Bool) (l g k : Int) (ho : WI.Ok ⟨n, 0, l⟩) (hp : WI.Ok ⟨m, g, k⟩) (hb : ((⟨n, 0, l⟩ : WI).form && (⟨m, g, k⟩ : WI).form) = true) (hz : nil2 (g * l / 18446744073709551616) ((k * l / 18446744073709551616 + g * l % 18446744073709551616 + 0) / 18446744073709551616) = true) (w : World) : Calls Tryz.prog 150 #[wv ⟨n, 0, l⟩, wv ⟨m, g, k⟩] w fun e w' => e = .returned (.tuple #[wv (R (neg (m != n) (((k * l / 18446744073709551616 + g * l % 18446744073709551616 + 0) % 18446744073709551616) * 18446744073709551616 + k * l % 18446744073709551616))).1, .int .i64 (R (neg (m != n) (((k * l / 18446744073709551616 + g * l % 18446744073709551616 + 0) % 18446744073709551616) * 18446744073709551616 + k * l % 18446744073709551616))).2]) ∧ Below w.heap.size w w' := by
 have cc := check_c ⟨n, 0, l⟩ ⟨m, g, k⟩ ho hp false
 rw [Bool.false_and, Bool.not_false, Bool.and_true, if_pos hb] at cc
 clear hb
 obtain ⟨o1, o2, o3, o4⟩ := ho
 obtain ⟨p1, p2, p3, p4⟩ := hp
 dsimp only at o1 o2 o3 o4 p1 p2 p3 p4
 (try unfold zero)
 unfold wv at *
 dsimp only at *
 replace cc := Hd cc
 have m1 := mul64_c k l p3 p4 o3 o4
 have m2 := mul64_c g l p1 p2 o3 o4
 have q1 : 0 ≤ k * l := Int.mul_nonneg p3 o3
 have q2 : 0 ≤ g * l := Int.mul_nonneg p1 o3
 have q3 : k * l ≤ 18446744073709551615 * 18446744073709551615 := Int.mul_le_mul p4 o4 o3 (by decide)
 have q4 : g * l ≤ 18446744073709551615 * 18446744073709551615 := Int.mul_le_mul p2 o4 o3 (by decide)
 generalize k * l = a at *
 generalize g * l = b at *
 obtain ⟨hi, hhi⟩ : ∃ hi, a / 18446744073709551616 = hi := ⟨_, rfl⟩
 obtain ⟨lo, hlo⟩ : ∃ lo, a % 18446744073709551616 = lo := ⟨_, rfl⟩
 obtain ⟨ov, hov⟩ : ∃ ov, b / 18446744073709551616 = ov := ⟨_, rfl⟩
 obtain ⟨mi, hmi⟩ : ∃ mi, b % 18446744073709551616 = mi := ⟨_, rfl⟩
 rw [hhi, hlo] at m1
 rw [hov, hmi] at m2
 rw [hov, hhi, hmi] at hz
 rw [hhi, hmi, hlo]
 have ma := fun w => run_add64_here hi mi 0 (by omega) (by omega) (by omega) (by omega) w
 obtain ⟨su, hsu⟩ : ∃ su, (hi + mi + 0) % 18446744073709551616 = su := ⟨_, rfl⟩
 obtain ⟨ca, hca⟩ : ∃ ca, (hi + mi + 0) / 18446744073709551616 = ca := ⟨_, rfl⟩
 rw [hsu, hca] at ma
 rw [hca] at hz
 rw [hsu]
 have t : (bits .or .u64 ov ca != 0) = false := by rw [bne, or_nil ov ca (by omega) (by omega) (by omega) (by omega), hz]; rfl
 have cf := Hd (fit_c (m != n) su lo (by omega) (by omega) (by omega) (by omega))
 generalize R (neg (m != n) (su * 18446744073709551616 + lo)) = r at *
 obtain ⟨⟨rn, rh, rl⟩, rc⟩ := r
 unfold wv at *
 dsimp only at *
 replace m1 := Hd m1
 replace m2 := Hd m2
 clear hhi hlo hov hmi hsu hca hz q1 q2 q3 q4
 go_enter Tryz.func150, Tryz.ntmps150
 go_wp2_with fail
 refine (cc.out _).mono ?_
 rintro e w1 ⟨rfl, hb1⟩
 obtain ⟨gx, gy, gz, hb⟩ := three_new (x := ⟨n, 0, l⟩) (y := ⟨m, g, k⟩) (z := ⟨false, 0, 0⟩) hb1
 have hs := hb.size
 clear hb1
 have vx := (gx.set m g k).set3_other (c := w.heap.size + 1) (v0 := .bool n) (v1 := .int .u64 0) (v2 := .int .u64 l) (by omega)
 have vy := (gy.set3_other (c := w.heap.size) (v0 := .bool m) (v1 := .int .u64 g) (v2 := .int .u64 k) (by omega)).set n 0 l
 have vz := (gz.set3_other (c := w.heap.size) (v0 := .bool m) (v1 := .int .u64 g) (v2 := .int .u64 k) (by omega)).set3_other (c := w.heap.size + 1) (v0 := .bool n) (v1 := .int .u64 0) (v2 := .int .u64 l) (by omega)
 obtain ⟨x0, x1, x2⟩ := gx.all
 obtain ⟨y0, y1, y2⟩ := gy.all
 have xf := gx.f
 obtain ⟨s0, s1, s2⟩ := (gx.set m g k).all
 obtain ⟨u0, u1, u2⟩ := (gy.set3_other (c := w.heap.size) (v0 := .bool m) (v1 := .int .u64 g) (v2 := .int .u64 k) (by omega)).all
 have uf := (gy.set3_other (c := w.heap.size) (v0 := .bool m) (v1 := .int .u64 g) (v2 := .int .u64 k) (by omega)).f
 have hb3 := below_set3 (below_set3 hb (b := w.heap.size) (by omega) (.bool m) (.int .u64 g) (.int .u64 k)) (b := w.heap.size + 1) (by omega) (.bool n) (.int .u64 0) (.int .u64 l)
 have hs3 := hb3.size
 obtain ⟨a0, a1, a2⟩ := vx.all
 obtain ⟨b0, b1, b2⟩ := vy.all
 dsimp only at x0 x1 x2 y0 y1 y2 s0 s1 s2 u0 u1 u2 a0 a1 a2 b0 b1 b2
 replace vx := Hd vx
 replace vy := Hd vy
 replace vz := Hd vz
 replace hb3 := Hd hb3
 clear gx gy gz hb
 go_wp2_with fail
 refine (m1.out _).mono ?_
 rintro e w2 ⟨rfl, hw2⟩
 clear x0 x1 x2 y0 y1 y2 s0 s1 s2 u0 u1 u2 a0 a1 a2 b0 b1 b2 xf uf
 have gx : IsN w2 w.heap.size ⟨m, g, k⟩ := by rw [← hw2]; exact vx.out
 have gy : IsN w2 (w.heap.size + 1) ⟨n, 0, l⟩ := by rw [← hw2]; exact vy.out
 have gz : IsN w2 (w.heap.size + 2) ⟨false, 0, 0⟩ := by rw [← hw2]; exact vz.out
 have hb : Below w.heap.size w w2 := by rw [← hw2]; exact hb3.out
 have hs := hb.size
 clear hw2 vx vy vz hb3 hs3
 obtain ⟨x0, x1, x2⟩ := gx.all
 obtain ⟨y0, y1, y2⟩ := gy.all
 dsimp only at x0 x1 x2 y0 y1 y2
 replace gz := Hd gz
 replace hb := Hd hb
 clear gx gy
 go_wp2_with fail
 refine (m2.out _).mono ?_
 rintro e w2 ⟨rfl, rfl⟩
 go_wp2_with fail
 refine (cf.out _).mono ?_
 rintro e w9 ⟨rfl, hb9⟩
 have gz9 := gz.out.below hb9
 obtain ⟨z0, z1, z2⟩ := gz9.all
 have zf := gz9.f
 obtain ⟨r0, r1, r2, hfin⟩ := last_set (w := w) (B := w.heap.size) gz9 ⟨rn, rh, rl⟩ (hb.out.trans (hb9.mono hs)) (by omega)
 dsimp only at r0 r1 r2 hfin
 replace hfin := Hd hfin
 clear gz gz9 hb9 hb
 go_wp2_with fail
 (try simp only [Exit.inBlock, Exit.then])
 refine bodyPost_ret (by simp [results, Tryz.results150, go_sem, r0, r1, r2]; try rfl) rfl ?_
 exact ⟨rfl, hfin.out⟩
theorem mul_swap_over (n m : Bool) (l g k : Int) (ho : WI.Ok ⟨n, 0, l⟩) (hp : WI.Ok ⟨m, g, k⟩) (hb : ((⟨n, 0, l⟩ : WI).form && (⟨m, g, k⟩ : WI).form) = true) (hz : nil2 (g * l / 18446744073709551616) ((k * l / 18446744073709551616 + g * l % 18446744073709551616 + 0) / 18446744073709551616) = false) (w : World) : Calls Tryz.prog 150 #[wv ⟨n, 0, l⟩, wv ⟨m, g, k⟩] w fun e w' => e = .returned (.tuple #[wv zero, .int .i64 3]) ∧ Below w.heap.size w w' := by
 have cc := check_c ⟨n, 0, l⟩ ⟨m, g, k⟩ ho hp false
 rw [Bool.false_and, Bool.not_false, Bool.and_true, if_pos hb] at cc
 clear hb
 obtain ⟨o1, o2, o3, o4⟩ := ho
 obtain ⟨p1, p2, p3, p4⟩ := hp
 dsimp only at o1 o2 o3 o4 p1 p2 p3 p4
 (try unfold zero)
 unfold wv at *
 dsimp only at *
 replace cc := Hd cc
 have m1 := mul64_c k l p3 p4 o3 o4
 have m2 := mul64_c g l p1 p2 o3 o4
 have q1 : 0 ≤ k * l := Int.mul_nonneg p3 o3
 have q2 : 0 ≤ g * l := Int.mul_nonneg p1 o3
 have q3 : k * l ≤ 18446744073709551615 * 18446744073709551615 := Int.mul_le_mul p4 o4 o3 (by decide)
 have q4 : g * l ≤ 18446744073709551615 * 18446744073709551615 := Int.mul_le_mul p2 o4 o3 (by decide)
 generalize k * l = a at *
 generalize g * l = b at *
 obtain ⟨hi, hhi⟩ : ∃ hi, a / 18446744073709551616 = hi := ⟨_, rfl⟩
 obtain ⟨lo, hlo⟩ : ∃ lo, a % 18446744073709551616 = lo := ⟨_, rfl⟩
 obtain ⟨ov, hov⟩ : ∃ ov, b / 18446744073709551616 = ov := ⟨_, rfl⟩
 obtain ⟨mi, hmi⟩ : ∃ mi, b % 18446744073709551616 = mi := ⟨_, rfl⟩
 rw [hhi, hlo] at m1
 rw [hov, hmi] at m2
 rw [hov, hhi, hmi] at hz
 have ma := fun w => run_add64_here hi mi 0 (by omega) (by omega) (by omega) (by omega) w
 obtain ⟨su, hsu⟩ : ∃ su, (hi + mi + 0) % 18446744073709551616 = su := ⟨_, rfl⟩
 obtain ⟨ca, hca⟩ : ∃ ca, (hi + mi + 0) / 18446744073709551616 = ca := ⟨_, rfl⟩
 rw [hsu, hca] at ma
 rw [hca] at hz
 have t : (bits .or .u64 ov ca != 0) = true := by rw [bne, or_nil ov ca (by omega) (by omega) (by omega) (by omega), hz]; rfl
 replace m1 := Hd m1
 replace m2 := Hd m2
 clear hhi hlo hov hmi hsu hca hz q1 q2 q3 q4
 go_enter Tryz.func150, Tryz.ntmps150
 go_wp2_with fail
 refine (cc.out _).mono ?_
 rintro e w1 ⟨rfl, hb1⟩
 obtain ⟨gx, gy, gz, hb⟩ := three_new (x := ⟨n, 0, l⟩) (y := ⟨m, g, k⟩) (z := ⟨false, 0, 0⟩) hb1
 have hs := hb.size
 clear hb1
 have vx := (gx.set m g k).set3_other (c := w.heap.size + 1) (v0 := .bool n) (v1 := .int .u64 0) (v2 := .int .u64 l) (by omega)
 have vy := (gy.set3_other (c := w.heap.size) (v0 := .bool m) (v1 := .int .u64 g) (v2 := .int .u64 k) (by omega)).set n 0 l
 have vz := (gz.set3_other (c := w.heap.size) (v0 := .bool m) (v1 := .int .u64 g) (v2 := .int .u64 k) (by omega)).set3_other (c := w.heap.size + 1) (v0 := .bool n) (v1 := .int .u64 0) (v2 := .int .u64 l) (by omega)
 obtain ⟨x0, x1, x2⟩ := gx.all
 obtain ⟨y0, y1, y2⟩ := gy.all
 have xf := gx.f
 obtain ⟨s0, s1, s2⟩ := (gx.set m g k).all
 obtain ⟨u0, u1, u2⟩ := (gy.set3_other (c := w.heap.size) (v0 := .bool m) (v1 := .int .u64 g) (v2 := .int .u64 k) (by omega)).all
 have uf := (gy.set3_other (c := w.heap.size) (v0 := .bool m) (v1 := .int .u64 g) (v2 := .int .u64 k) (by omega)).f
 have hb3 := below_set3 (below_set3 hb (b := w.heap.size) (by omega) (.bool m) (.int .u64 g) (.int .u64 k)) (b := w.heap.size + 1) (by omega) (.bool n) (.int .u64 0) (.int .u64 l)
 have hs3 := hb3.size
 obtain ⟨a0, a1, a2⟩ := vx.all
 obtain ⟨b0, b1, b2⟩ := vy.all
 dsimp only at x0 x1 x2 y0 y1 y2 s0 s1 s2 u0 u1 u2 a0 a1 a2 b0 b1 b2
 replace vx := Hd vx
 replace vy := Hd vy
 replace vz := Hd vz
 replace hb3 := Hd hb3
 clear gx gy gz hb
 go_wp2_with fail
 refine (m1.out _).mono ?_
 rintro e w2 ⟨rfl, hw2⟩
 clear x0 x1 x2 y0 y1 y2 s0 s1 s2 u0 u1 u2 a0 a1 a2 b0 b1 b2 xf uf
 have gx : IsN w2 w.heap.size ⟨m, g, k⟩ := by rw [← hw2]; exact vx.out
 have gy : IsN w2 (w.heap.size + 1) ⟨n, 0, l⟩ := by rw [← hw2]; exact vy.out
 have gz : IsN w2 (w.heap.size + 2) ⟨false, 0, 0⟩ := by rw [← hw2]; exact vz.out
 have hb : Below w.heap.size w w2 := by rw [← hw2]; exact hb3.out
 have hs := hb.size
 clear hw2 vx vy vz hb3 hs3
 obtain ⟨x0, x1, x2⟩ := gx.all
 obtain ⟨y0, y1, y2⟩ := gy.all
 dsimp only at x0 x1 x2 y0 y1 y2
 replace gz := Hd gz
 replace hb := Hd hb
 clear gx gy
 go_wp2_with fail
 refine (m2.out _).mono ?_
 rintro e w2 ⟨rfl, rfl⟩
 have gz9 := gz.out
 obtain ⟨z0, z1, z2⟩ := gz9.all
 have zf := gz9.f
 obtain ⟨r0, r1, r2, hfin⟩ := last_set (w := w) (B := w.heap.size) gz9 ⟨false, 0, 0⟩ hb.out (by omega)
 dsimp only at r0 r1 r2 hfin
 replace hfin := Hd hfin
 clear gz gz9 hb
 go_wp2_with fail
 (try simp only [Exit.inBlock, Exit.then])
 refine bodyPost_ret (by simp [results, Tryz.results150, go_sem, r0, r1, r2]; try rfl) rfl ?_
 exact ⟨rfl, hfin.out⟩
end Go.Proofs.YtjjgbillihedgaaGreatDoor
