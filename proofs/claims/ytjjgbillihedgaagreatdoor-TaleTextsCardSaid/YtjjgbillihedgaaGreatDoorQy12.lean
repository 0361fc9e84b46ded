/- parts of the proof, merged: NmW9, NmD, NmT, WvG -/
import Derived.Test.YtjjgbillihedgaaGreatDoorQy8
import Derived.Test.YtjjgbillihedgaaGreatDoorQy11
set_option maxHeartbeats 16000000
set_option maxRecDepth 100000
namespace Go.Proofs.YtjjgbillihedgaaGreatDoor
open Go.RowKit
open Rf
open Wide
theorem do1_bad1 (xn yn : Bool) (xh xl yh yl : Int) (c1 : wRet 61 #[wv ⟨xn, xh, xl⟩] (.bool false)) : wRet 130 #[.int .i64 1, wv ⟨xn, xh, xl⟩, wv ⟨yn, yh, yl⟩] (.tuple #[wv zero, .int .i64 1]) := fun w => by
 unfold wv zero at *
 dsimp only at *
 replace c1 := Hd c1
 go_enter Tryz.func130, Tryz.ntmps130
 go_wp2_with fail
 refine (c1.out.on _).mono ?_
 rintro e w1 ⟨rfl, hbr⟩
 obtain ⟨gx, gy, gz, hb⟩ := three_new (x := ⟨xn, xh, xl⟩) (y := ⟨yn, yh, yl⟩) (z := ⟨false, 0, 0⟩) hbr
 clear hbr
 replace gx := Hd gx
 replace gy := Hd gy
 replace gz := Hd gz
 replace hb := Hd hb
 obtain ⟨z0, z1, z2⟩ := gz.out.all
 have fz := gz.out.f
 obtain ⟨r0, r1, r2, hfin⟩ := last_set gz.out ⟨false, 0, 0⟩ hb.out (by omega)
 dsimp only at z0 z1 z2 r0 r1 r2 hfin
 replace hfin := Hd hfin
 clear gx gz hb gy
 go_wp2_with fail
 (try simp only [Exit.inBlock, Exit.then])
 refine bodyPost_ret (by simp [results, Tryz.results130, go_sem, r0, r1, r2]; try rfl) rfl ?_
 exact ⟨rfl, hfin.out⟩
theorem do1_bad2 (xn yn : Bool) (xh xl yh yl : Int) (c1 : wRet 61 #[wv ⟨xn, xh, xl⟩] (.bool true)) (c2 : wRet 61 #[wv ⟨yn, yh, yl⟩] (.bool false)) : wRet 130 #[.int .i64 1, wv ⟨xn, xh, xl⟩, wv ⟨yn, yh, yl⟩] (.tuple #[wv zero, .int .i64 1]) := fun w => by
 unfold wv zero at *
 dsimp only at *
 replace c1 := Hd c1
 replace c2 := Hd c2
 go_enter Tryz.func130, Tryz.ntmps130
 go_wp2_with fail
 refine (c1.out.on _).mono ?_
 rintro e w1 ⟨rfl, hbr⟩
 obtain ⟨gx, gy, gz, hb⟩ := three_new (x := ⟨xn, xh, xl⟩) (y := ⟨yn, yh, yl⟩) (z := ⟨false, 0, 0⟩) hbr
 clear hbr
 replace gx := Hd gx
 replace gy := Hd gy
 replace gz := Hd gz
 replace hb := Hd hb
 obtain ⟨y0, y1, y2⟩ := gy.out.all
 dsimp only [zero] at y0 y1 y2
 go_wp2_with fail
 refine (c2.out.on _).mono ?_
 rintro e w2 ⟨rfl, hbr⟩
 replace gx := Hd (gx.out.below hbr)
 replace gy := Hd (gy.out.below hbr)
 replace gz := Hd (gz.out.below hbr)
 replace hb := Hd (wbelow_up hb.out hb.out.size hbr)
 clear hbr
 clear y0 y1 y2
 obtain ⟨z0, z1, z2⟩ := gz.out.all
 have fz := gz.out.f
 obtain ⟨r0, r1, r2, hfin⟩ := last_set gz.out ⟨false, 0, 0⟩ hb.out (by omega)
 dsimp only at z0 z1 z2 r0 r1 r2 hfin
 replace hfin := Hd hfin
 clear gx gz hb gy
 go_wp2_with fail
 (try simp only [Exit.inBlock, Exit.then])
 refine bodyPost_ret (by simp [results, Tryz.results130, go_sem, r0, r1, r2]; try rfl) rfl ?_
 exact ⟨rfl, hfin.out⟩
theorem do3_bad1 (xn yn : Bool) (xh xl yh yl : Int) (c1 : wRet 61 #[wv ⟨xn, xh, xl⟩] (.bool false)) : wRet 130 #[.int .i64 3, wv ⟨xn, xh, xl⟩, wv ⟨yn, yh, yl⟩] (.tuple #[wv zero, .int .i64 1]) := fun w => by
 unfold wv zero at *
 dsimp only at *
 replace c1 := Hd c1
 go_enter Tryz.func130, Tryz.ntmps130
 go_wp2_with fail
 refine (c1.out.on _).mono ?_
 rintro e w1 ⟨rfl, hbr⟩
 obtain ⟨gx, gy, gz, hb⟩ := three_new (x := ⟨xn, xh, xl⟩) (y := ⟨yn, yh, yl⟩) (z := ⟨false, 0, 0⟩) hbr
 clear hbr
 replace gx := Hd gx
 replace gy := Hd gy
 replace gz := Hd gz
 replace hb := Hd hb
 obtain ⟨z0, z1, z2⟩ := gz.out.all
 have fz := gz.out.f
 obtain ⟨r0, r1, r2, hfin⟩ := last_set gz.out ⟨false, 0, 0⟩ hb.out (by omega)
 dsimp only at z0 z1 z2 r0 r1 r2 hfin
 replace hfin := Hd hfin
 clear gx gz hb gy
 go_wp2_with fail
 (try simp only [Exit.inBlock, Exit.then])
 refine bodyPost_ret (by simp [results, Tryz.results130, go_sem, r0, r1, r2]; try rfl) rfl ?_
 exact ⟨rfl, hfin.out⟩
theorem do3_bad2 (xn yn : Bool) (xh xl yh yl : Int) (c1 : wRet 61 #[wv ⟨xn, xh, xl⟩] (.bool true)) (c2 : wRet 61 #[wv ⟨yn, yh, yl⟩] (.bool false)) : wRet 130 #[.int .i64 3, wv ⟨xn, xh, xl⟩, wv ⟨yn, yh, yl⟩] (.tuple #[wv zero, .int .i64 1]) := fun w => by
 unfold wv zero at *
 dsimp only at *
 replace c1 := Hd c1
 replace c2 := Hd c2
 go_enter Tryz.func130, Tryz.ntmps130
 go_wp2_with fail
 refine (c1.out.on _).mono ?_
 rintro e w1 ⟨rfl, hbr⟩
 obtain ⟨gx, gy, gz, hb⟩ := three_new (x := ⟨xn, xh, xl⟩) (y := ⟨yn, yh, yl⟩) (z := ⟨false, 0, 0⟩) hbr
 clear hbr
 replace gx := Hd gx
 replace gy := Hd gy
 replace gz := Hd gz
 replace hb := Hd hb
 obtain ⟨y0, y1, y2⟩ := gy.out.all
 dsimp only [zero] at y0 y1 y2
 go_wp2_with fail
 refine (c2.out.on _).mono ?_
 rintro e w2 ⟨rfl, hbr⟩
 replace gx := Hd (gx.out.below hbr)
 replace gy := Hd (gy.out.below hbr)
 replace gz := Hd (gz.out.below hbr)
 replace hb := Hd (wbelow_up hb.out hb.out.size hbr)
 clear hbr
 clear y0 y1 y2
 obtain ⟨z0, z1, z2⟩ := gz.out.all
 have fz := gz.out.f
 obtain ⟨r0, r1, r2, hfin⟩ := last_set gz.out ⟨false, 0, 0⟩ hb.out (by omega)
 dsimp only at z0 z1 z2 r0 r1 r2 hfin
 replace hfin := Hd hfin
 clear gx gz hb gy
 go_wp2_with fail
 (try simp only [Exit.inBlock, Exit.then])
 refine bodyPost_ret (by simp [results, Tryz.results130, go_sem, r0, r1, r2]; try rfl) rfl ?_
 exact ⟨rfl, hfin.out⟩
theorem ret_to (n : Bool) (v : Int) (h0 : 0 ≤ v) (h : v < 256 ^ 40) : wRet 154 #[nv n (digN 40 v)] (.tuple #[wv (toF n v).1, .bool (toF n v).2]) := fun w => by
 have := to_d n (digN 40 v) (digN_dig 40 v) (digN_length 40 v) w
 rwa [digN_val 40 v h0 h] at this
theorem val_neg (x : WI) : x.val = neg x.n x.sz := rfl
theorem toF_R (n : Bool) (v : Int) (h0 : 0 ≤ v) : (toF n v = (mk (neg n v), true) ∧ R (neg n v) = (mk (neg n v), 0)) ∨ (toF n v = (zero, false) ∧ R (neg n v) = (zero, 3)) := by
 unfold toF
 by_cases h : v < 170141183460469231731687303715884105728
 ·exact .inl ⟨if_pos h, R_in (In_iff.2 (by unfold neg; split <;> omega))⟩
 ·exact .inr ⟨if_neg h, R_out (fun hh => by have := In_iff.1 hh; unfold neg at this; split at this <;> omega)⟩
theorem pow40 : (340282366920938463463374607431768211456 : Int) * 340282366920938463463374607431768211456 < 256 ^ 40 := by decide
theorem pow16 : (256 : Int) ^ 16 = 340282366920938463463374607431768211456 := by decide
theorem sz_lt {x : WI} (ho : x.Ok) : 0 ≤ x.sz ∧ x.sz < 340282366920938463463374607431768211456 := by
 obtain ⟨h1, h2, h3, h4⟩ := ho
 unfold WI.sz
 omega
/-- a sum of two signs -/
theorem add_any (n m : Bool) (d e : List Int) (hd : Dig d) (he : Dig e) (h1 : d.length = 40) (h2 : e.length = 40) (b1 : valN d < 340282366920938463463374607431768211456) (b2 : valN e < 340282366920938463463374607431768211456) :
 ∃ on v, 0 ≤ v ∧ v < 256 ^ 40 ∧ neg on v = neg n (valN d) + neg m (valN e) ∧ wRet 152 #[nv n d, nv m e] (nv on (digN 40 v)) := by
 have n1 := valN_nn hd
 have n2 := valN_nn he
 have hp := pow40
 by_cases hnm : n = m
 ·subst hnm
  exact ⟨n, valN d + valN e, by omega, by omega, by unfold neg; split <;> omega, fun w => add_same n d e hd he h1 h2 (by omega) w⟩
 ·by_cases hge : valN e ≤ valN d
  ·refine ⟨n, valN d - valN e, by omega, by omega, by cases n <;> cases m <;> simp_all [neg] <;> omega, ?_⟩
   cases n <;> cases m
   ·exact absurd rfl hnm
   ·exact fun w => add_ge_ft d e hd he h1 h2 hge w
   ·exact fun w => add_ge_tf d e hd he h1 h2 hge w
   ·exact absurd rfl hnm
  ·refine ⟨m, valN e - valN d, by omega, by omega, by cases n <;> cases m <;> simp_all [neg] <;> omega, ?_⟩
   cases n <;> cases m
   ·exact absurd rfl hnm
   ·exact fun w => add_lt_ft d e hd he h1 h2 (by omega) w
   ·exact fun w => add_lt_tf d e hd he h1 h2 (by omega) w
   ·exact absurd rfl hnm
section
variable (x y : WI) (ho : x.Ok) (hp : y.Ok)
include ho hp
theorem refAdd_c : wRet 130 #[.int .i64 1, wv x, wv y] (.tuple #[wv (addF x y).1, .int .i64 (addF x y).2]) := by
 have g1 : wRet 61 #[wv x] (.bool x.form) := fun w => good_c x w
 have g2 : wRet 61 #[wv y] (.bool y.form) := fun w => good_c y w
 have c3 : wRet 97 #[wv x] (nv x.n (dgs x)) := fun w => from_c x ho w
 have c4 : wRet 97 #[wv y] (nv y.n (dgs y)) := fun w => from_c y hp w
 unfold addF
 cases hf : x.form
 ·rw [hf] at g1
  exact do1_bad1 _ _ _ _ _ _ g1
 ·rw [hf] at g1
  cases hg : y.form
  ·rw [hg] at g2
   exact do1_bad2 _ _ _ _ _ _ g1 g2
  ·rw [hg] at g2
   obtain ⟨on, v, h0, h1, he, cm⟩ := add_any x.n y.n (dgs x) (dgs y) (dgs_dig x) (dgs_dig y) (dgs_length x) (dgs_length y) (by rw [dgs_val ho]; exact (sz_lt ho).2) (by rw [dgs_val hp]; exact (sz_lt hp).2)
   rw [dgs_val ho, dgs_val hp, ← val_neg, ← val_neg] at he
   rw [Bool.and_self, if_pos rfl, ← he]
   have ct := ret_to on v h0 h1
   rcases toF_R on v h0 with ⟨e1, e2⟩ | ⟨e1, e2⟩
   ·rw [e1] at ct; rw [e2]
    generalize mk (neg on v) = r at *
    exact do1_t x.n y.n on x.h x.l y.h y.l (dgs x) (dgs y) (digN 40 v) r.n r.h r.l (dgs_length x) (dgs_length y) g1 g2 c3 c4 cm (digN_length 40 v) ct
   ·rw [e1] at ct; rw [e2]
    exact do1_f x.n y.n on x.h x.l y.h y.l (dgs x) (dgs y) (digN 40 v) false 0 0 (dgs_length x) (dgs_length y) g1 g2 c3 c4 cm (digN_length 40 v) ct
theorem refMul_c : wRet 130 #[.int .i64 3, wv x, wv y] (.tuple #[wv (mulF x y).1, .int .i64 (mulF x y).2]) := by
 have g1 : wRet 61 #[wv x] (.bool x.form) := fun w => good_c x w
 have g2 : wRet 61 #[wv y] (.bool y.form) := fun w => good_c y w
 have c3 : wRet 97 #[wv x] (nv x.n (dgs x)) := fun w => from_c x ho w
 have c4 : wRet 97 #[wv y] (nv y.n (dgs y)) := fun w => from_c y hp w
 unfold mulF
 cases hf : x.form
 ·rw [hf] at g1
  exact do3_bad1 _ _ _ _ _ _ g1
 ·rw [hf] at g1
  cases hg : y.form
  ·rw [hg] at g2
   exact do3_bad2 _ _ _ _ _ _ g1 g2
  ·rw [hg] at g2
   have bx := sz_lt ho
   have bz := sz_lt hp
   have cm : wRet 153 #[nv x.n (dgs x), nv y.n (dgs y)] (nv (x.n != y.n) (digN 40 (x.sz * y.sz))) := fun w => by
    have := mul_d x.n y.n (dgs x) (dgs y) (dgs_dig x) (dgs_dig y) (dgs_length x) (dgs_length y) (by rw [dgs_val ho, pow16]; exact bx.2) (by rw [dgs_val hp, pow16]; exact bz.2) w
    rw [dgs_val ho, dgs_val hp] at this
    exact this
   have h0 : 0 ≤ x.sz * y.sz := Int.mul_nonneg bx.1 bz.1
   have h1 : x.sz * y.sz < 256 ^ 40 := Int.lt_trans (mul_lt' bx.1 bz.1 bx.2 bz.2) pow40
   have he : neg (x.n != y.n) (x.sz * y.sz) = x.val * y.val := by
    rw [val_neg, val_neg]
    cases x.n <;> cases y.n <;> simp [neg, Int.mul_neg, Int.neg_mul]
   generalize x.sz * y.sz = v at *
   generalize (x.n != y.n) = on at *
   rw [Bool.and_self, if_pos rfl, ← he]
   have ct := ret_to on v h0 h1
   rcases toF_R on v h0 with ⟨e1, e2⟩ | ⟨e1, e2⟩
   ·rw [e1] at ct; rw [e2]
    generalize mk (neg on v) = r at *
    exact do3_t x.n y.n on x.h x.l y.h y.l (dgs x) (dgs y) (digN 40 v) r.n r.h r.l (dgs_length x) (dgs_length y) g1 g2 c3 c4 cm (digN_length 40 v) ct
   ·rw [e1] at ct; rw [e2]
    exact do3_f x.n y.n on x.h x.l y.h y.l (dgs x) (dgs y) (digN 40 v) false 0 0 (dgs_length x) (dgs_length y) g1 g2 c3 c4 cm (digN_length 40 v) ct
end
end Go.Proofs.YtjjgbillihedgaaGreatDoor
namespace Go.Proofs.YtjjgbillihedgaaGreatDoor
open Go.RowKit
open Rf
open Wide
/-- ten -/
def T10 : List Int := Z40.set 0 10
theorem T10_dig : Dig T10 := Z40_dig.set 0 (by omega)
theorem T10_len : T10.length = 40 := rfl
theorem T10_val : valN T10 = 10 := by
 unfold T10
 rw [valN_set Z40 0 (by decide), show valN Z40 = 0 from valN_zero 40]
 rfl
def wsEmpty (v : Value) : Nat := match v with
 | .string b => if b.size = 0 then 1 else 0
 | _ => 0
/-- a digit's step -/
theorem digs_step {v : Nat} {l : List UInt8} {N : Nat} (h : (l = [] ∧ v = N) ∨ (l ≠ [] ∧ v ≠ 0 ∧ more v ++ l = digs N)) :
 more (v / 10) ++ (UInt8.ofNat (48 + v % 10) :: l) = digs N := by
 rcases h with ⟨rfl, rfl⟩ | ⟨_, h0, h1⟩
 ·rw [digs_more v]
 ·rw [← h1]
  unfold more at h1 ⊢
  rw [if_neg h0]
  conv => rhs; rw [digs_more v]
  unfold more
  simp
theorem wone_dig (k : Nat) (hk : k < 10) (w : World) :
 (convert 85 9 (.slice (some ⟨w.heap.size, 0, none⟩) 1 1)).run Tryz.prog (w.alloc (.cells #[.int .u8 (48 + (k : Int))] 5)) = .ok (.string (text [UInt8.ofNat (48 + k)])) (w.alloc (.cells #[.int .u8 (48 + (k : Int))] 5)) := by
 have e : ([.int .u8 (48 + (k : Int))] : List Value) = bv [UInt8.ofNat (48 + k)] := by
  rw [bv_one, dig_toNat hk]
  rfl
 have h := ownsRow_lit w w.heap.size 5 (bv [UInt8.ofNat (48 + k)]) 1 (Nat.le_refl _) (by simp [bv]) (by unfold maxLen; omega)
 rw [e]
 exact run_string_own _ 85 9 5 Tryz.underlying85 Tryz.underlying5 Tryz.underlying9 h
theorem digs_len39 {N : Nat} (h : N < 170141183460469231731687303715884105728) : (digs N).length ≤ 39 := digs_len 38 N (by omega)
theorem wpl_nload_g {ops : Array Oper} {rest : List Oper} {o : Oper} {a : Act} {w : World} {Q : Exit → Act → World → Prop} {x : Operand} {b : Nat} {n : Bool} {d : List Int} (hw : Region.wanted o (yielded ops a.tmps) = true) (ho : o.op = .load 147 x) (hx : a.eval x = .pointer (some ⟨b, 0, none⟩))
 (hd : IsD w b n d) (hl : d.length = 40) (h : wpList Tryz.prog ops Q rest (a.put o.dst (nv n d)) w) : wpList Tryz.prog ops Q (o :: rest) a w :=
 wpList_step fun K hK => by
  rw [if_pos hw]
  exact wp_nload ho hx hd hl (hK _ _ h)
theorem rtext_t (x : WI) (ho : x.Ok) (hf : x.form = true) : wRet 68 #[wv x] (.string (text ((if x.n = true then [45] else []) ++ digs x.sz.toNat))) := fun w => by
 have c1 : wRet 61 #[wv x] (.bool x.form) := fun w => good_c x w
 rw [hf] at c1
 have c2 : wRet 97 #[wv x] (nv x.n (dgs x)) := fun w => from_c x ho w
 have hv0 := dgs_val ho
 have bx := sz_bd ho hf
 have hD0 := dgs_dig x
 have hl0 := dgs_length x
 obtain ⟨N, hN⟩ := Int.eq_ofNat_of_zero_le bx.1
 rw [hN] at hv0 bx ⊢
 have hNlt : N < 170141183460469231731687303715884105728 := by omega
 rw [Int.toNat_natCast]
 clear bx hN
 obtain ⟨xn, xh, xl⟩ := x
 dsimp only at c1 c2 ⊢
 generalize dgs ⟨xn, xh, xl⟩ = d0 at *
 obtain ⟨res, hres⟩ : ∃ res, text ((if xn = true then [45] else []) ++ digs N) = res := ⟨_, rfl⟩
 rw [hres]
 replace hres := Hd hres
 unfold wv at *
 dsimp only at *
 replace c1 := Hd c1
 replace c2 := Hd c2
 go_enter Tryz.func68, Tryz.ntmps68
 go_wp2_with fail
 refine (c1.out.on _).mono ?_
 rintro e w1 ⟨rfl, hbr⟩
 obtain ⟨gx, hb⟩ := one_new (x := ⟨xn, xh, xl⟩) hbr
 clear hbr
 obtain ⟨x0, x1, x2⟩ := gx.all
 dsimp only at x0 x1 x2
 replace gx := Hd gx
 replace hb := Hd hb
 go_wp2_with fail
 refine (c2.out.on _).mono ?_
 rintro e w2 ⟨rfl, hbr⟩
 clear x0 x1 x2
 have q1 := (gx.out.below hbr).lt
 have gn0 : IsD (w2.alloc (oD xn d0)) w2.heap.size xn d0 := IsD.new w2 xn d0
 have n0 := gn0.neg
 have f0 := gn0.f 0
 go_upto_region 5 with (first | (with_reducible refine wpl_nalloc rfl rfl ?_) | (with_reducible refine wpl_nstore_new rfl rfl rfl rfl rfl rfl hl0 ?_))
 have gx1 := ((gx.out.below hbr).alloc (oD xn d0)).set_other (c := w2.heap.size) (i := 0) (v := .bool false) (by omega)
 have gn1 : IsD ((w2.alloc (oD xn d0)).setCell ⟨w2.heap.size, 0, none⟩ (.bool false)) w2.heap.size false d0 := gn0.set0
 have hb1 := (((wbelow_up hb.out hb.out.size hbr).alloc (by omega) (oD xn d0))).setCell (show w.heap.size ≤ (⟨w2.heap.size, 0, none⟩ : Addr).block by show w.heap.size ≤ w2.heap.size; omega) (.bool false)
 clear gx gn0 hb hbr n0 f0
 generalize (w2.alloc (oD xn d0)).setCell ⟨w2.heap.size, 0, none⟩ (.bool false) = v1 at *
 have q2 := gn1.lt
 have gt0 : IsD (v1.alloc (oD false Z40)) v1.heap.size false Z40 := IsD.new v1 false Z40
 obtain ⟨z, n0⟩ := gt0.has 0 (by decide)
 rw [show 1 + 0 = 1 from rfl] at n0
 have f0 := gt0.f 1
 go_upto_region 7 with (first | (with_reducible refine wpl_nalloc rfl rfl ?_) | (with_reducible refine wpl_nbuild0 rfl rfl ?_) | (with_reducible refine wpl_nstore_new rfl rfl rfl rfl rfl rfl rfl ?_))
 have gx2 := (gx1.alloc (oD false Z40)).set_other (c := v1.heap.size) (i := 1) (v := .int .i64 10) (by omega)
 have gn2 := (gn1.alloc (oD false Z40)).set_other (c := v1.heap.size) (i := 1) (v := .int .i64 10) (by omega)
 have gt2 := gt0.set 0 10
 rw [show 1 + 0 = 1 from rfl, show Z40.set 0 10 = T10 from rfl] at gt2
 have hb2 := (hb1.alloc (by omega) (oD false Z40)).setCell (show w.heap.size ≤ (⟨v1.heap.size, 1, none⟩ : Addr).block by show w.heap.size ≤ v1.heap.size; omega) (.int .i64 10)
 clear gx1 gn1 gt0 hb1 n0 f0 z
 generalize (v1.alloc (oD false Z40)).setCell ⟨v1.heap.size, 1, none⟩ (.int .i64 10) = v2 at *
 have hd0 : d0 = digN 40 (N : Int) := by
  have := dig_of_val d0 hD0
  rwa [hl0, hv0] at this
 subst hd0
 clear hD0 hl0 hv0
 have h256 : (170141183460469231731687303715884105728 : Int) < 256 ^ 40 := by decide
 replace h256 := Hd h256
 replace gx2 := Hd gx2
 replace gn2 := Hd gn2
 replace gt2 := Hd gt2
 replace hb2 := Hd hb2
 go_wp2_with fail
 go_loopw [5] (fun sv wr => ∃ (l : List UInt8) (v : Nat), sv = .string (text l) ∧ v ≤ N ∧ ((l = [] ∧ v = N) ∨ (l ≠ [] ∧ more v ++ l = digs N)) ∧ IsN wr w.heap.size ⟨xn, xh, xl⟩ ∧ IsD wr w2.heap.size false (digN 40 (v : Int)) ∧ IsD wr v1.heap.size false T10 ∧ Below w.heap.size w wr)
  (fun s wr => (valN (rdD wr w2.heap.size)).toNat + wsEmpty s)
 case atStart => exact ⟨[], N, rfl, Nat.le_refl _, .inl ⟨rfl, rfl⟩, gx2.out, gn2.out, gt2.out, hb2.out⟩
 case round =>
  clear gx2 gn2 gt2 hb2
  obtain ⟨l, v, rfl, hvN, hinv, gx, gn, gt, hb⟩ := hrel
  have hlen := digN_length 40 (v : Int)
  have gn0 := Hd gn
  replace gx := Hd gx
  replace gn := Hd gn
  replace gt := Hd gt
  replace hb := Hd hb
  have hll := Hd (show l.length ≤ 39 from by
   rcases hinv with ⟨rfl, _⟩ | ⟨_, h⟩
   ·exact Nat.zero_le _
   ·have h1 := digs_len39 hNlt
    rw [← h, List.length_append] at h1
    omega)
  rcases hinv with ⟨rfl, rfl⟩ | ⟨hne, hinv⟩
  ·have hs0 : ((text []).toList == ([] : List UInt8)) = true := by rw [str_empty]; rfl
   have gn' := gn.out
   have gt' := gt.out
   go_wp2_with (first | (with_reducible refine wpl_nload rfl rfl rfl gn' hlen ?_) | (with_reducible refine wpl_nload rfl rfl rfl gt' T10_len ?_))
   clear gn' gt'
   refine (divide_d false false (digN 40 (v : Int)) T10 (digN_dig 40 _) T10_dig hlen T10_len (by rw [T10_val]; decide) (by rw [T10_val]; decide) _).mono ?_
   rintro e1 w3 ⟨rfl, hbr⟩
   rw [T10_val, digN_val 40 (v : Int) (by omega) (by have := h256; omega), show (v : Int) / 10 = ((v / 10 : Nat) : Int) by omega, show (v : Int) % 10 = ((v % 10 : Nat) : Int) by omega]
   have q4 := (gt.out.call hbr).lt
   have gx3 := Hd ((((gx.out.below hbr).alloc (oD false Z40)).alloc (oD false Z40)))
   have gn3 := Hd ((((gn.out.call hbr).alloc (oD false Z40)).alloc (oD false Z40)))
   have gt3 := Hd ((((gt.out.call hbr).alloc (oD false Z40)).alloc (oD false Z40)))
   have hb3 := Hd (((wbelow_up hb.out hb.out.size hbr).alloc (by have := hb.out.size; have := hbr.size; omega) (oD false Z40)).alloc (by have := hb.out.size; have := hbr.size; rw [wsize_alloc]; omega) (oD false Z40))
   clear gx gn gt hb hbr
   obtain ⟨gq', gs'⟩ := two_nd w3 false false Z40 Z40
   obtain ⟨Q, hQ⟩ : ∃ Q, digN 40 ((v / 10 : Nat) : Int) = Q := ⟨_, rfl⟩
   obtain ⟨Y, hY⟩ : ∃ Y, digN 40 ((v % 10 : Nat) : Int) = Y := ⟨_, rfl⟩
   rw [hQ, hY]
   have hQl : Q.length = 40 := by rw [← hQ, digN_length]
   have hYl : Y.length = 40 := by rw [← hY, digN_length]
   have hY0 : Y[0]'(by omega) = ((v % 10 : Nat) : Int) := by subst hY; rw [digN_get 40 _ 0 (by omega)]; simp; omega
   have gs2 := gs'.row_other (c := w3.heap.size) (by omega) (nc false Q).toArray
   replace hQ := Hd hQ
   replace hY := Hd hY
   go_upto_region 10 with (first | (with_reducible refine wpl_nalloc rfl rfl ?_) | (with_reducible refine wpl_nstore rfl rfl rfl rfl gq' rfl hQl ?_) | (refine wpl_nstore (x := .tmp 7) (y := .tmp 29) (b := w3.heap.size + 1) rfl rfl ?_ rfl gs2 rfl hYl ?_; (show Value.pointer (some ⟨(w3.alloc (oD false Z40)).heap.size, 0, none⟩) = _; rw [wsize_alloc])))
   have gq4 := (gq'.row false Q).row_other (c := w3.heap.size + 1) (by omega) (nc false Y).toArray
   have gs4 := gs2.row false Y
   have gx4 := (gx3.out.rowN (c := w3.heap.size) (by omega) (nc false Q).toArray).rowN (c := w3.heap.size + 1) (by omega) (nc false Y).toArray
   have gn4 := (gn3.out.row_other (c := w3.heap.size) (by omega) (nc false Q).toArray).row_other (c := w3.heap.size + 1) (by omega) (nc false Y).toArray
   have gt4 := (gt3.out.row_other (c := w3.heap.size) (by omega) (nc false Q).toArray).row_other (c := w3.heap.size + 1) (by omega) (nc false Y).toArray
   have hb4 := wbelow_row (wbelow_row hb3.out (show w.heap.size ≤ w3.heap.size by omega) (nc false Q).toArray) (show w.heap.size ≤ w3.heap.size + 1 by omega) (nc false Y).toArray
   clear gq' gs' gs2 gx3 gn3 gt3 hb3
   generalize (((w3.alloc (oD false Z40)).alloc (oD false Z40)).setRow w3.heap.size (nc false Q).toArray).setRow (w3.heap.size + 1) (nc false Y).toArray = v4 at *
   have cY := gs4.cell 0 (by omega)
   rw [hY0, show 1 + 0 = 1 from rfl] at cY
   clear hY0
   obtain ⟨k, hk⟩ : ∃ k, v % 10 = k := ⟨_, rfl⟩
   have hk9 : k < 10 := by omega
   rw [hk] at cY
   replace hk := Hd hk
   have e1 : IntKind.i64.wrap (48 + (k : Int)) = 48 + (k : Int) := IntWalk.i64_in _ (by omega)
   have e2 : IntKind.u8.wrap (48 + (k : Int)) = 48 + (k : Int) := IntWalk.u8_in _ (by omega)
   have gx := Hd gx4
   have gn := Hd gn4
   have gt := Hd gt4
   have gq := Hd gq4
   have hb := Hd hb4
   clear gs4 gx4 gn4 gt4 gq4 hb4
   have hcv := wone_dig k hk9 v4
   obtain ⟨u, hu⟩ : ∃ u, UInt8.ofNat (48 + k) = u := ⟨_, rfl⟩
   rw [hu] at hcv
   replace hu := Hd hu
   have hsz1 : (text [u]).size + (text []).size ≤ 1000 := by rw [text_size, text_size]; have := hll.out; simp only [List.length_cons, List.length_nil] at *; omega
   have gq5 := gq.out.alloc (.cells #[.int .u8 (48 + (k : Int))] 5)
   have gn5 := gn.out.alloc (.cells #[.int .u8 (48 + (k : Int))] 5)
   go_wp2_with (first | (with_reducible refine wpl_nload rfl rfl rfl gq5 hQl ?_) | (with_reducible refine wpl_nstore rfl rfl rfl rfl gn5 hlen hQl ?_))
   (try simp only [Act.put, List.setIfInBounds_toArray, List.set_cons_succ, List.set_cons_zero])
   have gx6 := (gx.out.alloc (.cells #[.int .u8 (48 + (k : Int))] 5)).rowN (c := w2.heap.size) (by omega) (nc false Q).toArray
   have gt6 := (gt.out.alloc (.cells #[.int .u8 (48 + (k : Int))] 5)).row_other (c := w2.heap.size) (by omega) (nc false Q).toArray
   have gn6 := gn5.row false Q
   have hb6 := wbelow_row (hb.out.alloc hb.out.size (.cells #[.int .u8 (48 + (k : Int))] 5)) (show w.heap.size ≤ w2.heap.size by omega) (nc false Q).toArray
   have hnew : more (v / 10) ++ (u :: []) = digs v := by
    rw [← hu.out, ← hk.out]
    exact digs_step (.inl ⟨rfl, rfl⟩)
   have hmeas : (valN Q).toNat + wsEmpty (.string (text (u :: []))) < (valN (rdD wr w2.heap.size)).toNat + wsEmpty (.string (text [])) := by
    rw [rdD_of gn0.out, ← hQ.out, digN_val 40 _ (by omega) (by have := h256.out; omega), digN_val 40 _ (by omega) (by have := h256.out; omega)]
    have e0 : wsEmpty (.string (text (u :: []))) = 0 := by
     show (if (text (u :: [])).size = 0 then 1 else 0) = 0
     rw [text_size]; rfl
    rw [e0]
    have e1 : wsEmpty (.string (text [])) = 1 := rfl
    rw [e1]
    omega
   rw [text_append]
   go_roundw
   case rel => exact ⟨u :: [], v / 10, rfl, by omega, .inr ⟨List.cons_ne_nil _ _, hnew⟩, gx6, by rw [hQ.out]; exact gn6, gt6, hb6⟩
   case measure => rw [rdD_of gn6]; exact hmeas
  ·have hs0 : ((text l).toList == ([] : List UInt8)) = false := by
    rw [str_empty, byts_text]
    cases l with
    | nil => exact absurd rfl hne
    | cons _ _ => rfl
   have cz := zero_d false (digN 40 (v : Int)) (digN_dig 40 _) hlen
   rw [digN_val 40 (v : Int) (by omega) (by have := h256.out; omega)] at cz
   have gn' := gn.out
   by_cases hv0 : v = 0
   ·subst hv0
    rw [decide_eq_true (show ((0 : Nat) : Int) = 0 from rfl)] at cz
    replace cz := Hd cz
    have hend : l = digs N := hinv
    subst hend
    have hsz1 : (⟨#[45]⟩ : ByteArray).size + (text (digs N)).size ≤ 1000 := by rw [text_size]; have := hll.out; show 1 + _ ≤ _; omega
    clear hinv hne
    go_wp2_with (first | (refine wpl_nload_g (x := .tmp 3) (b := w2.heap.size) (by rfl) rfl (by rfl) gn' hlen ?_))
    refine (cz.out.on _).mono ?_
    rintro e1 w3 ⟨rfl, hbr⟩
    have hb2 := Hd (wbelow_up hb.out hb.out.size hbr)
    obtain ⟨x0, x1, x2⟩ := (gx.out.below hbr).all
    dsimp only at x0 x1 x2
    clear hb hbr gn'
    cases xn with
    | false =>
      go_wp2_with fail
      go_ret
      exact ⟨by rw [← hres.out]; rfl, hb2.out⟩
    | true =>
      go_wp2_with fail
      go_ret
      exact ⟨by rw [← hres.out, show (⟨#[45]⟩ : ByteArray) = text [45] from rfl, text_append]; rfl, hb2.out⟩
   ·rw [decide_eq_false (show ¬ (v : Int) = 0 by omega)] at cz
    replace cz := Hd cz
    go_wp2_with (first | (refine wpl_nload_g (x := .tmp 3) (b := w2.heap.size) (by rfl) rfl (by rfl) gn' hlen ?_))
    refine (cz.out.on _).mono ?_
    rintro e1 w3' ⟨rfl, hbr⟩
    clear gn'
    replace gx := Hd (gx.out.below hbr)
    replace gn := Hd (gn.out.call hbr)
    replace gt := Hd (gt.out.call hbr)
    replace hb := Hd (wbelow_up hb.out hb.out.size hbr)
    clear hbr
    have gn' := gn.out
    have gt' := gt.out
    go_wp2_with (first | (with_reducible refine wpl_nload rfl rfl rfl gn' hlen ?_) | (with_reducible refine wpl_nload rfl rfl rfl gt' T10_len ?_))
    clear gn' gt'
    refine (divide_d false false (digN 40 (v : Int)) T10 (digN_dig 40 _) T10_dig hlen T10_len (by rw [T10_val]; decide) (by rw [T10_val]; decide) _).mono ?_
    rintro e1 w3 ⟨rfl, hbr⟩
    rw [T10_val, digN_val 40 (v : Int) (by omega) (by have := h256; omega), show (v : Int) / 10 = ((v / 10 : Nat) : Int) by omega, show (v : Int) % 10 = ((v % 10 : Nat) : Int) by omega]
    have q4 := (gt.out.call hbr).lt
    have gx3 := Hd ((((gx.out.below hbr).alloc (oD false Z40)).alloc (oD false Z40)))
    have gn3 := Hd ((((gn.out.call hbr).alloc (oD false Z40)).alloc (oD false Z40)))
    have gt3 := Hd ((((gt.out.call hbr).alloc (oD false Z40)).alloc (oD false Z40)))
    have hb3 := Hd (((wbelow_up hb.out hb.out.size hbr).alloc (by have := hb.out.size; have := hbr.size; omega) (oD false Z40)).alloc (by have := hb.out.size; have := hbr.size; rw [wsize_alloc]; omega) (oD false Z40))
    clear gx gn gt hb hbr
    obtain ⟨gq', gs'⟩ := two_nd w3 false false Z40 Z40
    obtain ⟨Q, hQ⟩ : ∃ Q, digN 40 ((v / 10 : Nat) : Int) = Q := ⟨_, rfl⟩
    obtain ⟨Y, hY⟩ : ∃ Y, digN 40 ((v % 10 : Nat) : Int) = Y := ⟨_, rfl⟩
    rw [hQ, hY]
    have hQl : Q.length = 40 := by rw [← hQ, digN_length]
    have hYl : Y.length = 40 := by rw [← hY, digN_length]
    have hY0 : Y[0]'(by omega) = ((v % 10 : Nat) : Int) := by subst hY; rw [digN_get 40 _ 0 (by omega)]; simp; omega
    have gs2 := gs'.row_other (c := w3.heap.size) (by omega) (nc false Q).toArray
    replace hQ := Hd hQ
    replace hY := Hd hY
    go_upto_region 10 with (first | (with_reducible refine wpl_nalloc rfl rfl ?_) | (with_reducible refine wpl_nstore rfl rfl rfl rfl gq' rfl hQl ?_) | (refine wpl_nstore (x := .tmp 7) (y := .tmp 29) (b := w3.heap.size + 1) rfl rfl ?_ rfl gs2 rfl hYl ?_; (show Value.pointer (some ⟨(w3.alloc (oD false Z40)).heap.size, 0, none⟩) = _; rw [wsize_alloc])))
    have gq4 := (gq'.row false Q).row_other (c := w3.heap.size + 1) (by omega) (nc false Y).toArray
    have gs4 := gs2.row false Y
    have gx4 := (gx3.out.rowN (c := w3.heap.size) (by omega) (nc false Q).toArray).rowN (c := w3.heap.size + 1) (by omega) (nc false Y).toArray
    have gn4 := (gn3.out.row_other (c := w3.heap.size) (by omega) (nc false Q).toArray).row_other (c := w3.heap.size + 1) (by omega) (nc false Y).toArray
    have gt4 := (gt3.out.row_other (c := w3.heap.size) (by omega) (nc false Q).toArray).row_other (c := w3.heap.size + 1) (by omega) (nc false Y).toArray
    have hb4 := wbelow_row (wbelow_row hb3.out (show w.heap.size ≤ w3.heap.size by omega) (nc false Q).toArray) (show w.heap.size ≤ w3.heap.size + 1 by omega) (nc false Y).toArray
    clear gq' gs' gs2 gx3 gn3 gt3 hb3
    generalize (((w3.alloc (oD false Z40)).alloc (oD false Z40)).setRow w3.heap.size (nc false Q).toArray).setRow (w3.heap.size + 1) (nc false Y).toArray = v4 at *
    have cY := gs4.cell 0 (by omega)
    rw [hY0, show 1 + 0 = 1 from rfl] at cY
    clear hY0
    obtain ⟨k, hk⟩ : ∃ k, v % 10 = k := ⟨_, rfl⟩
    have hk9 : k < 10 := by omega
    rw [hk] at cY
    replace hk := Hd hk
    have e1 : IntKind.i64.wrap (48 + (k : Int)) = 48 + (k : Int) := IntWalk.i64_in _ (by omega)
    have e2 : IntKind.u8.wrap (48 + (k : Int)) = 48 + (k : Int) := IntWalk.u8_in _ (by omega)
    have gx := Hd gx4
    have gn := Hd gn4
    have gt := Hd gt4
    have gq := Hd gq4
    have hb := Hd hb4
    clear gs4 gx4 gn4 gt4 gq4 hb4
    have hcv := wone_dig k hk9 v4
    obtain ⟨u, hu⟩ : ∃ u, UInt8.ofNat (48 + k) = u := ⟨_, rfl⟩
    rw [hu] at hcv
    replace hu := Hd hu
    have hsz1 : (text [u]).size + (text l).size ≤ 1000 := by rw [text_size, text_size]; have := hll.out; simp only [List.length_cons, List.length_nil] at *; omega
    have gq5 := gq.out.alloc (.cells #[.int .u8 (48 + (k : Int))] 5)
    have gn5 := gn.out.alloc (.cells #[.int .u8 (48 + (k : Int))] 5)
    go_wp2_with (first | (with_reducible refine wpl_nload rfl rfl rfl gq5 hQl ?_) | (with_reducible refine wpl_nstore rfl rfl rfl rfl gn5 hlen hQl ?_))
    (try simp only [Act.put, List.setIfInBounds_toArray, List.set_cons_succ, List.set_cons_zero])
    have gx6 := (gx.out.alloc (.cells #[.int .u8 (48 + (k : Int))] 5)).rowN (c := w2.heap.size) (by omega) (nc false Q).toArray
    have gt6 := (gt.out.alloc (.cells #[.int .u8 (48 + (k : Int))] 5)).row_other (c := w2.heap.size) (by omega) (nc false Q).toArray
    have gn6 := gn5.row false Q
    have hb6 := wbelow_row (hb.out.alloc hb.out.size (.cells #[.int .u8 (48 + (k : Int))] 5)) (show w.heap.size ≤ w2.heap.size by omega) (nc false Q).toArray
    have hnew : more (v / 10) ++ (u :: l) = digs N := by
     rw [← hu.out, ← hk.out]
     exact digs_step (.inr ⟨hne, hv0, hinv⟩)
    have hmeas : (valN Q).toNat + wsEmpty (.string (text (u :: l))) < (valN (rdD wr w2.heap.size)).toNat + wsEmpty (.string (text l)) := by
     rw [rdD_of gn0.out, ← hQ.out, digN_val 40 _ (by omega) (by have := h256.out; omega), digN_val 40 _ (by omega) (by have := h256.out; omega)]
     have e0 : wsEmpty (.string (text (u :: l))) = 0 := by
      show (if (text (u :: l)).size = 0 then 1 else 0) = 0
      rw [text_size]; rfl
     rw [e0]
     have e1 : wsEmpty (.string (text l)) = 0 := by
      show (if (text l).size = 0 then 1 else 0) = 0
      rw [text_size, if_neg (by cases l with | nil => exact absurd rfl hne | cons _ _ => simp)]
     rw [e1]
     omega
    rw [text_append]
    go_roundw
    case rel => exact ⟨u :: l, v / 10, rfl, by omega, .inr ⟨List.cons_ne_nil _ _, hnew⟩, gx6, by rw [hQ.out]; exact gn6, gt6, hb6⟩
    case measure => rw [rdD_of gn6]; exact hmeas
attribute [local go_sem ↓] Go.wp_at_zero Go.wp_at_succ
theorem isN_of {w w' : World} {b : Nat} {x : WI} (hb : Below w.heap.size w w') (h : IsN w b x) : IsN w' b x := h.below hb
end Go.Proofs.YtjjgbillihedgaaGreatDoor
