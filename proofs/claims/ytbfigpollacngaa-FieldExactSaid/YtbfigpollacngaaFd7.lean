/- the walks over package field, seventh part: the number of bytes -/
import Derived.Test.YtbfigpollacngaaFd6
import Derived.Test.YtbfigpollacngaaCt
import Derived.Deep.DeepCutAuto
import Derived.Deep.Cut
namespace Go.Proofs.Ytbfigpollacngaa
open Go.RowKit
open Rf
open Wide
attribute [local go_sem ↓] Go.wp_at_zero Go.wp_at_succ

theorem isR_of {w w' : World} {b : Nat} {l : List UInt8} {bad : Bool} {T : TypeId} (hb : Below w.heap.size w w') (h : IsR T w b l bad) : IsR T w' b l bad := h.below hb
theorem IsR.alloc {w : World} {b : Nat} {l : List UInt8} {bad : Bool} {T : TypeId} (h : IsR T w b l bad) (o : Obj) : IsR T (w.alloc o) b l bad := h.below ((Below.refl _ _).alloc (Nat.le_refl _) o)
theorem IsR.drew {w : World} {b : Nat} {l : List UInt8} {bad : Bool} {T : TypeId} (h : IsR T w b l bad) : IsR T w.drew b l bad := h
theorem IsR.set_other {w : World} {b c i : Nat} {v : Value} {l : List UInt8} {bad : Bool} {T : TypeId} (h : IsR T w b l bad) (hne : b ≠ c) : IsR T (w.setCell ⟨c, i, none⟩ v) b l bad := by
  unfold IsR at *
  show (w.heap.modify c _)[b]? = _
  rw [Array.getElem?_modify, if_neg (fun hh => hne hh.symm)]
  exact h
theorem IsR.set3_other {w : World} {b c : Nat} {v0 v1 v2 : Value} {l : List UInt8} {bad : Bool} {T : TypeId} (h : IsR T w b l bad) (hne : b ≠ c) : IsR T (((w.setCell ⟨c, 0, none⟩ v0).setCell ⟨c, 1, none⟩ v1).setCell ⟨c, 2, none⟩ v2) b l bad := ((h.set_other hne).set_other hne).set_other hne
theorem isN_grown {w w' : World} {b c : Nat} {x : WI} (h : IsN w b x) (hg : w.grownBy w' (some c)) (hne : b ≠ c) : IsN w' b x := (hg.block b h.lt (fun e => hne (Option.some.inj e))).trans h

/-- what stands in the bytes, and whether they end there -/
def getN (k : Int) (l : List UInt8) : Int := (rNum (shp k).2.1 l false).1
def getD (k : Int) (l : List UInt8) : Bool := !(rNum (shp k).2.1 l false).2.2 && (rNum (shp k).2.1 l false).2.1.isEmpty
def getM (k : Int) (l : List UInt8) : Bool := (shp k).2.2 && decide (gK k < getN k l)
def getX (k : Int) (l : List UInt8) : WI := if getM k l = true then mk (getN k l - powK ((shp k).2.1 * 8) - 1) else ⟨false, 0, getN k l⟩
def getR (k : Int) (l : List UInt8) : WI × Int := if isK k = true then (if (getD k l && fitsF k (getX k l)) = true then (getX k l, 0) else (zero, 4)) else (zero, 1)
theorem getN_bd (k : Int) (l : List UInt8) : 0 ≤ getN k l ∧ getN k l ≤ 18446744073709551615 := by
  unfold getN rNum
  split
  · rename_i h
    have hw := h.2.1
    simp only [isW, Bool.or_eq_true, beq_iff_eq] at hw
    exact num_take_bd l _ (by omega)
  · exact ⟨Int.le_refl 0, show (0 : Int) ≤ 18446744073709551615 by decide⟩
theorem powK_bd (n : Int) : 0 ≤ powK n ∧ powK n ≤ 18446744073709551615 := by
  unfold powK
  repeat' split
  all_goals omega
theorem mk_word (n : Int) (h0 : 0 ≤ n) (h1 : n ≤ 18446744073709551615) : (⟨false, 0, n⟩ : WI) = mk n := (mk_nonneg n h0 h1).symm
theorem In_small {v : Int} (h0 : -18446744073709551616 ≤ v) (h1 : v ≤ 18446744073709551616) : In v = true := In_iff.2 ⟨by omega, by omega⟩
theorem subF_mk {a b : Int} (ha : In a = true) (hb : In b = true) : subF (mk a) (mk b) = R (a - b) := by
  unfold subF
  rw [mk_form a ha, mk_form b hb, mk_val, mk_val]
  rfl
theorem R_in' {v : Int} (h : In v = true) : R v = (mk v, 0) := if_pos h

set_option maxRecDepth 10000 in
set_option maxHeartbeats 1000000 in
theorem get_nokind (k : Int) (s : ByteArray) (hk : isK k = false) (w : World) :
    Calls Try.prog 9 #[.int .i64 k, .string s] w fun e w' => e = .returned (.tuple #[wv zero, .int .i64 1]) ∧ Below w.heap.size w w' := by
  have ci := kindB k
  rw [hk] at ci
  clear hk
  unfold wv zero at *
  dsimp only at *
  replace ci := Lib.hid ci
  go_enter Try.func9, Try.ntmps9
  go_wp2_with fail
  refine (ci.out _).mono ?_
  rintro e w1 ⟨rfl, hb1⟩
  obtain ⟨gz, hb⟩ := one_new (x := ⟨false, 0, 0⟩) hb1
  clear hb1
  obtain ⟨z0, z1, z2⟩ := gz.all
  have zf := gz.f
  obtain ⟨r0, r1, r2, hfin⟩ := last_set (w := w) (B := w.heap.size) gz ⟨false, 0, 0⟩ hb (by omega)
  dsimp only at r0 r1 r2 z0 z1 z2 hfin
  replace hfin := Lib.hid hfin
  clear gz hb
  go_wp2_with fail
  (try simp only [Exit.inBlock, Exit.then])
  refine bodyPost_ret (by simp [results, Try.results9, go_sem, r0, r1, r2]; try rfl) rfl ?_
  exact ⟨rfl, hfin.out⟩

set_option maxRecDepth 100000 in
set_option maxHeartbeats 8000000 in
theorem get_U0 (k sz n : Int) (s nm : ByteArray) (rest : List UInt8) (bad : Bool) (ci : Ret 32 #[.int .i64 k] (.bool true)) (cs : Ret 15 #[.int .i64 k] (.int .i64 sz))
    (cn : ∀ (w : World) (b : Nat), IsR 85 w b (byts s) false → Answers 35 #[.pointer (some ⟨b, 0, none⟩), .int .i64 sz] (.int .u64 n) 85 w b rest bad)
    (cw : Ret 34 #[.int .u64 n] (wv ⟨false, 0, n⟩)) (ca : Ret 36 #[.int .i64 k] (.agg #[.string nm, .int .i64 sz, .bool false]))
    (cd : ∀ (w : World) (b : Nat), IsR 85 w b rest bad → Quiet 38 #[.pointer (some ⟨b, 0, none⟩)] (.bool false) w) (w : World) :
    Calls Try.prog 9 #[.int .i64 k, .string s] w fun e w' => e = .returned (.tuple #[wv zero, .int .i64 4]) ∧ Below w.heap.size w w' := by
  unfold wv zero at *
  dsimp only at *
  go_enter Try.func9, Try.ntmps9
  go_wp2_with fail
  refine (ci.on _).mono ?_
  rintro e w1 ⟨rfl, hb1⟩
  obtain ⟨gz, hb⟩ := one_new (x := ⟨false, 0, 0⟩) hb1
  have hs := hb.size
  clear hb1
  replace gz := Lib.hid gz
  replace hb := Lib.hid hb
  go_wp2_with fail
  refine (cs.on _).mono ?_
  rintro e w2 ⟨rfl, hb2⟩
  replace gz := Lib.hid (isN_of hb2 gz.out)
  replace hb := Lib.hid (hb.out.trans (hb2.mono hs))
  clear hs hb2
  have hs := hb.out.size
  go_wp2_with fail
  refine (read_c _ _).mono ?_
  rintro e w3 ⟨rfl, rfl⟩
  have hr3 := Lib.hid (show IsR 85 (w2.alloc (.cells #[.string s, .bool false] 85)) w2.heap.size (byts s) false from by have h := IsR.new w2 85 (byts s); rwa [text_byts] at h)
  have ltz := gz.out.lt
  replace gz := Lib.hid (gz.out.alloc (.cells #[.string s, .bool false] 85))
  replace hb := Lib.hid (hb.out.alloc hs (.cells #[.string s, .bool false] 85))
  go_wp2_with fail
  refine Calls.mono (cn _ _ hr3.out) ?_
  rintro e w4 ⟨rfl, gr, hg⟩
  replace gr := Lib.hid gr
  replace gz := Lib.hid (isN_grown gz.out hg (by omega))
  replace hb := Lib.hid (hb.out.grown hg (by rw [size_alloc]; omega) (fun q hq => by rw [← Option.some.inj hq]; exact hs))
  clear hs hg hr3
  have hs := hb.out.size
  have ltr := gr.out.lt
  go_wp2_with fail
  refine (cw.on _).mono ?_
  rintro e w5 ⟨rfl, hb5⟩
  replace gz := Lib.hid (isN_of hb5 gz.out)
  replace gr := Lib.hid (isR_of hb5 gr.out)
  replace hb := Lib.hid (hb.out.trans (hb5.mono hs))
  clear hs hb5
  have hs := hb.out.size
  have hnz := gz.out.lt
  have hnr := gr.out.lt
  replace gz := Lib.hid (gz.out.alloc (oN ⟨false, 0, n⟩))
  replace gr := Lib.hid (gr.out.alloc (oN ⟨false, 0, n⟩))
  have gx := Lib.hid (IsN.new w5 ⟨false, 0, n⟩)
  replace hb := Lib.hid (hb.out.alloc hs (oN ⟨false, 0, n⟩))
  clear hs
  have hs := hb.out.size
  have hfd := field_sign nm sz false
  replace hb := Lib.hid (below_drewed hb.out)
  clear hs
  have hs := hb.out.size
  obtain ⟨cx0, cx1, cx2⟩ := gx.out.all
  dsimp only at cx0 cx1 cx2
  go_wp2_with fail
  refine wp_region_held_at (S := fun w1 => w1.cell? ⟨w5.heap.size, 0, none⟩ = some (.bool false) ∧ w1.cell? ⟨w5.heap.size, 1, none⟩ = some (.int .u64 0) ∧ w1.cell? ⟨w5.heap.size, 2, none⟩ = some (.int .u64 n)) 10 rfl (by kernel_rfl) (by go_keep) (fun hH => ?_)
  refine wpAnyH_take (i := 0) (v := ?_) rfl (by decide +kernel) (by decide +kernel) (by decide +kernel) (fun _ _ _ h => h) (Or.inl ⟨by rfl, ?_⟩) (by assumption) ?_
  rotate_left
  · intro w1 hSw; (try dsimp only at hSw); (try simp only [List.getElem_toArray, List.getElem_cons_zero]); go_simp; try with_reducible rfl
  try simp only [List.getElem_toArray, List.getElem_cons_zero, Act.put, List.setIfInBounds_toArray, List.set_cons_zero, List.set_cons_succ]
  refine wpAnyH_ready (rs := [1]) (by decide +kernel) (by simp) ?_
  refine AllReadyH.cons rfl (fun K hK => ?_) AllReadyH.nil
  (try simp only [List.getElem_toArray, List.getElem_cons_zero, List.getElem_cons_succ])
  go_simp
  refine (ca.on _).mono ?_
  rintro e wr ⟨rfl, hbr⟩
  have hb2 := Lib.hid (hb.out.trans (hbr.mono hs))
  clear hb hs
  have hb := hb2
  clear hb2
  have hs := hb.out.size
  have gg := Lib.hid (isN_of hbr gz.out)
  clear gz
  have gz := gg
  clear gg
  have gg := Lib.hid (isR_of hbr gr.out)
  clear gr
  have gr := gg
  clear gg
  have gg := Lib.hid (isN_of hbr gx.out)
  clear gx
  have gx := gg
  clear gg
  clear hH hbr cx0 cx1 cx2
  obtain ⟨cx0, cx1, cx2⟩ := gx.out.all
  dsimp only at cx0 cx1 cx2
  go_simp
  refine hK.out _ _ (by go_keep) (fun hH => ?_)
  clear hK K
  try simp only [List.getElem_toArray, List.getElem_cons_zero, List.getElem_cons_succ, Act.put, List.setIfInBounds_toArray, List.set_cons_zero, List.set_cons_succ]
  refine wpAnyH_take (i := 2) (v := ?_) rfl (by decide +kernel) (by decide +kernel) (by decide +kernel) (fun _ _ _ h => h) (Or.inl ⟨by rfl, ?_⟩) (by assumption) ?_
  rotate_left
  · intro w1 hSw; (try dsimp only at hSw); (try simp only [List.getElem_toArray, List.getElem_cons_zero, List.getElem_cons_succ]); go_simp; try with_reducible rfl
  try simp only [List.getElem_toArray, List.getElem_cons_zero, List.getElem_cons_succ, Act.put, List.setIfInBounds_toArray, List.set_cons_zero, List.set_cons_succ]
  refine wpAnyH_take (i := 3) (v := ?_) rfl (by decide +kernel) (by decide +kernel) (by decide +kernel) (fun _ _ _ h => h) (Or.inl ⟨by rfl, ?_⟩) (by assumption) ?_
  rotate_left
  · intro w1 hSw; (try dsimp only at hSw); (try simp only [List.getElem_toArray, List.getElem_cons_zero, List.getElem_cons_succ]); go_simp; try with_reducible rfl
  try simp only [List.getElem_toArray, List.getElem_cons_zero, List.getElem_cons_succ, Act.put, List.setIfInBounds_toArray, List.set_cons_zero, List.set_cons_succ]
  refine wpAnyH_take (i := 4) (v := undef) rfl (by decide +kernel) (by decide +kernel) (by decide +kernel) (fun _ _ _ h => h) (Or.inr ⟨by rfl, rfl⟩) (by assumption) ?_
  try simp only [List.getElem_toArray, List.getElem_cons_zero, List.getElem_cons_succ, Act.put, List.setIfInBounds_toArray, List.set_cons_zero, List.set_cons_succ]
  refine wpAnyH_take (i := 5) (v := undef) rfl (by decide +kernel) (by decide +kernel) (by decide +kernel) (fun _ _ _ h => h) (Or.inr ⟨by rfl, rfl⟩) (by assumption) ?_
  try simp only [List.getElem_toArray, List.getElem_cons_zero, List.getElem_cons_succ, Act.put, List.setIfInBounds_toArray, List.set_cons_zero, List.set_cons_succ]
  refine wpAnyH_take (i := 6) (v := undef) rfl (by decide +kernel) (by decide +kernel) (by decide +kernel) (fun _ _ _ h => h) (Or.inr ⟨by rfl, rfl⟩) (by assumption) ?_
  try simp only [List.getElem_toArray, List.getElem_cons_zero, List.getElem_cons_succ, Act.put, List.setIfInBounds_toArray, List.set_cons_zero, List.set_cons_succ]
  refine wpAnyH_take (i := 7) (v := undef) rfl (by decide +kernel) (by decide +kernel) (by decide +kernel) (fun _ _ _ h => h) (Or.inr ⟨by rfl, rfl⟩) (by assumption) ?_
  try simp only [List.getElem_toArray, List.getElem_cons_zero, List.getElem_cons_succ, Act.put, List.setIfInBounds_toArray, List.set_cons_zero, List.set_cons_succ]
  refine wpAnyH_take (i := 8) (v := undef) rfl (by decide +kernel) (by decide +kernel) (by decide +kernel) (fun _ _ _ h => h) (Or.inr ⟨by rfl, rfl⟩) (by assumption) ?_
  try simp only [List.getElem_toArray, List.getElem_cons_zero, List.getElem_cons_succ, Act.put, List.setIfInBounds_toArray, List.set_cons_zero, List.set_cons_succ]
  refine wpAnyH_take (i := 9) (v := ?_) rfl (by decide +kernel) (by decide +kernel) (by decide +kernel) (fun _ _ _ h => h) (Or.inl ⟨by rfl, ?_⟩) (by assumption) ?_
  rotate_left
  · intro w1 hSw; (try dsimp only at hSw); (try simp only [List.getElem_toArray, List.getElem_cons_zero, List.getElem_cons_succ]); go_simp; try with_reducible rfl
  try simp only [List.getElem_toArray, List.getElem_cons_zero, List.getElem_cons_succ, Act.put, List.setIfInBounds_toArray, List.set_cons_zero, List.set_cons_succ]
  refine wpAnyH_done (by decide +kernel) ?_ _
  clear hH
  clear cx0 cx1 cx2
  obtain ⟨cx0, cx1, cx2⟩ := gx.out.all
  dsimp only at cx0 cx1 cx2
  go_wp2_with fail
  refine (cd _ _ gr.out).on.mono ?_
  rintro e w9 ⟨rfl, rfl⟩
  clear cx0 cx1 cx2
  obtain ⟨z0, z1, z2⟩ := gz.out.all
  have zf := gz.out.f
  obtain ⟨r0, r1, r2, hfin⟩ := last_set (w := w) (B := w.heap.size) gz.out ⟨false, 0, 0⟩ hb.out (by omega)
  dsimp only at r0 r1 r2 z0 z1 z2 hfin
  replace hfin := Lib.hid hfin
  clear gz gx gr hb
  go_wp2_with fail
  (try simp only [Exit.inBlock, Exit.then])
  refine bodyPost_ret (by simp [results, Try.results9, go_sem, r0, r1, r2]; try rfl) rfl ?_
  exact ⟨rfl, hfin.out⟩

set_option maxRecDepth 100000 in
set_option maxHeartbeats 8000000 in
theorem get_U1 (k sz n : Int) (s nm : ByteArray) (rest : List UInt8) (bad : Bool) (ci : Ret 32 #[.int .i64 k] (.bool true)) (cs : Ret 15 #[.int .i64 k] (.int .i64 sz))
    (cn : ∀ (w : World) (b : Nat), IsR 85 w b (byts s) false → Answers 35 #[.pointer (some ⟨b, 0, none⟩), .int .i64 sz] (.int .u64 n) 85 w b rest bad)
    (cw : Ret 34 #[.int .u64 n] (wv ⟨false, 0, n⟩)) (ca : Ret 36 #[.int .i64 k] (.agg #[.string nm, .int .i64 sz, .bool false]))
    (cd : ∀ (w : World) (b : Nat), IsR 85 w b rest bad → Quiet 38 #[.pointer (some ⟨b, 0, none⟩)] (.bool true) w)
    (cf : Ret 21 #[.int .i64 k, wv ⟨false, 0, n⟩] (.bool false)) (w : World) :
    Calls Try.prog 9 #[.int .i64 k, .string s] w fun e w' => e = .returned (.tuple #[wv zero, .int .i64 4]) ∧ Below w.heap.size w w' := by
  unfold wv zero at *
  dsimp only at *
  go_enter Try.func9, Try.ntmps9
  go_wp2_with fail
  refine (ci.on _).mono ?_
  rintro e w1 ⟨rfl, hb1⟩
  obtain ⟨gz, hb⟩ := one_new (x := ⟨false, 0, 0⟩) hb1
  have hs := hb.size
  clear hb1
  replace gz := Lib.hid gz
  replace hb := Lib.hid hb
  go_wp2_with fail
  refine (cs.on _).mono ?_
  rintro e w2 ⟨rfl, hb2⟩
  replace gz := Lib.hid (isN_of hb2 gz.out)
  replace hb := Lib.hid (hb.out.trans (hb2.mono hs))
  clear hs hb2
  have hs := hb.out.size
  go_wp2_with fail
  refine (read_c _ _).mono ?_
  rintro e w3 ⟨rfl, rfl⟩
  have hr3 := Lib.hid (show IsR 85 (w2.alloc (.cells #[.string s, .bool false] 85)) w2.heap.size (byts s) false from by have h := IsR.new w2 85 (byts s); rwa [text_byts] at h)
  have ltz := gz.out.lt
  replace gz := Lib.hid (gz.out.alloc (.cells #[.string s, .bool false] 85))
  replace hb := Lib.hid (hb.out.alloc hs (.cells #[.string s, .bool false] 85))
  go_wp2_with fail
  refine Calls.mono (cn _ _ hr3.out) ?_
  rintro e w4 ⟨rfl, gr, hg⟩
  replace gr := Lib.hid gr
  replace gz := Lib.hid (isN_grown gz.out hg (by omega))
  replace hb := Lib.hid (hb.out.grown hg (by rw [size_alloc]; omega) (fun q hq => by rw [← Option.some.inj hq]; exact hs))
  clear hs hg hr3
  have hs := hb.out.size
  have ltr := gr.out.lt
  go_wp2_with fail
  refine (cw.on _).mono ?_
  rintro e w5 ⟨rfl, hb5⟩
  replace gz := Lib.hid (isN_of hb5 gz.out)
  replace gr := Lib.hid (isR_of hb5 gr.out)
  replace hb := Lib.hid (hb.out.trans (hb5.mono hs))
  clear hs hb5
  have hs := hb.out.size
  have hnz := gz.out.lt
  have hnr := gr.out.lt
  replace gz := Lib.hid (gz.out.alloc (oN ⟨false, 0, n⟩))
  replace gr := Lib.hid (gr.out.alloc (oN ⟨false, 0, n⟩))
  have gx := Lib.hid (IsN.new w5 ⟨false, 0, n⟩)
  replace hb := Lib.hid (hb.out.alloc hs (oN ⟨false, 0, n⟩))
  clear hs
  have hs := hb.out.size
  have hfd := field_sign nm sz false
  replace hb := Lib.hid (below_drewed hb.out)
  clear hs
  have hs := hb.out.size
  obtain ⟨cx0, cx1, cx2⟩ := gx.out.all
  dsimp only at cx0 cx1 cx2
  go_wp2_with fail
  refine wp_region_held_at (S := fun w1 => w1.cell? ⟨w5.heap.size, 0, none⟩ = some (.bool false) ∧ w1.cell? ⟨w5.heap.size, 1, none⟩ = some (.int .u64 0) ∧ w1.cell? ⟨w5.heap.size, 2, none⟩ = some (.int .u64 n)) 10 rfl (by kernel_rfl) (by go_keep) (fun hH => ?_)
  refine wpAnyH_take (i := 0) (v := ?_) rfl (by decide +kernel) (by decide +kernel) (by decide +kernel) (fun _ _ _ h => h) (Or.inl ⟨by rfl, ?_⟩) (by assumption) ?_
  rotate_left
  · intro w1 hSw; (try dsimp only at hSw); (try simp only [List.getElem_toArray, List.getElem_cons_zero]); go_simp; try with_reducible rfl
  try simp only [List.getElem_toArray, List.getElem_cons_zero, Act.put, List.setIfInBounds_toArray, List.set_cons_zero, List.set_cons_succ]
  refine wpAnyH_ready (rs := [1]) (by decide +kernel) (by simp) ?_
  refine AllReadyH.cons rfl (fun K hK => ?_) AllReadyH.nil
  (try simp only [List.getElem_toArray, List.getElem_cons_zero, List.getElem_cons_succ])
  go_simp
  refine (ca.on _).mono ?_
  rintro e wr ⟨rfl, hbr⟩
  have hb2 := Lib.hid (hb.out.trans (hbr.mono hs))
  clear hb hs
  have hb := hb2
  clear hb2
  have hs := hb.out.size
  have gg := Lib.hid (isN_of hbr gz.out)
  clear gz
  have gz := gg
  clear gg
  have gg := Lib.hid (isR_of hbr gr.out)
  clear gr
  have gr := gg
  clear gg
  have gg := Lib.hid (isN_of hbr gx.out)
  clear gx
  have gx := gg
  clear gg
  clear hH hbr cx0 cx1 cx2
  obtain ⟨cx0, cx1, cx2⟩ := gx.out.all
  dsimp only at cx0 cx1 cx2
  go_simp
  refine hK.out _ _ (by go_keep) (fun hH => ?_)
  clear hK K
  try simp only [List.getElem_toArray, List.getElem_cons_zero, List.getElem_cons_succ, Act.put, List.setIfInBounds_toArray, List.set_cons_zero, List.set_cons_succ]
  refine wpAnyH_take (i := 2) (v := ?_) rfl (by decide +kernel) (by decide +kernel) (by decide +kernel) (fun _ _ _ h => h) (Or.inl ⟨by rfl, ?_⟩) (by assumption) ?_
  rotate_left
  · intro w1 hSw; (try dsimp only at hSw); (try simp only [List.getElem_toArray, List.getElem_cons_zero, List.getElem_cons_succ]); go_simp; try with_reducible rfl
  try simp only [List.getElem_toArray, List.getElem_cons_zero, List.getElem_cons_succ, Act.put, List.setIfInBounds_toArray, List.set_cons_zero, List.set_cons_succ]
  refine wpAnyH_take (i := 3) (v := ?_) rfl (by decide +kernel) (by decide +kernel) (by decide +kernel) (fun _ _ _ h => h) (Or.inl ⟨by rfl, ?_⟩) (by assumption) ?_
  rotate_left
  · intro w1 hSw; (try dsimp only at hSw); (try simp only [List.getElem_toArray, List.getElem_cons_zero, List.getElem_cons_succ]); go_simp; try with_reducible rfl
  try simp only [List.getElem_toArray, List.getElem_cons_zero, List.getElem_cons_succ, Act.put, List.setIfInBounds_toArray, List.set_cons_zero, List.set_cons_succ]
  refine wpAnyH_take (i := 4) (v := undef) rfl (by decide +kernel) (by decide +kernel) (by decide +kernel) (fun _ _ _ h => h) (Or.inr ⟨by rfl, rfl⟩) (by assumption) ?_
  try simp only [List.getElem_toArray, List.getElem_cons_zero, List.getElem_cons_succ, Act.put, List.setIfInBounds_toArray, List.set_cons_zero, List.set_cons_succ]
  refine wpAnyH_take (i := 5) (v := undef) rfl (by decide +kernel) (by decide +kernel) (by decide +kernel) (fun _ _ _ h => h) (Or.inr ⟨by rfl, rfl⟩) (by assumption) ?_
  try simp only [List.getElem_toArray, List.getElem_cons_zero, List.getElem_cons_succ, Act.put, List.setIfInBounds_toArray, List.set_cons_zero, List.set_cons_succ]
  refine wpAnyH_take (i := 6) (v := undef) rfl (by decide +kernel) (by decide +kernel) (by decide +kernel) (fun _ _ _ h => h) (Or.inr ⟨by rfl, rfl⟩) (by assumption) ?_
  try simp only [List.getElem_toArray, List.getElem_cons_zero, List.getElem_cons_succ, Act.put, List.setIfInBounds_toArray, List.set_cons_zero, List.set_cons_succ]
  refine wpAnyH_take (i := 7) (v := undef) rfl (by decide +kernel) (by decide +kernel) (by decide +kernel) (fun _ _ _ h => h) (Or.inr ⟨by rfl, rfl⟩) (by assumption) ?_
  try simp only [List.getElem_toArray, List.getElem_cons_zero, List.getElem_cons_succ, Act.put, List.setIfInBounds_toArray, List.set_cons_zero, List.set_cons_succ]
  refine wpAnyH_take (i := 8) (v := undef) rfl (by decide +kernel) (by decide +kernel) (by decide +kernel) (fun _ _ _ h => h) (Or.inr ⟨by rfl, rfl⟩) (by assumption) ?_
  try simp only [List.getElem_toArray, List.getElem_cons_zero, List.getElem_cons_succ, Act.put, List.setIfInBounds_toArray, List.set_cons_zero, List.set_cons_succ]
  refine wpAnyH_take (i := 9) (v := ?_) rfl (by decide +kernel) (by decide +kernel) (by decide +kernel) (fun _ _ _ h => h) (Or.inl ⟨by rfl, ?_⟩) (by assumption) ?_
  rotate_left
  · intro w1 hSw; (try dsimp only at hSw); (try simp only [List.getElem_toArray, List.getElem_cons_zero, List.getElem_cons_succ]); go_simp; try with_reducible rfl
  try simp only [List.getElem_toArray, List.getElem_cons_zero, List.getElem_cons_succ, Act.put, List.setIfInBounds_toArray, List.set_cons_zero, List.set_cons_succ]
  refine wpAnyH_done (by decide +kernel) ?_ _
  clear hH
  clear cx0 cx1 cx2
  obtain ⟨cx0, cx1, cx2⟩ := gx.out.all
  dsimp only at cx0 cx1 cx2
  go_wp2_with fail
  refine (cd _ _ gr.out).on.mono ?_
  rintro e w9 ⟨rfl, rfl⟩
  go_wp2_with fail
  refine (cf.on _).mono ?_
  rintro e w20 ⟨rfl, hb20⟩
  replace gz := Lib.hid (isN_of hb20 gz.out)
  replace gr := Lib.hid (isR_of hb20 gr.out)
  replace gx := Lib.hid (isN_of hb20 gx.out)
  replace hb := Lib.hid (hb.out.trans (hb20.mono hs))
  clear hs hb20
  have hs := hb.out.size
  clear cx0 cx1 cx2
  obtain ⟨z0, z1, z2⟩ := gz.out.all
  have zf := gz.out.f
  obtain ⟨r0, r1, r2, hfin⟩ := last_set (w := w) (B := w.heap.size) gz.out ⟨false, 0, 0⟩ hb.out (by omega)
  dsimp only at r0 r1 r2 z0 z1 z2 hfin
  replace hfin := Lib.hid hfin
  clear gz gx gr hb
  go_wp2_with fail
  (try simp only [Exit.inBlock, Exit.then])
  refine bodyPost_ret (by simp [results, Try.results9, go_sem, r0, r1, r2]; try rfl) rfl ?_
  exact ⟨rfl, hfin.out⟩

set_option maxRecDepth 100000 in
set_option maxHeartbeats 8000000 in
theorem get_U2 (k sz n : Int) (s nm : ByteArray) (rest : List UInt8) (bad : Bool) (ci : Ret 32 #[.int .i64 k] (.bool true)) (cs : Ret 15 #[.int .i64 k] (.int .i64 sz))
    (cn : ∀ (w : World) (b : Nat), IsR 85 w b (byts s) false → Answers 35 #[.pointer (some ⟨b, 0, none⟩), .int .i64 sz] (.int .u64 n) 85 w b rest bad)
    (cw : Ret 34 #[.int .u64 n] (wv ⟨false, 0, n⟩)) (ca : Ret 36 #[.int .i64 k] (.agg #[.string nm, .int .i64 sz, .bool false]))
    (cd : ∀ (w : World) (b : Nat), IsR 85 w b rest bad → Quiet 38 #[.pointer (some ⟨b, 0, none⟩)] (.bool true) w)
    (cf : Ret 21 #[.int .i64 k, wv ⟨false, 0, n⟩] (.bool true)) (w : World) :
    Calls Try.prog 9 #[.int .i64 k, .string s] w fun e w' => e = .returned (.tuple #[wv ⟨false, 0, n⟩, .int .i64 0]) ∧ Below w.heap.size w w' := by
  unfold wv at *
  dsimp only at *
  go_enter Try.func9, Try.ntmps9
  go_wp2_with fail
  refine (ci.on _).mono ?_
  rintro e w1 ⟨rfl, hb1⟩
  obtain ⟨gz, hb⟩ := one_new (x := ⟨false, 0, 0⟩) hb1
  have hs := hb.size
  clear hb1
  replace gz := Lib.hid gz
  replace hb := Lib.hid hb
  go_wp2_with fail
  refine (cs.on _).mono ?_
  rintro e w2 ⟨rfl, hb2⟩
  replace gz := Lib.hid (isN_of hb2 gz.out)
  replace hb := Lib.hid (hb.out.trans (hb2.mono hs))
  clear hs hb2
  have hs := hb.out.size
  go_wp2_with fail
  refine (read_c _ _).mono ?_
  rintro e w3 ⟨rfl, rfl⟩
  have hr3 := Lib.hid (show IsR 85 (w2.alloc (.cells #[.string s, .bool false] 85)) w2.heap.size (byts s) false from by have h := IsR.new w2 85 (byts s); rwa [text_byts] at h)
  have ltz := gz.out.lt
  replace gz := Lib.hid (gz.out.alloc (.cells #[.string s, .bool false] 85))
  replace hb := Lib.hid (hb.out.alloc hs (.cells #[.string s, .bool false] 85))
  go_wp2_with fail
  refine Calls.mono (cn _ _ hr3.out) ?_
  rintro e w4 ⟨rfl, gr, hg⟩
  replace gr := Lib.hid gr
  replace gz := Lib.hid (isN_grown gz.out hg (by omega))
  replace hb := Lib.hid (hb.out.grown hg (by rw [size_alloc]; omega) (fun q hq => by rw [← Option.some.inj hq]; exact hs))
  clear hs hg hr3
  have hs := hb.out.size
  have ltr := gr.out.lt
  go_wp2_with fail
  refine (cw.on _).mono ?_
  rintro e w5 ⟨rfl, hb5⟩
  replace gz := Lib.hid (isN_of hb5 gz.out)
  replace gr := Lib.hid (isR_of hb5 gr.out)
  replace hb := Lib.hid (hb.out.trans (hb5.mono hs))
  clear hs hb5
  have hs := hb.out.size
  have hnz := gz.out.lt
  have hnr := gr.out.lt
  replace gz := Lib.hid (gz.out.alloc (oN ⟨false, 0, n⟩))
  replace gr := Lib.hid (gr.out.alloc (oN ⟨false, 0, n⟩))
  have gx := Lib.hid (IsN.new w5 ⟨false, 0, n⟩)
  replace hb := Lib.hid (hb.out.alloc hs (oN ⟨false, 0, n⟩))
  clear hs
  have hs := hb.out.size
  have hfd := field_sign nm sz false
  replace hb := Lib.hid (below_drewed hb.out)
  clear hs
  have hs := hb.out.size
  obtain ⟨cx0, cx1, cx2⟩ := gx.out.all
  dsimp only at cx0 cx1 cx2
  go_wp2_with fail
  refine wp_region_held_at (S := fun w1 => w1.cell? ⟨w5.heap.size, 0, none⟩ = some (.bool false) ∧ w1.cell? ⟨w5.heap.size, 1, none⟩ = some (.int .u64 0) ∧ w1.cell? ⟨w5.heap.size, 2, none⟩ = some (.int .u64 n)) 10 rfl (by kernel_rfl) (by go_keep) (fun hH => ?_)
  refine wpAnyH_take (i := 0) (v := ?_) rfl (by decide +kernel) (by decide +kernel) (by decide +kernel) (fun _ _ _ h => h) (Or.inl ⟨by rfl, ?_⟩) (by assumption) ?_
  rotate_left
  · intro w1 hSw; (try dsimp only at hSw); (try simp only [List.getElem_toArray, List.getElem_cons_zero]); go_simp; try with_reducible rfl
  try simp only [List.getElem_toArray, List.getElem_cons_zero, Act.put, List.setIfInBounds_toArray, List.set_cons_zero, List.set_cons_succ]
  refine wpAnyH_ready (rs := [1]) (by decide +kernel) (by simp) ?_
  refine AllReadyH.cons rfl (fun K hK => ?_) AllReadyH.nil
  (try simp only [List.getElem_toArray, List.getElem_cons_zero, List.getElem_cons_succ])
  go_simp
  refine (ca.on _).mono ?_
  rintro e wr ⟨rfl, hbr⟩
  have hb2 := Lib.hid (hb.out.trans (hbr.mono hs))
  clear hb hs
  have hb := hb2
  clear hb2
  have hs := hb.out.size
  have gg := Lib.hid (isN_of hbr gz.out)
  clear gz
  have gz := gg
  clear gg
  have gg := Lib.hid (isR_of hbr gr.out)
  clear gr
  have gr := gg
  clear gg
  have gg := Lib.hid (isN_of hbr gx.out)
  clear gx
  have gx := gg
  clear gg
  clear hH hbr cx0 cx1 cx2
  obtain ⟨cx0, cx1, cx2⟩ := gx.out.all
  dsimp only at cx0 cx1 cx2
  go_simp
  refine hK.out _ _ (by go_keep) (fun hH => ?_)
  clear hK K
  try simp only [List.getElem_toArray, List.getElem_cons_zero, List.getElem_cons_succ, Act.put, List.setIfInBounds_toArray, List.set_cons_zero, List.set_cons_succ]
  refine wpAnyH_take (i := 2) (v := ?_) rfl (by decide +kernel) (by decide +kernel) (by decide +kernel) (fun _ _ _ h => h) (Or.inl ⟨by rfl, ?_⟩) (by assumption) ?_
  rotate_left
  · intro w1 hSw; (try dsimp only at hSw); (try simp only [List.getElem_toArray, List.getElem_cons_zero, List.getElem_cons_succ]); go_simp; try with_reducible rfl
  try simp only [List.getElem_toArray, List.getElem_cons_zero, List.getElem_cons_succ, Act.put, List.setIfInBounds_toArray, List.set_cons_zero, List.set_cons_succ]
  refine wpAnyH_take (i := 3) (v := ?_) rfl (by decide +kernel) (by decide +kernel) (by decide +kernel) (fun _ _ _ h => h) (Or.inl ⟨by rfl, ?_⟩) (by assumption) ?_
  rotate_left
  · intro w1 hSw; (try dsimp only at hSw); (try simp only [List.getElem_toArray, List.getElem_cons_zero, List.getElem_cons_succ]); go_simp; try with_reducible rfl
  try simp only [List.getElem_toArray, List.getElem_cons_zero, List.getElem_cons_succ, Act.put, List.setIfInBounds_toArray, List.set_cons_zero, List.set_cons_succ]
  refine wpAnyH_take (i := 4) (v := undef) rfl (by decide +kernel) (by decide +kernel) (by decide +kernel) (fun _ _ _ h => h) (Or.inr ⟨by rfl, rfl⟩) (by assumption) ?_
  try simp only [List.getElem_toArray, List.getElem_cons_zero, List.getElem_cons_succ, Act.put, List.setIfInBounds_toArray, List.set_cons_zero, List.set_cons_succ]
  refine wpAnyH_take (i := 5) (v := undef) rfl (by decide +kernel) (by decide +kernel) (by decide +kernel) (fun _ _ _ h => h) (Or.inr ⟨by rfl, rfl⟩) (by assumption) ?_
  try simp only [List.getElem_toArray, List.getElem_cons_zero, List.getElem_cons_succ, Act.put, List.setIfInBounds_toArray, List.set_cons_zero, List.set_cons_succ]
  refine wpAnyH_take (i := 6) (v := undef) rfl (by decide +kernel) (by decide +kernel) (by decide +kernel) (fun _ _ _ h => h) (Or.inr ⟨by rfl, rfl⟩) (by assumption) ?_
  try simp only [List.getElem_toArray, List.getElem_cons_zero, List.getElem_cons_succ, Act.put, List.setIfInBounds_toArray, List.set_cons_zero, List.set_cons_succ]
  refine wpAnyH_take (i := 7) (v := undef) rfl (by decide +kernel) (by decide +kernel) (by decide +kernel) (fun _ _ _ h => h) (Or.inr ⟨by rfl, rfl⟩) (by assumption) ?_
  try simp only [List.getElem_toArray, List.getElem_cons_zero, List.getElem_cons_succ, Act.put, List.setIfInBounds_toArray, List.set_cons_zero, List.set_cons_succ]
  refine wpAnyH_take (i := 8) (v := undef) rfl (by decide +kernel) (by decide +kernel) (by decide +kernel) (fun _ _ _ h => h) (Or.inr ⟨by rfl, rfl⟩) (by assumption) ?_
  try simp only [List.getElem_toArray, List.getElem_cons_zero, List.getElem_cons_succ, Act.put, List.setIfInBounds_toArray, List.set_cons_zero, List.set_cons_succ]
  refine wpAnyH_take (i := 9) (v := ?_) rfl (by decide +kernel) (by decide +kernel) (by decide +kernel) (fun _ _ _ h => h) (Or.inl ⟨by rfl, ?_⟩) (by assumption) ?_
  rotate_left
  · intro w1 hSw; (try dsimp only at hSw); (try simp only [List.getElem_toArray, List.getElem_cons_zero, List.getElem_cons_succ]); go_simp; try with_reducible rfl
  try simp only [List.getElem_toArray, List.getElem_cons_zero, List.getElem_cons_succ, Act.put, List.setIfInBounds_toArray, List.set_cons_zero, List.set_cons_succ]
  refine wpAnyH_done (by decide +kernel) ?_ _
  clear hH
  clear cx0 cx1 cx2
  obtain ⟨cx0, cx1, cx2⟩ := gx.out.all
  dsimp only at cx0 cx1 cx2
  go_wp2_with fail
  refine (cd _ _ gr.out).on.mono ?_
  rintro e w9 ⟨rfl, rfl⟩
  go_wp2_with fail
  refine (cf.on _).mono ?_
  rintro e w20 ⟨rfl, hb20⟩
  replace gz := Lib.hid (isN_of hb20 gz.out)
  replace gr := Lib.hid (isR_of hb20 gr.out)
  replace gx := Lib.hid (isN_of hb20 gx.out)
  replace hb := Lib.hid (hb.out.trans (hb20.mono hs))
  clear hs hb20
  have hs := hb.out.size
  clear cx0 cx1 cx2
  obtain ⟨cx0, cx1, cx2⟩ := gx.out.all
  dsimp only at cx0 cx1 cx2
  obtain ⟨z0, z1, z2⟩ := gz.out.all
  have zf := gz.out.f
  obtain ⟨r0, r1, r2, hfin⟩ := last_set (w := w) (B := w.heap.size) gz.out ⟨false, 0, n⟩ hb.out (by omega)
  dsimp only at r0 r1 r2 z0 z1 z2 hfin
  replace hfin := Lib.hid hfin
  clear gz gx gr hb
  go_wp2_with fail
  (try simp only [Exit.inBlock, Exit.then])
  refine bodyPost_ret (by simp [results, Try.results9, go_sem, r0, r1, r2]; try rfl) rfl ?_
  exact ⟨rfl, hfin.out⟩

set_option maxRecDepth 100000 in
set_option maxHeartbeats 8000000 in
theorem get_S0 (k sz n : Int) (s nm : ByteArray) (rest : List UInt8) (bad : Bool) (G : WI) (u : Int) (ci : Ret 32 #[.int .i64 k] (.bool true)) (cs : Ret 15 #[.int .i64 k] (.int .i64 sz))
    (cn : ∀ (w : World) (b : Nat), IsR 85 w b (byts s) false → Answers 35 #[.pointer (some ⟨b, 0, none⟩), .int .i64 sz] (.int .u64 n) 85 w b rest bad)
    (cw : Ret 34 #[.int .u64 n] (wv ⟨false, 0, n⟩)) (ca : Ret 36 #[.int .i64 k] (.agg #[.string nm, .int .i64 sz, .bool true]))
    (cd : ∀ (w : World) (b : Nat), IsR 85 w b rest bad → Quiet 38 #[.pointer (some ⟨b, 0, none⟩)] (.bool false) w) (cg : Ret 18 #[.int .i64 k] (wv G)) (c2 : Ret 30 #[wv ⟨false, 0, n⟩, wv G] (.int .i64 u)) (d1 : decide (0 < u) = false) (w : World) :
    Calls Try.prog 9 #[.int .i64 k, .string s] w fun e w' => e = .returned (.tuple #[wv zero, .int .i64 4]) ∧ Below w.heap.size w w' := by
  obtain ⟨Gn, Gh, Gl⟩ := G
  unfold wv zero at *
  dsimp only at *
  go_enter Try.func9, Try.ntmps9
  go_wp2_with fail
  refine (ci.on _).mono ?_
  rintro e w1 ⟨rfl, hb1⟩
  obtain ⟨gz, hb⟩ := one_new (x := ⟨false, 0, 0⟩) hb1
  have hs := hb.size
  clear hb1
  replace gz := Lib.hid gz
  replace hb := Lib.hid hb
  go_wp2_with fail
  refine (cs.on _).mono ?_
  rintro e w2 ⟨rfl, hb2⟩
  replace gz := Lib.hid (isN_of hb2 gz.out)
  replace hb := Lib.hid (hb.out.trans (hb2.mono hs))
  clear hs hb2
  have hs := hb.out.size
  go_wp2_with fail
  refine (read_c _ _).mono ?_
  rintro e w3 ⟨rfl, rfl⟩
  have hr3 := Lib.hid (show IsR 85 (w2.alloc (.cells #[.string s, .bool false] 85)) w2.heap.size (byts s) false from by have h := IsR.new w2 85 (byts s); rwa [text_byts] at h)
  have ltz := gz.out.lt
  replace gz := Lib.hid (gz.out.alloc (.cells #[.string s, .bool false] 85))
  replace hb := Lib.hid (hb.out.alloc hs (.cells #[.string s, .bool false] 85))
  go_wp2_with fail
  refine Calls.mono (cn _ _ hr3.out) ?_
  rintro e w4 ⟨rfl, gr, hg⟩
  replace gr := Lib.hid gr
  replace gz := Lib.hid (isN_grown gz.out hg (by omega))
  replace hb := Lib.hid (hb.out.grown hg (by rw [size_alloc]; omega) (fun q hq => by rw [← Option.some.inj hq]; exact hs))
  clear hs hg hr3
  have hs := hb.out.size
  have ltr := gr.out.lt
  go_wp2_with fail
  refine (cw.on _).mono ?_
  rintro e w5 ⟨rfl, hb5⟩
  replace gz := Lib.hid (isN_of hb5 gz.out)
  replace gr := Lib.hid (isR_of hb5 gr.out)
  replace hb := Lib.hid (hb.out.trans (hb5.mono hs))
  clear hs hb5
  have hs := hb.out.size
  have hnz := gz.out.lt
  have hnr := gr.out.lt
  replace gz := Lib.hid (gz.out.alloc (oN ⟨false, 0, n⟩))
  replace gr := Lib.hid (gr.out.alloc (oN ⟨false, 0, n⟩))
  have gx := Lib.hid (IsN.new w5 ⟨false, 0, n⟩)
  replace hb := Lib.hid (hb.out.alloc hs (oN ⟨false, 0, n⟩))
  clear hs
  have hs := hb.out.size
  have hfd := field_sign nm sz true
  replace hb := Lib.hid (below_drewed hb.out)
  clear hs
  have hs := hb.out.size
  obtain ⟨cx0, cx1, cx2⟩ := gx.out.all
  dsimp only at cx0 cx1 cx2
  go_wp2_with fail
  refine wp_region_held_at (S := fun w1 => w1.cell? ⟨w5.heap.size, 0, none⟩ = some (.bool false) ∧ w1.cell? ⟨w5.heap.size, 1, none⟩ = some (.int .u64 0) ∧ w1.cell? ⟨w5.heap.size, 2, none⟩ = some (.int .u64 n)) 10 rfl (by kernel_rfl) (by go_keep) (fun hH => ?_)
  refine wpAnyH_take (i := 0) (v := ?_) rfl (by decide +kernel) (by decide +kernel) (by decide +kernel) (fun _ _ _ h => h) (Or.inl ⟨by rfl, ?_⟩) (by assumption) ?_
  rotate_left
  · intro w1 hSw; (try dsimp only at hSw); (try simp only [List.getElem_toArray, List.getElem_cons_zero]); go_simp; try with_reducible rfl
  try simp only [List.getElem_toArray, List.getElem_cons_zero, Act.put, List.setIfInBounds_toArray, List.set_cons_zero, List.set_cons_succ]
  refine wpAnyH_ready (rs := [1]) (by decide +kernel) (by simp) ?_
  refine AllReadyH.cons rfl (fun K hK => ?_) AllReadyH.nil
  (try simp only [List.getElem_toArray, List.getElem_cons_zero, List.getElem_cons_succ])
  go_simp
  refine (ca.on _).mono ?_
  rintro e wr ⟨rfl, hbr⟩
  have hb2 := Lib.hid (hb.out.trans (hbr.mono hs))
  clear hb hs
  have hb := hb2
  clear hb2
  have hs := hb.out.size
  have gg := Lib.hid (isN_of hbr gz.out)
  clear gz
  have gz := gg
  clear gg
  have gg := Lib.hid (isR_of hbr gr.out)
  clear gr
  have gr := gg
  clear gg
  have gg := Lib.hid (isN_of hbr gx.out)
  clear gx
  have gx := gg
  clear gg
  clear hH hbr cx0 cx1 cx2
  obtain ⟨cx0, cx1, cx2⟩ := gx.out.all
  dsimp only at cx0 cx1 cx2
  go_simp
  refine hK.out _ _ (by go_keep) (fun hH => ?_)
  clear hK K
  try simp only [List.getElem_toArray, List.getElem_cons_zero, List.getElem_cons_succ, Act.put, List.setIfInBounds_toArray, List.set_cons_zero, List.set_cons_succ]
  refine wpAnyH_take (i := 2) (v := ?_) rfl (by decide +kernel) (by decide +kernel) (by decide +kernel) (fun _ _ _ h => h) (Or.inl ⟨by rfl, ?_⟩) (by assumption) ?_
  rotate_left
  · intro w1 hSw; (try dsimp only at hSw); (try simp only [List.getElem_toArray, List.getElem_cons_zero, List.getElem_cons_succ]); go_simp; try with_reducible rfl
  try simp only [List.getElem_toArray, List.getElem_cons_zero, List.getElem_cons_succ, Act.put, List.setIfInBounds_toArray, List.set_cons_zero, List.set_cons_succ]
  refine wpAnyH_take (i := 3) (v := ?_) rfl (by decide +kernel) (by decide +kernel) (by decide +kernel) (fun _ _ _ h => h) (Or.inl ⟨by rfl, ?_⟩) (by assumption) ?_
  rotate_left
  · intro w1 hSw; (try dsimp only at hSw); (try simp only [List.getElem_toArray, List.getElem_cons_zero, List.getElem_cons_succ]); go_simp; try with_reducible rfl
  try simp only [List.getElem_toArray, List.getElem_cons_zero, List.getElem_cons_succ, Act.put, List.setIfInBounds_toArray, List.set_cons_zero, List.set_cons_succ]
  refine wpAnyH_take (i := 4) (v := ?_) rfl (by decide +kernel) (by decide +kernel) (by decide +kernel) (fun _ _ _ h => h) (Or.inl ⟨by rfl, ?_⟩) (by assumption) ?_
  rotate_left
  · intro w1 hSw; (try dsimp only at hSw); (try simp only [List.getElem_toArray, List.getElem_cons_zero, List.getElem_cons_succ]); go_simp; try with_reducible rfl
  try simp only [List.getElem_toArray, List.getElem_cons_zero, List.getElem_cons_succ, Act.put, List.setIfInBounds_toArray, List.set_cons_zero, List.set_cons_succ]
  refine wpAnyH_take (i := 5) (v := ?_) rfl (by decide +kernel) (by decide +kernel) (by decide +kernel) (fun _ _ _ h => h) (Or.inl ⟨by rfl, ?_⟩) (by assumption) ?_
  rotate_left
  · intro w1 hSw; (try dsimp only at hSw); (try simp only [List.getElem_toArray, List.getElem_cons_zero, List.getElem_cons_succ]); go_simp; try with_reducible rfl
  try simp only [List.getElem_toArray, List.getElem_cons_zero, List.getElem_cons_succ, Act.put, List.setIfInBounds_toArray, List.set_cons_zero, List.set_cons_succ]
  refine wpAnyH_ready (rs := [6]) (by decide +kernel) (by simp) ?_
  refine AllReadyH.cons rfl (fun K hK => ?_) AllReadyH.nil
  (try simp only [List.getElem_toArray, List.getElem_cons_zero, List.getElem_cons_succ])
  go_simp
  refine (cg.on _).mono ?_
  rintro e wr ⟨rfl, hbr⟩
  have hb2 := Lib.hid (hb.out.trans (hbr.mono hs))
  clear hb hs
  have hb := hb2
  clear hb2
  have hs := hb.out.size
  have gg := Lib.hid (isN_of hbr gz.out)
  clear gz
  have gz := gg
  clear gg
  have gg := Lib.hid (isR_of hbr gr.out)
  clear gr
  have gr := gg
  clear gg
  have gg := Lib.hid (isN_of hbr gx.out)
  clear gx
  have gx := gg
  clear gg
  clear hH hbr cx0 cx1 cx2
  obtain ⟨cx0, cx1, cx2⟩ := gx.out.all
  dsimp only at cx0 cx1 cx2
  go_simp
  refine hK.out _ _ (by go_keep) (fun hH => ?_)
  clear hK K
  try simp only [List.getElem_toArray, List.getElem_cons_zero, List.getElem_cons_succ, Act.put, List.setIfInBounds_toArray, List.set_cons_zero, List.set_cons_succ]
  refine wpAnyH_ready (rs := [7]) (by decide +kernel) (by simp) ?_
  refine AllReadyH.cons rfl (fun K hK => ?_) AllReadyH.nil
  (try simp only [List.getElem_toArray, List.getElem_cons_zero, List.getElem_cons_succ])
  go_simp
  refine (c2.on _).mono ?_
  rintro e wr ⟨rfl, hbr⟩
  have hb2 := Lib.hid (hb.out.trans (hbr.mono hs))
  clear hb hs
  have hb := hb2
  clear hb2
  have hs := hb.out.size
  have gg := Lib.hid (isN_of hbr gz.out)
  clear gz
  have gz := gg
  clear gg
  have gg := Lib.hid (isR_of hbr gr.out)
  clear gr
  have gr := gg
  clear gg
  have gg := Lib.hid (isN_of hbr gx.out)
  clear gx
  have gx := gg
  clear gg
  clear hH hbr cx0 cx1 cx2
  obtain ⟨cx0, cx1, cx2⟩ := gx.out.all
  dsimp only at cx0 cx1 cx2
  go_simp
  refine hK.out _ _ (by go_keep) (fun hH => ?_)
  clear hK K
  try simp only [List.getElem_toArray, List.getElem_cons_zero, List.getElem_cons_succ, Act.put, List.setIfInBounds_toArray, List.set_cons_zero, List.set_cons_succ]
  refine wpAnyH_take (i := 8) (v := ?_) rfl (by decide +kernel) (by decide +kernel) (by decide +kernel) (fun _ _ _ h => h) (Or.inl ⟨by rfl, ?_⟩) (by assumption) ?_
  rotate_left
  · intro w1 hSw; (try dsimp only at hSw); (try simp only [List.getElem_toArray, List.getElem_cons_zero, List.getElem_cons_succ]); go_simp; try with_reducible rfl
  try simp only [List.getElem_toArray, List.getElem_cons_zero, List.getElem_cons_succ, Act.put, List.setIfInBounds_toArray, List.set_cons_zero, List.set_cons_succ]
  refine wpAnyH_take (i := 9) (v := ?_) rfl (by decide +kernel) (by decide +kernel) (by decide +kernel) (fun _ _ _ h => h) (Or.inl ⟨by rfl, ?_⟩) (by assumption) ?_
  rotate_left
  · intro w1 hSw; (try dsimp only at hSw); (try simp only [List.getElem_toArray, List.getElem_cons_zero, List.getElem_cons_succ]); go_simp; try with_reducible rfl
  try simp only [List.getElem_toArray, List.getElem_cons_zero, List.getElem_cons_succ, Act.put, List.setIfInBounds_toArray, List.set_cons_zero, List.set_cons_succ]
  refine wpAnyH_done (by decide +kernel) ?_ _
  clear hH
  go_wp2_with fail
  refine (cd _ _ gr.out).on.mono ?_
  rintro e w9 ⟨rfl, rfl⟩
  clear cx0 cx1 cx2
  obtain ⟨z0, z1, z2⟩ := gz.out.all
  have zf := gz.out.f
  obtain ⟨r0, r1, r2, hfin⟩ := last_set (w := w) (B := w.heap.size) gz.out ⟨false, 0, 0⟩ hb.out (by omega)
  dsimp only at r0 r1 r2 z0 z1 z2 hfin
  replace hfin := Lib.hid hfin
  clear gz gx gr hb
  go_wp2_with fail
  (try simp only [Exit.inBlock, Exit.then])
  refine bodyPost_ret (by simp [results, Try.results9, go_sem, r0, r1, r2]; try rfl) rfl ?_
  exact ⟨rfl, hfin.out⟩

set_option maxRecDepth 100000 in
set_option maxHeartbeats 8000000 in
theorem get_S1 (k sz n : Int) (s nm : ByteArray) (rest : List UInt8) (bad : Bool) (G : WI) (u : Int) (ci : Ret 32 #[.int .i64 k] (.bool true)) (cs : Ret 15 #[.int .i64 k] (.int .i64 sz))
    (cn : ∀ (w : World) (b : Nat), IsR 85 w b (byts s) false → Answers 35 #[.pointer (some ⟨b, 0, none⟩), .int .i64 sz] (.int .u64 n) 85 w b rest bad)
    (cw : Ret 34 #[.int .u64 n] (wv ⟨false, 0, n⟩)) (ca : Ret 36 #[.int .i64 k] (.agg #[.string nm, .int .i64 sz, .bool true]))
    (cd : ∀ (w : World) (b : Nat), IsR 85 w b rest bad → Quiet 38 #[.pointer (some ⟨b, 0, none⟩)] (.bool true) w)
    (cf : Ret 21 #[.int .i64 k, wv ⟨false, 0, n⟩] (.bool false)) (cg : Ret 18 #[.int .i64 k] (wv G)) (c2 : Ret 30 #[wv ⟨false, 0, n⟩, wv G] (.int .i64 u)) (d1 : decide (0 < u) = false) (w : World) :
    Calls Try.prog 9 #[.int .i64 k, .string s] w fun e w' => e = .returned (.tuple #[wv zero, .int .i64 4]) ∧ Below w.heap.size w w' := by
  obtain ⟨Gn, Gh, Gl⟩ := G
  unfold wv zero at *
  dsimp only at *
  go_enter Try.func9, Try.ntmps9
  go_wp2_with fail
  refine (ci.on _).mono ?_
  rintro e w1 ⟨rfl, hb1⟩
  obtain ⟨gz, hb⟩ := one_new (x := ⟨false, 0, 0⟩) hb1
  have hs := hb.size
  clear hb1
  replace gz := Lib.hid gz
  replace hb := Lib.hid hb
  go_wp2_with fail
  refine (cs.on _).mono ?_
  rintro e w2 ⟨rfl, hb2⟩
  replace gz := Lib.hid (isN_of hb2 gz.out)
  replace hb := Lib.hid (hb.out.trans (hb2.mono hs))
  clear hs hb2
  have hs := hb.out.size
  go_wp2_with fail
  refine (read_c _ _).mono ?_
  rintro e w3 ⟨rfl, rfl⟩
  have hr3 := Lib.hid (show IsR 85 (w2.alloc (.cells #[.string s, .bool false] 85)) w2.heap.size (byts s) false from by have h := IsR.new w2 85 (byts s); rwa [text_byts] at h)
  have ltz := gz.out.lt
  replace gz := Lib.hid (gz.out.alloc (.cells #[.string s, .bool false] 85))
  replace hb := Lib.hid (hb.out.alloc hs (.cells #[.string s, .bool false] 85))
  go_wp2_with fail
  refine Calls.mono (cn _ _ hr3.out) ?_
  rintro e w4 ⟨rfl, gr, hg⟩
  replace gr := Lib.hid gr
  replace gz := Lib.hid (isN_grown gz.out hg (by omega))
  replace hb := Lib.hid (hb.out.grown hg (by rw [size_alloc]; omega) (fun q hq => by rw [← Option.some.inj hq]; exact hs))
  clear hs hg hr3
  have hs := hb.out.size
  have ltr := gr.out.lt
  go_wp2_with fail
  refine (cw.on _).mono ?_
  rintro e w5 ⟨rfl, hb5⟩
  replace gz := Lib.hid (isN_of hb5 gz.out)
  replace gr := Lib.hid (isR_of hb5 gr.out)
  replace hb := Lib.hid (hb.out.trans (hb5.mono hs))
  clear hs hb5
  have hs := hb.out.size
  have hnz := gz.out.lt
  have hnr := gr.out.lt
  replace gz := Lib.hid (gz.out.alloc (oN ⟨false, 0, n⟩))
  replace gr := Lib.hid (gr.out.alloc (oN ⟨false, 0, n⟩))
  have gx := Lib.hid (IsN.new w5 ⟨false, 0, n⟩)
  replace hb := Lib.hid (hb.out.alloc hs (oN ⟨false, 0, n⟩))
  clear hs
  have hs := hb.out.size
  have hfd := field_sign nm sz true
  replace hb := Lib.hid (below_drewed hb.out)
  clear hs
  have hs := hb.out.size
  obtain ⟨cx0, cx1, cx2⟩ := gx.out.all
  dsimp only at cx0 cx1 cx2
  go_wp2_with fail
  refine wp_region_held_at (S := fun w1 => w1.cell? ⟨w5.heap.size, 0, none⟩ = some (.bool false) ∧ w1.cell? ⟨w5.heap.size, 1, none⟩ = some (.int .u64 0) ∧ w1.cell? ⟨w5.heap.size, 2, none⟩ = some (.int .u64 n)) 10 rfl (by kernel_rfl) (by go_keep) (fun hH => ?_)
  refine wpAnyH_take (i := 0) (v := ?_) rfl (by decide +kernel) (by decide +kernel) (by decide +kernel) (fun _ _ _ h => h) (Or.inl ⟨by rfl, ?_⟩) (by assumption) ?_
  rotate_left
  · intro w1 hSw; (try dsimp only at hSw); (try simp only [List.getElem_toArray, List.getElem_cons_zero]); go_simp; try with_reducible rfl
  try simp only [List.getElem_toArray, List.getElem_cons_zero, Act.put, List.setIfInBounds_toArray, List.set_cons_zero, List.set_cons_succ]
  refine wpAnyH_ready (rs := [1]) (by decide +kernel) (by simp) ?_
  refine AllReadyH.cons rfl (fun K hK => ?_) AllReadyH.nil
  (try simp only [List.getElem_toArray, List.getElem_cons_zero, List.getElem_cons_succ])
  go_simp
  refine (ca.on _).mono ?_
  rintro e wr ⟨rfl, hbr⟩
  have hb2 := Lib.hid (hb.out.trans (hbr.mono hs))
  clear hb hs
  have hb := hb2
  clear hb2
  have hs := hb.out.size
  have gg := Lib.hid (isN_of hbr gz.out)
  clear gz
  have gz := gg
  clear gg
  have gg := Lib.hid (isR_of hbr gr.out)
  clear gr
  have gr := gg
  clear gg
  have gg := Lib.hid (isN_of hbr gx.out)
  clear gx
  have gx := gg
  clear gg
  clear hH hbr cx0 cx1 cx2
  obtain ⟨cx0, cx1, cx2⟩ := gx.out.all
  dsimp only at cx0 cx1 cx2
  go_simp
  refine hK.out _ _ (by go_keep) (fun hH => ?_)
  clear hK K
  try simp only [List.getElem_toArray, List.getElem_cons_zero, List.getElem_cons_succ, Act.put, List.setIfInBounds_toArray, List.set_cons_zero, List.set_cons_succ]
  refine wpAnyH_take (i := 2) (v := ?_) rfl (by decide +kernel) (by decide +kernel) (by decide +kernel) (fun _ _ _ h => h) (Or.inl ⟨by rfl, ?_⟩) (by assumption) ?_
  rotate_left
  · intro w1 hSw; (try dsimp only at hSw); (try simp only [List.getElem_toArray, List.getElem_cons_zero, List.getElem_cons_succ]); go_simp; try with_reducible rfl
  try simp only [List.getElem_toArray, List.getElem_cons_zero, List.getElem_cons_succ, Act.put, List.setIfInBounds_toArray, List.set_cons_zero, List.set_cons_succ]
  refine wpAnyH_take (i := 3) (v := ?_) rfl (by decide +kernel) (by decide +kernel) (by decide +kernel) (fun _ _ _ h => h) (Or.inl ⟨by rfl, ?_⟩) (by assumption) ?_
  rotate_left
  · intro w1 hSw; (try dsimp only at hSw); (try simp only [List.getElem_toArray, List.getElem_cons_zero, List.getElem_cons_succ]); go_simp; try with_reducible rfl
  try simp only [List.getElem_toArray, List.getElem_cons_zero, List.getElem_cons_succ, Act.put, List.setIfInBounds_toArray, List.set_cons_zero, List.set_cons_succ]
  refine wpAnyH_take (i := 4) (v := ?_) rfl (by decide +kernel) (by decide +kernel) (by decide +kernel) (fun _ _ _ h => h) (Or.inl ⟨by rfl, ?_⟩) (by assumption) ?_
  rotate_left
  · intro w1 hSw; (try dsimp only at hSw); (try simp only [List.getElem_toArray, List.getElem_cons_zero, List.getElem_cons_succ]); go_simp; try with_reducible rfl
  try simp only [List.getElem_toArray, List.getElem_cons_zero, List.getElem_cons_succ, Act.put, List.setIfInBounds_toArray, List.set_cons_zero, List.set_cons_succ]
  refine wpAnyH_take (i := 5) (v := ?_) rfl (by decide +kernel) (by decide +kernel) (by decide +kernel) (fun _ _ _ h => h) (Or.inl ⟨by rfl, ?_⟩) (by assumption) ?_
  rotate_left
  · intro w1 hSw; (try dsimp only at hSw); (try simp only [List.getElem_toArray, List.getElem_cons_zero, List.getElem_cons_succ]); go_simp; try with_reducible rfl
  try simp only [List.getElem_toArray, List.getElem_cons_zero, List.getElem_cons_succ, Act.put, List.setIfInBounds_toArray, List.set_cons_zero, List.set_cons_succ]
  refine wpAnyH_ready (rs := [6]) (by decide +kernel) (by simp) ?_
  refine AllReadyH.cons rfl (fun K hK => ?_) AllReadyH.nil
  (try simp only [List.getElem_toArray, List.getElem_cons_zero, List.getElem_cons_succ])
  go_simp
  refine (cg.on _).mono ?_
  rintro e wr ⟨rfl, hbr⟩
  have hb2 := Lib.hid (hb.out.trans (hbr.mono hs))
  clear hb hs
  have hb := hb2
  clear hb2
  have hs := hb.out.size
  have gg := Lib.hid (isN_of hbr gz.out)
  clear gz
  have gz := gg
  clear gg
  have gg := Lib.hid (isR_of hbr gr.out)
  clear gr
  have gr := gg
  clear gg
  have gg := Lib.hid (isN_of hbr gx.out)
  clear gx
  have gx := gg
  clear gg
  clear hH hbr cx0 cx1 cx2
  obtain ⟨cx0, cx1, cx2⟩ := gx.out.all
  dsimp only at cx0 cx1 cx2
  go_simp
  refine hK.out _ _ (by go_keep) (fun hH => ?_)
  clear hK K
  try simp only [List.getElem_toArray, List.getElem_cons_zero, List.getElem_cons_succ, Act.put, List.setIfInBounds_toArray, List.set_cons_zero, List.set_cons_succ]
  refine wpAnyH_ready (rs := [7]) (by decide +kernel) (by simp) ?_
  refine AllReadyH.cons rfl (fun K hK => ?_) AllReadyH.nil
  (try simp only [List.getElem_toArray, List.getElem_cons_zero, List.getElem_cons_succ])
  go_simp
  refine (c2.on _).mono ?_
  rintro e wr ⟨rfl, hbr⟩
  have hb2 := Lib.hid (hb.out.trans (hbr.mono hs))
  clear hb hs
  have hb := hb2
  clear hb2
  have hs := hb.out.size
  have gg := Lib.hid (isN_of hbr gz.out)
  clear gz
  have gz := gg
  clear gg
  have gg := Lib.hid (isR_of hbr gr.out)
  clear gr
  have gr := gg
  clear gg
  have gg := Lib.hid (isN_of hbr gx.out)
  clear gx
  have gx := gg
  clear gg
  clear hH hbr cx0 cx1 cx2
  obtain ⟨cx0, cx1, cx2⟩ := gx.out.all
  dsimp only at cx0 cx1 cx2
  go_simp
  refine hK.out _ _ (by go_keep) (fun hH => ?_)
  clear hK K
  try simp only [List.getElem_toArray, List.getElem_cons_zero, List.getElem_cons_succ, Act.put, List.setIfInBounds_toArray, List.set_cons_zero, List.set_cons_succ]
  refine wpAnyH_take (i := 8) (v := ?_) rfl (by decide +kernel) (by decide +kernel) (by decide +kernel) (fun _ _ _ h => h) (Or.inl ⟨by rfl, ?_⟩) (by assumption) ?_
  rotate_left
  · intro w1 hSw; (try dsimp only at hSw); (try simp only [List.getElem_toArray, List.getElem_cons_zero, List.getElem_cons_succ]); go_simp; try with_reducible rfl
  try simp only [List.getElem_toArray, List.getElem_cons_zero, List.getElem_cons_succ, Act.put, List.setIfInBounds_toArray, List.set_cons_zero, List.set_cons_succ]
  refine wpAnyH_take (i := 9) (v := ?_) rfl (by decide +kernel) (by decide +kernel) (by decide +kernel) (fun _ _ _ h => h) (Or.inl ⟨by rfl, ?_⟩) (by assumption) ?_
  rotate_left
  · intro w1 hSw; (try dsimp only at hSw); (try simp only [List.getElem_toArray, List.getElem_cons_zero, List.getElem_cons_succ]); go_simp; try with_reducible rfl
  try simp only [List.getElem_toArray, List.getElem_cons_zero, List.getElem_cons_succ, Act.put, List.setIfInBounds_toArray, List.set_cons_zero, List.set_cons_succ]
  refine wpAnyH_done (by decide +kernel) ?_ _
  clear hH
  go_wp2_with fail
  refine (cd _ _ gr.out).on.mono ?_
  rintro e w9 ⟨rfl, rfl⟩
  go_wp2_with fail
  refine (cf.on _).mono ?_
  rintro e w20 ⟨rfl, hb20⟩
  replace gz := Lib.hid (isN_of hb20 gz.out)
  replace gr := Lib.hid (isR_of hb20 gr.out)
  replace gx := Lib.hid (isN_of hb20 gx.out)
  replace hb := Lib.hid (hb.out.trans (hb20.mono hs))
  clear hs hb20
  have hs := hb.out.size
  clear cx0 cx1 cx2
  obtain ⟨z0, z1, z2⟩ := gz.out.all
  have zf := gz.out.f
  obtain ⟨r0, r1, r2, hfin⟩ := last_set (w := w) (B := w.heap.size) gz.out ⟨false, 0, 0⟩ hb.out (by omega)
  dsimp only at r0 r1 r2 z0 z1 z2 hfin
  replace hfin := Lib.hid hfin
  clear gz gx gr hb
  go_wp2_with fail
  (try simp only [Exit.inBlock, Exit.then])
  refine bodyPost_ret (by simp [results, Try.results9, go_sem, r0, r1, r2]; try rfl) rfl ?_
  exact ⟨rfl, hfin.out⟩

set_option maxRecDepth 100000 in
set_option maxHeartbeats 8000000 in
theorem get_S2 (k sz n : Int) (s nm : ByteArray) (rest : List UInt8) (bad : Bool) (G : WI) (u : Int) (ci : Ret 32 #[.int .i64 k] (.bool true)) (cs : Ret 15 #[.int .i64 k] (.int .i64 sz))
    (cn : ∀ (w : World) (b : Nat), IsR 85 w b (byts s) false → Answers 35 #[.pointer (some ⟨b, 0, none⟩), .int .i64 sz] (.int .u64 n) 85 w b rest bad)
    (cw : Ret 34 #[.int .u64 n] (wv ⟨false, 0, n⟩)) (ca : Ret 36 #[.int .i64 k] (.agg #[.string nm, .int .i64 sz, .bool true]))
    (cd : ∀ (w : World) (b : Nat), IsR 85 w b rest bad → Quiet 38 #[.pointer (some ⟨b, 0, none⟩)] (.bool true) w)
    (cf : Ret 21 #[.int .i64 k, wv ⟨false, 0, n⟩] (.bool true)) (cg : Ret 18 #[.int .i64 k] (wv G)) (c2 : Ret 30 #[wv ⟨false, 0, n⟩, wv G] (.int .i64 u)) (d1 : decide (0 < u) = false) (w : World) :
    Calls Try.prog 9 #[.int .i64 k, .string s] w fun e w' => e = .returned (.tuple #[wv ⟨false, 0, n⟩, .int .i64 0]) ∧ Below w.heap.size w w' := by
  obtain ⟨Gn, Gh, Gl⟩ := G
  unfold wv at *
  dsimp only at *
  go_enter Try.func9, Try.ntmps9
  go_wp2_with fail
  refine (ci.on _).mono ?_
  rintro e w1 ⟨rfl, hb1⟩
  obtain ⟨gz, hb⟩ := one_new (x := ⟨false, 0, 0⟩) hb1
  have hs := hb.size
  clear hb1
  replace gz := Lib.hid gz
  replace hb := Lib.hid hb
  go_wp2_with fail
  refine (cs.on _).mono ?_
  rintro e w2 ⟨rfl, hb2⟩
  replace gz := Lib.hid (isN_of hb2 gz.out)
  replace hb := Lib.hid (hb.out.trans (hb2.mono hs))
  clear hs hb2
  have hs := hb.out.size
  go_wp2_with fail
  refine (read_c _ _).mono ?_
  rintro e w3 ⟨rfl, rfl⟩
  have hr3 := Lib.hid (show IsR 85 (w2.alloc (.cells #[.string s, .bool false] 85)) w2.heap.size (byts s) false from by have h := IsR.new w2 85 (byts s); rwa [text_byts] at h)
  have ltz := gz.out.lt
  replace gz := Lib.hid (gz.out.alloc (.cells #[.string s, .bool false] 85))
  replace hb := Lib.hid (hb.out.alloc hs (.cells #[.string s, .bool false] 85))
  go_wp2_with fail
  refine Calls.mono (cn _ _ hr3.out) ?_
  rintro e w4 ⟨rfl, gr, hg⟩
  replace gr := Lib.hid gr
  replace gz := Lib.hid (isN_grown gz.out hg (by omega))
  replace hb := Lib.hid (hb.out.grown hg (by rw [size_alloc]; omega) (fun q hq => by rw [← Option.some.inj hq]; exact hs))
  clear hs hg hr3
  have hs := hb.out.size
  have ltr := gr.out.lt
  go_wp2_with fail
  refine (cw.on _).mono ?_
  rintro e w5 ⟨rfl, hb5⟩
  replace gz := Lib.hid (isN_of hb5 gz.out)
  replace gr := Lib.hid (isR_of hb5 gr.out)
  replace hb := Lib.hid (hb.out.trans (hb5.mono hs))
  clear hs hb5
  have hs := hb.out.size
  have hnz := gz.out.lt
  have hnr := gr.out.lt
  replace gz := Lib.hid (gz.out.alloc (oN ⟨false, 0, n⟩))
  replace gr := Lib.hid (gr.out.alloc (oN ⟨false, 0, n⟩))
  have gx := Lib.hid (IsN.new w5 ⟨false, 0, n⟩)
  replace hb := Lib.hid (hb.out.alloc hs (oN ⟨false, 0, n⟩))
  clear hs
  have hs := hb.out.size
  have hfd := field_sign nm sz true
  replace hb := Lib.hid (below_drewed hb.out)
  clear hs
  have hs := hb.out.size
  obtain ⟨cx0, cx1, cx2⟩ := gx.out.all
  dsimp only at cx0 cx1 cx2
  go_wp2_with fail
  refine wp_region_held_at (S := fun w1 => w1.cell? ⟨w5.heap.size, 0, none⟩ = some (.bool false) ∧ w1.cell? ⟨w5.heap.size, 1, none⟩ = some (.int .u64 0) ∧ w1.cell? ⟨w5.heap.size, 2, none⟩ = some (.int .u64 n)) 10 rfl (by kernel_rfl) (by go_keep) (fun hH => ?_)
  refine wpAnyH_take (i := 0) (v := ?_) rfl (by decide +kernel) (by decide +kernel) (by decide +kernel) (fun _ _ _ h => h) (Or.inl ⟨by rfl, ?_⟩) (by assumption) ?_
  rotate_left
  · intro w1 hSw; (try dsimp only at hSw); (try simp only [List.getElem_toArray, List.getElem_cons_zero]); go_simp; try with_reducible rfl
  try simp only [List.getElem_toArray, List.getElem_cons_zero, Act.put, List.setIfInBounds_toArray, List.set_cons_zero, List.set_cons_succ]
  refine wpAnyH_ready (rs := [1]) (by decide +kernel) (by simp) ?_
  refine AllReadyH.cons rfl (fun K hK => ?_) AllReadyH.nil
  (try simp only [List.getElem_toArray, List.getElem_cons_zero, List.getElem_cons_succ])
  go_simp
  refine (ca.on _).mono ?_
  rintro e wr ⟨rfl, hbr⟩
  have hb2 := Lib.hid (hb.out.trans (hbr.mono hs))
  clear hb hs
  have hb := hb2
  clear hb2
  have hs := hb.out.size
  have gg := Lib.hid (isN_of hbr gz.out)
  clear gz
  have gz := gg
  clear gg
  have gg := Lib.hid (isR_of hbr gr.out)
  clear gr
  have gr := gg
  clear gg
  have gg := Lib.hid (isN_of hbr gx.out)
  clear gx
  have gx := gg
  clear gg
  clear hH hbr cx0 cx1 cx2
  obtain ⟨cx0, cx1, cx2⟩ := gx.out.all
  dsimp only at cx0 cx1 cx2
  go_simp
  refine hK.out _ _ (by go_keep) (fun hH => ?_)
  clear hK K
  try simp only [List.getElem_toArray, List.getElem_cons_zero, List.getElem_cons_succ, Act.put, List.setIfInBounds_toArray, List.set_cons_zero, List.set_cons_succ]
  refine wpAnyH_take (i := 2) (v := ?_) rfl (by decide +kernel) (by decide +kernel) (by decide +kernel) (fun _ _ _ h => h) (Or.inl ⟨by rfl, ?_⟩) (by assumption) ?_
  rotate_left
  · intro w1 hSw; (try dsimp only at hSw); (try simp only [List.getElem_toArray, List.getElem_cons_zero, List.getElem_cons_succ]); go_simp; try with_reducible rfl
  try simp only [List.getElem_toArray, List.getElem_cons_zero, List.getElem_cons_succ, Act.put, List.setIfInBounds_toArray, List.set_cons_zero, List.set_cons_succ]
  refine wpAnyH_take (i := 3) (v := ?_) rfl (by decide +kernel) (by decide +kernel) (by decide +kernel) (fun _ _ _ h => h) (Or.inl ⟨by rfl, ?_⟩) (by assumption) ?_
  rotate_left
  · intro w1 hSw; (try dsimp only at hSw); (try simp only [List.getElem_toArray, List.getElem_cons_zero, List.getElem_cons_succ]); go_simp; try with_reducible rfl
  try simp only [List.getElem_toArray, List.getElem_cons_zero, List.getElem_cons_succ, Act.put, List.setIfInBounds_toArray, List.set_cons_zero, List.set_cons_succ]
  refine wpAnyH_take (i := 4) (v := ?_) rfl (by decide +kernel) (by decide +kernel) (by decide +kernel) (fun _ _ _ h => h) (Or.inl ⟨by rfl, ?_⟩) (by assumption) ?_
  rotate_left
  · intro w1 hSw; (try dsimp only at hSw); (try simp only [List.getElem_toArray, List.getElem_cons_zero, List.getElem_cons_succ]); go_simp; try with_reducible rfl
  try simp only [List.getElem_toArray, List.getElem_cons_zero, List.getElem_cons_succ, Act.put, List.setIfInBounds_toArray, List.set_cons_zero, List.set_cons_succ]
  refine wpAnyH_take (i := 5) (v := ?_) rfl (by decide +kernel) (by decide +kernel) (by decide +kernel) (fun _ _ _ h => h) (Or.inl ⟨by rfl, ?_⟩) (by assumption) ?_
  rotate_left
  · intro w1 hSw; (try dsimp only at hSw); (try simp only [List.getElem_toArray, List.getElem_cons_zero, List.getElem_cons_succ]); go_simp; try with_reducible rfl
  try simp only [List.getElem_toArray, List.getElem_cons_zero, List.getElem_cons_succ, Act.put, List.setIfInBounds_toArray, List.set_cons_zero, List.set_cons_succ]
  refine wpAnyH_ready (rs := [6]) (by decide +kernel) (by simp) ?_
  refine AllReadyH.cons rfl (fun K hK => ?_) AllReadyH.nil
  (try simp only [List.getElem_toArray, List.getElem_cons_zero, List.getElem_cons_succ])
  go_simp
  refine (cg.on _).mono ?_
  rintro e wr ⟨rfl, hbr⟩
  have hb2 := Lib.hid (hb.out.trans (hbr.mono hs))
  clear hb hs
  have hb := hb2
  clear hb2
  have hs := hb.out.size
  have gg := Lib.hid (isN_of hbr gz.out)
  clear gz
  have gz := gg
  clear gg
  have gg := Lib.hid (isR_of hbr gr.out)
  clear gr
  have gr := gg
  clear gg
  have gg := Lib.hid (isN_of hbr gx.out)
  clear gx
  have gx := gg
  clear gg
  clear hH hbr cx0 cx1 cx2
  obtain ⟨cx0, cx1, cx2⟩ := gx.out.all
  dsimp only at cx0 cx1 cx2
  go_simp
  refine hK.out _ _ (by go_keep) (fun hH => ?_)
  clear hK K
  try simp only [List.getElem_toArray, List.getElem_cons_zero, List.getElem_cons_succ, Act.put, List.setIfInBounds_toArray, List.set_cons_zero, List.set_cons_succ]
  refine wpAnyH_ready (rs := [7]) (by decide +kernel) (by simp) ?_
  refine AllReadyH.cons rfl (fun K hK => ?_) AllReadyH.nil
  (try simp only [List.getElem_toArray, List.getElem_cons_zero, List.getElem_cons_succ])
  go_simp
  refine (c2.on _).mono ?_
  rintro e wr ⟨rfl, hbr⟩
  have hb2 := Lib.hid (hb.out.trans (hbr.mono hs))
  clear hb hs
  have hb := hb2
  clear hb2
  have hs := hb.out.size
  have gg := Lib.hid (isN_of hbr gz.out)
  clear gz
  have gz := gg
  clear gg
  have gg := Lib.hid (isR_of hbr gr.out)
  clear gr
  have gr := gg
  clear gg
  have gg := Lib.hid (isN_of hbr gx.out)
  clear gx
  have gx := gg
  clear gg
  clear hH hbr cx0 cx1 cx2
  obtain ⟨cx0, cx1, cx2⟩ := gx.out.all
  dsimp only at cx0 cx1 cx2
  go_simp
  refine hK.out _ _ (by go_keep) (fun hH => ?_)
  clear hK K
  try simp only [List.getElem_toArray, List.getElem_cons_zero, List.getElem_cons_succ, Act.put, List.setIfInBounds_toArray, List.set_cons_zero, List.set_cons_succ]
  refine wpAnyH_take (i := 8) (v := ?_) rfl (by decide +kernel) (by decide +kernel) (by decide +kernel) (fun _ _ _ h => h) (Or.inl ⟨by rfl, ?_⟩) (by assumption) ?_
  rotate_left
  · intro w1 hSw; (try dsimp only at hSw); (try simp only [List.getElem_toArray, List.getElem_cons_zero, List.getElem_cons_succ]); go_simp; try with_reducible rfl
  try simp only [List.getElem_toArray, List.getElem_cons_zero, List.getElem_cons_succ, Act.put, List.setIfInBounds_toArray, List.set_cons_zero, List.set_cons_succ]
  refine wpAnyH_take (i := 9) (v := ?_) rfl (by decide +kernel) (by decide +kernel) (by decide +kernel) (fun _ _ _ h => h) (Or.inl ⟨by rfl, ?_⟩) (by assumption) ?_
  rotate_left
  · intro w1 hSw; (try dsimp only at hSw); (try simp only [List.getElem_toArray, List.getElem_cons_zero, List.getElem_cons_succ]); go_simp; try with_reducible rfl
  try simp only [List.getElem_toArray, List.getElem_cons_zero, List.getElem_cons_succ, Act.put, List.setIfInBounds_toArray, List.set_cons_zero, List.set_cons_succ]
  refine wpAnyH_done (by decide +kernel) ?_ _
  clear hH
  go_wp2_with fail
  refine (cd _ _ gr.out).on.mono ?_
  rintro e w9 ⟨rfl, rfl⟩
  go_wp2_with fail
  refine (cf.on _).mono ?_
  rintro e w20 ⟨rfl, hb20⟩
  replace gz := Lib.hid (isN_of hb20 gz.out)
  replace gr := Lib.hid (isR_of hb20 gr.out)
  replace gx := Lib.hid (isN_of hb20 gx.out)
  replace hb := Lib.hid (hb.out.trans (hb20.mono hs))
  clear hs hb20
  have hs := hb.out.size
  clear cx0 cx1 cx2
  obtain ⟨cx0, cx1, cx2⟩ := gx.out.all
  dsimp only at cx0 cx1 cx2
  obtain ⟨z0, z1, z2⟩ := gz.out.all
  have zf := gz.out.f
  obtain ⟨r0, r1, r2, hfin⟩ := last_set (w := w) (B := w.heap.size) gz.out ⟨false, 0, n⟩ hb.out (by omega)
  dsimp only at r0 r1 r2 z0 z1 z2 hfin
  replace hfin := Lib.hid hfin
  clear gz gx gr hb
  go_wp2_with fail
  (try simp only [Exit.inBlock, Exit.then])
  refine bodyPost_ret (by simp [results, Try.results9, go_sem, r0, r1, r2]; try rfl) rfl ?_
  exact ⟨rfl, hfin.out⟩
end Go.Proofs.Ytbfigpollacngaa
