/- parts of the proof, merged: NmW6, Ct, NmZ, NmW7 -/
import Derived.ChangeKeysEq
import Derived.StillTailTactics
import Derived.Test.YtjjgbillihedgaaGreatDoorQy9
set_option maxHeartbeats 16000000
set_option maxRecDepth 100000
namespace Go.Proofs.YtjjgbillihedgaaGreatDoor
open Go.RowKit
open Rf
open Wide
theorem IsD.set0 {w : World} {b : Nat} {n m : Bool} {d : List Int} (h : IsD w b n d) : IsD (w.setCell ⟨b, 0, none⟩ (.bool m)) b m d := by
 unfold IsD at *
 show (w.heap.modify b _)[b]? = _
 rw [Array.getElem?_modify, if_pos rfl, h]
 simp [nc]
/-- a block's digits, read -/
def rdD (w : World) (b : Nat) : List Int := match w.heap[b]? with
 | some (.cells a _ _) => (a.toList.drop 1).map intOf
 | _ => []
theorem rdD_of {w : World} {b : Nat} {n : Bool} {d : List Int} (h : IsD w b n d) : rdD w b = d := by
 unfold IsD at h
 unfold rdD
 rw [h]
 simp [nc, intOf, Function.comp_def]
/-- six numbers, made one behind the other; the second one without its sign -/
theorem six_nd (w : World) (n m : Bool) (d e : List Int) :
 ∃ w6, (((((((w.alloc (oD n d)).alloc (oD m e)).setCell ⟨w.heap.size + 1, 0, none⟩ (.bool false)).alloc (oD false Z40)).alloc (oD false Z40)).alloc (oD false Z40)).alloc (oD false Z40)) = w6 ∧
 IsD w6 w.heap.size n d ∧ IsD w6 (w.heap.size + 1) false e ∧ IsD w6 (w.heap.size + 1 + 1) false Z40 ∧ IsD w6 (w.heap.size + 1 + 1 + 1) false Z40 ∧ IsD w6 (w.heap.size + 1 + 1 + 1 + 1) false Z40 ∧ IsD w6 (w.heap.size + 1 + 1 + 1 + 1 + 1) false Z40 ∧
 Below w.heap.size w w6 := by
 obtain ⟨h1, h2⟩ := two_nd w n m d e
 obtain ⟨v, hv⟩ : ∃ v, ((w.alloc (oD n d)).alloc (oD m e)).setCell ⟨w.heap.size + 1, 0, none⟩ (.bool false) = v := ⟨_, rfl⟩
 have hs : v.heap.size = w.heap.size + 1 + 1 := by
  rw [← hv]
  show (((w.alloc (oD n d)).alloc (oD m e)).heap.modify _ _).size = _
  rw [Array.size_modify, wsize_alloc, wsize_alloc]
 have k1 : IsD v w.heap.size n d := by rw [← hv]; exact h1.set_other (by omega)
 have k2 : IsD v (w.heap.size + 1) false e := by rw [← hv]; exact h2.set0
 have kb : Below w.heap.size w v := by rw [← hv]; exact (below2 w (oD n d) (oD m e)).setCell (show w.heap.size ≤ w.heap.size + 1 by omega) _
 rw [hv]
 refine ⟨_, rfl, (((k1.alloc _).alloc _).alloc _).alloc _, (((k2.alloc _).alloc _).alloc _).alloc _, ?_, ?_, ?_, ?_, (((kb.alloc (by omega) _).alloc (by simp only [wsize_alloc]; omega) _).alloc (by simp only [wsize_alloc]; omega) _).alloc (by simp only [wsize_alloc]; omega) _⟩
 ·have := (((IsD.new v false Z40).alloc (oD false Z40)).alloc (oD false Z40)).alloc (oD false Z40)
  rwa [hs] at this
 ·have := ((IsD.new (v.alloc (oD false Z40)) false Z40).alloc (oD false Z40)).alloc (oD false Z40)
  rwa [wsize_alloc, hs] at this
 ·have := (IsD.new ((v.alloc (oD false Z40)).alloc (oD false Z40)) false Z40).alloc (oD false Z40)
  rwa [wsize_alloc, wsize_alloc, hs] at this
 ·have := IsD.new (((v.alloc (oD false Z40)).alloc (oD false Z40)).alloc (oD false Z40)) false Z40
  rwa [wsize_alloc, wsize_alloc, wsize_alloc, hs] at this
theorem quo_next {d q r v : List Int} {i : Nat} {x c B : Int} (hi : i < q.length) (hd : valN (d.drop i) = x + 256 * valN (d.drop (i + 1))) (hinv : valN (d.drop (i + 1)) = valN (q.drop (i + 1)) * B + valN r)
 (hV : valN v + c * B = x + 256 * valN r) : valN (d.drop i) = valN ((q.set i c).drop i) * B + valN v := by
 rw [hd, set_drop q i hi, valN]
 exact quo_step _ B _ _ x c _ hinv hV
theorem zeros_next {q : List Int} {i : Nat} (h : q.take (i + 1) = List.replicate (i + 1) 0) (c : Int) : (q.set i c).take i = List.replicate i 0 := by
 rw [List.take_set_of_le (Nat.le_refl i)]
 have := congrArg (List.take i) h
 rwa [List.take_take, List.take_replicate, Nat.min_eq_left (Nat.le_succ i)] at this
theorem zeros_set {q : List Int} {i : Nat} (hi : i < q.length) (h : q.take (i + 1) = List.replicate (i + 1) 0) : q.set i 0 = q := by
 have h2 : q[i] = 0 := by
  have := congrArg (fun l => l[i]?) h
  simp only [List.getElem?_take_of_lt (Nat.lt_succ_self i), List.getElem?_eq_getElem hi, List.getElem?_replicate, Nat.lt_succ_self, if_true] at this
  exact Option.some.inj this
 conv => lhs; rw [← h2]
 exact List.set_getElem_self hi
theorem set_set' (q : List Int) (i : Nat) (a b : Int) : (q.set i a).set i b = q.set i b := List.set_set ..
/-- a call's block facts, carried over it -/
theorem IsD.call {wr w' : World} {b : Nat} {n : Bool} {d : List Int} (h : IsD wr b n d) (hb : Below wr.heap.size wr w') : IsD w' b n d := h.below hb
theorem f_exec_load {w1 : World} {b : Nat} {n : Bool} {d : List Int} {ev : Operand → Value} {o : Oper} {x : Operand} (ho : o.op = .load 147 x) (hx : ev x = .pointer (some ⟨b, 0, none⟩)) (h : IsD w1 b n d) (hl : d.length = 40) :
 Sem.run Tryz.prog (execOp ev o) w1 = .ok (.value (nv n d)) w1 := by
 unfold execOp
 simp only [ho, hx, Sem.run_bind, f_load h hl, Result.andThen, Sem.run_pure]
/-- two results that are numbers -/
theorem n_result2 {fn : Func} {p q : Tmp} (h : fn.results = #[.cell p 147, .cell q 147]) (tmps : Array Value) (w : World) (b c : Nat) (n m : Bool) (d e : List Int)
 (hp : tmps.getD p undef = .pointer (some ⟨b, 0, none⟩)) (hq : tmps.getD q undef = .pointer (some ⟨c, 0, none⟩)) (hd : IsD w b n d) (he : IsD w c m e) (hl : d.length = 40) (hk : e.length = 40) :
 (results fn tmps).run Tryz.prog w = .ok (.tuple #[nv n d, nv m e]) w := by
 have l1 := run_loadVar_row (P := Tryz.prog) w b 147 147 (nc n d).toArray (0, 0) _ hd rfl rfl (by rw [num_info]; simp [nc_length, hl])
 have l2 := run_loadVar_row (P := Tryz.prog) w c 147 147 (nc m e).toArray (0, 0) _ he rfl rfl (by rw [num_info]; simp [nc_length, hk])
 have hp' : tmps[p]?.getD undef = .pointer (some ⟨b, 0, none⟩) := by simpa using hp
 have hq' : tmps[q]?.getD undef = .pointer (some ⟨c, 0, none⟩) := by simpa using hq
 simp [results, h, hp', hq', asAddr, l1, l2, nv, Sem.run_bind]
theorem divide_d (n m : Bool) (d e : List Int) (hd : Dig d) (he : Dig e) (h1 : d.length = 40) (h2 : e.length = 40) (he0 : 0 < valN e) (hel : valN e < 256 ^ 39) (w : World) :
 Calls Tryz.prog 99 #[nv n d, nv m e] w fun r w' => r = .returned (.tuple #[nv false (digN 40 (valN d / valN e)), nv false (digN 40 (valN d % valN e))]) ∧ Below w.heap.size w w' := by
 obtain ⟨B, hB⟩ : ∃ B, valN e = B := ⟨_, rfl⟩
 rw [hB] at he0 hel ⊢
 replace hB := Hd hB
 obtain ⟨RR, hRR⟩ : ∃ R, digN 40 (valN d / B) = R := ⟨_, rfl⟩
 obtain ⟨RS, hRS⟩ : ∃ R, digN 40 (valN d % B) = R := ⟨_, rfl⟩
 rw [hRR, hRS]
 replace hRR := Hd hRR
 replace hRS := Hd hRS
 obtain ⟨w6, hw6, gd0, ge0, gz0, gy0, gq0, gr0, hb0⟩ := six_nd w n m d e
 have hc1 := (four_nd w n m false false d e Z40 Z40).2.1.neg
 have hf1 := (four_nd w n m false false d e Z40 Z40).2.1.f 0
 replace gd0 := Hd gd0
 replace ge0 := Hd ge0
 replace gz0 := Hd gz0
 replace gy0 := Hd gy0
 replace gq0 := Hd gq0
 replace gr0 := Hd gr0
 replace hb0 := Hd hb0
 replace hw6 := Hd hw6
 replace he0 := Hd he0
 replace hel := Hd hel
 replace hd := Hd hd
 replace he := Hd he
 replace h1 := Hd h1
 replace h2 := Hd h2
 go_enter Tryz.func99, Tryz.ntmps99
 go_wp2_with (first | (with_reducible refine wpl_nbox rfl rfl rfl ?_) | (with_reducible refine wpl_nalloc rfl rfl ?_) | (with_reducible refine wpl_nbuild0 rfl rfl ?_) | (with_reducible refine wpl_nstore_new rfl rfl rfl rfl (by simp) rfl rfl ?_))
 rw [hw6.out]
 clear hc1 hf1 hw6
 go_loopw [8] (fun iv wr => ∃ (k : Nat) (q r : List Int), k ≤ 40 ∧ iv = .int .i64 ((k : Int) - 1) ∧ q.length = 40 ∧ Dig q ∧ r.length = 40 ∧ Dig r ∧ q.take k = List.replicate k 0 ∧ valN (d.drop k) = valN (q.drop k) * B + valN r ∧ valN r < B ∧
  IsD wr w.heap.size n d ∧ IsD wr (w.heap.size + 1) false e ∧ IsD wr (w.heap.size + 1 + 1) false Z40 ∧ IsD wr (w.heap.size + 1 + 1 + 1) false Z40 ∧ IsD wr (w.heap.size + 1 + 1 + 1 + 1) false q ∧ IsD wr (w.heap.size + 1 + 1 + 1 + 1 + 1) false r ∧ Below w.heap.size w wr) (fun i _ => (intOf i + 1).toNat)
 case atStart => exact ⟨40, Z40, Z40, Nat.le_refl _, rfl, rfl, Z40_dig, rfl, Z40_dig, rfl, by rw [List.drop_of_length_le (by have := h1.out; omega)]; show valN [] = valN [] * B + valN (List.replicate 40 0); rw [valN_zero]; show (0 : Int) = 0 * B + 0; omega, he0.out, gd0.out, ge0.out, gz0.out, gy0.out, gq0.out, gr0.out, hb0.out⟩
 case round =>
  clear gd0 ge0 gz0 gy0 gq0 gr0 hb0
  obtain ⟨k, q, r, hk, rfl, hq, hqD, hr, hrD, hqz, hinv, hrB, gd, ge, gz, gy, gq, gr, hb⟩ := hrel
  by_cases hk0 : 0 < k
  ·obtain ⟨i, rfl⟩ : ∃ i, k = i + 1 := ⟨k - 1, by omega⟩
   rw [show (((i + 1 : Nat) : Int)) - 1 = (i : Int) by omega]
   have hi0 : (0 : Int) ≤ (i : Int) := by omega
   have hdec : decide ((0 : Int) ≤ (i : Int)) = true := decide_eq_true hi0
   replace gd := Hd gd
   replace ge := Hd ge
   replace gz := Hd gz
   replace gy := Hd gy
   replace gq := Hd gq
   replace gr := Hd gr
   replace hb := Hd hb
   replace hq := Hd hq
   replace hqD := Hd hqD
   replace hr := Hd hr
   replace hrD := Hd hrD
   replace hqz := Hd hqz
   replace hinv := Hd hinv
   replace hrB := Hd hrB
   go_wp2_with fail
   obtain ⟨wo, hwo⟩ : ∃ wo : World, wo = wr := ⟨_, rfl⟩
   replace hwo := Hd hwo
   go_loopw [9] (fun kv wr => ∃ j : Nat, j ≤ 39 ∧ kv = .int .i64 j ∧
    IsD wr w.heap.size n d ∧ IsD wr (w.heap.size + 1) false e ∧ IsD wr (w.heap.size + 1 + 1) false Z40 ∧ IsD wr (w.heap.size + 1 + 1 + 1) false Z40 ∧ IsD wr (w.heap.size + 1 + 1 + 1 + 1) false q ∧ IsD wr (w.heap.size + 1 + 1 + 1 + 1 + 1) false (upD r j) ∧ Below w.heap.size w wr) (fun k _ => (intOf k).toNat)
   case atStart => exact ⟨39, Nat.le_refl _, rfl, gd.out, ge.out, gz.out, gy.out, gq.out, by rw [upD_start r hr.out]; exact gr.out, hb.out⟩
   case round =>
    clear gd ge gz gy gq gr hb hwo
    obtain ⟨j, hj, rfl, gd, ge, gz, gy, gq, gr, hb⟩ := hrel
    by_cases hj0 : 0 < j
    ·obtain ⟨t, rfl⟩ : ∃ t, j = t + 1 := ⟨j - 1, by omega⟩
     have hlen := upD_length r hr.out (t + 1) hj
     have cr := gr.cell t (by omega)
     have hst := Hd (upD_step r hr.out t (by omega))
     rw [upD_get r hr.out t (by omega)] at cr
     obtain ⟨x, hx⟩ : ∃ x, r[t]'(by have := hr.out; omega) = x := ⟨_, rfl⟩
     rw [hx] at cr hst
     clear hx
     obtain ⟨v0, cv⟩ := gr.has (t + 1) (by omega)
     have fv := gr.f (1 + (t + 1))
     have hs1 : (((t + 1 : Nat)) : Int) - 1 = (t : Int) := by omega
     have hs2 : (t : Int) + 1 - 1 = (t : Int) := by omega
     have hp1 : (0 : Int) < (t : Int) + 1 := by omega
     replace hlen := Hd hlen
     replace gd := Hd gd
     replace ge := Hd ge
     replace gz := Hd gz
     replace gy := Hd gy
     replace gq := Hd gq
     replace gr := Hd gr
     replace hb := Hd hb
     go_wp2_with fail
     go_roundw
     case rel => exact ⟨t, by omega, by go_num, gd.out.set_other (by omega), ge.out.set_other (by omega), gz.out.set_other (by omega), gy.out.set_other (by omega), gq.out.set_other (by omega), by rw [← hst.out]; exact gr.out.set (t + 1) x, hb.out.setCell (show w.heap.size ≤ w.heap.size + 1 + 1 + 1 + 1 + 1 by omega) _⟩
     case measure => simp [intOf]
    ·obtain rfl : j = 0 := by omega
     rw [show ((0 : Nat) : Int) = 0 from rfl]
     have cd := gd.cell i (by have := h1.out; omega)
     have bd := hd.out.get i (by have := h1.out; omega)
     have hdi := Hd (valN_drop d i (by have := h1.out; omega))
     obtain ⟨x, hx⟩ : ∃ x, d[i]'(by have := h1.out; omega) = x := ⟨_, rfl⟩
     rw [hx] at cd bd hdi
     clear hx
     have hlen := upD_length r hr.out 0 (by omega)
     obtain ⟨v0, cv⟩ := gr.has 0 (by omega)
     rw [show 1 + 0 = 1 from rfl] at cv
     have fv := gr.f 1
     have hr1 := Hd (upD_end r hr.out x)
     replace hlen := Hd hlen
     replace gd := Hd gd
     replace ge := Hd ge
     replace gz := Hd gz
     replace gy := Hd gy
     replace gq := Hd gq
     replace gr := Hd gr
     replace hb := Hd hb
     go_wp2_with fail
     have gr1 := gr.out.set 0 x
     rw [show 1 + 0 = 1 from rfl, hr1.out] at gr1
     have gd1 := (gd.out.set_other (c := w.heap.size + 1 + 1 + 1 + 1 + 1) (i := 1) (v := .int .i64 x) (by omega))
     have ge1 := (ge.out.set_other (c := w.heap.size + 1 + 1 + 1 + 1 + 1) (i := 1) (v := .int .i64 x) (by omega))
     have gz1 := (gz.out.set_other (c := w.heap.size + 1 + 1 + 1 + 1 + 1) (i := 1) (v := .int .i64 x) (by omega))
     have gy1 := (gy.out.set_other (c := w.heap.size + 1 + 1 + 1 + 1 + 1) (i := 1) (v := .int .i64 x) (by omega))
     have gq1 := (gq.out.set_other (c := w.heap.size + 1 + 1 + 1 + 1 + 1) (i := 1) (v := .int .i64 x) (by omega))
     have hb1 := hb.out.setCell (show w.heap.size ≤ (⟨w.heap.size + 1 + 1 + 1 + 1 + 1, 1, none⟩ : Addr).block by show w.heap.size ≤ w.heap.size + 1 + 1 + 1 + 1 + 1; omega) (.int .i64 x)
     clear gd ge gz gy gq gr hb cd cv fv
     generalize wr.setCell ⟨w.heap.size + 1 + 1 + 1 + 1 + 1, 1, none⟩ (.int .i64 x) = w3 at *
     clear wr wo
     have gd := Hd gd1
     have ge := Hd ge1
     have gz := Hd gz1
     have gy := Hd gy1
     have gq := Hd gq1
     have gr := Hd gr1
     have hb := Hd hb1
     clear gd1 ge1 gz1 gy1 gq1 gr1 hb1
     have hvD := Hd (up_dig r hrD.out x bd)
     have hvl := Hd (up_len r hr.out x)
     have hvv := Hd (up_val r hrD.out hr.out x (Int.lt_trans hrB.out hel.out))
     generalize x :: r.take 39 = vv at *
     have hqs := Hd (zeros_set (by have := hq.out; omega) hqz.out)
     have bx := Hd bd
     clear bd
     obtain ⟨wo, hwo⟩ : ∃ wo : World, wo = w3 := ⟨_, rfl⟩
     replace hwo := Hd hwo
     go_loopw [] (fun wr => ∃ (c : Int) (v : List Int), 0 ≤ c ∧ c ≤ 255 ∧ v.length = 40 ∧ Dig v ∧ valN v + c * B = x + 256 * valN r ∧
      IsD wr w.heap.size n d ∧ IsD wr (w.heap.size + 1) false e ∧ IsD wr (w.heap.size + 1 + 1) false Z40 ∧ IsD wr (w.heap.size + 1 + 1 + 1) false Z40 ∧ IsD wr (w.heap.size + 1 + 1 + 1 + 1) false (q.set i c) ∧ IsD wr (w.heap.size + 1 + 1 + 1 + 1 + 1) false v ∧ Below w.heap.size w wr) (fun wr => (valN (rdD wr (w.heap.size + 1 + 1 + 1 + 1 + 1))).toNat)
     case atStart => exact ⟨0, vv, by omega, by omega, hvl.out, hvD.out, by rw [hvv.out]; omega, gd.out, ge.out, gz.out, gy.out, by rw [hqs.out]; exact gq.out, gr.out, hb.out⟩
     case round =>
      clear gd ge gz gy gq gr hb hwo hvD hvl hvv
      obtain ⟨c, v, c0, c1, hvl, hvD, hV, gd, ge, gz, gy, gq, gr, hb⟩ := hrel
      have h2' := h2.out
      have gr0' := Hd gr
      replace gd := Hd gd
      replace gz := Hd gz
      replace gy := Hd gy
      replace gq := Hd gq
      replace hb := Hd hb
      replace hvD := Hd hvD
      replace hV := Hd hV
      go_wp2_with (first | (with_reducible refine wpl_nload rfl rfl rfl gr hvl ?_) | (with_reducible refine wpl_nload rfl rfl rfl ge h2' ?_))
      replace ge := Hd ge
      replace gr := Hd gr
      have hvv := Hd hvl
      clear hvl h2'
      have hvl := hvv
      clear hvv
      refine (size_d false false v e hvD.out he.out hvl.out h2.out _).mono ?_
      rintro e1 w4 ⟨rfl, hbr⟩
      have gd2 := Hd (gd.out.call hbr)
      have ge2 := Hd (ge.out.call hbr)
      have gz2 := Hd (gz.out.call hbr)
      have gy2 := Hd (gy.out.call hbr)
      have gq2 := Hd (gq.out.call hbr)
      have gr2 := Hd (gr.out.call hbr)
      have hb2 := Hd (wbelow_up hb.out hb.out.size hbr)
      clear gd ge gz gy gq gr hb hbr
      by_cases hge : B ≤ valN v
      ·obtain ⟨s, hs, h0⟩ : ∃ s, sgn (valN v - valN e) = s ∧ 0 ≤ s := ⟨_, rfl, by have := hB.out; unfold sgn; split <;> (try split) <;> omega⟩
       rw [hs]
       clear hs
       have hvl' := hvl.out
       have h2' := h2.out
       replace ge2 := ge2.out
       replace gr2 := gr2.out
       go_wp2_with (first | (with_reducible refine wpl_nload rfl rfl rfl gr2 hvl' ?_) | (with_reducible refine wpl_nload rfl rfl rfl ge2 h2' ?_))
       replace ge2 := Hd ge2
       replace gr2 := Hd gr2
       clear hvl' h2'
       refine (minus_d false false v e hvD.out he.out hvl.out h2.out (by rw [hB.out]; exact hge) _).mono ?_
       rintro e1 w5 ⟨rfl, hbr⟩
       have gd3 := Hd (gd2.out.call hbr)
       have ge3 := Hd (ge2.out.call hbr)
       have gz3 := Hd (gz2.out.call hbr)
       have gy3 := Hd (gy2.out.call hbr)
       have gq3 := Hd (gq2.out.call hbr)
       have gr3 := Hd (gr2.out.call hbr)
       have hb3 := Hd (wbelow_up hb2.out hb2.out.size hbr)
       clear gd2 ge2 gz2 gy2 gq2 gr2 hb2 hbr
       rw [hB.out]
       obtain ⟨u, hu⟩ : ∃ u, digN 40 (valN v - B) = u := ⟨_, rfl⟩
       have hul : u.length = 40 := by rw [← hu, digN_length]
       have huD : Dig u := by rw [← hu]; exact digN_dig 40 _
       have hvb := valN_bd hvD.out
       rw [hvl.out] at hvb
       have huv : valN u = valN v - B := by rw [← hu]; exact digN_val 40 _ (by omega) (by have := he0.out; omega)
       rw [hu]
       clear hu
       have hV2 : valN u + (c + 1) * B = x + 256 * valN r := by
        rw [huv, Int.add_mul, Int.one_mul]
        have := hV.out
        omega
       have hc1 : c + 1 ≤ 255 := quo_dig he0.out hrB.out bx.out (by rw [huv]; omega) hV2
       have ew : IntKind.i64.wrap (c + 1) = c + 1 := IntWalk.i64_in _ (by omega)
       have hms : (valN u).toNat < (valN v).toNat := by have := he0.out; omega
       replace hms := Hd hms
       replace hV2 := Hd hV2
       replace huD := Hd huD
       clear huv hvb hge h0
       have gq4 := gq3.out.row_other (c := w.heap.size + 1 + 1 + 1 + 1 + 1) (by omega) (nc false u).toArray
       have cq := gq4.cell i (by rw [List.length_set]; have := hq.out; omega)
       rw [List.getElem_set_self] at cq
       have fq := gq4.f (1 + i)
       have gq5 := gq4.set i (c + 1)
       rw [set_set'] at gq5
       replace gq5 := Hd gq5
       clear gq4
       have gd5 := Hd ((gd3.out.row_other (c := w.heap.size + 1 + 1 + 1 + 1 + 1) (by omega) (nc false u).toArray).set_other (c := w.heap.size + 1 + 1 + 1 + 1) (i := 1 + i) (v := .int .i64 (c + 1)) (by omega))
       have ge5 := Hd ((ge3.out.row_other (c := w.heap.size + 1 + 1 + 1 + 1 + 1) (by omega) (nc false u).toArray).set_other (c := w.heap.size + 1 + 1 + 1 + 1) (i := 1 + i) (v := .int .i64 (c + 1)) (by omega))
       have gz5 := Hd ((gz3.out.row_other (c := w.heap.size + 1 + 1 + 1 + 1 + 1) (by omega) (nc false u).toArray).set_other (c := w.heap.size + 1 + 1 + 1 + 1) (i := 1 + i) (v := .int .i64 (c + 1)) (by omega))
       have gy5 := Hd ((gy3.out.row_other (c := w.heap.size + 1 + 1 + 1 + 1 + 1) (by omega) (nc false u).toArray).set_other (c := w.heap.size + 1 + 1 + 1 + 1) (i := 1 + i) (v := .int .i64 (c + 1)) (by omega))
       have gr5 := Hd ((gr3.out.row false u).set_other (c := w.heap.size + 1 + 1 + 1 + 1) (i := 1 + i) (v := .int .i64 (c + 1)) (by omega))
       have hb5 := Hd ((wbelow_row hb3.out (show w.heap.size ≤ w.heap.size + 1 + 1 + 1 + 1 + 1 by omega) (nc false u).toArray).setCell (show w.heap.size ≤ (⟨w.heap.size + 1 + 1 + 1 + 1, 1 + i, none⟩ : Addr).block by show w.heap.size ≤ w.heap.size + 1 + 1 + 1 + 1; omega) (.int .i64 (c + 1)))
       clear gd3 ge3 gz3 gy3 gq3 hb3
       have gr3' := gr3.out
       have hvl' := hvl.out
       clear gr3
       go_wp2_with (first | (with_reducible refine wpl_nstore rfl rfl rfl rfl gr3' hvl' hul ?_))
       go_roundw
       case rel => exact ⟨c + 1, u, by omega, hc1, hul, huD.out, hV2.out, gd5.out, ge5.out, gz5.out, gy5.out, gq5.out, gr5.out, hb5.out⟩
       case measure => rw [rdD_of gr5.out, rdD_of gr0'.out]; exact hms.out
      ·rw [show sgn (valN v - valN e) = -1 from sgn_neg (by have := hB.out; omega)]
       have hnx := quo_next (by have := hq.out; omega) hdi.out hinv.out hV.out
       have hnz := zeros_next hqz.out c
       have hnD : Dig (q.set i c) := hqD.out.set i ⟨c0, c1⟩
       replace hnx := Hd hnx
       replace hnz := Hd hnz
       replace hnD := Hd hnD
       go_wp2_with fail
       go_roundw
       case rel => exact ⟨i, q.set i c, v, by omega, by go_num, by rw [List.length_set]; exact hq.out, hnD.out, hvl.out, hvD.out, hnz.out, hnx.out, by omega, gd2.out, ge2.out, gz2.out, gy2.out, gq2.out, gr2.out, hb2.out⟩
       case measure => simp [intOf]
  ·obtain rfl : k = 0 := by omega
   rw [List.drop_zero, List.drop_zero] at hinv
   obtain ⟨eq, er⟩ := quo_end (valN d) B (valN q) (valN r) he0.out hinv (valN_nn hrD) hrB
   have e1 : q = RR := by
    have := dig_of_val q hqD
    rw [hq, eq, hRR.out] at this
    exact this
   have e2 : r = RS := by
    have := dig_of_val r hrD
    rw [hr, er, hRS.out] at this
    exact this
   clear eq er hinv hrB hqz hqD hrD
   subst e1 e2
   rw [show ((0 : Nat) : Int) - 1 = -1 from rfl]
   replace gd := Hd gd
   replace ge := Hd ge
   replace hb := Hd hb
   replace gz := Hd gz
   replace gy := Hd gy
   go_wp2_with fail
   refine wp_region_held_at (S := fun w1 => IsD w1 (w.heap.size + 1 + 1 + 1 + 1) false q ∧ IsD w1 (w.heap.size + 1 + 1 + 1 + 1 + 1) false r) 4 rfl (by kernel_rfl) ⟨gq, gr⟩ (fun hH => ?_)
   refine wpAnyH_take (i := 0) (v := nv false q) rfl (by decide +kernel) (by decide +kernel) (by decide +kernel) (fun _ _ _ h => h) (Or.inl ⟨by rfl, ?_⟩) (by assumption) ?_
   ·intro w1 hSw
    exact f_exec_load (x := .tmp 6) rfl rfl hSw.1 hq
   refine wpAnyH_take (i := 1) (v := nv false r) rfl (by decide +kernel) (by decide +kernel) (by decide +kernel) (fun _ _ _ h => h) (Or.inl ⟨by rfl, ?_⟩) (by assumption) ?_
   ·intro w1 hSw
    exact f_exec_load (x := .tmp 7) rfl rfl hSw.2 hr
   refine wpAnyH_ready (rs := [2]) (by decide +kernel) (by simp) ?_
   refine AllReadyH.cons rfl (fun K hK => ?_) AllReadyH.nil
   refine wp_nstore rfl rfl rfl gz.out rfl hq ?_
   have gy2 := gy.out.row_other (c := w.heap.size + 1 + 1) (by omega) (nc false q).toArray
   have gz2 := gz.out.row false q
   have gq2 := gq.row_other (c := w.heap.size + 1 + 1) (by omega) (nc false q).toArray
   have gr2 := gr.row_other (c := w.heap.size + 1 + 1) (by omega) (nc false q).toArray
   have hbd : Below w.heap.size w wr.drew := hb.out.trans ⟨rfl, rfl, rfl, Nat.le_refl _, fun _ _ => rfl⟩
   have hb2 := wbelow_row hbd (show w.heap.size ≤ w.heap.size + 1 + 1 by omega) (nc false q).toArray
   refine hK.out _ _ ⟨gq2, gr2⟩ (fun hH => ?_)
   refine wpAnyH_ready (rs := [3]) (by decide +kernel) (by simp) ?_
   refine AllReadyH.cons rfl (fun K hK => ?_) AllReadyH.nil
   refine wp_nstore rfl rfl rfl gy2 rfl hr ?_
   have gy3 := gy2.row false r
   have gz3 := gz2.row_other (c := w.heap.size + 1 + 1 + 1) (by omega) (nc false r).toArray
   have gq3 := gq2.row_other (c := w.heap.size + 1 + 1 + 1) (by omega) (nc false r).toArray
   have gr3 := gr2.row_other (c := w.heap.size + 1 + 1 + 1) (by omega) (nc false r).toArray
   have hb3 := wbelow_row hb2 (show w.heap.size ≤ w.heap.size + 1 + 1 + 1 by omega) (nc false r).toArray
   refine hK.out _ _ ⟨gq3, gr3⟩ (fun hH => ?_)
   refine wpAnyH_done (by decide +kernel) ?_ _
   clear hH
   go_wp2_with fail
   (try simp only [Exit.inBlock, Exit.then])
   refine bodyPost_ret (n_result2 Tryz.results99 _ _ _ _ _ _ _ _ rfl rfl gz3 gy3 hq hr) rfl ?_
   exact ⟨rfl, hb3⟩
end Go.Proofs.YtjjgbillihedgaaGreatDoor
namespace Go.Proofs.YtjjgbillihedgaaGreatDoor
open Go.RowKit
/-- a contract: what is returned; all that lay is as it was -/
def wRet (f : FuncId) (args : Array Value) (v : Value) : Prop := ∀ w : World, Calls Tryz.prog f args w fun e w' => e = .returned v ∧ Below w.heap.size w w'
theorem wRet.on {f : FuncId} {args : Array Value} {v : Value} (h : wRet f args v) (w : World) : Calls Tryz.prog f args w fun e w' => e = .returned v ∧ Below w.heap.size w w' := h w
theorem wRet.of {f : FuncId} {args : Array Value} {v v' : Value} (h : wRet f args v) (e : v = v') : wRet f args v' := e ▸ h
def Quiet (f : FuncId) (args : Array Value) (v : Value) (w : World) : Prop := Calls Tryz.prog f args w fun e w' => e = .returned v ∧ w = w'
theorem Quiet.on {f : FuncId} {args : Array Value} {v : Value} {w : World} (h : Quiet f args v w) : Calls Tryz.prog f args w fun e w' => e = .returned v ∧ w = w' := h
open Rf
open Wide
def av (d : List Int) : Array Value := (d.map (Value.int .i64)).toArray
theorem part_int (d : List Int) (j : Nat) (hj : j < d.length) (w : World) : (part 3 (av d) j).run Tryz.prog w = .ok (.int .i64 (d.getD j 0)) w := by
 have hu : Tryz.prog.underlying 3 = some (.int .i64) := by kernel_rfl
 unfold part isAgg
 simp only [Sem.run_bind, run_underlying hu w, Result.andThen_ok, Sem.run_pure]
 simp [av, hj]
theorem eq_items (d e : List Int) (h1 : d.length = 40) (h2 : e.length = 40) (w : World) : ∀ js : List Nat, (∀ j ∈ js, j < 40) →
 (Op.eqItems 9999 3 1 (av d) (av e) js).run Tryz.prog w = .ok (js.all fun j => d.getD j 0 == e.getD j 0) w
 | [], _ => by simp [Op.eqItems]
 | j :: js, h => by
   have hj := h j (List.mem_cons_self ..)
   have ih := eq_items d e h1 h2 w js (fun k hk => h k (List.mem_cons_of_mem _ hk))
   have hu : Tryz.prog.underlying 3 = some (.int .i64) := by kernel_rfl
   have hq := run_equalIn_int (P := Tryz.prog) w 9998 3 .i64 .i64 (d.getD j 0) (e.getD j 0) hu
   simp only [Op.eqItems, Sem.run_bind, Nat.mul_one, part_int d j (by omega) w, part_int e j (by omega) w, Result.andThen_ok, hq]
   cases hc : (d.getD j 0 == e.getD j 0)
   ·simp only [List.all_cons, hc, Bool.not_false, if_true, Bool.false_and, Sem.run_pure]
   ·simp only [List.all_cons, hc, Bool.not_true, Bool.false_eq_true, if_false, Bool.true_and, ih]
theorem f_eq (d e : List Int) (h1 : d.length = 40) (h2 : e.length = 40) (w : World) : (Op.equal 145 (.agg (av d)) (.agg (av e))).run Tryz.prog w = .ok ((List.range 40).all fun j => d.getD j 0 == e.getD j 0) w := by
 have hu : Tryz.prog.underlying 145 = some (.array 40 3) := by kernel_rfl
 have hi : (Tryz.prog.info? 3).isSome = true := by kernel_rfl
 obtain ⟨i, hi⟩ := Option.isSome_iff_exists.1 hi
 have hc : Tryz.prog.cellsOf 3 = 1 := by kernel_rfl
 show (Op.equalIn (9999 + 1) 145 (.agg (av d)) (.agg (av e))).run Tryz.prog w = _
 rw [run_equalIn_array w 9999 (av d) (av e) hu hi, hc]
 exact eq_items d e h1 h2 w _ (fun j hj => List.mem_range.1 hj)
theorem all_zero (d : List Int) (hd : Dig d) (h1 : d.length = 40) : ((List.range 40).all fun j => d.getD j 0 == Z40.getD j 0) = decide (valN d = 0) := by
 rw [Bool.eq_iff_iff, List.all_eq_true, decide_eq_true_iff]
 constructor
 ·intro h
  have : d = Z40 := by
   refine List.ext_getElem (by rw [h1]; rfl) (fun j hj hk => ?_)
   have := h j (List.mem_range.2 (by omega))
   simpa [hj, hk] using this
  rw [this]
  exact valN_zero 40
 ·intro h j hj
  have hj := List.mem_range.1 hj
  have : d = Z40 := dig_inj hd Z40_dig (by rw [h1]; rfl) (by rw [h]; exact (valN_zero 40).symm)
  rw [this]
  exact beq_self_eq_true _
theorem f_build40 (w : World) : (Instr.build 145 #[]).run Tryz.prog w = .ok (.agg (av Z40)) w := by kernel_rfl
theorem arr_info : (Tryz.prog.info? 145).map (·.size) = some 40 := by kernel_rfl
/-- the digits, read at once -/
theorem f_loadA {w : World} {b : Nat} {n : Bool} {d : List Int} (h : IsD w b n d) (hl : d.length = 40) : (loadVar 145 ⟨b, 1, none⟩).run Tryz.prog w = .ok (.agg (av d)) w := by
 have hlc : (loadCells ⟨b, 1, none⟩ (av d).toList.length).run Tryz.prog w = .ok (av d).toList.toArray w :=
  run_loadCells_list (P := Tryz.prog) w ⟨b, 1, none⟩ (av d).toList (fun j v hv => by
   have hadd : (⟨b, 1, none⟩ : Addr).add j = ⟨b, 1 + j, none⟩ := by unfold Addr.add; split <;> simp_all
   have hj : j < d.length := by
    have := (List.getElem?_eq_some_iff.1 hv).1
    simpa [av] using this
   rw [hadd, h.cell j hj]
   simpa [av, hj] using hv)
 have hu : Tryz.prog.underlying 145 = some (.array 40 3) := by kernel_rfl
 have hagg : (isAgg 145).run Tryz.prog w = .ok true w := by
  unfold isAgg
  rw [Sem.run_bind, run_underlying hu w]
  rfl
 cases hq : Tryz.prog.info? 145 with
 | none => have := arr_info; simp [hq] at this
 | some i =>
   have hs : i.size = 40 := by have := arr_info; simpa [hq] using this
   have hlen : (av d).toList.length = 40 := by simp [av, hl]
   rw [hlen] at hlc
   simp only [Array.toArray_toList] at hlc
   simp [loadVar, Sem.run_bind, hagg, sizeOf, typeInfo, hq, hs, hlc]
section
variable {ops : Array Oper} {rest : List Oper} {o : Oper} {a : Act} {w : World} {K : Act → World → Prop} {Q : Exit → Act → World → Prop}
theorem wpl_aload {x : Operand} {b : Nat} {n : Bool} {d : List Int} (hgd : o.guard = none) (ho : o.op = .load 145 x) (hx : a.eval x = .pointer (some ⟨b, 1, none⟩)) (hd : IsD w b n d) (hl : d.length = 40) (h : wpList Tryz.prog ops Q rest (a.put o.dst (.agg (av d))) w) : wpList Tryz.prog ops Q (o :: rest) a w :=
 wpList_plain hgd fun _ hK => by
  unfold Oper.wp execOp
  simp only [ho, hx, Instr.loadAt, Instr.sureAddr, Sem.run_bind, Sem.run_pure, Result.andThen_ok, f_loadA hd hl]
  exact hK _ _ h
theorem wpl_abuild (hgd : o.guard = none) (ho : o.op = .build 145 #[]) (h : wpList Tryz.prog ops Q rest (a.put o.dst (.agg (av Z40))) w) : wpList Tryz.prog ops Q (o :: rest) a w :=
 wpList_plain hgd fun _ hK => by
  unfold Oper.wp execOp
  simp only [ho, Sem.run_bind, Sem.run_pure, Result.andThen, List.map_toArray, List.map_nil, f_build40]
  exact hK _ _ h
theorem f_guard (x y : Operand) (d e : List Int) (w : World) : (eqGuard .eql 145 x y (.agg (av d)) (.agg (av e))).run Tryz.prog w = .ok () w := by
 have hg : Tryz.prog.eqGuardType Tryz.prog.depth 145 = false := by kernel_rfl
 unfold eqGuard
 simp [Sem.run_bind, hg]
theorem wpl_aeq {x y : Operand} {d : List Int} {k : TypeId} (hgd : o.guard = none) (ho : o.op = .binOp .eql 145 x y k) (hx : a.eval x = .agg (av d)) (hy : a.eval y = .agg (av Z40)) (hd : Dig d) (hl : d.length = 40)
 (h : wpList Tryz.prog ops Q rest (a.put o.dst (.bool (decide (valN d = 0)))) w) : wpList Tryz.prog ops Q (o :: rest) a w :=
 wpList_plain hgd fun _ hK => by
  have e1 := f_eq d Z40 hl rfl w
  rw [all_zero d hd hl] at e1
  have e2 := f_guard x y d Z40 w
  have e3 : (binOp .eql 145 (.agg (av d)) (.agg (av Z40))).run Tryz.prog w = .ok (.bool (decide (valN d = 0))) w := by
   show ((do pure (Value.bool (← Op.equal 145 (.agg (av d)) (.agg (av Z40)))) : Sem Value)).run Tryz.prog w = _
   simp only [Sem.run_bind, e1, Result.andThen_ok, Sem.run_pure]
  unfold Oper.wp execOp
  simp only [ho, hx, hy, Sem.run_bind, Sem.run_pure, Result.andThen_ok, e2, e3]
  exact hK _ _ h
end
theorem zero_d (n : Bool) (d : List Int) (hd : Dig d) (hl : d.length = 40) : wRet 98 #[nv n d] (.bool (decide (valN d = 0))) := fun w => by
 have gd : IsD (w.alloc (oD n d)) w.heap.size n d := IsD.new w n d
 replace hd := Hd hd
 have hb := wbelow1 w (oD n d)
 go_enter Tryz.func98, Tryz.ntmps98
 go_wp2_with (first | (with_reducible refine wpl_nbox rfl rfl rfl ?_) | (with_reducible refine wpl_aload rfl rfl rfl gd hl ?_) | (with_reducible refine wpl_abuild rfl rfl ?_) | (with_reducible refine wpl_aeq rfl rfl rfl rfl hd.out hl ?_))
 go_ret
 exact ⟨rfl, hb⟩
end Go.Proofs.YtjjgbillihedgaaGreatDoor
namespace Go.Proofs.YtjjgbillihedgaaGreatDoor
open Go.RowKit
open Rf
open Wide
theorem valN_drop_le {l : List Int} (h : Dig l) (i : Nat) (hi : i ≤ l.length) : valN (l.drop i) ≤ valN l := by
 have h1 := valN_cut l i hi
 have h2 := valN_nn (h.take i)
 have h3 := valN_nn (h.drop i)
 have h4 : 1 * valN (l.drop i) ≤ 256 ^ i * valN (l.drop i) := Int.mul_le_mul_of_nonneg_right (pow_pos256 i) h3
 omega
/-- the lowest eight digits, and the next eight -/
def loD (d : List Int) : List Int := d.take 8
def hiD (d : List Int) : List Int := (d.drop 8).take 8
theorem loD_len {d : List Int} (h : d.length = 40) : (loD d).length = 8 := by simp [loD, h]
theorem hiD_len {d : List Int} (h : d.length = 40) : (hiD d).length = 8 := by simp [hiD, h]
theorem loD_get {d : List Int} (h : d.length = 40) (i : Nat) (hi : i < 8) : (loD d)[i]'(by rw [loD_len h]; exact hi) = d[i]'(by omega) := by simp [loD]
theorem hiD_get {d : List Int} (h : d.length = 40) (i : Nat) (hi : i < 8) : (hiD d)[i]'(by rw [hiD_len h]; exact hi) = d[8 + i]'(by omega) := by simp [hiD]
theorem lohi (d : List Int) (h : d.length = 40) : valN d = valN (loD d) + 18446744073709551616 * (valN (hiD d) + 18446744073709551616 * valN (d.drop 16)) := by
 have e : (256 : Int) ^ 8 = 18446744073709551616 := by decide
 rw [valN_cut d 8 (by omega), valN_cut (d.drop 8) 8 (by simp; omega), List.drop_drop, e]
 rfl
theorem top_bd {d : List Int} (hd : Dig d) (h : d.length = 40) : 128 ≤ d[15]'(by omega) ↔ 9223372036854775808 ≤ valN (hiD d) := by
 have h7 := hiD_get h 7 (by omega)
 have h8 := valN_take (hiD d) 7 (by rw [hiD_len h]; omega)
 have hD : Dig (hiD d) := (hd.drop 8).take 8
 rw [take_whole (hiD_len h), h7] at h8
 have h9 := take_bd hD 7 (by rw [hiD_len h]; omega)
 have e : (256 : Int) ^ 7 = 72057594037927936 := by decide
 rw [e] at h8 h9
 have h10 := hd.get 15 (by omega)
 rw [h8]
 show 128 ≤ d[8 + 7]'(by omega) ↔ _
 constructor <;> intro h <;> omega
theorem lo_bd {d : List Int} (hd : Dig d) (h : d.length = 40) : 0 ≤ valN (loD d) ∧ valN (loD d) ≤ 18446744073709551615 := by
 have := take_bd hd 8 (by omega)
 have e : (256 : Int) ^ 8 = 18446744073709551616 := by decide
 rw [e] at this
 unfold loD
 omega
theorem hi_bd {d : List Int} (hd : Dig d) (h : d.length = 40) : 0 ≤ valN (hiD d) ∧ valN (hiD d) ≤ 18446744073709551615 := by
 have := take_bd (hd.drop 8) 8 (by simp; omega)
 have e : (256 : Int) ^ 8 = 18446744073709551616 := by decide
 rw [e] at this
 unfold hiD
 omega
/-- the Int of a number, and whether it is one -/
def toF (n : Bool) (v : Int) : WI × Bool := if v < 170141183460469231731687303715884105728 then (mk (neg n v), true) else (zero, false)
theorem toF_made {d : List Int} (n : Bool) (hd : Dig d) (h : d.length = 40) (hz : valN (d.drop 16) = 0) (h15 : d[15]'(by omega) ≤ 127) : toF n (valN d) = (made n (valN (hiD d)) (valN (loD d)), true) := by
 have h1 := lohi d h
 have h2 := top_bd hd h
 have h3 := lo_bd hd h
 have h4 := hi_bd hd h
 rw [hz] at h1
 unfold toF
 rw [if_pos (by omega), made_mk n _ _ h4.1 h3.1 h3.2]
 congr 3
 omega
theorem toF_top {d : List Int} (n : Bool) (hd : Dig d) (h : d.length = 40) (h15 : 127 < d[15]'(by omega)) : toF n (valN d) = (zero, false) := by
 have h1 := lohi d h
 have h2 := top_bd hd h
 have h3 := lo_bd hd h
 have h4 := hi_bd hd h
 have h5 := valN_nn (hd.drop 16)
 unfold toF
 rw [if_neg (by omega)]
theorem toF_more {d : List Int} (n : Bool) (hd : Dig d) (h : d.length = 40) (hz : valN (d.drop 16) ≠ 0) : toF n (valN d) = (zero, false) := by
 have h1 := lohi d h
 have h3 := lo_bd hd h
 have h4 := hi_bd hd h
 have h5 := valN_nn (hd.drop 16)
 unfold toF
 rw [if_neg (by omega)]
/-- a number, and two Ints, made one behind the other -/
theorem one_two (w : World) (n : Bool) (d : List Int) (x y : WI) :
 IsD (((w.alloc (oD n d)).alloc (oN x)).alloc (oN y)) w.heap.size n d ∧ IsN (((w.alloc (oD n d)).alloc (oN x)).alloc (oN y)) (w.heap.size + 1) x ∧
 IsN (((w.alloc (oD n d)).alloc (oN x)).alloc (oN y)) (w.heap.size + 1 + 1) y ∧ Below w.heap.size w (((w.alloc (oD n d)).alloc (oN x)).alloc (oN y)) := by
 refine ⟨((IsD.new w n d).alloc _).alloc _, ?_, ?_, below3 w _ _ _⟩
 ·have := (IsN.new (w.alloc (oD n d)) x).alloc (oN y)
  rwa [wsize_alloc] at this
 ·have := IsN.new ((w.alloc (oD n d)).alloc (oN x)) y
  rwa [wsize_alloc, wsize_alloc] at this
theorem IsN.set1 {w : World} {b : Nat} {x : WI} (hx : IsN w b x) (h : Int) : IsN (w.setCell ⟨b, 1, none⟩ (.int .u64 h)) b ⟨x.n, h, x.l⟩ := block_set hx
theorem IsN.setB {w : World} {b : Nat} {x : WI} (hx : IsN w b x) (l : Int) : IsN (w.setCell ⟨b, 2, none⟩ (.int .u64 l)) b ⟨x.n, x.h, l⟩ := block_set hx
theorem IsN.set0 {w : World} {b : Nat} {x : WI} (hx : IsN w b x) (n : Bool) : IsN (w.setCell ⟨b, 0, none⟩ (.bool n)) b ⟨n, x.h, x.l⟩ := block_set hx
theorem isN_drew {w : World} {b : Nat} {x : WI} (hx : IsN w b x) : IsN w.drew b x := hx
theorem to_d (n : Bool) (d : List Int) (hd : Dig d) (h1 : d.length = 40) (w : World) :
 Calls Tryz.prog 154 #[nv n d] w fun r w' => r = .returned (.tuple #[wv (toF n (valN d)).1, .bool (toF n (valN d)).2]) ∧ Below w.heap.size w w' := by
 obtain ⟨T, hT⟩ : ∃ T, toF n (valN d) = T := ⟨_, rfl⟩
 rw [hT]
 replace hT := Hd hT
 obtain ⟨gd0, gz0, gx0, hb0⟩ := one_two w n d zero zero
 have hA : Dig (loD d) := hd.take 8
 have hC : Dig (hiD d) := (hd.drop 8).take 8
 have hAl := loD_len h1
 have hCl := hiD_len h1
 have bA := lo_bd hd h1
 have bC := hi_bd hd h1
 go_enter Tryz.func154, Tryz.ntmps154
 replace gd0 := Hd gd0
 replace gz0 := Hd gz0
 replace gx0 := Hd gx0
 replace hb0 := Hd hb0
 go_wp2_with (first | (with_reducible refine wpl_nbox rfl rfl rfl ?_))
 go_loopw [5] (fun iv wr => ∃ k : Nat, k ≤ 8 ∧ iv = .int .i64 ((k : Int) - 1) ∧ IsD wr w.heap.size n d ∧ IsN wr (w.heap.size + 1) zero ∧ IsN wr (w.heap.size + 1 + 1) ⟨false, valN ((hiD d).drop k), valN ((loD d).drop k)⟩ ∧ Below w.heap.size w wr) (fun i _ => (intOf i + 1).toNat)
 case atStart => exact ⟨8, Nat.le_refl _, rfl, gd0.out, gz0.out, by rw [List.drop_of_length_le (by omega), List.drop_of_length_le (by omega)]; exact gx0.out, hb0.out⟩
 case round =>
  clear gd0 gz0 gx0 hb0
  obtain ⟨k, hk, rfl, gd, gz, gx, hb⟩ := hrel
  by_cases hk0 : 0 < k
  ·obtain ⟨i, rfl⟩ : ∃ i, k = i + 1 := ⟨k - 1, by omega⟩
   rw [show (((i + 1 : Nat) : Int)) - 1 = (i : Int) by omega]
   have hi0 : (0 : Int) ≤ (i : Int) := by omega
   have hi8 : (i : Int) < 8 := by omega
   have lA := valN_drop (loD d) i (by omega)
   have lC := valN_drop (hiD d) i (by omega)
   have mA := valN_drop_le hA i (by omega)
   have mC := valN_drop_le hC i (by omega)
   have nA := valN_nn (hA.drop (i + 1))
   have nC := valN_nn (hC.drop (i + 1))
   have qA := hA.get i (by omega)
   have qC := hC.get i (by omega)
   have cA := gd.cell i (by omega)
   have cC := gd.cell (8 + i) (by omega)
   rw [← loD_get h1 i (by omega)] at cA
   rw [← hiD_get h1 i (by omega)] at cC
   obtain ⟨a, haa⟩ : ∃ a, (loD d)[i]'(by omega) = a := ⟨_, rfl⟩
   obtain ⟨c, hcc⟩ : ∃ c, (hiD d)[i]'(by omega) = c := ⟨_, rfl⟩
   rw [haa] at lA qA cA
   rw [hcc] at lC qC cC
   clear haa
   replace hcc := Hd hcc
   obtain ⟨c0, c1, c2⟩ := gx.all
   have fx := gx.f
   dsimp only at c0 c1 c2
   obtain ⟨L, hL⟩ : ∃ L, valN ((loD d).drop (i + 1)) = L := ⟨_, rfl⟩
   obtain ⟨H, hH⟩ : ∃ H, valN ((hiD d).drop (i + 1)) = H := ⟨_, rfl⟩
   rw [hL] at gx lA nA c2
   rw [hH] at gx lC nC c1
   clear hL hH
   have e1 : IntKind.u64.wrap (L * 256) = L * 256 := IntWalk.u64_in _ (by omega)
   have e2 : IntKind.u64.wrap a = a := IntWalk.u64_in _ (by omega)
   have e3 : IntKind.u64.wrap (L * 256 + a) = L * 256 + a := IntWalk.u64_in _ (by omega)
   have e4 : IntKind.u64.wrap (H * 256) = H * 256 := IntWalk.u64_in _ (by omega)
   have e5 : IntKind.u64.wrap c = c := IntWalk.u64_in _ (by omega)
   have e6 : IntKind.u64.wrap (H * 256 + c) = H * 256 + c := IntWalk.u64_in _ (by omega)
   obtain ⟨p, hp⟩ : ∃ p, 8 + i = p := ⟨_, rfl⟩
   have e7 : (8 : Int) + (i : Int) = (p : Int) := by omega
   have e8 : IntKind.i64.wrap (p : Int) = (p : Int) := IntWalk.i64_in _ (by omega)
   have e9 : (p : Int) < 40 := by omega
   replace e7 := Hd e7
   replace lA := Hd lA
   replace lC := Hd lC
   replace mA := Hd mA
   replace mC := Hd mC
   replace gd := Hd gd
   replace gz := Hd gz
   replace gx := Hd gx
   replace hb := Hd hb
   replace h1 := Hd h1
   go_wp2_with fail
   go_region
   have gd2 := IsD.drew (gd.out.set_other (c := w.heap.size + 1 + 1) (i := 2) (v := .int .u64 (L * 256 + a)) (by omega))
   have gz2 := isN_drew (gz.out.set_other (c := w.heap.size + 1 + 1) (i := 2) (v := .int .u64 (L * 256 + a)) (by omega))
   have gx2 := isN_drew (gx.out.setB (L * 256 + a))
   have hb2 := wbelow_drewed (hb.out.setCell (show w.heap.size ≤ (⟨w.heap.size + 1 + 1, 2, none⟩ : Addr).block by show w.heap.size ≤ w.heap.size + 1 + 1; omega) (.int .u64 (L * 256 + a)))
   clear gd gz gx hb cA cC c0 c1 c2 fx e1 e2 e3
   generalize (wr.setCell ⟨w.heap.size + 1 + 1, 2, none⟩ (.int .u64 (L * 256 + a))).drew = w2 at *
   clear wr
   have cC := gd2.cell (8 + i) (by have := h1.out; omega)
   rw [← hiD_get h1.out i (by omega), hcc.out, hp] at cC
   replace e7 := e7.out
   obtain ⟨c0, c1, c2⟩ := gx2.all
   have fx := gx2.f
   dsimp only at c0 c1 c2
   replace gd2 := Hd gd2
   replace gz2 := Hd gz2
   replace gx2 := Hd gx2
   replace hb2 := Hd hb2
   go_wp2_with fail
   go_region
   have gd := Hd (IsD.drew (gd2.out.set_other (c := w.heap.size + 1 + 1) (i := 1) (v := .int .u64 (H * 256 + c)) (by omega)))
   have gz := Hd (isN_drew (gz2.out.set_other (c := w.heap.size + 1 + 1) (i := 1) (v := .int .u64 (H * 256 + c)) (by omega)))
   have gx := Hd (isN_drew (gx2.out.set1 (H * 256 + c)))
   have hb := Hd (wbelow_drewed (hb2.out.setCell (show w.heap.size ≤ (⟨w.heap.size + 1 + 1, 1, none⟩ : Addr).block by show w.heap.size ≤ w.heap.size + 1 + 1; omega) (.int .u64 (H * 256 + c))))
   clear gd2 gz2 gx2 hb2 cC c0 c1 c2 fx e4 e5 e6 e7 e8 e9
   go_wp2_with fail
   go_roundw
   case rel => exact ⟨i, by omega, by go_num, gd.out, gz.out, by rw [lA.out, lC.out, Int.add_comm a, Int.mul_comm 256 L, Int.add_comm c, Int.mul_comm 256 H]; exact gx.out, hb.out⟩
   case measure => simp [intOf]
  ·obtain rfl : k = 0 := by omega
   rw [show ((0 : Nat) : Int) - 1 = -1 from rfl]
   rw [List.drop_zero, List.drop_zero] at gx
   replace gd := Hd gd
   replace gz := Hd gz
   replace gx := Hd gx
   replace hb := Hd hb
   go_wp2_with fail
   go_loopw [6] (fun iv wr => ∃ i : Nat, 16 ≤ i ∧ i ≤ 40 ∧ iv = .int .i64 i ∧ (valN (d.drop 16) = 0 ↔ valN (d.drop i) = 0) ∧ IsD wr w.heap.size n d ∧ IsN wr (w.heap.size + 1) zero ∧ IsN wr (w.heap.size + 1 + 1) ⟨false, valN (hiD d), valN (loD d)⟩ ∧ Below w.heap.size w wr) (fun i _ => 40 - (intOf i).toNat)
   case atStart => exact ⟨16, Nat.le_refl _, by omega, rfl, Iff.rfl, gd.out, gz.out, gx.out, hb.out⟩
   case round =>
    clear gd gz gx hb
    obtain ⟨i, hi16, hi40, rfl, hzz, gd, gz, gx, hb⟩ := hrel
    by_cases hlt : i < 40
    ·have cd := gd.cell i (by omega)
     have bd := hd.get i (by omega)
     have hdr := valN_drop d i (by omega)
     have hnn := valN_nn (hd.drop (i + 1))
     have hmore := fun hz => toF_more n hd h1 hz
     obtain ⟨a, haa⟩ : ∃ a, d[i]'(by omega) = a := ⟨_, rfl⟩
     rw [haa] at cd bd hdr
     clear haa
     replace hb := Hd hb
     replace gx := Hd gx
     replace hdr := Hd hdr
     replace h1 := Hd h1
     replace hmore := Hd hmore
     replace hzz := Hd hzz
     have gd' := Hd gd
     clear gd
     by_cases ha : a = 0
     ·subst ha
      replace gz := Hd gz
      have h00 : ((0 : Int) != 0) = false := rfl
      go_wp2_with fail
      go_roundw
      case rel => exact ⟨i + 1, by omega, by omega, by go_num, by rw [hzz.out, hdr.out]; omega, gd'.out, gz.out, gx.out, hb.out⟩
      case measure => simp [intOf]; omega
     ·have hne : (a != 0) = true := bne_iff_ne.2 ha
      have hmn := Hd (hmore.out (fun hh => by have := hzz.out.1 hh; have := hdr.out; omega))
      have gz2 := gz.set false 0 0
      obtain ⟨r0, r1, r2⟩ := gz2.all
      dsimp only at r0 r1 r2
      have hfin := below_set3 hb.out (show w.heap.size ≤ w.heap.size + 1 by omega) (.bool false) (.int .u64 0) (.int .u64 0)
      replace hfin := Hd hfin
      replace gz2 := Hd gz2
      obtain ⟨z0, z1, z2⟩ := gz.all
      have fz := gz.f
      dsimp only [zero] at z0 z1 z2
      go_wp2_with fail
      (try simp only [Exit.inBlock, Exit.then])
      refine bodyPost_ret (by simp [results, Tryz.results154, go_sem, r0, r1, r2]; try rfl) rfl ?_
      refine ⟨?_, hfin.out⟩
      rw [← hT.out, hmn.out]
      rfl
    ·obtain rfl : i = 40 := by omega
     have hz : valN (d.drop 16) = 0 := hzz.2 (by rw [List.drop_of_length_le (by omega)]; rfl)
     have cd := gd.cell 15 (by omega)
     have htop := fun h15 => toF_top n hd h1 h15
     have hmade := fun h15 => toF_made n hd h1 hz h15
     obtain ⟨a, haa⟩ : ∃ a, d[15]'(by omega) = a := ⟨_, rfl⟩
     rw [haa] at cd htop hmade
     clear haa
     rw [show 1 + 15 = 16 from rfl] at cd
     replace htop := Hd htop
     replace hmade := Hd hmade
     replace hb := Hd hb
     replace h1 := Hd h1
     clear hzz hz
     have cn := gd.neg
     have gd' := Hd gd
     clear gd
     by_cases ha : 127 < a
     ·have hmn := Hd (htop.out ha)
      have gx' := Hd gx
      clear gx
      have gz2 := gz.set false 0 0
      obtain ⟨r0, r1, r2⟩ := gz2.all
      dsimp only at r0 r1 r2
      have hfin := below_set3 hb.out (show w.heap.size ≤ w.heap.size + 1 by omega) (.bool false) (.int .u64 0) (.int .u64 0)
      replace hfin := Hd hfin
      replace gz2 := Hd gz2
      obtain ⟨z0, z1, z2⟩ := gz.all
      have fz := gz.f
      dsimp only [zero] at z0 z1 z2
      go_wp2_with fail
      (try simp only [Exit.inBlock, Exit.then])
      refine bodyPost_ret (by simp [results, Tryz.results154, go_sem, r0, r1, r2]; try rfl) rfl ?_
      refine ⟨?_, hfin.out⟩
      rw [← hT.out, hmn.out]
      rfl
     ·have hmn := Hd (hmade.out (by omega))
      obtain ⟨H, hH⟩ : ∃ H, valN (hiD d) = H := ⟨_, rfl⟩
      obtain ⟨L, hL⟩ : ∃ L, valN (loD d) = L := ⟨_, rfl⟩
      rw [hH, hL] at hmn gx
      obtain ⟨c0, c1, c2⟩ := gx.all
      have fx := gx.f
      dsimp only at c0 c1 c2
      obtain ⟨z0, z1, z2⟩ := gz.all
      have fz := gz.f
      dsimp only [zero] at z0 z1 z2
      cases n with
      | false =>
        have gx1 := gx.set0 false
        obtain ⟨c0', c1', c2'⟩ := gx1.all
        have gz1 := gz.set_other (c := w.heap.size + 1 + 1) (i := 0) (v := .bool false) (by omega)
        obtain ⟨y0, y1, y2⟩ := gz1.all
        have fy := gz1.f
        have gz2 := gz1.set false H L
        obtain ⟨r0, r1, r2⟩ := gz2.all
        have hfin := Hd (below_set3 (hb.out.setCell (show w.heap.size ≤ (⟨w.heap.size + 1 + 1, 0, none⟩ : Addr).block by show w.heap.size ≤ w.heap.size + 1 + 1; omega) (.bool false)) (show w.heap.size ≤ w.heap.size + 1 by omega) (.bool false) (.int .u64 H) (.int .u64 L))
        dsimp only [zero] at c0' c1' c2' y0 y1 y2 r0 r1 r2
        replace gx := Hd gx
        replace gz := Hd gz
        replace gx1 := Hd gx1
        replace gz1 := Hd gz1
        replace gz2 := Hd gz2
        go_wp2_with fail
        (try simp only [Exit.inBlock, Exit.then])
        refine bodyPost_ret (by simp [results, Tryz.results154, go_sem, r0, r1, r2]; try rfl) rfl ?_
        refine ⟨?_, hfin.out⟩
        rw [← hT.out, hmn.out]
        rfl
      | true =>
        by_cases hH0 : H = 0
        ·subst hH0
         have k1 : ((0 : Int) != 0) = false := rfl
         by_cases hL0 : L = 0
         ·subst hL0
          have gx1 := gx.set0 false
          obtain ⟨c0', c1', c2'⟩ := gx1.all
          have gz1 := gz.set_other (c := w.heap.size + 1 + 1) (i := 0) (v := .bool false) (by omega)
          obtain ⟨y0, y1, y2⟩ := gz1.all
          have fy := gz1.f
          have gz2 := gz1.set false 0 0
          obtain ⟨r0, r1, r2⟩ := gz2.all
          have hfin := Hd (below_set3 (hb.out.setCell (show w.heap.size ≤ (⟨w.heap.size + 1 + 1, 0, none⟩ : Addr).block by show w.heap.size ≤ w.heap.size + 1 + 1; omega) (.bool false)) (show w.heap.size ≤ w.heap.size + 1 by omega) (.bool false) (.int .u64 0) (.int .u64 0))
          dsimp only [zero] at c0' c1' c2' y0 y1 y2 r0 r1 r2
          replace gx := Hd gx
          replace gz := Hd gz
          replace gx1 := Hd gx1
          replace gz1 := Hd gz1
          replace gz2 := Hd gz2
          go_wp2_with fail
          (try simp only [Exit.inBlock, Exit.then])
          refine bodyPost_ret (by simp [results, Tryz.results154, go_sem, r0, r1, r2]; try rfl) rfl ?_
          refine ⟨?_, hfin.out⟩
          rw [← hT.out, hmn.out]
          rfl
         ·have k2 : (L != 0) = true := bne_iff_ne.2 hL0
          have k3 : nil2 0 L = false := by simp [nil2, hL0]
          have gx1 := gx.set0 true
          obtain ⟨c0', c1', c2'⟩ := gx1.all
          have gz1 := gz.set_other (c := w.heap.size + 1 + 1) (i := 0) (v := .bool true) (by omega)
          obtain ⟨y0, y1, y2⟩ := gz1.all
          have fy := gz1.f
          have gz2 := gz1.set true 0 L
          obtain ⟨r0, r1, r2⟩ := gz2.all
          have hfin := Hd (below_set3 (hb.out.setCell (show w.heap.size ≤ (⟨w.heap.size + 1 + 1, 0, none⟩ : Addr).block by show w.heap.size ≤ w.heap.size + 1 + 1; omega) (.bool true)) (show w.heap.size ≤ w.heap.size + 1 by omega) (.bool true) (.int .u64 0) (.int .u64 L))
          dsimp only [zero] at c0' c1' c2' y0 y1 y2 r0 r1 r2
          replace gx := Hd gx
          replace gz := Hd gz
          replace gx1 := Hd gx1
          replace gz1 := Hd gz1
          replace gz2 := Hd gz2
          go_wp2_with fail
          (try simp only [Exit.inBlock, Exit.then])
          refine bodyPost_ret (by simp [results, Tryz.results154, go_sem, r0, r1, r2]; try rfl) rfl ?_
          refine ⟨?_, hfin.out⟩
          rw [← hT.out, hmn.out]
          simp [made, k3, wv]
        ·have k1 : (H != 0) = true := bne_iff_ne.2 hH0
         have k3 : nil2 H L = false := by simp [nil2, hH0]
         have gx1 := gx.set0 true
         obtain ⟨c0', c1', c2'⟩ := gx1.all
         have gz1 := gz.set_other (c := w.heap.size + 1 + 1) (i := 0) (v := .bool true) (by omega)
         obtain ⟨y0, y1, y2⟩ := gz1.all
         have fy := gz1.f
         have gz2 := gz1.set true H L
         obtain ⟨r0, r1, r2⟩ := gz2.all
         have hfin := Hd (below_set3 (hb.out.setCell (show w.heap.size ≤ (⟨w.heap.size + 1 + 1, 0, none⟩ : Addr).block by show w.heap.size ≤ w.heap.size + 1 + 1; omega) (.bool true)) (show w.heap.size ≤ w.heap.size + 1 by omega) (.bool true) (.int .u64 H) (.int .u64 L))
         dsimp only [zero] at c0' c1' c2' y0 y1 y2 r0 r1 r2
         replace gx := Hd gx
         replace gz := Hd gz
         replace gx1 := Hd gx1
         replace gz1 := Hd gz1
         replace gz2 := Hd gz2
         go_wp2_with fail
         (try simp only [Exit.inBlock, Exit.then])
         refine bodyPost_ret (by simp [results, Tryz.results154, go_sem, r0, r1, r2]; try rfl) rfl ?_
         refine ⟨?_, hfin.out⟩
         rw [← hT.out, hmn.out]
         simp [made, k3, wv]
end Go.Proofs.YtjjgbillihedgaaGreatDoor
