/- the walks over retrofitref01, sixth part: quotients -/
import Derived.Test.YtbfigpollacngaaDoorNmW4
import Derived.Test.YtbfigpollacngaaDoorNmW5
namespace Go.Proofs.YtbfigpollacngaaDoor
open Go.RowKit
open Rf
open Wide

theorem IsD.set0 {w : World} {b : Nat} {n m : Bool} {d : List Int} (h : IsD w b n d) : IsD (w.setCell ⟨b, 0, none⟩ (.bool m)) b m d := by
  unfold IsD at *
  show (w.heap.modify b _)[b]? = _
  rw [Array.getElem?_modify, if_pos rfl, h]
  simp [nc]
/-- a block's digits, read -/
def rdD (w : World) (b : Nat) : List Int := match w.heap[b]? with
  | some (.cells a _ _) => (a.toList.drop 1).map intOf
  | _ => []
theorem rdD_of {w : World} {b : Nat} {n : Bool} {d : List Int} (h : IsD w b n d) : rdD w b = d := by
  unfold IsD at h
  unfold rdD
  rw [h]
  simp [nc, intOf, Function.comp_def]
/-- six numbers, made one behind the other; the second one without its sign -/
theorem six_nd (w : World) (n m : Bool) (d e : List Int) :
    ∃ w6, (((((((w.alloc (oD n d)).alloc (oD m e)).setCell ⟨w.heap.size + 1, 0, none⟩ (.bool false)).alloc (oD false Z40)).alloc (oD false Z40)).alloc (oD false Z40)).alloc (oD false Z40)) = w6 ∧
    IsD w6 w.heap.size n d ∧ IsD w6 (w.heap.size + 1) false e ∧ IsD w6 (w.heap.size + 1 + 1) false Z40 ∧ IsD w6 (w.heap.size + 1 + 1 + 1) false Z40 ∧ IsD w6 (w.heap.size + 1 + 1 + 1 + 1) false Z40 ∧ IsD w6 (w.heap.size + 1 + 1 + 1 + 1 + 1) false Z40 ∧
    Below w.heap.size w w6 := by
  obtain ⟨h1, h2⟩ := two_nd w n m d e
  obtain ⟨v, hv⟩ : ∃ v, ((w.alloc (oD n d)).alloc (oD m e)).setCell ⟨w.heap.size + 1, 0, none⟩ (.bool false) = v := ⟨_, rfl⟩
  have hs : v.heap.size = w.heap.size + 1 + 1 := by
    rw [← hv]
    show (((w.alloc (oD n d)).alloc (oD m e)).heap.modify _ _).size = _
    rw [Array.size_modify, size_alloc, size_alloc]
  have k1 : IsD v w.heap.size n d := by rw [← hv]; exact h1.set_other (by omega)
  have k2 : IsD v (w.heap.size + 1) false e := by rw [← hv]; exact h2.set0
  have kb : Below w.heap.size w v := by rw [← hv]; exact (below2 w (oD n d) (oD m e)).setCell (show w.heap.size ≤ w.heap.size + 1 by omega) _
  rw [hv]
  refine ⟨_, rfl, (((k1.alloc _).alloc _).alloc _).alloc _, (((k2.alloc _).alloc _).alloc _).alloc _, ?_, ?_, ?_, ?_, (((kb.alloc (by omega) _).alloc (by simp only [size_alloc]; omega) _).alloc (by simp only [size_alloc]; omega) _).alloc (by simp only [size_alloc]; omega) _⟩
  · have := (((IsD.new v false Z40).alloc (oD false Z40)).alloc (oD false Z40)).alloc (oD false Z40)
    rwa [hs] at this
  · have := ((IsD.new (v.alloc (oD false Z40)) false Z40).alloc (oD false Z40)).alloc (oD false Z40)
    rwa [size_alloc, hs] at this
  · have := (IsD.new ((v.alloc (oD false Z40)).alloc (oD false Z40)) false Z40).alloc (oD false Z40)
    rwa [size_alloc, size_alloc, hs] at this
  · have := IsD.new (((v.alloc (oD false Z40)).alloc (oD false Z40)).alloc (oD false Z40)) false Z40
    rwa [size_alloc, size_alloc, size_alloc, hs] at this

theorem quo_next {d q r v : List Int} {i : Nat} {x c B : Int} (hi : i < q.length) (hd : valN (d.drop i) = x + 256 * valN (d.drop (i + 1))) (hinv : valN (d.drop (i + 1)) = valN (q.drop (i + 1)) * B + valN r)
    (hV : valN v + c * B = x + 256 * valN r) : valN (d.drop i) = valN ((q.set i c).drop i) * B + valN v := by
  rw [hd, set_drop q i hi, valN]
  exact quo_step _ B _ _ x c _ hinv hV
theorem zeros_next {q : List Int} {i : Nat} (h : q.take (i + 1) = List.replicate (i + 1) 0) (c : Int) : (q.set i c).take i = List.replicate i 0 := by
  rw [List.take_set_of_le (Nat.le_refl i)]
  have := congrArg (List.take i) h
  rwa [List.take_take, List.take_replicate, Nat.min_eq_left (Nat.le_succ i)] at this
theorem zeros_set {q : List Int} {i : Nat} (hi : i < q.length) (h : q.take (i + 1) = List.replicate (i + 1) 0) : q.set i 0 = q := by
  have h2 : q[i] = 0 := by
    have := congrArg (fun l => l[i]?) h
    simp only [List.getElem?_take_of_lt (Nat.lt_succ_self i), List.getElem?_eq_getElem hi, List.getElem?_replicate, Nat.lt_succ_self, if_true] at this
    exact Option.some.inj this
  conv => lhs; rw [← h2]
  exact List.set_getElem_self hi
theorem set_set' (q : List Int) (i : Nat) (a b : Int) : (q.set i a).set i b = q.set i b := List.set_set ..
/-- a call's block facts, carried over it -/
theorem IsD.call {wr w' : World} {b : Nat} {n : Bool} {d : List Int} (h : IsD wr b n d) (hb : Below wr.heap.size wr w') : IsD w' b n d := h.below hb

theorem f_exec_load {w1 : World} {b : Nat} {n : Bool} {d : List Int} {ev : Operand → Value} {o : Oper} {x : Operand} (ho : o.op = .load 59 x) (hx : ev x = .pointer (some ⟨b, 0, none⟩)) (h : IsD w1 b n d) (hl : d.length = 40) :
    Sem.run Tryd.prog (execOp ev o) w1 = .ok (.value (nv n d)) w1 := by
  unfold execOp
  simp only [ho, hx, Sem.run_bind, f_load h hl, Result.andThen, Sem.run_pure]
/-- two results that are numbers -/
theorem n_result2 {fn : Func} {p q : Tmp} (h : fn.results = #[.cell p 59, .cell q 59]) (tmps : Array Value) (w : World) (b c : Nat) (n m : Bool) (d e : List Int)
    (hp : tmps.getD p undef = .pointer (some ⟨b, 0, none⟩)) (hq : tmps.getD q undef = .pointer (some ⟨c, 0, none⟩)) (hd : IsD w b n d) (he : IsD w c m e) (hl : d.length = 40) (hk : e.length = 40) :
    (results fn tmps).run Tryd.prog w = .ok (.tuple #[nv n d, nv m e]) w := by
  have l1 := run_loadVar_row (P := Tryd.prog) w b 59 59 (nc n d).toArray (0, 0) _ hd rfl rfl (by rw [num_info]; simp [nc_length, hl])
  have l2 := run_loadVar_row (P := Tryd.prog) w c 59 59 (nc m e).toArray (0, 0) _ he rfl rfl (by rw [num_info]; simp [nc_length, hk])
  have hp' : tmps[p]?.getD undef = .pointer (some ⟨b, 0, none⟩) := by simpa using hp
  have hq' : tmps[q]?.getD undef = .pointer (some ⟨c, 0, none⟩) := by simpa using hq
  simp [results, h, hp', hq', asAddr, l1, l2, nv, Sem.run_bind]

set_option maxRecDepth 100000 in
set_option maxHeartbeats 16000000 in
theorem divide_d (n m : Bool) (d e : List Int) (hd : Dig d) (he : Dig e) (h1 : d.length = 40) (h2 : e.length = 40) (he0 : 0 < valN e) (hel : valN e < 256 ^ 39) (w : World) :
    Calls Tryd.prog 42 #[nv n d, nv m e] w fun r w' => r = .returned (.tuple #[nv false (digN 40 (valN d / valN e)), nv false (digN 40 (valN d % valN e))]) ∧ Below w.heap.size w w' := by
  obtain ⟨B, hB⟩ : ∃ B, valN e = B := ⟨_, rfl⟩
  rw [hB] at he0 hel ⊢
  replace hB := Lib.hid hB
  obtain ⟨RR, hRR⟩ : ∃ R, digN 40 (valN d / B) = R := ⟨_, rfl⟩
  obtain ⟨RS, hRS⟩ : ∃ R, digN 40 (valN d % B) = R := ⟨_, rfl⟩
  rw [hRR, hRS]
  replace hRR := Lib.hid hRR
  replace hRS := Lib.hid hRS
  obtain ⟨w6, hw6, gd0, ge0, gz0, gy0, gq0, gr0, hb0⟩ := six_nd w n m d e
  have hc1 := (four_nd w n m false false d e Z40 Z40).2.1.neg
  have hf1 := (four_nd w n m false false d e Z40 Z40).2.1.f 0
  replace gd0 := Lib.hid gd0
  replace ge0 := Lib.hid ge0
  replace gz0 := Lib.hid gz0
  replace gy0 := Lib.hid gy0
  replace gq0 := Lib.hid gq0
  replace gr0 := Lib.hid gr0
  replace hb0 := Lib.hid hb0
  replace hw6 := Lib.hid hw6
  replace he0 := Lib.hid he0
  replace hel := Lib.hid hel
  replace hd := Lib.hid hd
  replace he := Lib.hid he
  replace h1 := Lib.hid h1
  replace h2 := Lib.hid h2
  go_enter Tryd.func42, Tryd.ntmps42
  go_wp2_with (first | (with_reducible refine wpl_nbox rfl rfl rfl ?_) | (with_reducible refine wpl_nalloc rfl rfl ?_) | (with_reducible refine wpl_nbuild0 rfl rfl ?_) | (with_reducible refine wpl_nstore_new rfl rfl rfl rfl (by simp) rfl rfl ?_))
  rw [hw6.out]
  clear hc1 hf1 hw6
  go_loopw [8] (fun iv wr => ∃ (k : Nat) (q r : List Int), k ≤ 40 ∧ iv = .int .i64 ((k : Int) - 1) ∧ q.length = 40 ∧ Dig q ∧ r.length = 40 ∧ Dig r ∧ q.take k = List.replicate k 0 ∧ valN (d.drop k) = valN (q.drop k) * B + valN r ∧ valN r < B ∧
      IsD wr w.heap.size n d ∧ IsD wr (w.heap.size + 1) false e ∧ IsD wr (w.heap.size + 1 + 1) false Z40 ∧ IsD wr (w.heap.size + 1 + 1 + 1) false Z40 ∧ IsD wr (w.heap.size + 1 + 1 + 1 + 1) false q ∧ IsD wr (w.heap.size + 1 + 1 + 1 + 1 + 1) false r ∧ Below w.heap.size w wr) (fun i _ => (intOf i + 1).toNat)
  case atStart => exact ⟨40, Z40, Z40, Nat.le_refl _, rfl, rfl, Z40_dig, rfl, Z40_dig, rfl, by rw [List.drop_of_length_le (by have := h1.out; omega)]; show valN [] = valN [] * B + valN (List.replicate 40 0); rw [valN_zero]; show (0 : Int) = 0 * B + 0; omega, he0.out, gd0.out, ge0.out, gz0.out, gy0.out, gq0.out, gr0.out, hb0.out⟩
  case round =>
    clear gd0 ge0 gz0 gy0 gq0 gr0 hb0
    obtain ⟨k, q, r, hk, rfl, hq, hqD, hr, hrD, hqz, hinv, hrB, gd, ge, gz, gy, gq, gr, hb⟩ := hrel
    by_cases hk0 : 0 < k
    · obtain ⟨i, rfl⟩ : ∃ i, k = i + 1 := ⟨k - 1, by omega⟩
      rw [show (((i + 1 : Nat) : Int)) - 1 = (i : Int) by omega]
      have hi0 : (0 : Int) ≤ (i : Int) := by omega
      have hdec : decide ((0 : Int) ≤ (i : Int)) = true := decide_eq_true hi0
      replace gd := Lib.hid gd
      replace ge := Lib.hid ge
      replace gz := Lib.hid gz
      replace gy := Lib.hid gy
      replace gq := Lib.hid gq
      replace gr := Lib.hid gr
      replace hb := Lib.hid hb
      replace hq := Lib.hid hq
      replace hqD := Lib.hid hqD
      replace hr := Lib.hid hr
      replace hrD := Lib.hid hrD
      replace hqz := Lib.hid hqz
      replace hinv := Lib.hid hinv
      replace hrB := Lib.hid hrB
      go_wp2_with fail
      obtain ⟨wo, hwo⟩ : ∃ wo : World, wo = wr := ⟨_, rfl⟩
      replace hwo := Lib.hid hwo
      go_loopw [9] (fun kv wr => ∃ j : Nat, j ≤ 39 ∧ kv = .int .i64 j ∧
          IsD wr w.heap.size n d ∧ IsD wr (w.heap.size + 1) false e ∧ IsD wr (w.heap.size + 1 + 1) false Z40 ∧ IsD wr (w.heap.size + 1 + 1 + 1) false Z40 ∧ IsD wr (w.heap.size + 1 + 1 + 1 + 1) false q ∧ IsD wr (w.heap.size + 1 + 1 + 1 + 1 + 1) false (upD r j) ∧ Below w.heap.size w wr) (fun k _ => (intOf k).toNat)
      case atStart => exact ⟨39, Nat.le_refl _, rfl, gd.out, ge.out, gz.out, gy.out, gq.out, by rw [upD_start r hr.out]; exact gr.out, hb.out⟩
      case round =>
        clear gd ge gz gy gq gr hb hwo
        obtain ⟨j, hj, rfl, gd, ge, gz, gy, gq, gr, hb⟩ := hrel
        by_cases hj0 : 0 < j
        · obtain ⟨t, rfl⟩ : ∃ t, j = t + 1 := ⟨j - 1, by omega⟩
          have hlen := upD_length r hr.out (t + 1) hj
          have cr := gr.cell t (by omega)
          have hst := Lib.hid (upD_step r hr.out t (by omega))
          rw [upD_get r hr.out t (by omega)] at cr
          obtain ⟨x, hx⟩ : ∃ x, r[t]'(by have := hr.out; omega) = x := ⟨_, rfl⟩
          rw [hx] at cr hst
          clear hx
          obtain ⟨v0, cv⟩ := gr.has (t + 1) (by omega)
          have fv := gr.f (1 + (t + 1))
          have hs1 : (((t + 1 : Nat)) : Int) - 1 = (t : Int) := by omega
          have hs2 : (t : Int) + 1 - 1 = (t : Int) := by omega
          have hp1 : (0 : Int) < (t : Int) + 1 := by omega
          replace hlen := Lib.hid hlen
          replace gd := Lib.hid gd
          replace ge := Lib.hid ge
          replace gz := Lib.hid gz
          replace gy := Lib.hid gy
          replace gq := Lib.hid gq
          replace gr := Lib.hid gr
          replace hb := Lib.hid hb
          go_wp2_with fail
          go_roundw
          case rel => exact ⟨t, by omega, by go_num, gd.out.set_other (by omega), ge.out.set_other (by omega), gz.out.set_other (by omega), gy.out.set_other (by omega), gq.out.set_other (by omega), by rw [← hst.out]; exact gr.out.set (t + 1) x, hb.out.setCell (show w.heap.size ≤ w.heap.size + 1 + 1 + 1 + 1 + 1 by omega) _⟩
          case measure => simp [intOf]
        · obtain rfl : j = 0 := by omega
          rw [show ((0 : Nat) : Int) = 0 from rfl]
          have cd := gd.cell i (by have := h1.out; omega)
          have bd := hd.out.get i (by have := h1.out; omega)
          have hdi := Lib.hid (valN_drop d i (by have := h1.out; omega))
          obtain ⟨x, hx⟩ : ∃ x, d[i]'(by have := h1.out; omega) = x := ⟨_, rfl⟩
          rw [hx] at cd bd hdi
          clear hx
          have hlen := upD_length r hr.out 0 (by omega)
          obtain ⟨v0, cv⟩ := gr.has 0 (by omega)
          rw [show 1 + 0 = 1 from rfl] at cv
          have fv := gr.f 1
          have hr1 := Lib.hid (upD_end r hr.out x)
          replace hlen := Lib.hid hlen
          replace gd := Lib.hid gd
          replace ge := Lib.hid ge
          replace gz := Lib.hid gz
          replace gy := Lib.hid gy
          replace gq := Lib.hid gq
          replace gr := Lib.hid gr
          replace hb := Lib.hid hb
          go_wp2_with fail
          have gr1 := gr.out.set 0 x
          rw [show 1 + 0 = 1 from rfl, hr1.out] at gr1
          have gd1 := (gd.out.set_other (c := w.heap.size + 1 + 1 + 1 + 1 + 1) (i := 1) (v := .int .i64 x) (by omega))
          have ge1 := (ge.out.set_other (c := w.heap.size + 1 + 1 + 1 + 1 + 1) (i := 1) (v := .int .i64 x) (by omega))
          have gz1 := (gz.out.set_other (c := w.heap.size + 1 + 1 + 1 + 1 + 1) (i := 1) (v := .int .i64 x) (by omega))
          have gy1 := (gy.out.set_other (c := w.heap.size + 1 + 1 + 1 + 1 + 1) (i := 1) (v := .int .i64 x) (by omega))
          have gq1 := (gq.out.set_other (c := w.heap.size + 1 + 1 + 1 + 1 + 1) (i := 1) (v := .int .i64 x) (by omega))
          have hb1 := hb.out.setCell (show w.heap.size ≤ (⟨w.heap.size + 1 + 1 + 1 + 1 + 1, 1, none⟩ : Addr).block by show w.heap.size ≤ w.heap.size + 1 + 1 + 1 + 1 + 1; omega) (.int .i64 x)
          clear gd ge gz gy gq gr hb cd cv fv
          generalize wr.setCell ⟨w.heap.size + 1 + 1 + 1 + 1 + 1, 1, none⟩ (.int .i64 x) = w3 at *
          clear wr wo
          have gd := Lib.hid gd1
          have ge := Lib.hid ge1
          have gz := Lib.hid gz1
          have gy := Lib.hid gy1
          have gq := Lib.hid gq1
          have gr := Lib.hid gr1
          have hb := Lib.hid hb1
          clear gd1 ge1 gz1 gy1 gq1 gr1 hb1
          have hvD := Lib.hid (up_dig r hrD.out x bd)
          have hvl := Lib.hid (up_len r hr.out x)
          have hvv := Lib.hid (up_val r hrD.out hr.out x (Int.lt_trans hrB.out hel.out))
          generalize x :: r.take 39 = vv at *
          have hqs := Lib.hid (zeros_set (by have := hq.out; omega) hqz.out)
          have bx := Lib.hid bd
          clear bd
          obtain ⟨wo, hwo⟩ : ∃ wo : World, wo = w3 := ⟨_, rfl⟩
          replace hwo := Lib.hid hwo
          go_loopw [] (fun wr => ∃ (c : Int) (v : List Int), 0 ≤ c ∧ c ≤ 255 ∧ v.length = 40 ∧ Dig v ∧ valN v + c * B = x + 256 * valN r ∧
              IsD wr w.heap.size n d ∧ IsD wr (w.heap.size + 1) false e ∧ IsD wr (w.heap.size + 1 + 1) false Z40 ∧ IsD wr (w.heap.size + 1 + 1 + 1) false Z40 ∧ IsD wr (w.heap.size + 1 + 1 + 1 + 1) false (q.set i c) ∧ IsD wr (w.heap.size + 1 + 1 + 1 + 1 + 1) false v ∧ Below w.heap.size w wr) (fun wr => (valN (rdD wr (w.heap.size + 1 + 1 + 1 + 1 + 1))).toNat)
          case atStart => exact ⟨0, vv, by omega, by omega, hvl.out, hvD.out, by rw [hvv.out]; omega, gd.out, ge.out, gz.out, gy.out, by rw [hqs.out]; exact gq.out, gr.out, hb.out⟩
          case round =>
            clear gd ge gz gy gq gr hb hwo hvD hvl hvv
            obtain ⟨c, v, c0, c1, hvl, hvD, hV, gd, ge, gz, gy, gq, gr, hb⟩ := hrel
            have h2' := h2.out
            have gr0' := Lib.hid gr
            replace gd := Lib.hid gd
            replace gz := Lib.hid gz
            replace gy := Lib.hid gy
            replace gq := Lib.hid gq
            replace hb := Lib.hid hb
            replace hvD := Lib.hid hvD
            replace hV := Lib.hid hV
            go_wp2_with (first | (with_reducible refine wpl_nload rfl rfl rfl gr hvl ?_) | (with_reducible refine wpl_nload rfl rfl rfl ge h2' ?_))
            replace ge := Lib.hid ge
            replace gr := Lib.hid gr
            have hvv := Lib.hid hvl
            clear hvl h2'
            have hvl := hvv
            clear hvv
            refine (size_d false false v e hvD.out he.out hvl.out h2.out _).mono ?_
            rintro e1 w4 ⟨rfl, hbr⟩
            have gd2 := Lib.hid (gd.out.call hbr)
            have ge2 := Lib.hid (ge.out.call hbr)
            have gz2 := Lib.hid (gz.out.call hbr)
            have gy2 := Lib.hid (gy.out.call hbr)
            have gq2 := Lib.hid (gq.out.call hbr)
            have gr2 := Lib.hid (gr.out.call hbr)
            have hb2 := Lib.hid (below_up hb.out hb.out.size hbr)
            clear gd ge gz gy gq gr hb hbr
            by_cases hge : B ≤ valN v
            · obtain ⟨s, hs, h0⟩ : ∃ s, sgn (valN v - valN e) = s ∧ 0 ≤ s := ⟨_, rfl, by have := hB.out; unfold sgn; split <;> (try split) <;> omega⟩
              rw [hs]
              clear hs
              have hvl' := hvl.out
              have h2' := h2.out
              replace ge2 := ge2.out
              replace gr2 := gr2.out
              go_wp2_with (first | (with_reducible refine wpl_nload rfl rfl rfl gr2 hvl' ?_) | (with_reducible refine wpl_nload rfl rfl rfl ge2 h2' ?_))
              replace ge2 := Lib.hid ge2
              replace gr2 := Lib.hid gr2
              clear hvl' h2'
              refine (minus_d false false v e hvD.out he.out hvl.out h2.out (by rw [hB.out]; exact hge) _).mono ?_
              rintro e1 w5 ⟨rfl, hbr⟩
              have gd3 := Lib.hid (gd2.out.call hbr)
              have ge3 := Lib.hid (ge2.out.call hbr)
              have gz3 := Lib.hid (gz2.out.call hbr)
              have gy3 := Lib.hid (gy2.out.call hbr)
              have gq3 := Lib.hid (gq2.out.call hbr)
              have gr3 := Lib.hid (gr2.out.call hbr)
              have hb3 := Lib.hid (below_up hb2.out hb2.out.size hbr)
              clear gd2 ge2 gz2 gy2 gq2 gr2 hb2 hbr
              rw [hB.out]
              obtain ⟨u, hu⟩ : ∃ u, digN 40 (valN v - B) = u := ⟨_, rfl⟩
              have hul : u.length = 40 := by rw [← hu, digN_length]
              have huD : Dig u := by rw [← hu]; exact digN_dig 40 _
              have hvb := valN_bd hvD.out
              rw [hvl.out] at hvb
              have huv : valN u = valN v - B := by rw [← hu]; exact digN_val 40 _ (by omega) (by have := he0.out; omega)
              rw [hu]
              clear hu
              have hV2 : valN u + (c + 1) * B = x + 256 * valN r := by
                rw [huv, Int.add_mul, Int.one_mul]
                have := hV.out
                omega
              have hc1 : c + 1 ≤ 255 := quo_dig he0.out hrB.out bx.out (by rw [huv]; omega) hV2
              have ew : IntKind.i64.wrap (c + 1) = c + 1 := IntWalk.i64_in _ (by omega)
              have hms : (valN u).toNat < (valN v).toNat := by have := he0.out; omega
              replace hms := Lib.hid hms
              replace hV2 := Lib.hid hV2
              replace huD := Lib.hid huD
              clear huv hvb hge h0
              have gq4 := gq3.out.row_other (c := w.heap.size + 1 + 1 + 1 + 1 + 1) (by omega) (nc false u).toArray
              have cq := gq4.cell i (by rw [List.length_set]; have := hq.out; omega)
              rw [List.getElem_set_self] at cq
              have fq := gq4.f (1 + i)
              have gq5 := gq4.set i (c + 1)
              rw [set_set'] at gq5
              replace gq5 := Lib.hid gq5
              clear gq4
              have gd5 := Lib.hid ((gd3.out.row_other (c := w.heap.size + 1 + 1 + 1 + 1 + 1) (by omega) (nc false u).toArray).set_other (c := w.heap.size + 1 + 1 + 1 + 1) (i := 1 + i) (v := .int .i64 (c + 1)) (by omega))
              have ge5 := Lib.hid ((ge3.out.row_other (c := w.heap.size + 1 + 1 + 1 + 1 + 1) (by omega) (nc false u).toArray).set_other (c := w.heap.size + 1 + 1 + 1 + 1) (i := 1 + i) (v := .int .i64 (c + 1)) (by omega))
              have gz5 := Lib.hid ((gz3.out.row_other (c := w.heap.size + 1 + 1 + 1 + 1 + 1) (by omega) (nc false u).toArray).set_other (c := w.heap.size + 1 + 1 + 1 + 1) (i := 1 + i) (v := .int .i64 (c + 1)) (by omega))
              have gy5 := Lib.hid ((gy3.out.row_other (c := w.heap.size + 1 + 1 + 1 + 1 + 1) (by omega) (nc false u).toArray).set_other (c := w.heap.size + 1 + 1 + 1 + 1) (i := 1 + i) (v := .int .i64 (c + 1)) (by omega))
              have gr5 := Lib.hid ((gr3.out.row false u).set_other (c := w.heap.size + 1 + 1 + 1 + 1) (i := 1 + i) (v := .int .i64 (c + 1)) (by omega))
              have hb5 := Lib.hid ((below_row hb3.out (show w.heap.size ≤ w.heap.size + 1 + 1 + 1 + 1 + 1 by omega) (nc false u).toArray).setCell (show w.heap.size ≤ (⟨w.heap.size + 1 + 1 + 1 + 1, 1 + i, none⟩ : Addr).block by show w.heap.size ≤ w.heap.size + 1 + 1 + 1 + 1; omega) (.int .i64 (c + 1)))
              clear gd3 ge3 gz3 gy3 gq3 hb3
              have gr3' := gr3.out
              have hvl' := hvl.out
              clear gr3
              go_wp2_with (first | (with_reducible refine wpl_nstore rfl rfl rfl rfl gr3' hvl' hul ?_))
              go_roundw
              case rel => exact ⟨c + 1, u, by omega, hc1, hul, huD.out, hV2.out, gd5.out, ge5.out, gz5.out, gy5.out, gq5.out, gr5.out, hb5.out⟩
              case measure => rw [rdD_of gr5.out, rdD_of gr0'.out]; exact hms.out
            · rw [show sgn (valN v - valN e) = -1 from sgn_neg (by have := hB.out; omega)]
              have hnx := quo_next (by have := hq.out; omega) hdi.out hinv.out hV.out
              have hnz := zeros_next hqz.out c
              have hnD : Dig (q.set i c) := hqD.out.set i ⟨c0, c1⟩
              replace hnx := Lib.hid hnx
              replace hnz := Lib.hid hnz
              replace hnD := Lib.hid hnD
              go_wp2_with fail
              go_roundw
              case rel => exact ⟨i, q.set i c, v, by omega, by go_num, by rw [List.length_set]; exact hq.out, hnD.out, hvl.out, hvD.out, hnz.out, hnx.out, by omega, gd2.out, ge2.out, gz2.out, gy2.out, gq2.out, gr2.out, hb2.out⟩
              case measure => simp [intOf]
    · obtain rfl : k = 0 := by omega
      rw [List.drop_zero, List.drop_zero] at hinv
      obtain ⟨eq, er⟩ := quo_end (valN d) B (valN q) (valN r) he0.out hinv (valN_nn hrD) hrB
      have e1 : q = RR := by
        have := dig_of_val q hqD
        rw [hq, eq, hRR.out] at this
        exact this
      have e2 : r = RS := by
        have := dig_of_val r hrD
        rw [hr, er, hRS.out] at this
        exact this
      clear eq er hinv hrB hqz hqD hrD
      subst e1 e2
      rw [show ((0 : Nat) : Int) - 1 = -1 from rfl]
      replace gd := Lib.hid gd
      replace ge := Lib.hid ge
      replace hb := Lib.hid hb
      replace gz := Lib.hid gz
      replace gy := Lib.hid gy
      go_wp2_with fail
      refine wp_region_held_at (S := fun w1 => IsD w1 (w.heap.size + 1 + 1 + 1 + 1) false q ∧ IsD w1 (w.heap.size + 1 + 1 + 1 + 1 + 1) false r) 4 rfl (by kernel_rfl) ⟨gq, gr⟩ (fun hH => ?_)
      refine wpAnyH_take (i := 0) (v := nv false q) rfl (by decide +kernel) (by decide +kernel) (by decide +kernel) (fun _ _ _ h => h) (Or.inl ⟨by rfl, ?_⟩) (by assumption) ?_
      · intro w1 hSw
        exact f_exec_load (x := .tmp 6) rfl rfl hSw.1 hq
      refine wpAnyH_take (i := 1) (v := nv false r) rfl (by decide +kernel) (by decide +kernel) (by decide +kernel) (fun _ _ _ h => h) (Or.inl ⟨by rfl, ?_⟩) (by assumption) ?_
      · intro w1 hSw
        exact f_exec_load (x := .tmp 7) rfl rfl hSw.2 hr
      refine wpAnyH_ready (rs := [2]) (by decide +kernel) (by simp) ?_
      refine AllReadyH.cons rfl (fun K hK => ?_) AllReadyH.nil
      refine wp_nstore rfl rfl rfl gz.out rfl hq ?_
      have gy2 := gy.out.row_other (c := w.heap.size + 1 + 1) (by omega) (nc false q).toArray
      have gz2 := gz.out.row false q
      have gq2 := gq.row_other (c := w.heap.size + 1 + 1) (by omega) (nc false q).toArray
      have gr2 := gr.row_other (c := w.heap.size + 1 + 1) (by omega) (nc false q).toArray
      have hbd : Below w.heap.size w wr.drew := hb.out.trans ⟨rfl, rfl, rfl, Nat.le_refl _, fun _ _ => rfl⟩
      have hb2 := below_row hbd (show w.heap.size ≤ w.heap.size + 1 + 1 by omega) (nc false q).toArray
      refine hK.out _ _ ⟨gq2, gr2⟩ (fun hH => ?_)
      refine wpAnyH_ready (rs := [3]) (by decide +kernel) (by simp) ?_
      refine AllReadyH.cons rfl (fun K hK => ?_) AllReadyH.nil
      refine wp_nstore rfl rfl rfl gy2 rfl hr ?_
      have gy3 := gy2.row false r
      have gz3 := gz2.row_other (c := w.heap.size + 1 + 1 + 1) (by omega) (nc false r).toArray
      have gq3 := gq2.row_other (c := w.heap.size + 1 + 1 + 1) (by omega) (nc false r).toArray
      have gr3 := gr2.row_other (c := w.heap.size + 1 + 1 + 1) (by omega) (nc false r).toArray
      have hb3 := below_row hb2 (show w.heap.size ≤ w.heap.size + 1 + 1 + 1 by omega) (nc false r).toArray
      refine hK.out _ _ ⟨gq3, gr3⟩ (fun hH => ?_)
      refine wpAnyH_done (by decide +kernel) ?_ _
      clear hH
      go_wp2_with fail
      (try simp only [Exit.inBlock, Exit.then])
      refine bodyPost_ret (n_result2 Tryd.results42 _ _ _ _ _ _ _ _ rfl rfl gz3 gy3 hq hr) rfl ?_
      exact ⟨rfl, hb3⟩
end Go.Proofs.YtbfigpollacngaaDoor
