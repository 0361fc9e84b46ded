/- the walks over retrofitref01, seventh part: a number of digits as an Int -/
import Derived.Test.YtbfigpollacngaaDoorNmW6
import Derived.Test.YtbfigpollacngaaDoorNmC
import Derived.Test.YtbfigpollacngaaDoorWvW5
import Derived.StillTailTactics
namespace Go.Proofs.YtbfigpollacngaaDoor
open Go.RowKit
open Rf
open Wide

theorem valN_drop_le {l : List Int} (h : Dig l) (i : Nat) (hi : i ≤ l.length) : valN (l.drop i) ≤ valN l := by
  have h1 := valN_cut l i hi
  have h2 := valN_nn (h.take i)
  have h3 := valN_nn (h.drop i)
  have h4 : 1 * valN (l.drop i) ≤ 256 ^ i * valN (l.drop i) := Int.mul_le_mul_of_nonneg_right (pow_pos256 i) h3
  omega
/-- the lowest eight digits, and the next eight -/
def loD (d : List Int) : List Int := d.take 8
def hiD (d : List Int) : List Int := (d.drop 8).take 8
theorem loD_len {d : List Int} (h : d.length = 40) : (loD d).length = 8 := by simp [loD, h]
theorem hiD_len {d : List Int} (h : d.length = 40) : (hiD d).length = 8 := by simp [hiD, h]
theorem loD_get {d : List Int} (h : d.length = 40) (i : Nat) (hi : i < 8) : (loD d)[i]'(by rw [loD_len h]; exact hi) = d[i]'(by omega) := by simp [loD]
theorem hiD_get {d : List Int} (h : d.length = 40) (i : Nat) (hi : i < 8) : (hiD d)[i]'(by rw [hiD_len h]; exact hi) = d[8 + i]'(by omega) := by simp [hiD]
theorem lohi (d : List Int) (h : d.length = 40) : valN d = valN (loD d) + 18446744073709551616 * (valN (hiD d) + 18446744073709551616 * valN (d.drop 16)) := by
  have e : (256 : Int) ^ 8 = 18446744073709551616 := by decide
  rw [valN_cut d 8 (by omega), valN_cut (d.drop 8) 8 (by simp; omega), List.drop_drop, e]
  rfl
theorem top_bd {d : List Int} (hd : Dig d) (h : d.length = 40) : 128 ≤ d[15]'(by omega) ↔ 9223372036854775808 ≤ valN (hiD d) := by
  have h7 := hiD_get h 7 (by omega)
  have h8 := valN_take (hiD d) 7 (by rw [hiD_len h]; omega)
  have hD : Dig (hiD d) := (hd.drop 8).take 8
  rw [take_whole (hiD_len h), h7] at h8
  have h9 := take_bd hD 7 (by rw [hiD_len h]; omega)
  have e : (256 : Int) ^ 7 = 72057594037927936 := by decide
  rw [e] at h8 h9
  have h10 := hd.get 15 (by omega)
  rw [h8]
  show 128 ≤ d[8 + 7]'(by omega) ↔ _
  constructor <;> intro h <;> omega
theorem lo_bd {d : List Int} (hd : Dig d) (h : d.length = 40) : 0 ≤ valN (loD d) ∧ valN (loD d) ≤ 18446744073709551615 := by
  have := take_bd hd 8 (by omega)
  have e : (256 : Int) ^ 8 = 18446744073709551616 := by decide
  rw [e] at this
  unfold loD
  omega
theorem hi_bd {d : List Int} (hd : Dig d) (h : d.length = 40) : 0 ≤ valN (hiD d) ∧ valN (hiD d) ≤ 18446744073709551615 := by
  have := take_bd (hd.drop 8) 8 (by simp; omega)
  have e : (256 : Int) ^ 8 = 18446744073709551616 := by decide
  rw [e] at this
  unfold hiD
  omega
/-- the Int of a number, and whether it is one -/
def toF (n : Bool) (v : Int) : WI × Bool := if v < 170141183460469231731687303715884105728 then (mk (neg n v), true) else (zero, false)
theorem toF_made {d : List Int} (n : Bool) (hd : Dig d) (h : d.length = 40) (hz : valN (d.drop 16) = 0) (h15 : d[15]'(by omega) ≤ 127) : toF n (valN d) = (made n (valN (hiD d)) (valN (loD d)), true) := by
  have h1 := lohi d h
  have h2 := top_bd hd h
  have h3 := lo_bd hd h
  have h4 := hi_bd hd h
  rw [hz] at h1
  unfold toF
  rw [if_pos (by omega), made_mk n _ _ h4.1 h3.1 h3.2]
  congr 3
  omega
theorem toF_top {d : List Int} (n : Bool) (hd : Dig d) (h : d.length = 40) (h15 : 127 < d[15]'(by omega)) : toF n (valN d) = (zero, false) := by
  have h1 := lohi d h
  have h2 := top_bd hd h
  have h3 := lo_bd hd h
  have h4 := hi_bd hd h
  have h5 := valN_nn (hd.drop 16)
  unfold toF
  rw [if_neg (by omega)]
theorem toF_more {d : List Int} (n : Bool) (hd : Dig d) (h : d.length = 40) (hz : valN (d.drop 16) ≠ 0) : toF n (valN d) = (zero, false) := by
  have h1 := lohi d h
  have h3 := lo_bd hd h
  have h4 := hi_bd hd h
  have h5 := valN_nn (hd.drop 16)
  unfold toF
  rw [if_neg (by omega)]
/-- a number, and two Ints, made one behind the other -/
theorem one_two (w : World) (n : Bool) (d : List Int) (x y : WI) :
    IsD (((w.alloc (oD n d)).alloc (oN x)).alloc (oN y)) w.heap.size n d ∧ IsN (((w.alloc (oD n d)).alloc (oN x)).alloc (oN y)) (w.heap.size + 1) x ∧
    IsN (((w.alloc (oD n d)).alloc (oN x)).alloc (oN y)) (w.heap.size + 1 + 1) y ∧ Below w.heap.size w (((w.alloc (oD n d)).alloc (oN x)).alloc (oN y)) := by
  refine ⟨((IsD.new w n d).alloc _).alloc _, ?_, ?_, below3 w _ _ _⟩
  · have := (IsN.new (w.alloc (oD n d)) x).alloc (oN y)
    rwa [size_alloc] at this
  · have := IsN.new ((w.alloc (oD n d)).alloc (oN x)) y
    rwa [size_alloc, size_alloc] at this
theorem IsN.set1 {w : World} {b : Nat} {x : WI} (hx : IsN w b x) (h : Int) : IsN (w.setCell ⟨b, 1, none⟩ (.int .u64 h)) b ⟨x.n, h, x.l⟩ := block_set hx
theorem IsN.set2 {w : World} {b : Nat} {x : WI} (hx : IsN w b x) (l : Int) : IsN (w.setCell ⟨b, 2, none⟩ (.int .u64 l)) b ⟨x.n, x.h, l⟩ := block_set hx
theorem IsN.set0 {w : World} {b : Nat} {x : WI} (hx : IsN w b x) (n : Bool) : IsN (w.setCell ⟨b, 0, none⟩ (.bool n)) b ⟨n, x.h, x.l⟩ := block_set hx
theorem isN_drew {w : World} {b : Nat} {x : WI} (hx : IsN w b x) : IsN w.drew b x := hx
theorem isN_drewN {w : World} {b k : Nat} {x : WI} (hx : IsN w b x) : IsN (w.drewN k) b x := hx

set_option maxRecDepth 100000 in
set_option maxHeartbeats 16000000 in
theorem to_d (n : Bool) (d : List Int) (hd : Dig d) (h1 : d.length = 40) (w : World) :
    Calls Tryd.prog 46 #[nv n d] w fun r w' => r = .returned (.tuple #[wv (toF n (valN d)).1, .bool (toF n (valN d)).2]) ∧ Below w.heap.size w w' := by
  obtain ⟨T, hT⟩ : ∃ T, toF n (valN d) = T := ⟨_, rfl⟩
  rw [hT]
  replace hT := Lib.hid hT
  obtain ⟨gd0, gz0, gx0, hb0⟩ := one_two w n d zero zero
  have hA : Dig (loD d) := hd.take 8
  have hC : Dig (hiD d) := (hd.drop 8).take 8
  have hAl := loD_len h1
  have hCl := hiD_len h1
  have bA := lo_bd hd h1
  have bC := hi_bd hd h1
  go_enter Tryd.func46, Tryd.ntmps46
  replace gd0 := Lib.hid gd0
  replace gz0 := Lib.hid gz0
  replace gx0 := Lib.hid gx0
  replace hb0 := Lib.hid hb0
  go_wp2_with (first | (with_reducible refine wpl_nbox rfl rfl rfl ?_))
  go_loopw [5] (fun iv wr => ∃ k : Nat, k ≤ 8 ∧ iv = .int .i64 ((k : Int) - 1) ∧ IsD wr w.heap.size n d ∧ IsN wr (w.heap.size + 1) zero ∧ IsN wr (w.heap.size + 1 + 1) ⟨false, valN ((hiD d).drop k), valN ((loD d).drop k)⟩ ∧ Below w.heap.size w wr) (fun i _ => (intOf i + 1).toNat)
  case atStart => exact ⟨8, Nat.le_refl _, rfl, gd0.out, gz0.out, by rw [List.drop_of_length_le (by omega), List.drop_of_length_le (by omega)]; exact gx0.out, hb0.out⟩
  case round =>
    clear gd0 gz0 gx0 hb0
    obtain ⟨k, hk, rfl, gd, gz, gx, hb⟩ := hrel
    by_cases hk0 : 0 < k
    · obtain ⟨i, rfl⟩ : ∃ i, k = i + 1 := ⟨k - 1, by omega⟩
      rw [show (((i + 1 : Nat) : Int)) - 1 = (i : Int) by omega]
      have hi0 : (0 : Int) ≤ (i : Int) := by omega
      have hi8 : (i : Int) < 8 := by omega
      have lA := valN_drop (loD d) i (by omega)
      have lC := valN_drop (hiD d) i (by omega)
      have mA := valN_drop_le hA i (by omega)
      have mC := valN_drop_le hC i (by omega)
      have nA := valN_nn (hA.drop (i + 1))
      have nC := valN_nn (hC.drop (i + 1))
      have qA := hA.get i (by omega)
      have qC := hC.get i (by omega)
      have cA := gd.cell i (by omega)
      have cC := gd.cell (8 + i) (by omega)
      rw [← loD_get h1 i (by omega)] at cA
      rw [← hiD_get h1 i (by omega)] at cC
      obtain ⟨a, haa⟩ : ∃ a, (loD d)[i]'(by omega) = a := ⟨_, rfl⟩
      obtain ⟨c, hcc⟩ : ∃ c, (hiD d)[i]'(by omega) = c := ⟨_, rfl⟩
      rw [haa] at lA qA cA
      rw [hcc] at lC qC cC
      clear haa
      replace hcc := Lib.hid hcc
      obtain ⟨c0, c1, c2⟩ := gx.all
      have fx := gx.f
      dsimp only at c0 c1 c2
      obtain ⟨L, hL⟩ : ∃ L, valN ((loD d).drop (i + 1)) = L := ⟨_, rfl⟩
      obtain ⟨H, hH⟩ : ∃ H, valN ((hiD d).drop (i + 1)) = H := ⟨_, rfl⟩
      rw [hL] at gx lA nA c2
      rw [hH] at gx lC nC c1
      clear hL hH
      have e1 : IntKind.u64.wrap (L * 256) = L * 256 := IntWalk.u64_in _ (by omega)
      have e2 : IntKind.u64.wrap a = a := IntWalk.u64_in _ (by omega)
      have e3 : IntKind.u64.wrap (L * 256 + a) = L * 256 + a := IntWalk.u64_in _ (by omega)
      have e4 : IntKind.u64.wrap (H * 256) = H * 256 := IntWalk.u64_in _ (by omega)
      have e5 : IntKind.u64.wrap c = c := IntWalk.u64_in _ (by omega)
      have e6 : IntKind.u64.wrap (H * 256 + c) = H * 256 + c := IntWalk.u64_in _ (by omega)
      obtain ⟨p, hp⟩ : ∃ p, 8 + i = p := ⟨_, rfl⟩
      have e7 : (8 : Int) + (i : Int) = (p : Int) := by omega
      have e8 : IntKind.i64.wrap (p : Int) = (p : Int) := IntWalk.i64_in _ (by omega)
      have e9 : (p : Int) < 40 := by omega
      replace e7 := Lib.hid e7
      replace lA := Lib.hid lA
      replace lC := Lib.hid lC
      replace mA := Lib.hid mA
      replace mC := Lib.hid mC
      replace gd := Lib.hid gd
      replace gz := Lib.hid gz
      replace gx := Lib.hid gx
      replace hb := Lib.hid hb
      replace h1 := Lib.hid h1
      go_wp2_with fail
      go_region
      have gd2 := IsD.drew (gd.out.set_other (c := w.heap.size + 1 + 1) (i := 2) (v := .int .u64 (L * 256 + a)) (by omega))
      have gz2 := isN_drew (gz.out.set_other (c := w.heap.size + 1 + 1) (i := 2) (v := .int .u64 (L * 256 + a)) (by omega))
      have gx2 := isN_drew (gx.out.set2 (L * 256 + a))
      have hb2 := below_drewed (hb.out.setCell (show w.heap.size ≤ (⟨w.heap.size + 1 + 1, 2, none⟩ : Addr).block by show w.heap.size ≤ w.heap.size + 1 + 1; omega) (.int .u64 (L * 256 + a)))
      clear gd gz gx hb cA cC c0 c1 c2 fx e1 e2 e3
      generalize (wr.setCell ⟨w.heap.size + 1 + 1, 2, none⟩ (.int .u64 (L * 256 + a))).drew = w2 at *
      clear wr
      have cC := gd2.cell (8 + i) (by have := h1.out; omega)
      rw [← hiD_get h1.out i (by omega), hcc.out, hp] at cC
      replace e7 := e7.out
      obtain ⟨c0, c1, c2⟩ := gx2.all
      have fx := gx2.f
      dsimp only at c0 c1 c2
      replace gd2 := Lib.hid gd2
      replace gz2 := Lib.hid gz2
      replace gx2 := Lib.hid gx2
      replace hb2 := Lib.hid hb2
      go_wp2_with fail
      go_region
      have gd := Lib.hid (IsD.drew (gd2.out.set_other (c := w.heap.size + 1 + 1) (i := 1) (v := .int .u64 (H * 256 + c)) (by omega)))
      have gz := Lib.hid (isN_drew (gz2.out.set_other (c := w.heap.size + 1 + 1) (i := 1) (v := .int .u64 (H * 256 + c)) (by omega)))
      have gx := Lib.hid (isN_drew (gx2.out.set1 (H * 256 + c)))
      have hb := Lib.hid (below_drewed (hb2.out.setCell (show w.heap.size ≤ (⟨w.heap.size + 1 + 1, 1, none⟩ : Addr).block by show w.heap.size ≤ w.heap.size + 1 + 1; omega) (.int .u64 (H * 256 + c))))
      clear gd2 gz2 gx2 hb2 cC c0 c1 c2 fx e4 e5 e6 e7 e8 e9
      go_wp2_with fail
      go_roundw
      case rel => exact ⟨i, by omega, by go_num, gd.out, gz.out, by rw [lA.out, lC.out, Int.add_comm a, Int.mul_comm 256 L, Int.add_comm c, Int.mul_comm 256 H]; exact gx.out, hb.out⟩
      case measure => simp [intOf]
    · obtain rfl : k = 0 := by omega
      rw [show ((0 : Nat) : Int) - 1 = -1 from rfl]
      rw [List.drop_zero, List.drop_zero] at gx
      replace gd := Lib.hid gd
      replace gz := Lib.hid gz
      replace gx := Lib.hid gx
      replace hb := Lib.hid hb
      go_wp2_with fail
      go_loopw [6] (fun iv wr => ∃ i : Nat, 16 ≤ i ∧ i ≤ 40 ∧ iv = .int .i64 i ∧ (valN (d.drop 16) = 0 ↔ valN (d.drop i) = 0) ∧ IsD wr w.heap.size n d ∧ IsN wr (w.heap.size + 1) zero ∧ IsN wr (w.heap.size + 1 + 1) ⟨false, valN (hiD d), valN (loD d)⟩ ∧ Below w.heap.size w wr) (fun i _ => 40 - (intOf i).toNat)
      case atStart => exact ⟨16, Nat.le_refl _, by omega, rfl, Iff.rfl, gd.out, gz.out, gx.out, hb.out⟩
      case round =>
        clear gd gz gx hb
        obtain ⟨i, hi16, hi40, rfl, hzz, gd, gz, gx, hb⟩ := hrel
        by_cases hlt : i < 40
        · have cd := gd.cell i (by omega)
          have bd := hd.get i (by omega)
          have hdr := valN_drop d i (by omega)
          have hnn := valN_nn (hd.drop (i + 1))
          have hmore := fun hz => toF_more n hd h1 hz
          obtain ⟨a, haa⟩ : ∃ a, d[i]'(by omega) = a := ⟨_, rfl⟩
          rw [haa] at cd bd hdr
          clear haa
          replace hb := Lib.hid hb
          replace gx := Lib.hid gx
          replace hdr := Lib.hid hdr
          replace h1 := Lib.hid h1
          replace hmore := Lib.hid hmore
          replace hzz := Lib.hid hzz
          have gd' := Lib.hid gd
          clear gd
          by_cases ha : a = 0
          · subst ha
            replace gz := Lib.hid gz
            have h00 : ((0 : Int) != 0) = false := rfl
            go_wp2_with fail
            go_roundw
            case rel => exact ⟨i + 1, by omega, by omega, by go_num, by rw [hzz.out, hdr.out]; omega, gd'.out, gz.out, gx.out, hb.out⟩
            case measure => simp [intOf]; omega
          · have hne : (a != 0) = true := bne_iff_ne.2 ha
            have hmn := Lib.hid (hmore.out (fun hh => by have := hzz.out.1 hh; have := hdr.out; omega))
            have gz2 := gz.set false 0 0
            obtain ⟨r0, r1, r2⟩ := gz2.all
            dsimp only at r0 r1 r2
            have hfin := below_set3 hb.out (show w.heap.size ≤ w.heap.size + 1 by omega) (.bool false) (.int .u64 0) (.int .u64 0)
            replace hfin := Lib.hid hfin
            replace gz2 := Lib.hid gz2
            obtain ⟨z0, z1, z2⟩ := gz.all
            have fz := gz.f
            dsimp only [zero] at z0 z1 z2
            go_wp2_with fail
            (try simp only [Exit.inBlock, Exit.then])
            refine bodyPost_ret (by simp [results, Tryd.results46, go_sem, r0, r1, r2]; try rfl) rfl ?_
            refine ⟨?_, hfin.out⟩
            rw [← hT.out, hmn.out]
            rfl
        · obtain rfl : i = 40 := by omega
          have hz : valN (d.drop 16) = 0 := hzz.2 (by rw [List.drop_of_length_le (by omega)]; rfl)
          have cd := gd.cell 15 (by omega)
          have htop := fun h15 => toF_top n hd h1 h15
          have hmade := fun h15 => toF_made n hd h1 hz h15
          obtain ⟨a, haa⟩ : ∃ a, d[15]'(by omega) = a := ⟨_, rfl⟩
          rw [haa] at cd htop hmade
          clear haa
          rw [show 1 + 15 = 16 from rfl] at cd
          replace htop := Lib.hid htop
          replace hmade := Lib.hid hmade
          replace hb := Lib.hid hb
          replace h1 := Lib.hid h1
          clear hzz hz
          have cn := gd.neg
          have gd' := Lib.hid gd
          clear gd
          by_cases ha : 127 < a
          · have hmn := Lib.hid (htop.out ha)
            have gx' := Lib.hid gx
            clear gx
            have gz2 := gz.set false 0 0
            obtain ⟨r0, r1, r2⟩ := gz2.all
            dsimp only at r0 r1 r2
            have hfin := below_set3 hb.out (show w.heap.size ≤ w.heap.size + 1 by omega) (.bool false) (.int .u64 0) (.int .u64 0)
            replace hfin := Lib.hid hfin
            replace gz2 := Lib.hid gz2
            obtain ⟨z0, z1, z2⟩ := gz.all
            have fz := gz.f
            dsimp only [zero] at z0 z1 z2
            go_wp2_with fail
            (try simp only [Exit.inBlock, Exit.then])
            refine bodyPost_ret (by simp [results, Tryd.results46, go_sem, r0, r1, r2]; try rfl) rfl ?_
            refine ⟨?_, hfin.out⟩
            rw [← hT.out, hmn.out]
            rfl
          · have hmn := Lib.hid (hmade.out (by omega))
            obtain ⟨H, hH⟩ : ∃ H, valN (hiD d) = H := ⟨_, rfl⟩
            obtain ⟨L, hL⟩ : ∃ L, valN (loD d) = L := ⟨_, rfl⟩
            rw [hH, hL] at hmn gx
            obtain ⟨c0, c1, c2⟩ := gx.all
            have fx := gx.f
            dsimp only at c0 c1 c2
            obtain ⟨z0, z1, z2⟩ := gz.all
            have fz := gz.f
            dsimp only [zero] at z0 z1 z2
            cases n with
            | false =>
              have gx1 := gx.set0 false
              obtain ⟨c0', c1', c2'⟩ := gx1.all
              have gz1 := gz.set_other (c := w.heap.size + 1 + 1) (i := 0) (v := .bool false) (by omega)
              obtain ⟨y0, y1, y2⟩ := gz1.all
              have fy := gz1.f
              have gz2 := gz1.set false H L
              obtain ⟨r0, r1, r2⟩ := gz2.all
              have hfin := Lib.hid (below_set3 (hb.out.setCell (show w.heap.size ≤ (⟨w.heap.size + 1 + 1, 0, none⟩ : Addr).block by show w.heap.size ≤ w.heap.size + 1 + 1; omega) (.bool false)) (show w.heap.size ≤ w.heap.size + 1 by omega) (.bool false) (.int .u64 H) (.int .u64 L))
              dsimp only [zero] at c0' c1' c2' y0 y1 y2 r0 r1 r2
              replace gx := Lib.hid gx
              replace gz := Lib.hid gz
              replace gx1 := Lib.hid gx1
              replace gz1 := Lib.hid gz1
              replace gz2 := Lib.hid gz2
              go_wp2_with fail
              (try simp only [Exit.inBlock, Exit.then])
              refine bodyPost_ret (by simp [results, Tryd.results46, go_sem, r0, r1, r2]; try rfl) rfl ?_
              refine ⟨?_, hfin.out⟩
              rw [← hT.out, hmn.out]
              rfl
            | true =>
              by_cases hH0 : H = 0
              · subst hH0
                have k1 : ((0 : Int) != 0) = false := rfl
                by_cases hL0 : L = 0
                · subst hL0
                  have gx1 := gx.set0 false
                  obtain ⟨c0', c1', c2'⟩ := gx1.all
                  have gz1 := gz.set_other (c := w.heap.size + 1 + 1) (i := 0) (v := .bool false) (by omega)
                  obtain ⟨y0, y1, y2⟩ := gz1.all
                  have fy := gz1.f
                  have gz2 := gz1.set false 0 0
                  obtain ⟨r0, r1, r2⟩ := gz2.all
                  have hfin := Lib.hid (below_set3 (hb.out.setCell (show w.heap.size ≤ (⟨w.heap.size + 1 + 1, 0, none⟩ : Addr).block by show w.heap.size ≤ w.heap.size + 1 + 1; omega) (.bool false)) (show w.heap.size ≤ w.heap.size + 1 by omega) (.bool false) (.int .u64 0) (.int .u64 0))
                  dsimp only [zero] at c0' c1' c2' y0 y1 y2 r0 r1 r2
                  replace gx := Lib.hid gx
                  replace gz := Lib.hid gz
                  replace gx1 := Lib.hid gx1
                  replace gz1 := Lib.hid gz1
                  replace gz2 := Lib.hid gz2
                  go_wp2_with fail
                  (try simp only [Exit.inBlock, Exit.then])
                  refine bodyPost_ret (by simp [results, Tryd.results46, go_sem, r0, r1, r2]; try rfl) rfl ?_
                  refine ⟨?_, hfin.out⟩
                  rw [← hT.out, hmn.out]
                  rfl
                · have k2 : (L != 0) = true := bne_iff_ne.2 hL0
                  have k3 : nil2 0 L = false := by simp [nil2, hL0]
                  have gx1 := gx.set0 true
                  obtain ⟨c0', c1', c2'⟩ := gx1.all
                  have gz1 := gz.set_other (c := w.heap.size + 1 + 1) (i := 0) (v := .bool true) (by omega)
                  obtain ⟨y0, y1, y2⟩ := gz1.all
                  have fy := gz1.f
                  have gz2 := gz1.set true 0 L
                  obtain ⟨r0, r1, r2⟩ := gz2.all
                  have hfin := Lib.hid (below_set3 (hb.out.setCell (show w.heap.size ≤ (⟨w.heap.size + 1 + 1, 0, none⟩ : Addr).block by show w.heap.size ≤ w.heap.size + 1 + 1; omega) (.bool true)) (show w.heap.size ≤ w.heap.size + 1 by omega) (.bool true) (.int .u64 0) (.int .u64 L))
                  dsimp only [zero] at c0' c1' c2' y0 y1 y2 r0 r1 r2
                  replace gx := Lib.hid gx
                  replace gz := Lib.hid gz
                  replace gx1 := Lib.hid gx1
                  replace gz1 := Lib.hid gz1
                  replace gz2 := Lib.hid gz2
                  go_wp2_with fail
                  (try simp only [Exit.inBlock, Exit.then])
                  refine bodyPost_ret (by simp [results, Tryd.results46, go_sem, r0, r1, r2]; try rfl) rfl ?_
                  refine ⟨?_, hfin.out⟩
                  rw [← hT.out, hmn.out]
                  simp [made, k3, wv]
              · have k1 : (H != 0) = true := bne_iff_ne.2 hH0
                have k3 : nil2 H L = false := by simp [nil2, hH0]
                have gx1 := gx.set0 true
                obtain ⟨c0', c1', c2'⟩ := gx1.all
                have gz1 := gz.set_other (c := w.heap.size + 1 + 1) (i := 0) (v := .bool true) (by omega)
                obtain ⟨y0, y1, y2⟩ := gz1.all
                have fy := gz1.f
                have gz2 := gz1.set true H L
                obtain ⟨r0, r1, r2⟩ := gz2.all
                have hfin := Lib.hid (below_set3 (hb.out.setCell (show w.heap.size ≤ (⟨w.heap.size + 1 + 1, 0, none⟩ : Addr).block by show w.heap.size ≤ w.heap.size + 1 + 1; omega) (.bool true)) (show w.heap.size ≤ w.heap.size + 1 by omega) (.bool true) (.int .u64 H) (.int .u64 L))
                dsimp only [zero] at c0' c1' c2' y0 y1 y2 r0 r1 r2
                replace gx := Lib.hid gx
                replace gz := Lib.hid gz
                replace gx1 := Lib.hid gx1
                replace gz1 := Lib.hid gz1
                replace gz2 := Lib.hid gz2
                go_wp2_with fail
                (try simp only [Exit.inBlock, Exit.then])
                refine bodyPost_ret (by simp [results, Tryd.results46, go_sem, r0, r1, r2]; try rfl) rfl ?_
                refine ⟨?_, hfin.out⟩
                rw [← hT.out, hmn.out]
                simp [made, k3, wv]
end Go.Proofs.YtbfigpollacngaaDoor
