/- the walks over retrofitref01, first part: form, size -/
import Derived.Test.YtbfigpollacngaaDoorNm
import Derived.Test.YtbfigpollacngaaDoorWvM
import Derived.Deep.MidRow
import Derived.Deep.WholeRow
import Derived.Deep.DeepCutAuto
import Derived.Deep.Cut
namespace Go.Proofs.YtbfigpollacngaaDoor
open Go.RowKit
open Rf
open Wide

theorem good_c (x : WI) (w : World) : Calls Tryd.prog 19 #[wv x] w fun e w' => e = .returned (.bool x.form) ∧ Below w.heap.size w w' := by
  obtain ⟨n, h, l⟩ := x
  unfold wv WI.form nil2
  dsimp only
  by_cases h1 : h < 9223372036854775808
  · rw [decide_eq_true h1]
    cases n with
    | false =>
      go_enter Tryd.func19, Tryd.ntmps19
      go_wp2
      go_ret
      exact ⟨rfl, below1 _ _⟩
    | true =>
      cases e1 : (h == 0) with
      | false =>
        go_enter Tryd.func19, Tryd.ntmps19
        go_wp2
        go_ret
        exact ⟨rfl, below1 _ _⟩
      | true =>
        cases e2 : (l == 0) <;>
        · go_enter Tryd.func19, Tryd.ntmps19
          go_wp2
          go_ret
          exact ⟨rfl, below1 _ _⟩
  · rw [decide_eq_false h1]
    go_enter Tryd.func19, Tryd.ntmps19
    go_wp2
    go_ret
    exact ⟨rfl, below1 _ _⟩

/-- a number's cells, its value, a block that is one -/
def nc (n : Bool) (d : List Int) : List Value := .bool n :: d.map (.int .i64)
def nv (n : Bool) (d : List Int) : Value := .agg (nc n d).toArray
def IsD (w : World) (b : Nat) (n : Bool) (d : List Int) : Prop := w.heap[b]? = some (.cells (nc n d).toArray 59 (0, 0))
theorem nc_length (n : Bool) (d : List Int) : (nc n d).length = d.length + 1 := by simp [nc]
theorem nc_get (n : Bool) (d : List Int) (i : Nat) (h : i < d.length) : (nc n d)[i + 1]? = some (.int .i64 d[i]) := by simp [nc, h]
theorem nc_set (n : Bool) (d : List Int) (i : Nat) (v : Int) : (nc n d).set (i + 1) (.int .i64 v) = nc n (d.set i v) := by simp [nc, List.map_set]
theorem nc_one (n : Bool) (d : List Int) : ∀ v ∈ nc n d, v.oneCell' = true := by
  intro v hv
  rcases List.mem_cons.1 hv with rfl | h
  · rfl
  · obtain ⟨_, _, rfl⟩ := List.mem_map.1 h; rfl
section
variable {w w' : World} {b : Nat} {n : Bool} {d : List Int}
theorem IsD.lt (h : IsD w b n d) : b < w.heap.size := lt_of_block h
theorem IsD.cell (h : IsD w b n d) (i : Nat) (hi : i < d.length) : w.cell? ⟨b, 1 + i, none⟩ = some (.int .i64 d[i]) := by
  rw [Nat.add_comm 1 i, cell_of_row w b (i + 1) _ _ _ h]; simp [nc_get n d i hi]
theorem IsD.has (h : IsD w b n d) (i : Nat) (hi : i < d.length) : ∃ v, w.cell? ⟨b, 1 + i, none⟩ = some v := ⟨_, h.cell i hi⟩
theorem IsD.neg (h : IsD w b n d) : w.cell? ⟨b, 0, none⟩ = some (.bool n) := by rw [cell_of_row w b 0 _ _ _ h]; simp [nc]
theorem IsD.f (h : IsD w b n d) (i : Nat) : w.frozen? ⟨b, i, none⟩ = false := by unfold IsD at h; simp [World.frozen?, h]
theorem IsD.below (h : IsD w b n d) (hb : Below w.heap.size w w') : IsD w' b n d := (hb.block b h.lt).trans h
theorem IsD.new (w : World) (n : Bool) (d : List Int) : IsD (w.alloc (.cells (nc n d).toArray 59)) w.heap.size n d := heap_alloc_new w _
theorem IsD.alloc (h : IsD w b n d) (o : Obj) : IsD (w.alloc o) b n d := h.below ((Below.refl _ _).alloc (Nat.le_refl _) o)
theorem IsD.set (h : IsD w b n d) (i : Nat) (v : Int) : IsD (w.setCell ⟨b, 1 + i, none⟩ (.int .i64 v)) b n (d.set i v) := by
  rw [Nat.add_comm 1 i]
  unfold IsD at *
  show (w.heap.modify b _)[b]? = _
  rw [Array.getElem?_modify, if_pos rfl, h]
  simp only [Option.map_some]
  rw [← nc_set]
  simp
theorem IsD.set_other {c i : Nat} {v : Value} (h : IsD w b n d) (hne : b ≠ c) : IsD (w.setCell ⟨c, i, none⟩ v) b n d := by
  unfold IsD at *
  show (w.heap.modify c _)[b]? = _
  rw [Array.getElem?_modify, if_neg (fun hh => hne hh.symm)]
  exact h
end
def oD (n : Bool) (d : List Int) : Obj := .cells (nc n d).toArray 59
/-- forty times 0 -/
def Z40 : List Int := List.replicate 40 0
theorem Z40_length : Z40.length = 40 := rfl
theorem Z40_dig : Dig Z40 := fun c hc => by rw [List.eq_of_mem_replicate hc]; omega
theorem valN_zero (k : Nat) : valN (List.replicate k 0) = 0 := by
  induction k with
  | zero => rfl
  | succ k ih => rw [List.replicate_succ, valN, ih]; rfl
theorem f_alloc (w : World) : (Instr.alloc 59 true (.tuple #[])).run Tryd.prog w = .ok (.pointer (some ⟨w.heap.size, 0, none⟩)) (w.alloc (oD false Z40)) := by kernel_rfl
theorem f_build0 (w : World) : (Instr.build 59 #[]).run Tryd.prog w = .ok (nv false Z40) w := by kernel_rfl
theorem f_build1 (n : Bool) (w : World) : (Instr.build 59 #[(0, .bool n)]).run Tryd.prog w = .ok (nv n Z40) w := by kernel_rfl
theorem f_box (n : Bool) (d : List Int) (w : World) : (Instr.box 59 (nv n d)).run Tryd.prog w = .ok (.pointer (some ⟨w.heap.size, 0, none⟩)) (w.alloc (oD n d)) := by kernel_rfl
theorem num_info : (Tryd.prog.info? 59).map (·.size) = some 41 := by kernel_rfl
theorem f_load {w : World} {b : Nat} {n : Bool} {d : List Int} (h : IsD w b n d) (hl : d.length = 40) : (Instr.loadAt 59 (.pointer (some ⟨b, 0, none⟩))).run Tryd.prog w = .ok (nv n d) w := by
  have := run_loadVar_row (P := Tryd.prog) w b 59 59 (nc n d).toArray (0, 0) _ h rfl rfl (by rw [num_info]; simp [nc_length, hl])
  simp only [Instr.loadAt, Instr.sureAddr, Sem.run_bind, Sem.run_pure, Result.andThen, this]
  rfl
theorem f_store {w : World} {b : Nat} {n m : Bool} {d e : List Int} (h : IsD w b n d) (hl : d.length = 40) (hl2 : e.length = 40) :
    (Instr.storeAt 59 (.pointer (some ⟨b, 0, none⟩)) (nv m e)).run Tryd.prog w = .ok () (w.setRow b (nc m e).toArray) := by
  have := run_storeVar_row (P := Tryd.prog) w b 59 59 (nc n d).toArray (nc m e).toArray h (by rw [num_info]; simp [nc_length, hl2]) (by simp [nc_length, hl, hl2]) (all_oneCell_toArray (nc_one m e))
  simp only [Instr.storeAt, Instr.sureAddr, Sem.run_bind, Sem.run_pure, Result.andThen, nv, this]
theorem IsD.row {w : World} {b : Nat} {n : Bool} {d : List Int} (h : IsD w b n d) (m : Bool) (e : List Int) : IsD (w.setRow b (nc m e).toArray) b m e := setRow_heap w b _ _ _ (0, 0) h
theorem IsD.row_other {w : World} {b c : Nat} {n : Bool} {d : List Int} (h : IsD w b n d) (hne : b ≠ c) (r : Array Value) : IsD (w.setRow c r) b n d := (setRow_other w c b r hne).trans h
theorem below_row {B b : Nat} {w w1 : World} (h : Below B w w1) (hb : B ≤ b) (r : Array Value) : Below B w (w1.setRow b r) := h.trans ⟨rfl, rfl, rfl, by simp [World.setRow], fun k hk => setRow_other w1 b k r (by omega)⟩

/-! the operations on a whole number, as the walk meets them -/
section
variable {ops : Array Oper} {rest : List Oper} {o : Oper} {a : Act} {w : World} {K : Act → World → Prop} {Q : Exit → Act → World → Prop}
theorem wp_nalloc (ho : o.op = .alloc 59) (h : K (a.put o.dst (.pointer (some ⟨w.heap.size, 0, none⟩))) (w.alloc (oD false Z40))) : o.wp Tryd.prog a w K Q := by
  unfold Oper.wp execOp
  simp only [ho, Sem.run_bind, Sem.run_pure, Result.andThen, f_alloc]
  exact h
theorem wp_nbuild0 (ho : o.op = .build 59 #[]) (h : K (a.put o.dst (nv false Z40)) w) : o.wp Tryd.prog a w K Q := by
  unfold Oper.wp execOp
  simp only [ho, Sem.run_bind, Sem.run_pure, Result.andThen, List.map_toArray, List.map_nil, f_build0]
  exact h
theorem wp_nbuild1 {x : Operand} {n : Bool} (ho : o.op = .build 59 #[(0, x)]) (hx : a.eval x = .bool n) (h : K (a.put o.dst (nv n Z40)) w) : o.wp Tryd.prog a w K Q := by
  unfold Oper.wp execOp
  simp only [ho, hx, Sem.run_bind, Sem.run_pure, Result.andThen, List.map_toArray, List.map_nil, List.map_cons, f_build1]
  exact h
theorem wp_nbox {x : Operand} {n : Bool} {d : List Int} (ho : o.op = .box 59 x) (hx : a.eval x = nv n d) (h : K (a.put o.dst (.pointer (some ⟨w.heap.size, 0, none⟩))) (w.alloc (oD n d))) : o.wp Tryd.prog a w K Q := by
  unfold Oper.wp execOp
  simp only [ho, hx, Sem.run_bind, Sem.run_pure, Result.andThen, f_box]
  exact h
theorem wp_nload {x : Operand} {b : Nat} {n : Bool} {d : List Int} (ho : o.op = .load 59 x) (hx : a.eval x = .pointer (some ⟨b, 0, none⟩)) (hd : IsD w b n d) (hl : d.length = 40) (h : K (a.put o.dst (nv n d)) w) : o.wp Tryd.prog a w K Q := by
  unfold Oper.wp execOp
  simp only [ho, hx, Sem.run_bind, Sem.run_pure, Result.andThen, f_load hd hl]
  exact h
theorem wp_nstore {x y : Operand} {b : Nat} {n m : Bool} {d e : List Int} (ho : o.op = .store 59 x y) (hx : a.eval x = .pointer (some ⟨b, 0, none⟩)) (hy : a.eval y = nv m e) (hd : IsD w b n d) (hl : d.length = 40) (hl2 : e.length = 40)
    (h : K (a.put o.dst undef) (w.setRow b (nc m e).toArray)) : o.wp Tryd.prog a w K Q := by
  unfold Oper.wp execOp
  simp only [ho, hx, hy, Sem.run_bind, Sem.run_pure, Result.andThen, f_store hd hl hl2]
  exact h
theorem wpl_nalloc (hgd : o.guard = none) (ho : o.op = .alloc 59) (h : wpList Tryd.prog ops Q rest (a.put o.dst (.pointer (some ⟨w.heap.size, 0, none⟩))) (w.alloc (oD false Z40))) : wpList Tryd.prog ops Q (o :: rest) a w :=
  wpList_plain hgd fun _ hK => wp_nalloc ho (hK _ _ h)
theorem wpl_nbuild0 (hgd : o.guard = none) (ho : o.op = .build 59 #[]) (h : wpList Tryd.prog ops Q rest (a.put o.dst (nv false Z40)) w) : wpList Tryd.prog ops Q (o :: rest) a w :=
  wpList_plain hgd fun _ hK => wp_nbuild0 ho (hK _ _ h)
theorem wpl_nbuild1 {x : Operand} {n : Bool} (hgd : o.guard = none) (ho : o.op = .build 59 #[(0, x)]) (hx : a.eval x = .bool n) (h : wpList Tryd.prog ops Q rest (a.put o.dst (nv n Z40)) w) : wpList Tryd.prog ops Q (o :: rest) a w :=
  wpList_plain hgd fun _ hK => wp_nbuild1 ho hx (hK _ _ h)
theorem wpl_nbox {x : Operand} {n : Bool} {d : List Int} (hgd : o.guard = none) (ho : o.op = .box 59 x) (hx : a.eval x = nv n d) (h : wpList Tryd.prog ops Q rest (a.put o.dst (.pointer (some ⟨w.heap.size, 0, none⟩))) (w.alloc (oD n d))) : wpList Tryd.prog ops Q (o :: rest) a w :=
  wpList_plain hgd fun _ hK => wp_nbox ho hx (hK _ _ h)
theorem wpl_nload {x : Operand} {b : Nat} {n : Bool} {d : List Int} (hgd : o.guard = none) (ho : o.op = .load 59 x) (hx : a.eval x = .pointer (some ⟨b, 0, none⟩)) (hd : IsD w b n d) (hl : d.length = 40) (h : wpList Tryd.prog ops Q rest (a.put o.dst (nv n d)) w) : wpList Tryd.prog ops Q (o :: rest) a w :=
  wpList_plain hgd fun _ hK => wp_nload ho hx hd hl (hK _ _ h)
theorem wpl_nstore {x y : Operand} {b : Nat} {n m : Bool} {d e : List Int} (hgd : o.guard = none) (ho : o.op = .store 59 x y) (hx : a.eval x = .pointer (some ⟨b, 0, none⟩)) (hy : a.eval y = nv m e) (hd : IsD w b n d) (hl : d.length = 40) (hl2 : e.length = 40)
    (h : wpList Tryd.prog ops Q rest (a.put o.dst undef) (w.setRow b (nc m e).toArray)) : wpList Tryd.prog ops Q (o :: rest) a w :=
  wpList_plain hgd fun _ hK => wp_nstore ho hx hy hd hl hl2 (hK _ _ h)
end
theorem wpl_nstore_new {ops : Array Oper} {rest : List Oper} {o : Oper} {a : Act} {w : World} {Q : Exit → Act → World → Prop} {x y : Operand} {b : Nat} {n m : Bool} {d e : List Int} (hgd : o.guard = none) (ho : o.op = .store 59 x y) (hx : a.eval x = .pointer (some ⟨b, 0, none⟩)) (hy : a.eval y = nv m e) (hb : w.heap.size = b) (hl : d.length = 40) (hl2 : e.length = 40)
    (h : wpList Tryd.prog ops Q rest (a.put o.dst undef) (w.alloc (oD m e))) : wpList Tryd.prog ops Q (o :: rest) a (w.alloc (oD n d)) := by
  subst hb
  refine wpl_nstore hgd ho hx hy (IsD.new w n d) hl hl2 ?_
  rw [show (w.alloc (oD n d)).setRow w.heap.size (nc m e).toArray = w.alloc (oD m e) from World.setRow_alloc_new _ _ _ _]
  exact h
/-- a result that is a number -/
theorem n_result {fn : Func} {p : Tmp} (h : fn.results = #[.cell p 59]) (tmps : Array Value) (w : World) (b : Nat) (n : Bool) (d : List Int) (hp : tmps.getD p undef = .pointer (some ⟨b, 0, none⟩)) (hd : IsD w b n d) (hl : d.length = 40) :
    (results fn tmps).run Tryd.prog w = .ok (nv n d) w :=
  results_cell_row h tmps w b 59 (nc n d).toArray (0, 0) _ hp hd rfl rfl (by rw [num_info]; simp [nc_length, hl])
/-- a number without its j lowest digits -/
def dv : Nat → Int → Int
  | 0, v => v
  | j + 1, v => dv j v / 256
def fromD (l h : Int) : Nat → List Int
  | 0 => Z40
  | j + 1 => ((fromD l h j).set j (dv j l % 256)).set (8 + j) (dv j h % 256)
theorem fromD_length (l h : Int) (j : Nat) : (fromD l h j).length = 40 := by
  induction j with
  | zero => rfl
  | succ j ih => rw [fromD, List.length_set, List.length_set, ih]
theorem fromD_all (l h : Int) : fromD l h 8 = digN 8 l ++ digN 8 h ++ List.replicate 24 0 := rfl
theorem dv_bd (j : Nat) {v : Int} (h0 : 0 ≤ v) (h1 : v ≤ 18446744073709551615) : 0 ≤ dv j v ∧ dv j v ≤ 18446744073709551615 := by
  induction j with
  | zero => exact ⟨h0, h1⟩
  | succ j ih => rw [dv]; omega
set_option maxRecDepth 100000 in
set_option maxHeartbeats 4000000 in
theorem from_d (x : WI) (ho : x.Ok) (w : World) :
    Calls Tryd.prog 40 #[wv x] w fun r w' => r = .returned (nv x.n (digN 8 x.l ++ digN 8 x.h ++ List.replicate 24 0)) ∧ Below w.heap.size w w' := by
  obtain ⟨xn, xh, xl⟩ := x
  obtain ⟨o1, o2, o3, o4⟩ := ho
  unfold wv
  dsimp only at *
  rw [← fromD_all]
  go_enter Tryd.func40, Tryd.ntmps40
  go_wp2_with (first | (with_reducible refine wpl_nalloc rfl rfl ?_) | (with_reducible refine wpl_nbuild1 rfl rfl rfl ?_) | (with_reducible refine wpl_nstore_new rfl rfl rfl rfl (by simp) rfl rfl ?_))
  have g0 := IsD.new ((w.alloc (oN ⟨xn, xh, xl⟩)).alloc (oD false Z40)) xn Z40
  have g1 := (IsD.new (w.alloc (oN ⟨xn, xh, xl⟩)) false Z40).alloc (oD xn Z40)
  have hb0 := (below2 w (oN ⟨xn, xh, xl⟩) (oD false Z40)).alloc (by rw [size_alloc, size_alloc]; omega) (oD xn Z40)
  simp only [size_alloc] at g0 g1
  replace g0 := Lib.hid g0
  replace g1 := Lib.hid g1
  replace hb0 := Lib.hid hb0
  go_loopw [4, 5, 6] (fun h l i wr => ∃ j : Nat, j ≤ 8 ∧ i = .int .i64 j ∧ l = .int .u64 (dv j xl) ∧ h = .int .u64 (dv j xh) ∧ IsD wr (w.heap.size + 1 + 1) xn (fromD xl xh j) ∧ IsD wr (w.heap.size + 1) false Z40 ∧ Below w.heap.size w wr) (fun _ _ i _ => 8 - (intOf i).toNat)
  case atStart => exact ⟨0, Nat.zero_le _, rfl, rfl, rfl, g0.out, g1.out, hb0.out⟩
  case round =>
    obtain ⟨j, hj, rfl, rfl, rfl, gx, gz, hb⟩ := hrel
    by_cases hlt : j < 8
    · obtain ⟨l0, l1⟩ := dv_bd j o3 o4
      obtain ⟨h0, h1⟩ := dv_bd j o1 o2
      have hfd : fromD xl xh (j + 1) = ((fromD xl xh j).set j (dv j xl % 256)).set (8 + j) (dv j xh % 256) := rfl
      have hdl : dv (j + 1) xl = dv j xl / 256 := rfl
      have hdh : dv (j + 1) xh = dv j xh / 256 := rfl
      have hlen := fromD_length xl xh j
      generalize hD' : fromD xl xh (j + 1) = D' at *
      generalize hl' : dv (j + 1) xl = l' at *
      generalize hh' : dv (j + 1) xh = h' at *
      replace hD' := Lib.hid hD'
      replace hl' := Lib.hid hl'
      replace hh' := Lib.hid hh'
      generalize fromD xl xh j = D at *
      generalize dv j xl = ll at *
      generalize dv j xh = hh at *
      obtain ⟨v1, c1⟩ := gx.has j (by omega)
      have f1 := gx.f (1 + j)
      have gx1 := gx.set j (ll % 256)
      obtain ⟨v2, c2⟩ := gx1.has (8 + j) (by rw [List.length_set]; omega)
      have f2 := gx1.f (1 + (8 + j))
      replace gx := Lib.hid gx
      replace gx1 := Lib.hid gx1
      replace gz := Lib.hid gz
      replace hb := Lib.hid hb
      replace hfd := Lib.hid hfd
      replace hdl := Lib.hid hdl
      replace hdh := Lib.hid hdh
      replace hlen := Lib.hid hlen
      go_wp2_with fail
      go_roundw
      case rel => exact ⟨j + 1, by omega, by go_num, by rw [← hdl.out, hl'.out], by rw [← hdh.out, hh'.out], by rw [hD'.out, hfd.out]; exact gx1.out.set (8 + j) _, (gz.out.set_other (by omega)).set_other (by omega), (hb.out.setCell (show w.heap.size ≤ w.heap.size + 1 + 1 by omega) _).setCell (show w.heap.size ≤ w.heap.size + 1 + 1 by omega) _⟩
      case measure => simp [intOf]; omega
    · obtain rfl : j = 8 := by omega
      have hl := fromD_length xl xh 8
      generalize hDD : fromD xl xh 8 = D at *
      replace hDD := Lib.hid hDD
      replace hb := Lib.hid hb
      go_wp2_with (first | (with_reducible refine wpl_nload rfl rfl rfl gx hl ?_) | (with_reducible refine wpl_nstore rfl rfl rfl rfl gz rfl hl ?_))
      (try simp only [Exit.inBlock, Exit.then])
      refine bodyPost_ret (n_result Tryd.results40 _ _ _ _ _ rfl (gz.row xn D) hl) rfl ?_
      exact ⟨by rw [hDD.out], below_row hb.out (by omega) _⟩
end Go.Proofs.YtbfigpollacngaaDoor
