/- the walks over retrofitref01: whether a number is 0 -/
import Derived.Test.YtbfigpollacngaaDoorNmW6
import Derived.Test.YtbfigpollacngaaDoorCt
import Derived.ChangeKeysEq
namespace Go.Proofs.YtbfigpollacngaaDoor
open Go.RowKit
open Rf
open Wide

def av (d : List Int) : Array Value := (d.map (Value.int .i64)).toArray
theorem part_int (d : List Int) (j : Nat) (hj : j < d.length) (w : World) : (part 3 (av d) j).run Tryd.prog w = .ok (.int .i64 (d.getD j 0)) w := by
  have hu : Tryd.prog.underlying 3 = some (.int .i64) := by kernel_rfl
  unfold part isAgg
  simp only [Sem.run_bind, run_underlying hu w, Result.andThen_ok, Sem.run_pure]
  simp [av, hj]
theorem eq_items (d e : List Int) (h1 : d.length = 40) (h2 : e.length = 40) (w : World) : ∀ js : List Nat, (∀ j ∈ js, j < 40) →
    (Op.eqItems 9999 3 1 (av d) (av e) js).run Tryd.prog w = .ok (js.all fun j => d.getD j 0 == e.getD j 0) w
  | [], _ => by simp [Op.eqItems]
  | j :: js, h => by
    have hj := h j (List.mem_cons_self ..)
    have ih := eq_items d e h1 h2 w js (fun k hk => h k (List.mem_cons_of_mem _ hk))
    have hu : Tryd.prog.underlying 3 = some (.int .i64) := by kernel_rfl
    have hq := run_equalIn_int (P := Tryd.prog) w 9998 3 .i64 .i64 (d.getD j 0) (e.getD j 0) hu
    simp only [Op.eqItems, Sem.run_bind, Nat.mul_one, part_int d j (by omega) w, part_int e j (by omega) w, Result.andThen_ok, hq]
    cases hc : (d.getD j 0 == e.getD j 0)
    · simp only [List.all_cons, hc, Bool.not_false, if_true, Bool.false_and, Sem.run_pure]
    · simp only [List.all_cons, hc, Bool.not_true, Bool.false_eq_true, if_false, Bool.true_and, ih]
theorem f_eq (d e : List Int) (h1 : d.length = 40) (h2 : e.length = 40) (w : World) : (Op.equal 57 (.agg (av d)) (.agg (av e))).run Tryd.prog w = .ok ((List.range 40).all fun j => d.getD j 0 == e.getD j 0) w := by
  have hu : Tryd.prog.underlying 57 = some (.array 40 3) := by kernel_rfl
  have hi : (Tryd.prog.info? 3).isSome = true := by kernel_rfl
  obtain ⟨i, hi⟩ := Option.isSome_iff_exists.1 hi
  have hc : Tryd.prog.cellsOf 3 = 1 := by kernel_rfl
  show (Op.equalIn (9999 + 1) 57 (.agg (av d)) (.agg (av e))).run Tryd.prog w = _
  rw [run_equalIn_array w 9999 (av d) (av e) hu hi, hc]
  exact eq_items d e h1 h2 w _ (fun j hj => List.mem_range.1 hj)
theorem all_zero (d : List Int) (hd : Dig d) (h1 : d.length = 40) : ((List.range 40).all fun j => d.getD j 0 == Z40.getD j 0) = decide (valN d = 0) := by
  rw [Bool.eq_iff_iff, List.all_eq_true, decide_eq_true_iff]
  constructor
  · intro h
    have : d = Z40 := by
      refine List.ext_getElem (by rw [h1]; rfl) (fun j hj hk => ?_)
      have := h j (List.mem_range.2 (by omega))
      simpa [hj, hk] using this
    rw [this]
    exact valN_zero 40
  · intro h j hj
    have hj := List.mem_range.1 hj
    have : d = Z40 := dig_inj hd Z40_dig (by rw [h1]; rfl) (by rw [h]; exact (valN_zero 40).symm)
    rw [this]
    exact beq_self_eq_true _
theorem f_build40 (w : World) : (Instr.build 57 #[]).run Tryd.prog w = .ok (.agg (av Z40)) w := by kernel_rfl
theorem arr_info : (Tryd.prog.info? 57).map (·.size) = some 40 := by kernel_rfl
/-- the digits, read at once -/
theorem f_loadA {w : World} {b : Nat} {n : Bool} {d : List Int} (h : IsD w b n d) (hl : d.length = 40) : (loadVar 57 ⟨b, 1, none⟩).run Tryd.prog w = .ok (.agg (av d)) w := by
  have hlc : (loadCells ⟨b, 1, none⟩ (av d).toList.length).run Tryd.prog w = .ok (av d).toList.toArray w :=
    run_loadCells_list (P := Tryd.prog) w ⟨b, 1, none⟩ (av d).toList (fun j v hv => by
      have hadd : (⟨b, 1, none⟩ : Addr).add j = ⟨b, 1 + j, none⟩ := by unfold Addr.add; split <;> simp_all
      have hj : j < d.length := by
        have := (List.getElem?_eq_some_iff.1 hv).1
        simpa [av] using this
      rw [hadd, h.cell j hj]
      simpa [av, hj] using hv)
  have hu : Tryd.prog.underlying 57 = some (.array 40 3) := by kernel_rfl
  have hagg : (isAgg 57).run Tryd.prog w = .ok true w := by
    unfold isAgg
    rw [Sem.run_bind, run_underlying hu w]
    rfl
  cases hq : Tryd.prog.info? 57 with
  | none => have := arr_info; simp [hq] at this
  | some i =>
    have hs : i.size = 40 := by have := arr_info; simpa [hq] using this
    have hlen : (av d).toList.length = 40 := by simp [av, hl]
    rw [hlen] at hlc
    simp only [Array.toArray_toList] at hlc
    simp [loadVar, Sem.run_bind, hagg, sizeOf, typeInfo, hq, hs, hlc]
section
variable {ops : Array Oper} {rest : List Oper} {o : Oper} {a : Act} {w : World} {K : Act → World → Prop} {Q : Exit → Act → World → Prop}
theorem wpl_aload {x : Operand} {b : Nat} {n : Bool} {d : List Int} (hgd : o.guard = none) (ho : o.op = .load 57 x) (hx : a.eval x = .pointer (some ⟨b, 1, none⟩)) (hd : IsD w b n d) (hl : d.length = 40) (h : wpList Tryd.prog ops Q rest (a.put o.dst (.agg (av d))) w) : wpList Tryd.prog ops Q (o :: rest) a w :=
  wpList_plain hgd fun _ hK => by
    unfold Oper.wp execOp
    simp only [ho, hx, Instr.loadAt, Instr.sureAddr, Sem.run_bind, Sem.run_pure, Result.andThen_ok, f_loadA hd hl]
    exact hK _ _ h
theorem wpl_abuild (hgd : o.guard = none) (ho : o.op = .build 57 #[]) (h : wpList Tryd.prog ops Q rest (a.put o.dst (.agg (av Z40))) w) : wpList Tryd.prog ops Q (o :: rest) a w :=
  wpList_plain hgd fun _ hK => by
    unfold Oper.wp execOp
    simp only [ho, Sem.run_bind, Sem.run_pure, Result.andThen, List.map_toArray, List.map_nil, f_build40]
    exact hK _ _ h
theorem f_guard (x y : Operand) (d e : List Int) (w : World) : (eqGuard .eql 57 x y (.agg (av d)) (.agg (av e))).run Tryd.prog w = .ok () w := by
  have hg : Tryd.prog.eqGuardType Tryd.prog.depth 57 = false := by kernel_rfl
  unfold eqGuard
  simp [Sem.run_bind, hg]
theorem wpl_aeq {x y : Operand} {d : List Int} {k : TypeId} (hgd : o.guard = none) (ho : o.op = .binOp .eql 57 x y k) (hx : a.eval x = .agg (av d)) (hy : a.eval y = .agg (av Z40)) (hd : Dig d) (hl : d.length = 40)
    (h : wpList Tryd.prog ops Q rest (a.put o.dst (.bool (decide (valN d = 0)))) w) : wpList Tryd.prog ops Q (o :: rest) a w :=
  wpList_plain hgd fun _ hK => by
    have e1 := f_eq d Z40 hl rfl w
    rw [all_zero d hd hl] at e1
    have e2 := f_guard x y d Z40 w
    have e3 : (binOp .eql 57 (.agg (av d)) (.agg (av Z40))).run Tryd.prog w = .ok (.bool (decide (valN d = 0))) w := by
      show ((do pure (Value.bool (← Op.equal 57 (.agg (av d)) (.agg (av Z40)))) : Sem Value)).run Tryd.prog w = _
      simp only [Sem.run_bind, e1, Result.andThen_ok, Sem.run_pure]
    unfold Oper.wp execOp
    simp only [ho, hx, hy, Sem.run_bind, Sem.run_pure, Result.andThen_ok, e2, e3]
    exact hK _ _ h
end
theorem zero_d (n : Bool) (d : List Int) (hd : Dig d) (hl : d.length = 40) : Ret 41 #[nv n d] (.bool (decide (valN d = 0))) := fun w => by
  have gd : IsD (w.alloc (oD n d)) w.heap.size n d := IsD.new w n d
  replace hd := Lib.hid hd
  have hb := below1 w (oD n d)
  go_enter Tryd.func41, Tryd.ntmps41
  go_wp2_with (first | (with_reducible refine wpl_nbox rfl rfl rfl ?_) | (with_reducible refine wpl_aload rfl rfl rfl gd hl ?_) | (with_reducible refine wpl_abuild rfl rfl ?_) | (with_reducible refine wpl_aeq rfl rfl rfl rfl hd.out hl ?_))
  go_ret
  exact ⟨rfl, hb⟩
end Go.Proofs.YtbfigpollacngaaDoor
