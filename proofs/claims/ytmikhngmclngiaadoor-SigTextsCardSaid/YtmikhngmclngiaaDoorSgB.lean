/- the walks over retrofitref10: the bits of a number -/
import Derived.Test.YtmikhngmclngiaaDoorSgI
import Derived.Deep.WholeRow
namespace Go.Proofs.YtmikhngmclngiaaDoor
open Go.RowKit
open Rf
open Sg

/-- 32 bools: cells, value, a block that is one -/
def bc (l : List Bool) : List Value := l.map .bool
def bav (l : List Bool) : Value := .agg (bc l).toArray
def oB (l : List Bool) : Obj := .cells (bc l).toArray 54
def IsB (w : World) (b : Nat) (l : List Bool) : Prop := w.heap[b]? = some (.cells (bc l).toArray 54 (0, 0))
theorem bc_length (l : List Bool) : (bc l).length = l.length := by simp [bc]
theorem bc_one (l : List Bool) : ∀ v ∈ bc l, v.oneCell' = true := by
  intro v hv
  obtain ⟨_, _, rfl⟩ := List.mem_map.1 hv; rfl
section
variable {w w' : World} {b : Nat} {l : List Bool}
theorem IsB.lt (h : IsB w b l) : b < w.heap.size := lt_of_block h
theorem IsB.cell (h : IsB w b l) (i : Nat) (hi : i < l.length) : w.cell? ⟨b, i, none⟩ = some (.bool l[i]) := by
  rw [cell_of_row w b i _ _ _ h]; simp [bc, hi]
theorem IsB.has (h : IsB w b l) (i : Nat) (hi : i < l.length) : ∃ v, w.cell? ⟨b, i, none⟩ = some v := ⟨_, h.cell i hi⟩
theorem IsB.f (h : IsB w b l) (i : Nat) : w.frozen? ⟨b, i, none⟩ = false := by unfold IsB at h; simp [World.frozen?, h]
theorem IsB.below (h : IsB w b l) (hb : Below w.heap.size w w') : IsB w' b l := (hb.block b h.lt).trans h
theorem IsB.new (w : World) (l : List Bool) : IsB (w.alloc (oB l)) w.heap.size l := heap_alloc_new w _
theorem IsB.alloc (h : IsB w b l) (o : Obj) : IsB (w.alloc o) b l := h.below ((Below.refl _ _).alloc (Nat.le_refl _) o)
theorem IsB.set (h : IsB w b l) (i : Nat) (v : Bool) : IsB (w.setCell ⟨b, i, none⟩ (.bool v)) b (l.set i v) := by
  unfold IsB at *
  show (w.heap.modify b _)[b]? = _
  rw [Array.getElem?_modify, if_pos rfl, h]
  simp [bc, List.map_set]
theorem IsB.set_other {c i : Nat} {v : Value} (h : IsB w b l) (hne : b ≠ c) : IsB (w.setCell ⟨c, i, none⟩ v) b l := by
  unfold IsB at *
  show (w.heap.modify c _)[b]? = _
  rw [Array.getElem?_modify, if_neg (fun hh => hne hh.symm)]
  exact h
end
def Z32 : List Bool := List.replicate 32 false
set_option maxRecDepth 100000 in
theorem fb_alloc (w : World) : (Instr.alloc 54 true (.tuple #[])).run Tryd.prog w = .ok (.pointer (some ⟨w.heap.size, 0, none⟩)) (w.alloc (oB Z32)) := by kernel_rfl
set_option maxRecDepth 100000 in
theorem fb_build0 (w : World) : (Instr.build 54 #[]).run Tryd.prog w = .ok (bav Z32) w := by kernel_rfl
set_option maxRecDepth 100000 in
theorem b_info : (Tryd.prog.info? 54).map (·.size) = some 32 := by kernel_rfl
set_option maxRecDepth 100000 in
theorem fb_load {w : World} {b : Nat} {l : List Bool} (h : IsB w b l) (hl : l.length = 32) : (Instr.loadAt 54 (.pointer (some ⟨b, 0, none⟩))).run Tryd.prog w = .ok (bav l) w := by
  have := run_loadVar_row (P := Tryd.prog) w b 54 54 (bc l).toArray (0, 0) _ h rfl rfl (by rw [b_info]; simp [bc_length, hl])
  simp only [Instr.loadAt, Instr.sureAddr, Sem.run_bind, Sem.run_pure, Result.andThen, this]
  rfl
set_option maxRecDepth 100000 in
theorem fb_store {w : World} {b : Nat} {l m : List Bool} (h : IsB w b l) (hl : l.length = 32) (hl2 : m.length = 32) :
    (Instr.storeAt 54 (.pointer (some ⟨b, 0, none⟩)) (bav m)).run Tryd.prog w = .ok () (w.setRow b (bc m).toArray) := by
  have := run_storeVar_row (P := Tryd.prog) w b 54 54 (bc l).toArray (bc m).toArray h (by rw [b_info]; simp [bc_length, hl2]) (by simp [bc_length, hl, hl2]) (all_oneCell_toArray (bc_one m))
  simp only [Instr.storeAt, Instr.sureAddr, Sem.run_bind, Sem.run_pure, Result.andThen, bav, this]
theorem IsB.row {w : World} {b : Nat} {l : List Bool} (h : IsB w b l) (m : List Bool) : IsB (w.setRow b (bc m).toArray) b m := setRow_heap w b _ _ _ (0, 0) h
theorem below_row {B b : Nat} {w w1 : World} (h : Below B w w1) (hb : B ≤ b) (r : Array Value) : Below B w (w1.setRow b r) := h.trans ⟨rfl, rfl, rfl, by simp [World.setRow], fun k hk => setRow_other w1 b k r (by omega)⟩
section
variable {ops : Array Oper} {rest : List Oper} {o : Oper} {a : Act} {w : World} {Q : Exit → Act → World → Prop}
theorem wpl_balloc (hgd : o.guard = none) (ho : o.op = .alloc 54) (h : wpList Tryd.prog ops Q rest (a.put o.dst (.pointer (some ⟨w.heap.size, 0, none⟩))) (w.alloc (oB Z32))) : wpList Tryd.prog ops Q (o :: rest) a w :=
  wpList_plain hgd fun _ hK => by
    unfold Oper.wp execOp
    simp only [ho, Sem.run_bind, Sem.run_pure, Result.andThen, fb_alloc]
    exact hK _ _ h
theorem wpl_bbuild (hgd : o.guard = none) (ho : o.op = .build 54 #[]) (h : wpList Tryd.prog ops Q rest (a.put o.dst (bav Z32)) w) : wpList Tryd.prog ops Q (o :: rest) a w :=
  wpList_plain hgd fun _ hK => by
    unfold Oper.wp execOp
    simp only [ho, Sem.run_bind, Sem.run_pure, Result.andThen, List.map_toArray, List.map_nil, fb_build0]
    exact hK _ _ h
theorem wpl_bload {x : Operand} {b : Nat} {l : List Bool} (hgd : o.guard = none) (ho : o.op = .load 54 x) (hx : a.eval x = .pointer (some ⟨b, 0, none⟩)) (hd : IsB w b l) (hl : l.length = 32) (h : wpList Tryd.prog ops Q rest (a.put o.dst (bav l)) w) : wpList Tryd.prog ops Q (o :: rest) a w :=
  wpList_plain hgd fun _ hK => by
    unfold Oper.wp execOp
    simp only [ho, hx, Sem.run_bind, Sem.run_pure, Result.andThen, fb_load hd hl]
    exact hK _ _ h
theorem wpl_bstore {x y : Operand} {b : Nat} {l m : List Bool} (hgd : o.guard = none) (ho : o.op = .store 54 x y) (hx : a.eval x = .pointer (some ⟨b, 0, none⟩)) (hy : a.eval y = bav m) (hd : IsB w b l) (hl : l.length = 32) (hl2 : m.length = 32)
    (h : wpList Tryd.prog ops Q rest (a.put o.dst undef) (w.setRow b (bc m).toArray)) : wpList Tryd.prog ops Q (o :: rest) a w :=
  wpList_plain hgd fun _ hK => by
    unfold Oper.wp execOp
    simp only [ho, hx, hy, Sem.run_bind, Sem.run_pure, Result.andThen, fb_store hd hl hl2]
    exact hK _ _ h
theorem wpl_bstore_new {x y : Operand} {b : Nat} {l m : List Bool} (hgd : o.guard = none) (ho : o.op = .store 54 x y) (hx : a.eval x = .pointer (some ⟨b, 0, none⟩)) (hy : a.eval y = bav m) (hb : w.heap.size = b) (hl : l.length = 32) (hl2 : m.length = 32)
    (h : wpList Tryd.prog ops Q rest (a.put o.dst undef) (w.alloc (oB m))) : wpList Tryd.prog ops Q (o :: rest) a (w.alloc (oB l)) := by
  subst hb
  refine wpl_bstore hgd ho hx hy (IsB.new w l) hl hl2 ?_
  rw [show (w.alloc (oB l)).setRow w.heap.size (bc m).toArray = w.alloc (oB m) from World.setRow_alloc_new _ _ _ _]
  exact h
end
set_option maxRecDepth 100000 in
theorem b_result {fn : Func} {p : Tmp} (h : fn.results = #[.cell p 54]) (tmps : Array Value) (w : World) (b : Nat) (l : List Bool) (hp : tmps.getD p undef = .pointer (some ⟨b, 0, none⟩)) (hd : IsB w b l) (hl : l.length = 32) :
    (results fn tmps).run Tryd.prog w = .ok (bav l) w :=
  results_cell_row h tmps w b 54 (bc l).toArray (0, 0) _ hp hd rfl rfl (by rw [b_info]; simp [bc_length, hl])

/-- the bits below j -/
def bitsTo (n j : Nat) : List Bool := (List.range 32).map fun i => decide (i < j) && n.testBit i
theorem bitsTo_length (n j : Nat) : (bitsTo n j).length = 32 := by simp [bitsTo]
theorem bitsTo_zero (n : Nat) : bitsTo n 0 = Z32 := by simp [bitsTo, Z32]; decide
theorem bitsTo_get (n j i : Nat) (_hi : i < 32) (h : i < (bitsTo n j).length) : (bitsTo n j)[i] = (decide (i < j) && n.testBit i) := by simp [bitsTo]
theorem bitsTo_step (n j : Nat) (_hj : j < 32) : (bitsTo n j).set j (n.testBit j) = bitsTo n (j + 1) := by
  refine List.ext_getElem (by simp [bitsTo]) (fun i h1 h2 => ?_)
  have hi : i < 32 := by rw [bitsTo_length] at h2; exact h2
  rw [List.getElem_set, bitsTo_get n (j + 1) i hi, bitsTo_get n j i hi]
  by_cases hij : j = i
  · subst hij
    rw [if_pos rfl]
    simp
  · rw [if_neg hij]
    congr 1
    exact decide_eq_decide.2 (by omega)
def bitsL (n : Nat) : List Bool := bitsTo n 32
theorem bitsL_get (n i : Nat) (hi : i < 32) : (bitsL n)[i]'(by unfold bitsL; rw [bitsTo_length]; exact hi) = n.testBit i := by
  unfold bitsL
  rw [bitsTo_get n 32 i hi, decide_eq_true hi, Bool.true_and]
theorem two_nb (w : World) (l m : List Bool) : IsB ((w.alloc (oB l)).alloc (oB m)) w.heap.size l ∧ IsB ((w.alloc (oB l)).alloc (oB m)) (w.heap.size + 1) m ∧ Below w.heap.size w ((w.alloc (oB l)).alloc (oB m)) := by
  refine ⟨(IsB.new w l).alloc _, ?_, (below1 w _).alloc (by rw [size_alloc]; omega) _⟩
  have := IsB.new (w.alloc (oB l)) m
  rwa [size_alloc] at this

set_option maxRecDepth 100000 in
set_option maxHeartbeats 4000000 in
theorem bits_c (n : Nat) (hn : n < 4294967296) : Ret 34 #[.int .u32 (n : Int)] (bav (bitsL n)) := fun w => by
  obtain ⟨ga0, gb0, hb0⟩ := two_nb w Z32 Z32
  replace ga0 := Lib.hid ga0
  replace gb0 := Lib.hid gb0
  replace hb0 := Lib.hid hb0
  go_enter Tryd.func34, Tryd.ntmps34
  go_wp2_with (first | (with_reducible refine wpl_balloc rfl rfl ?_) | (with_reducible refine wpl_bbuild rfl rfl ?_) | (with_reducible refine wpl_bstore_new rfl rfl rfl rfl (by simp) rfl rfl ?_))
  go_loopw [0, 4] (fun v i wr => ∃ j : Nat, j ≤ 32 ∧ i = .int .i64 j ∧ v = .int .u32 ((n / 2 ^ j : Nat) : Int) ∧ IsB wr w.heap.size Z32 ∧ IsB wr (w.heap.size + 1) (bitsTo n j) ∧ Below w.heap.size w wr) (fun _ i _ => 32 - (intOf i).toNat)
  case atStart => exact ⟨0, Nat.zero_le _, rfl, by simp, ga0.out, by rw [bitsTo_zero]; exact gb0.out, hb0.out⟩
  case round =>
    clear ga0 gb0 hb0
    obtain ⟨j, hj, rfl, rfl, ga, gb, hb⟩ := hrel
    by_cases hlt : j < 32
    · have hst := bitsTo_step n j hlt
      have hq : n / 2 ^ (j + 1) = n / 2 ^ j / 2 := by rw [Nat.pow_succ, Nat.div_div_eq_div_mul]
      have hbit : n.testBit j = decide (n / 2 ^ j % 2 = 1) := Nat.testBit_eq_decide_div_mod_eq
      have hle : n / 2 ^ j ≤ n := Nat.div_le_self ..
      obtain ⟨v0, cv⟩ := gb.has j (by rw [bitsTo_length]; exact hlt)
      have fv := gb.f j
      rw [hbit] at hst
      clear hbit
      generalize n / 2 ^ j = q at *
      have e1 : ((q : Int) % 2 == 1) = decide (q % 2 = 1) := by
        rw [Bool.eq_iff_iff, beq_iff_eq, decide_eq_true_iff]
        omega
      have hltI : (j : Int) < 32 := by omega
      generalize decide (q % 2 = 1) = b at *
      replace hst := Lib.hid hst
      replace hq := Lib.hid hq
      replace ga := Lib.hid ga
      replace gb := Lib.hid gb
      replace hb := Lib.hid hb
      go_wp2_with fail
      go_roundw
      case rel => exact ⟨j + 1, by omega, by go_num, by rw [hq.out]; simp, ga.out.set_other (by omega), by rw [← hst.out]; first | exact gb.out.set j b | (rw [← e1]; exact gb.out.set j _), hb.out.setCell (show w.heap.size ≤ w.heap.size + 1 by omega) _⟩
      case measure => simp [intOf]; omega
    · obtain rfl : j = 32 := by omega
      have hl := bitsTo_length n 32
      replace hb := Lib.hid hb
      go_wp2_with (first | (with_reducible refine wpl_bload rfl rfl rfl gb hl ?_) | (with_reducible refine wpl_bstore rfl rfl rfl rfl ga rfl hl ?_))
      (try simp only [Exit.inBlock, Exit.then])
      refine bodyPost_ret (b_result Tryd.results34 _ _ _ _ rfl (ga.row (bitsTo n 32)) hl) rfl ?_
      exact ⟨rfl, below_row hb.out (by omega) _⟩
end Go.Proofs.YtmikhngmclngiaaDoor
