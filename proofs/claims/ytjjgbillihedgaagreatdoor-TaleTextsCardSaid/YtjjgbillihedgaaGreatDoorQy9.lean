/- parts of the proof, merged: Nm, NmW, NmW2, Nm2, NmW3, NmW4, Nm3, NmW5 -/
import Derived.Deep.MidRow
import Derived.Deep.DeepCutAuto
import Derived.Test.YtjjgbillihedgaaGreatDoorQy6
set_option maxHeartbeats 16000000
set_option maxRecDepth 100000
namespace Go.Proofs.YtjjgbillihedgaaGreatDoor
namespace Wide
/-- the number of digits, the lowest first -/
def valN : List Int → Int
 | [] => 0
 | c :: l => c + 256 * valN l
def Dig (l : List Int) : Prop := ∀ c ∈ l, 0 ≤ c ∧ c ≤ 255
theorem valN_bd {l : List Int} (h : Dig l) : 0 ≤ valN l ∧ valN l < 256 ^ l.length := by
 induction l with
 | nil => exact ⟨Int.le_refl 0, by decide⟩
 | cons c l ih =>
   have h1 := h c (List.mem_cons_self ..)
   have h2 := ih (fun d hd => h d (List.mem_cons_of_mem _ hd))
   rw [valN, List.length_cons, Int.pow_succ]
   omega
theorem valN_append (l m : List Int) : valN (l ++ m) = valN l + 256 ^ l.length * valN m := by
 induction l with
 | nil => simp [valN]
 | cons c l ih =>
   rw [List.cons_append, valN, valN, ih, List.length_cons, Int.pow_succ, Int.mul_add, ← Int.mul_assoc, Int.mul_comm 256 (256 ^ l.length)]
   omega
theorem Dig.append {l m : List Int} (h : Dig l) (k : Dig m) : Dig (l ++ m) := fun c hc => (List.mem_append.1 hc).elim (h c) (k c)
theorem Dig.drop {l : List Int} (h : Dig l) (n : Nat) : Dig (l.drop n) := fun c hc => h c (List.mem_of_mem_drop hc)
theorem Dig.take {l : List Int} (h : Dig l) (n : Nat) : Dig (l.take n) := fun c hc => h c (List.mem_of_mem_take hc)
theorem Dig.get {l : List Int} (h : Dig l) (i : Nat) (hi : i < l.length) : 0 ≤ l[i] ∧ l[i] ≤ 255 := h _ (List.getElem_mem hi)
theorem Dig.set {l : List Int} (h : Dig l) (i : Nat) {v : Int} (hv : 0 ≤ v ∧ v ≤ 255) : Dig (l.set i v) := fun c hc => by
 rcases List.mem_or_eq_of_mem_set hc with h1 | h1
 ·exact h c h1
 ·rw [h1]; exact hv
/-- the digits below i, and those from i on -/
theorem valN_cut (l : List Int) (i : Nat) (hi : i ≤ l.length) : valN l = valN (l.take i) + 256 ^ i * valN (l.drop i) := by
 have := valN_append (l.take i) (l.drop i)
 rw [List.take_append_drop, List.length_take, Nat.min_eq_left hi] at this
 exact this
theorem valN_drop (l : List Int) (i : Nat) (hi : i < l.length) : valN (l.drop i) = l[i] + 256 * valN (l.drop (i + 1)) := by
 rw [List.drop_eq_getElem_cons hi, valN]
/-- who has the greater digit, all above being alike, is greater -/
theorem valN_more (l m : List Int) (hl : Dig l) (hm : Dig m) (i : Nat) (h1 : i < l.length) (h2 : i < m.length) (hd : l.drop (i + 1) = m.drop (i + 1)) (h : m[i] < l[i]) : valN m < valN l := by
 rw [valN_cut l i (by omega), valN_cut m i (by omega), valN_drop l i h1, valN_drop m i h2, hd]
 have b1 := valN_bd (hl.take i)
 have b2 := valN_bd (hm.take i)
 rw [List.length_take, Nat.min_eq_left (by omega)] at b1 b2
 generalize valN (m.drop (i + 1)) = q
 generalize valN (l.take i) = a at *
 generalize valN (m.take i) = b at *
 generalize (256 : Int) ^ i = p at *
 have e : p * (l[i] + 256 * q) - p * (m[i] + 256 * q) = p * (l[i] - m[i]) := by rw [← Int.mul_sub]; congr 1; omega
 have : p * 1 ≤ p * (l[i] - m[i]) := Int.mul_le_mul_of_nonneg_left (by omega) (by omega)
 omega
/-- the digits of a number, n of them -/
def digN : Nat → Int → List Int
 | 0, _ => []
 | n + 1, v => v % 256 :: digN n (v / 256)
theorem digN_length (n : Nat) (v : Int) : (digN n v).length = n := by
 induction n generalizing v with
 | zero => rfl
 | succ n ih => simp [digN, ih]
theorem digN_dig (n : Nat) (v : Int) : Dig (digN n v) := by
 induction n generalizing v with
 | zero => intro c hc; cases hc
 | succ n ih =>
   intro c hc
   rw [digN] at hc
   rcases List.mem_cons.1 hc with rfl | h
   ·omega
   ·exact ih _ c h
theorem digN_val (n : Nat) (v : Int) (h0 : 0 ≤ v) (h1 : v < 256 ^ n) : valN (digN n v) = v := by
 induction n generalizing v with
 | zero => simp at h1; simp [digN, valN]; omega
 | succ n ih =>
   rw [Int.pow_succ] at h1
   rw [digN, valN, ih (v / 256) (by omega) (by omega)]
   omega
theorem digN_get (n : Nat) (v : Int) (i : Nat) (hi : i < n) (h : i < (digN n v).length) : (digN n v)[i] = v / 256 ^ i % 256 := by
 induction n generalizing v i with
 | zero => omega
 | succ n ih =>
   cases i with
   | zero => simp [digN]
   | succ i =>
     simp only [digN, List.getElem_cons_succ]
     rw [ih (v / 256) i (by omega) (by rw [digN_length]; omega), Int.pow_succ, Int.mul_comm, Int.ediv_ediv_of_nonneg (by decide)]
/-- the digits are told by the number -/
theorem dig_of_val (l : List Int) (h : Dig l) : l = digN l.length (valN l) := by
 induction l with
 | nil => rfl
 | cons c l ih =>
   have h1 := h c (List.mem_cons_self ..)
   have h2 := ih (fun d hd => h d (List.mem_cons_of_mem _ hd))
   rw [List.length_cons, digN, valN]
   congr 1
   ·omega
   ·rw [show (c + 256 * valN l) / 256 = valN l by omega]; exact h2
theorem dig_inj {l m : List Int} (hl : Dig l) (hm : Dig m) (hlen : l.length = m.length) (hv : valN l = valN m) : l = m := by
 rw [dig_of_val l hl, dig_of_val m hm, hlen, hv]
end Wide
open Go.RowKit
open Rf
open Wide
theorem good_c (x : WI) (w : World) : Calls Tryz.prog 61 #[wv x] w fun e w' => e = .returned (.bool x.form) ∧ Below w.heap.size w w' := by
 obtain ⟨n, h, l⟩ := x
 unfold wv WI.form nil2
 dsimp only
 by_cases h1 : h < 9223372036854775808
 ·rw [decide_eq_true h1]
  cases n with
  | false =>
    go_enter Tryz.func61, Tryz.ntmps61
    go_wp2
    go_ret
    exact ⟨rfl, wbelow1 _ _⟩
  | true =>
    cases e1 : (h == 0) with
    | false =>
      go_enter Tryz.func61, Tryz.ntmps61
      go_wp2
      go_ret
      exact ⟨rfl, wbelow1 _ _⟩
    | true =>
      cases e2 : (l == 0) <;>
      ·go_enter Tryz.func61, Tryz.ntmps61
       go_wp2
       go_ret
       exact ⟨rfl, wbelow1 _ _⟩
 ·rw [decide_eq_false h1]
  go_enter Tryz.func61, Tryz.ntmps61
  go_wp2
  go_ret
  exact ⟨rfl, wbelow1 _ _⟩
/-- a number's cells, its value, a block that is one -/
def nc (n : Bool) (d : List Int) : List Value := .bool n :: d.map (.int .i64)
def nv (n : Bool) (d : List Int) : Value := .agg (nc n d).toArray
def IsD (w : World) (b : Nat) (n : Bool) (d : List Int) : Prop := w.heap[b]? = some (.cells (nc n d).toArray 147 (0, 0))
theorem nc_length (n : Bool) (d : List Int) : (nc n d).length = d.length + 1 := by simp [nc]
theorem nc_get (n : Bool) (d : List Int) (i : Nat) (h : i < d.length) : (nc n d)[i + 1]? = some (.int .i64 d[i]) := by simp [nc, h]
theorem nc_set (n : Bool) (d : List Int) (i : Nat) (v : Int) : (nc n d).set (i + 1) (.int .i64 v) = nc n (d.set i v) := by simp [nc, List.map_set]
theorem nc_one (n : Bool) (d : List Int) : ∀ v ∈ nc n d, v.oneCell' = true := by
 intro v hv
 rcases List.mem_cons.1 hv with rfl | h
 ·rfl
 ·obtain ⟨_, _, rfl⟩ := List.mem_map.1 h; rfl
section
variable {w w' : World} {b : Nat} {n : Bool} {d : List Int}
theorem IsD.lt (h : IsD w b n d) : b < w.heap.size := lt_of_block h
theorem IsD.cell (h : IsD w b n d) (i : Nat) (hi : i < d.length) : w.cell? ⟨b, 1 + i, none⟩ = some (.int .i64 d[i]) := by
 rw [Nat.add_comm 1 i, cell_of_row w b (i + 1) _ _ _ h]; simp [nc_get n d i hi]
theorem IsD.has (h : IsD w b n d) (i : Nat) (hi : i < d.length) : ∃ v, w.cell? ⟨b, 1 + i, none⟩ = some v := ⟨_, h.cell i hi⟩
theorem IsD.neg (h : IsD w b n d) : w.cell? ⟨b, 0, none⟩ = some (.bool n) := by rw [cell_of_row w b 0 _ _ _ h]; simp [nc]
theorem IsD.f (h : IsD w b n d) (i : Nat) : w.frozen? ⟨b, i, none⟩ = false := by unfold IsD at h; simp [World.frozen?, h]
theorem IsD.below (h : IsD w b n d) (hb : Below w.heap.size w w') : IsD w' b n d := (hb.block b h.lt).trans h
theorem IsD.new (w : World) (n : Bool) (d : List Int) : IsD (w.alloc (.cells (nc n d).toArray 147)) w.heap.size n d := heap_alloc_new w _
theorem IsD.alloc (h : IsD w b n d) (o : Obj) : IsD (w.alloc o) b n d := h.below ((Below.refl _ _).alloc (Nat.le_refl _) o)
theorem IsD.set (h : IsD w b n d) (i : Nat) (v : Int) : IsD (w.setCell ⟨b, 1 + i, none⟩ (.int .i64 v)) b n (d.set i v) := by
 rw [Nat.add_comm 1 i]
 unfold IsD at *
 show (w.heap.modify b _)[b]? = _
 rw [Array.getElem?_modify, if_pos rfl, h]
 simp only [Option.map_some]
 rw [← nc_set]
 simp
theorem IsD.set_other {c i : Nat} {v : Value} (h : IsD w b n d) (hne : b ≠ c) : IsD (w.setCell ⟨c, i, none⟩ v) b n d := by
 unfold IsD at *
 show (w.heap.modify c _)[b]? = _
 rw [Array.getElem?_modify, if_neg (fun hh => hne hh.symm)]
 exact h
end
def oD (n : Bool) (d : List Int) : Obj := .cells (nc n d).toArray 147
/-- forty times 0 -/
def Z40 : List Int := List.replicate 40 0
theorem Z40_dig : Dig Z40 := fun c hc => by rw [List.eq_of_mem_replicate hc]; omega
theorem valN_zero (k : Nat) : valN (List.replicate k 0) = 0 := by
 induction k with
 | zero => rfl
 | succ k ih => rw [List.replicate_succ, valN, ih]; rfl
theorem f_alloc (w : World) : (Instr.alloc 147 true (.tuple #[])).run Tryz.prog w = .ok (.pointer (some ⟨w.heap.size, 0, none⟩)) (w.alloc (oD false Z40)) := by kernel_rfl
theorem f_build0 (w : World) : (Instr.build 147 #[]).run Tryz.prog w = .ok (nv false Z40) w := by kernel_rfl
theorem f_build1 (n : Bool) (w : World) : (Instr.build 147 #[(0, .bool n)]).run Tryz.prog w = .ok (nv n Z40) w := by kernel_rfl
theorem f_box (n : Bool) (d : List Int) (w : World) : (Instr.box 147 (nv n d)).run Tryz.prog w = .ok (.pointer (some ⟨w.heap.size, 0, none⟩)) (w.alloc (oD n d)) := by kernel_rfl
theorem num_info : (Tryz.prog.info? 147).map (·.size) = some 41 := by kernel_rfl
theorem f_load {w : World} {b : Nat} {n : Bool} {d : List Int} (h : IsD w b n d) (hl : d.length = 40) : (Instr.loadAt 147 (.pointer (some ⟨b, 0, none⟩))).run Tryz.prog w = .ok (nv n d) w := by
 have := run_loadVar_row (P := Tryz.prog) w b 147 147 (nc n d).toArray (0, 0) _ h rfl rfl (by rw [num_info]; simp [nc_length, hl])
 simp only [Instr.loadAt, Instr.sureAddr, Sem.run_bind, Sem.run_pure, Result.andThen, this]
 rfl
theorem f_store {w : World} {b : Nat} {n m : Bool} {d e : List Int} (h : IsD w b n d) (hl : d.length = 40) (hl2 : e.length = 40) :
 (Instr.storeAt 147 (.pointer (some ⟨b, 0, none⟩)) (nv m e)).run Tryz.prog w = .ok () (w.setRow b (nc m e).toArray) := by
 have := run_storeVar_row (P := Tryz.prog) w b 147 147 (nc n d).toArray (nc m e).toArray h (by rw [num_info]; simp [nc_length, hl2]) (by simp [nc_length, hl, hl2]) (all_oneCell_toArray (nc_one m e))
 simp only [Instr.storeAt, Instr.sureAddr, Sem.run_bind, Sem.run_pure, Result.andThen, nv, this]
theorem IsD.row {w : World} {b : Nat} {n : Bool} {d : List Int} (h : IsD w b n d) (m : Bool) (e : List Int) : IsD (w.setRow b (nc m e).toArray) b m e := setRow_heap w b _ _ _ (0, 0) h
theorem IsD.row_other {w : World} {b c : Nat} {n : Bool} {d : List Int} (h : IsD w b n d) (hne : b ≠ c) (r : Array Value) : IsD (w.setRow c r) b n d := (setRow_other w c b r hne).trans h
theorem wbelow_row {B b : Nat} {w w1 : World} (h : Below B w w1) (hb : B ≤ b) (r : Array Value) : Below B w (w1.setRow b r) := h.trans ⟨rfl, rfl, rfl, by simp [World.setRow], fun k hk => setRow_other w1 b k r (by omega)⟩
section
variable {ops : Array Oper} {rest : List Oper} {o : Oper} {a : Act} {w : World} {K : Act → World → Prop} {Q : Exit → Act → World → Prop}
theorem wp_nalloc (ho : o.op = .alloc 147) (h : K (a.put o.dst (.pointer (some ⟨w.heap.size, 0, none⟩))) (w.alloc (oD false Z40))) : o.wp Tryz.prog a w K Q := by
 unfold Oper.wp execOp
 simp only [ho, Sem.run_bind, Sem.run_pure, Result.andThen, f_alloc]
 exact h
theorem wp_nbuild0 (ho : o.op = .build 147 #[]) (h : K (a.put o.dst (nv false Z40)) w) : o.wp Tryz.prog a w K Q := by
 unfold Oper.wp execOp
 simp only [ho, Sem.run_bind, Sem.run_pure, Result.andThen, List.map_toArray, List.map_nil, f_build0]
 exact h
theorem wp_nbuild1 {x : Operand} {n : Bool} (ho : o.op = .build 147 #[(0, x)]) (hx : a.eval x = .bool n) (h : K (a.put o.dst (nv n Z40)) w) : o.wp Tryz.prog a w K Q := by
 unfold Oper.wp execOp
 simp only [ho, hx, Sem.run_bind, Sem.run_pure, Result.andThen, List.map_toArray, List.map_nil, List.map_cons, f_build1]
 exact h
theorem wp_nbox {x : Operand} {n : Bool} {d : List Int} (ho : o.op = .box 147 x) (hx : a.eval x = nv n d) (h : K (a.put o.dst (.pointer (some ⟨w.heap.size, 0, none⟩))) (w.alloc (oD n d))) : o.wp Tryz.prog a w K Q := by
 unfold Oper.wp execOp
 simp only [ho, hx, Sem.run_bind, Sem.run_pure, Result.andThen, f_box]
 exact h
theorem wp_nload {x : Operand} {b : Nat} {n : Bool} {d : List Int} (ho : o.op = .load 147 x) (hx : a.eval x = .pointer (some ⟨b, 0, none⟩)) (hd : IsD w b n d) (hl : d.length = 40) (h : K (a.put o.dst (nv n d)) w) : o.wp Tryz.prog a w K Q := by
 unfold Oper.wp execOp
 simp only [ho, hx, Sem.run_bind, Sem.run_pure, Result.andThen, f_load hd hl]
 exact h
theorem wp_nstore {x y : Operand} {b : Nat} {n m : Bool} {d e : List Int} (ho : o.op = .store 147 x y) (hx : a.eval x = .pointer (some ⟨b, 0, none⟩)) (hy : a.eval y = nv m e) (hd : IsD w b n d) (hl : d.length = 40) (hl2 : e.length = 40)
 (h : K (a.put o.dst undef) (w.setRow b (nc m e).toArray)) : o.wp Tryz.prog a w K Q := by
 unfold Oper.wp execOp
 simp only [ho, hx, hy, Sem.run_bind, Sem.run_pure, Result.andThen, f_store hd hl hl2]
 exact h
theorem wpl_nalloc (hgd : o.guard = none) (ho : o.op = .alloc 147) (h : wpList Tryz.prog ops Q rest (a.put o.dst (.pointer (some ⟨w.heap.size, 0, none⟩))) (w.alloc (oD false Z40))) : wpList Tryz.prog ops Q (o :: rest) a w :=
 wpList_plain hgd fun _ hK => wp_nalloc ho (hK _ _ h)
theorem wpl_nbuild0 (hgd : o.guard = none) (ho : o.op = .build 147 #[]) (h : wpList Tryz.prog ops Q rest (a.put o.dst (nv false Z40)) w) : wpList Tryz.prog ops Q (o :: rest) a w :=
 wpList_plain hgd fun _ hK => wp_nbuild0 ho (hK _ _ h)
theorem wpl_nbuild1 {x : Operand} {n : Bool} (hgd : o.guard = none) (ho : o.op = .build 147 #[(0, x)]) (hx : a.eval x = .bool n) (h : wpList Tryz.prog ops Q rest (a.put o.dst (nv n Z40)) w) : wpList Tryz.prog ops Q (o :: rest) a w :=
 wpList_plain hgd fun _ hK => wp_nbuild1 ho hx (hK _ _ h)
theorem wpl_nbox {x : Operand} {n : Bool} {d : List Int} (hgd : o.guard = none) (ho : o.op = .box 147 x) (hx : a.eval x = nv n d) (h : wpList Tryz.prog ops Q rest (a.put o.dst (.pointer (some ⟨w.heap.size, 0, none⟩))) (w.alloc (oD n d))) : wpList Tryz.prog ops Q (o :: rest) a w :=
 wpList_plain hgd fun _ hK => wp_nbox ho hx (hK _ _ h)
theorem wpl_nload {x : Operand} {b : Nat} {n : Bool} {d : List Int} (hgd : o.guard = none) (ho : o.op = .load 147 x) (hx : a.eval x = .pointer (some ⟨b, 0, none⟩)) (hd : IsD w b n d) (hl : d.length = 40) (h : wpList Tryz.prog ops Q rest (a.put o.dst (nv n d)) w) : wpList Tryz.prog ops Q (o :: rest) a w :=
 wpList_plain hgd fun _ hK => wp_nload ho hx hd hl (hK _ _ h)
theorem wpl_nstore {x y : Operand} {b : Nat} {n m : Bool} {d e : List Int} (hgd : o.guard = none) (ho : o.op = .store 147 x y) (hx : a.eval x = .pointer (some ⟨b, 0, none⟩)) (hy : a.eval y = nv m e) (hd : IsD w b n d) (hl : d.length = 40) (hl2 : e.length = 40)
 (h : wpList Tryz.prog ops Q rest (a.put o.dst undef) (w.setRow b (nc m e).toArray)) : wpList Tryz.prog ops Q (o :: rest) a w :=
 wpList_plain hgd fun _ hK => wp_nstore ho hx hy hd hl hl2 (hK _ _ h)
end
theorem wpl_nstore_new {ops : Array Oper} {rest : List Oper} {o : Oper} {a : Act} {w : World} {Q : Exit → Act → World → Prop} {x y : Operand} {b : Nat} {n m : Bool} {d e : List Int} (hgd : o.guard = none) (ho : o.op = .store 147 x y) (hx : a.eval x = .pointer (some ⟨b, 0, none⟩)) (hy : a.eval y = nv m e) (hb : w.heap.size = b) (hl : d.length = 40) (hl2 : e.length = 40)
 (h : wpList Tryz.prog ops Q rest (a.put o.dst undef) (w.alloc (oD m e))) : wpList Tryz.prog ops Q (o :: rest) a (w.alloc (oD n d)) := by
 subst hb
 refine wpl_nstore hgd ho hx hy (IsD.new w n d) hl hl2 ?_
 rw [show (w.alloc (oD n d)).setRow w.heap.size (nc m e).toArray = w.alloc (oD m e) from World.setRow_alloc_new _ _ _ _]
 exact h
/-- a result that is a number -/
theorem n_result {fn : Func} {p : Tmp} (h : fn.results = #[.cell p 147]) (tmps : Array Value) (w : World) (b : Nat) (n : Bool) (d : List Int) (hp : tmps.getD p undef = .pointer (some ⟨b, 0, none⟩)) (hd : IsD w b n d) (hl : d.length = 40) :
 (results fn tmps).run Tryz.prog w = .ok (nv n d) w :=
 results_cell_row h tmps w b 147 (nc n d).toArray (0, 0) _ hp hd rfl rfl (by rw [num_info]; simp [nc_length, hl])
/-- a number without its j lowest digits -/
def dv : Nat → Int → Int
 | 0, v => v
 | j + 1, v => dv j v / 256
def fromD (l h : Int) : Nat → List Int
 | 0 => Z40
 | j + 1 => ((fromD l h j).set j (dv j l % 256)).set (8 + j) (dv j h % 256)
theorem fromD_length (l h : Int) (j : Nat) : (fromD l h j).length = 40 := by
 induction j with
 | zero => rfl
 | succ j ih => rw [fromD, List.length_set, List.length_set, ih]
theorem fromD_all (l h : Int) : fromD l h 8 = digN 8 l ++ digN 8 h ++ List.replicate 24 0 := rfl
theorem dv_bd (j : Nat) {v : Int} (h0 : 0 ≤ v) (h1 : v ≤ 18446744073709551615) : 0 ≤ dv j v ∧ dv j v ≤ 18446744073709551615 := by
 induction j with
 | zero => exact ⟨h0, h1⟩
 | succ j ih => rw [dv]; omega
theorem from_d (x : WI) (ho : x.Ok) (w : World) :
 Calls Tryz.prog 97 #[wv x] w fun r w' => r = .returned (nv x.n (digN 8 x.l ++ digN 8 x.h ++ List.replicate 24 0)) ∧ Below w.heap.size w w' := by
 obtain ⟨xn, xh, xl⟩ := x
 obtain ⟨o1, o2, o3, o4⟩ := ho
 unfold wv
 dsimp only at *
 rw [← fromD_all]
 go_enter Tryz.func97, Tryz.ntmps97
 go_wp2_with (first | (with_reducible refine wpl_nalloc rfl rfl ?_) | (with_reducible refine wpl_nbuild1 rfl rfl rfl ?_) | (with_reducible refine wpl_nstore_new rfl rfl rfl rfl (by simp) rfl rfl ?_))
 have g0 := IsD.new ((w.alloc (oN ⟨xn, xh, xl⟩)).alloc (oD false Z40)) xn Z40
 have g1 := (IsD.new (w.alloc (oN ⟨xn, xh, xl⟩)) false Z40).alloc (oD xn Z40)
 have hb0 := (below2 w (oN ⟨xn, xh, xl⟩) (oD false Z40)).alloc (by rw [wsize_alloc, wsize_alloc]; omega) (oD xn Z40)
 simp only [wsize_alloc] at g0 g1
 replace g0 := Hd g0
 replace g1 := Hd g1
 replace hb0 := Hd hb0
 go_loopw [4, 5, 6] (fun h l i wr => ∃ j : Nat, j ≤ 8 ∧ i = .int .i64 j ∧ l = .int .u64 (dv j xl) ∧ h = .int .u64 (dv j xh) ∧ IsD wr (w.heap.size + 1 + 1) xn (fromD xl xh j) ∧ IsD wr (w.heap.size + 1) false Z40 ∧ Below w.heap.size w wr) (fun _ _ i _ => 8 - (intOf i).toNat)
 case atStart => exact ⟨0, Nat.zero_le _, rfl, rfl, rfl, g0.out, g1.out, hb0.out⟩
 case round =>
  obtain ⟨j, hj, rfl, rfl, rfl, gx, gz, hb⟩ := hrel
  by_cases hlt : j < 8
  ·obtain ⟨l0, l1⟩ := dv_bd j o3 o4
   obtain ⟨h0, h1⟩ := dv_bd j o1 o2
   have hfd : fromD xl xh (j + 1) = ((fromD xl xh j).set j (dv j xl % 256)).set (8 + j) (dv j xh % 256) := rfl
   have hdl : dv (j + 1) xl = dv j xl / 256 := rfl
   have hdh : dv (j + 1) xh = dv j xh / 256 := rfl
   have hlen := fromD_length xl xh j
   generalize hD' : fromD xl xh (j + 1) = D' at *
   generalize hl' : dv (j + 1) xl = l' at *
   generalize hh' : dv (j + 1) xh = h' at *
   replace hD' := Hd hD'
   replace hl' := Hd hl'
   replace hh' := Hd hh'
   generalize fromD xl xh j = D at *
   generalize dv j xl = ll at *
   generalize dv j xh = hh at *
   obtain ⟨v1, c1⟩ := gx.has j (by omega)
   have f1 := gx.f (1 + j)
   have gx1 := gx.set j (ll % 256)
   obtain ⟨v2, c2⟩ := gx1.has (8 + j) (by rw [List.length_set]; omega)
   have f2 := gx1.f (1 + (8 + j))
   replace gx := Hd gx
   replace gx1 := Hd gx1
   replace gz := Hd gz
   replace hb := Hd hb
   replace hfd := Hd hfd
   replace hdl := Hd hdl
   replace hdh := Hd hdh
   replace hlen := Hd hlen
   go_wp2_with fail
   go_roundw
   case rel => exact ⟨j + 1, by omega, by go_num, by rw [← hdl.out, hl'.out], by rw [← hdh.out, hh'.out], by rw [hD'.out, hfd.out]; exact gx1.out.set (8 + j) _, (gz.out.set_other (by omega)).set_other (by omega), (hb.out.setCell (show w.heap.size ≤ w.heap.size + 1 + 1 by omega) _).setCell (show w.heap.size ≤ w.heap.size + 1 + 1 by omega) _⟩
   case measure => simp [intOf]; omega
  ·obtain rfl : j = 8 := by omega
   have hl := fromD_length xl xh 8
   generalize hDD : fromD xl xh 8 = D at *
   replace hDD := Hd hDD
   replace hb := Hd hb
   go_wp2_with (first | (with_reducible refine wpl_nload rfl rfl rfl gx hl ?_) | (with_reducible refine wpl_nstore rfl rfl rfl rfl gz rfl hl ?_))
   (try simp only [Exit.inBlock, Exit.then])
   refine bodyPost_ret (n_result Tryz.results97 _ _ _ _ _ rfl (gz.row xn D) hl) rfl ?_
   exact ⟨by rw [hDD.out], wbelow_row hb.out (by omega) _⟩
end Go.Proofs.YtjjgbillihedgaaGreatDoor
namespace Go.Proofs.YtjjgbillihedgaaGreatDoor
open Go.RowKit
open Rf
open Wide
theorem IsD.drew {w : World} {b : Nat} {n : Bool} {d : List Int} (h : IsD w b n d) : IsD w.drew b n d := h
theorem isD_drewN {w : World} {b k : Nat} {n : Bool} {d : List Int} (h : IsD w b n d) : IsD (w.drewN k) b n d := h
theorem wbelow_drewN {B k : Nat} {a w : World} (h : Below B a w) : Below B a (w.drewN k) := h.trans ⟨rfl, rfl, rfl, Nat.le_refl _, fun _ _ => rfl⟩
theorem two_nd (w : World) (n m : Bool) (d e : List Int) : IsD ((w.alloc (oD n d)).alloc (oD m e)) w.heap.size n d ∧ IsD ((w.alloc (oD n d)).alloc (oD m e)) (w.heap.size + 1) m e := by
 refine ⟨(IsD.new w n d).alloc _, ?_⟩
 have := IsD.new (w.alloc (oD n d)) m e
 rwa [wsize_alloc] at this
theorem size_d (n m : Bool) (d e : List Int) (hd : Dig d) (he : Dig e) (h1 : d.length = 40) (h2 : e.length = 40) (w : World) :
 Calls Tryz.prog 122 #[nv n d, nv m e] w fun r w' => r = .returned (.int .i64 (sgn (valN d - valN e))) ∧ Below w.heap.size w w' := by
 obtain ⟨t, ht⟩ : ∃ t, sgn (valN d - valN e) = t := ⟨_, rfl⟩
 rw [ht]
 replace ht := Hd ht
 go_enter Tryz.func122, Tryz.ntmps122
 go_wp2_with (first | (with_reducible refine wpl_nbox rfl rfl rfl ?_))
 obtain ⟨ga0, gb0⟩ := two_nd w n m d e
 have hb0 := Hd (below2 w (oD n d) (oD m e))
 replace ga0 := Hd ga0
 replace gb0 := Hd gb0
 go_loopw [5] (fun i wr => ∃ j : Int, -1 ≤ j ∧ j ≤ 39 ∧ i = .int .i64 j ∧ d.drop (j + 1).toNat = e.drop (j + 1).toNat ∧ IsD wr w.heap.size n d ∧ IsD wr (w.heap.size + 1) m e ∧ Below w.heap.size w wr) (fun i _ => (intOf i + 1).toNat)
 case atStart => exact ⟨39, by decide, by decide, rfl, by rw [List.drop_of_length_le (by omega), List.drop_of_length_le (by omega)], ga0.out, gb0.out, hb0.out⟩
 case round =>
  obtain ⟨j, hj0, hj1, rfl, hdr, ga, gb, hb⟩ := hrel
  clear ga0 gb0 hb0
  by_cases hlt : 0 ≤ j
  ·obtain ⟨i, rfl⟩ := Int.eq_ofNat_of_zero_le hlt
   rw [show ((i : Int) + 1).toNat = i + 1 by omega] at hdr
   have ca := ga.cell i (by omega)
   have cb := gb.cell i (by omega)
   have hm1 := Hd (valN_more d e hd he i (by omega) (by omega) hdr)
   have hm2 := Hd (valN_more e d he hd i (by omega) (by omega) hdr.symm)
   have heq : d[i]'(by omega) = e[i]'(by omega) → d.drop i = e.drop i := fun h => by rw [List.drop_eq_getElem_cons (by omega), List.drop_eq_getElem_cons (l := e) (by omega), h, hdr]
   replace heq := Hd heq
   replace hd := Hd hd
   replace he := Hd he
   replace hdr := Hd hdr
   replace h1 := Hd h1
   replace h2 := Hd h2
   replace ga := Hd ga
   replace gb := Hd gb
   replace hb := Hd hb
   generalize hx : d[i]'(by have := h1.out; omega) = x at *
   generalize hy : e[i]'(by have := h2.out; omega) = y at *
   clear hx hy
   rcases Int.lt_trichotomy x y with hxy | hxy | hxy
   ·go_wp2_with fail
    go_quiet (fail)
    go_wp2_with fail
    go_quiet (fail)
    go_wp2_with fail
    go_ret
    exact ⟨by rw [← ht.out, sgn_neg (by have := hm2.out hxy; omega)]; rfl, wbelow_drewN (wbelow_drewN hb.out)⟩
   ·subst hxy
    have hn : ¬ x < x := Int.lt_irrefl x
    go_wp2_with fail
    go_quiet (fail)
    go_wp2_with fail
    go_quiet (fail)
    go_wp2_with fail
    go_roundw
    case rel => exact ⟨(i : Int) - 1, by omega, by omega, rfl, by rw [show ((i : Int) - 1 + 1).toNat = i by omega]; exact heq.out (by simp), isD_drewN ga.out, isD_drewN gb.out, wbelow_drewN hb.out⟩
    case measure => simp [intOf]
   ·go_wp2_with fail
    go_quiet (fail)
    go_wp2_with fail
    go_ret
    exact ⟨by rw [← ht.out, sgn_pos (by have := hm1.out hxy; omega)]; rfl, wbelow_drewN hb.out⟩
  ·obtain rfl : j = -1 := by omega
   go_wp2_with fail
   go_ret
   refine ⟨?_, hb⟩
   rw [← ht.out, show d = e from hdr, Int.sub_self]; rfl
/-- the number of an Int's digits -/
def dgs (x : WI) : List Int := digN 8 x.l ++ digN 8 x.h ++ List.replicate 24 0
theorem dgs_length (x : WI) : (dgs x).length = 40 := by simp [dgs, digN_length]
theorem dgs_dig (x : WI) : Dig (dgs x) := ((digN_dig 8 x.l).append (digN_dig 8 x.h)).append fun c hc => by rw [List.eq_of_mem_replicate hc]; omega
theorem dgs_val {x : WI} (ho : x.Ok) : valN (dgs x) = x.sz := by
 obtain ⟨o1, o2, o3, o4⟩ := ho
 have e : (256 : Int) ^ 8 = 18446744073709551616 := by decide
 unfold dgs WI.sz
 rw [valN_append, valN_append, valN_zero, digN_val 8 x.l o3 (by omega), digN_val 8 x.h o1 (by omega), digN_length, e]
 omega
theorem from_c (x : WI) (ho : x.Ok) (w : World) : Calls Tryz.prog 97 #[wv x] w fun r w' => r = .returned (nv x.n (dgs x)) ∧ Below w.heap.size w w' := from_d x ho w
end Go.Proofs.YtjjgbillihedgaaGreatDoor
namespace Go.Proofs.YtjjgbillihedgaaGreatDoor
namespace Wide
theorem valN_set (l : List Int) (i : Nat) (hi : i < l.length) (v : Int) : valN (l.set i v) = valN l + 256 ^ i * (v - l[i]) := by
 induction l generalizing i with
 | nil => cases hi
 | cons c l ih =>
   cases i with
   | zero => simp only [List.set_cons_zero, valN, List.getElem_cons_zero, Int.pow_zero, Int.one_mul]; omega
   | succ i =>
     simp only [List.set_cons_succ, valN, List.getElem_cons_succ]
     rw [ih i (by simpa using hi), Int.pow_succ, Int.mul_add, Int.mul_comm (256 ^ i) 256, Int.mul_assoc]
     omega
theorem valN_take (l : List Int) (i : Nat) (hi : i < l.length) : valN (l.take (i + 1)) = valN (l.take i) + 256 ^ i * l[i] := by
 rw [List.take_succ_eq_append_getElem hi, valN_append, List.length_take, Nat.min_eq_left (by omega)]
 simp [valN]
theorem valN_take_set (l : List Int) (i : Nat) (hi : i < l.length) (v : Int) : valN ((l.set i v).take (i + 1)) = valN (l.take i) + 256 ^ i * v := by
 rw [valN_take _ i (by simpa using hi), List.getElem_set_self, List.take_set_of_le (Nat.le_refl i)]
theorem pow_pos256 (i : Nat) : (1 : Int) ≤ 256 ^ i := by
 induction i with
 | zero => decide
 | succ i ih => rw [Int.pow_succ]; omega
/-- a difference's step -/
theorem minus_step (o d e : List Int) (j : Nat) (hj : j < o.length) (h1 : j < d.length) (h2 : j < e.length) (b b' v : Int) (hv : v = d[j] - e[j] - b + 256 * b')
 (h : valN (o.take j) - 256 ^ j * b = valN (d.take j) - valN (e.take j)) : valN ((o.set j v).take (j + 1)) - 256 ^ (j + 1) * b' = valN (d.take (j + 1)) - valN (e.take (j + 1)) := by
 rw [valN_take_set o j hj, valN_take d j h1, valN_take e j h2, Int.pow_succ, hv]
 generalize (256 : Int) ^ j = p at *
 have e1 : p * (d[j] - e[j] - b + 256 * b') = p * d[j] - p * e[j] - p * b + p * 256 * b' := by rw [Int.mul_add, Int.mul_sub, Int.mul_sub, Int.mul_assoc]
 omega
/-- a sum's step -/
theorem plus_step (o d e : List Int) (j : Nat) (hj : j < o.length) (h1 : j < d.length) (h2 : j < e.length) (c c' v : Int) (hv : v + 256 * c' = d[j] + e[j] + c)
 (h : valN (o.take j) + 256 ^ j * c = valN (d.take j) + valN (e.take j)) : valN ((o.set j v).take (j + 1)) + 256 ^ (j + 1) * c' = valN (d.take (j + 1)) + valN (e.take (j + 1)) := by
 rw [valN_take_set o j hj, valN_take d j h1, valN_take e j h2, Int.pow_succ]
 generalize (256 : Int) ^ j = p at *
 have e1 : p * v + p * 256 * c' = p * d[j] + p * e[j] + p * c := by rw [Int.mul_assoc, ← Int.mul_add, hv, Int.mul_add, Int.mul_add]
 omega
theorem take_whole {l : List Int} {n : Nat} (h : l.length = n) : l.take n = l := List.take_of_length_le (by omega)
/-- the end of a difference -/
theorem minus_end (o d e : List Int) (ho : o.length = 40) (hd : d.length = 40) (he : e.length = 40) (b : Int) (hb : b = 0 ∨ b = 1) (hoD : Dig o) (hle : valN e ≤ valN d)
 (h : valN (o.take 40) - 256 ^ 40 * b = valN (d.take 40) - valN (e.take 40)) : o = digN 40 (valN d - valN e) := by
 rw [take_whole ho, take_whole hd, take_whole he] at h
 have hbd := valN_bd hoD
 rw [ho] at hbd
 have : b = 0 := by
  rcases hb with rfl | rfl
  ·rfl
  ·omega
 subst this
 rw [Int.mul_zero, Int.sub_zero] at h
 have := dig_of_val o hoD
 rw [ho, h] at this
 exact this
/-- the end of a sum -/
theorem plus_end (o d e : List Int) (ho : o.length = 40) (hd : d.length = 40) (he : e.length = 40) (c : Int) (hc : c = 0 ∨ c = 1) (hoD : Dig o) (hlt : valN d + valN e < 256 ^ 40)
 (h : valN (o.take 40) + 256 ^ 40 * c = valN (d.take 40) + valN (e.take 40)) : o = digN 40 (valN d + valN e) := by
 rw [take_whole ho, take_whole hd, take_whole he] at h
 have hbd := valN_bd hoD
 rw [ho] at hbd
 have : c = 0 := by
  rcases hc with rfl | rfl
  ·rfl
  ·omega
 subst this
 rw [Int.mul_zero, Int.add_zero] at h
 have := dig_of_val o hoD
 rw [ho, h] at this
 exact this
/-- one more digit of a product -/
theorem times_step (o : List Int) (p : Nat) (hp : p < o.length) (c x T : Int) (h : valN o + 256 ^ p * c + 256 ^ p * x = T) : valN (o.set p ((o[p] + c + x) % 256)) + 256 ^ (p + 1) * ((o[p] + c + x) / 256) = T := by
 rw [valN_set o p hp, Int.pow_succ]
 have e : (o[p] + c + x) % 256 + 256 * ((o[p] + c + x) / 256) = o[p] + c + x := by omega
 generalize (o[p] + c + x) % 256 = r at *
 generalize (o[p] + c + x) / 256 = q at *
 generalize (256 : Int) ^ p = P at *
 have e1 : P * (r - o[p]) + P * 256 * q = P * c + P * x := by
  rw [Int.mul_assoc, ← Int.mul_add, ← Int.mul_add]
  congr 1; omega
 omega
end Wide
open Go.RowKit
open Rf
open Wide
/-- four numbers, made one behind the other -/
theorem four_nd (w : World) (n m z r : Bool) (d e f g : List Int) :
 IsD ((((w.alloc (oD n d)).alloc (oD m e)).alloc (oD z f)).alloc (oD r g)) w.heap.size n d ∧ IsD ((((w.alloc (oD n d)).alloc (oD m e)).alloc (oD z f)).alloc (oD r g)) (w.heap.size + 1) m e ∧
 IsD ((((w.alloc (oD n d)).alloc (oD m e)).alloc (oD z f)).alloc (oD r g)) (w.heap.size + 1 + 1) z f ∧ IsD ((((w.alloc (oD n d)).alloc (oD m e)).alloc (oD z f)).alloc (oD r g)) (w.heap.size + 1 + 1 + 1) r g ∧
 Below w.heap.size w ((((w.alloc (oD n d)).alloc (oD m e)).alloc (oD z f)).alloc (oD r g)) := by
 obtain ⟨h1, h2⟩ := two_nd w n m d e
 refine ⟨(h1.alloc _).alloc _, (h2.alloc _).alloc _, ?_, ?_, ((below2 w _ _).alloc (by rw [wsize_alloc, wsize_alloc]; omega) _).alloc (by rw [wsize_alloc, wsize_alloc, wsize_alloc]; omega) _⟩
 ·have := (IsD.new ((w.alloc (oD n d)).alloc (oD m e)) z f).alloc (oD r g)
  rwa [wsize_alloc, wsize_alloc] at this
 ·have := IsD.new (((w.alloc (oD n d)).alloc (oD m e)).alloc (oD z f)) r g
  rwa [wsize_alloc, wsize_alloc, wsize_alloc] at this
theorem neg3 (w : World) (n m z : Bool) (d e f : List Int) : (((w.alloc (oD n d)).alloc (oD m e)).alloc (oD z f)).cell? ⟨w.heap.size, 0, none⟩ = some (.bool n) := (((IsD.new w n d).alloc _).alloc _).neg
theorem neg3' (w : World) (n m z : Bool) (d e f : List Int) : (((w.alloc (oD n d)).alloc (oD m e)).alloc (oD z f)).cell? ⟨w.heap.size + 1, 0, none⟩ = some (.bool m) := ((two_nd w n m d e).2.alloc _).neg
theorem minus_d (n m : Bool) (d e : List Int) (hd : Dig d) (he : Dig e) (h1 : d.length = 40) (h2 : e.length = 40) (hle : valN e ≤ valN d) (w : World) :
 Calls Tryz.prog 123 #[nv n d, nv m e] w fun r w' => r = .returned (nv n (digN 40 (valN d - valN e))) ∧ Below w.heap.size w w' := by
 obtain ⟨R, hR⟩ : ∃ R, digN 40 (valN d - valN e) = R := ⟨_, rfl⟩
 rw [hR]
 replace hR := Hd hR
 have hn1 := neg3 w n m false d e Z40
 have hn2 := neg3' w n m false d e Z40
 go_enter Tryz.func123, Tryz.ntmps123
 go_wp2_with (first | (with_reducible refine wpl_nbox rfl rfl rfl ?_) | (with_reducible refine wpl_nalloc rfl rfl ?_) | (with_reducible refine wpl_nbuild1 rfl rfl rfl ?_) | (with_reducible refine wpl_nstore_new rfl rfl rfl rfl (by simp) rfl rfl ?_))
 clear hn1 hn2
 obtain ⟨gd0, ge0, gz0, go0, hb0⟩ := four_nd w n m false n d e Z40 Z40
 replace gd0 := Hd gd0
 replace ge0 := Hd ge0
 replace gz0 := Hd gz0
 replace go0 := Hd go0
 replace hb0 := Hd hb0
 go_loopw [6, 7] (fun c i wr => ∃ (j : Nat) (o : List Int) (b : Int), j ≤ 40 ∧ i = .int .i64 j ∧ c = .int .i64 b ∧ (b = 0 ∨ b = 1) ∧ o.length = 40 ∧ Dig o ∧ valN (o.take j) - 256 ^ j * b = valN (d.take j) - valN (e.take j) ∧
  IsD wr w.heap.size n d ∧ IsD wr (w.heap.size + 1) m e ∧ IsD wr (w.heap.size + 1 + 1) false Z40 ∧ IsD wr (w.heap.size + 1 + 1 + 1) n o ∧ Below w.heap.size w wr) (fun _ i _ => 40 - (intOf i).toNat)
 case atStart => exact ⟨0, Z40, 0, Nat.zero_le _, rfl, rfl, .inl rfl, rfl, Z40_dig, rfl, gd0.out, ge0.out, gz0.out, go0.out, hb0.out⟩
 case round =>
  clear gd0 ge0 gz0 go0 hb0
  obtain ⟨j, o, b, hj, rfl, rfl, hb01, ho, hoD, hinv, gd, ge, gz, gox, hb⟩ := hrel
  by_cases hlt' : j < 40
  ·have cd := gd.cell j (by omega)
   have ce := ge.cell j (by omega)
   obtain ⟨v0, cx⟩ := gox.has j (by omega)
   have fx := gox.f (1 + j)
   have bd := hd.get j (by omega)
   have be := he.get j (by omega)
   have hstep := fun (b' v : Int) => minus_step o d e j (by omega) (by omega) (by omega) b b' v
   replace hstep := Hd hstep
   replace hinv := Hd hinv
   replace hd := Hd hd
   replace he := Hd he
   replace h1 := Hd h1
   replace h2 := Hd h2
   replace ho := Hd ho
   replace gd := Hd gd
   replace ge := Hd ge
   replace gz := Hd gz
   replace gox := Hd gox
   replace hb := Hd hb
   replace hoD := Hd hoD
   generalize hx : d[j]'(by have := h1.out; omega) = x at *
   generalize hy : e[j]'(by have := h2.out; omega) = y at *
   clear hx hy
   have hb0 : 0 ≤ b := by omega
   have hb1 : b ≤ 1 := by omega
   have e1 : IntKind.i64.wrap (x - y) = x - y := IntWalk.i64_in _ (by omega)
   have e2 : IntKind.i64.wrap (x - y - b) = x - y - b := IntWalk.i64_in _ (by omega)
   by_cases hk : x - y - b < 0
   ·go_wp2_with fail
    go_quiet (fail)
    clear e1 e2 cd ce
    go_wp2_with fail
    go_roundw
    case rel => exact ⟨j + 1, o.set j (x - y - b + 256), 1, by omega, by go_num, rfl, by omega, by rw [List.length_set]; exact ho.out, hoD.out.set j (by omega), hstep.out (1) (x - y - b + 256) (by omega) hinv.out, (isD_drewN gd.out).set_other (by omega), (isD_drewN ge.out).set_other (by omega), (isD_drewN gz.out).set_other (by omega), (isD_drewN gox.out).set j _, (wbelow_drewN hb.out).setCell (show w.heap.size ≤ w.heap.size + 1 + 1 + 1 by omega) _⟩
    case measure => simp [intOf]; omega
   ·go_wp2_with fail
    go_quiet (fail)
    clear e1 e2 cd ce
    go_wp2_with fail
    go_roundw
    case rel => exact ⟨j + 1, o.set j (x - y - b), 0, by omega, by go_num, rfl, by omega, by rw [List.length_set]; exact ho.out, hoD.out.set j (by omega), hstep.out (0) (x - y - b) (by omega) hinv.out, (isD_drewN gd.out).set_other (by omega), (isD_drewN ge.out).set_other (by omega), (isD_drewN gz.out).set_other (by omega), (isD_drewN gox.out).set j _, (wbelow_drewN hb.out).setCell (show w.heap.size ≤ w.heap.size + 1 + 1 + 1 by omega) _⟩
    case measure => simp [intOf]; omega
  ·obtain rfl : j = 40 := by omega
   have hend := minus_end o d e ho h1 h2 b hb01 hoD hle hinv
   rw [hR.out] at hend
   subst hend
   clear hinv hoD
   replace hb := Hd hb
   go_wp2_with (first | (with_reducible refine wpl_nload rfl rfl rfl gox ho ?_) | (with_reducible refine wpl_nstore rfl rfl rfl rfl gz rfl ho ?_))
   (try simp only [Exit.inBlock, Exit.then])
   refine bodyPost_ret (n_result Tryz.results123 _ _ _ _ _ rfl (gz.row n o) ho) rfl ?_
   exact ⟨rfl, wbelow_row hb.out (by omega) _⟩
theorem add_same (n : Bool) (d e : List Int) (hd : Dig d) (he : Dig e) (h1 : d.length = 40) (h2 : e.length = 40) (hlt : valN d + valN e < 256 ^ 40) (w : World) :
 Calls Tryz.prog 152 #[nv n d, nv n e] w fun r w' => r = .returned (nv n (digN 40 (valN d + valN e))) ∧ Below w.heap.size w w' := by
 obtain ⟨R, hR⟩ : ∃ R, digN 40 (valN d + valN e) = R := ⟨_, rfl⟩
 rw [hR]
 replace hR := Hd hR
 have hn1 := neg3 w n n false d e Z40
 have hn2 := neg3' w n n false d e Z40
 go_enter Tryz.func152, Tryz.ntmps152
 go_wp2_with (first | (with_reducible refine wpl_nbox rfl rfl rfl ?_) | (with_reducible refine wpl_nalloc rfl rfl ?_) | (with_reducible refine wpl_nbuild1 rfl rfl rfl ?_) | (with_reducible refine wpl_nstore_new rfl rfl rfl rfl (by simp) rfl rfl ?_))
 clear hn1 hn2
 obtain ⟨gd0, ge0, gz0, go0, hb0⟩ := four_nd w n n false n d e Z40 Z40
 replace gd0 := Hd gd0
 replace ge0 := Hd ge0
 replace gz0 := Hd gz0
 replace go0 := Hd go0
 replace hb0 := Hd hb0
 go_loopw [6, 7] (fun c i wr => ∃ (j : Nat) (o : List Int) (b : Int), j ≤ 40 ∧ i = .int .i64 j ∧ c = .int .i64 b ∧ (b = 0 ∨ b = 1) ∧ o.length = 40 ∧ Dig o ∧ valN (o.take j) + 256 ^ j * b = valN (d.take j) + valN (e.take j) ∧
  IsD wr w.heap.size n d ∧ IsD wr (w.heap.size + 1) n e ∧ IsD wr (w.heap.size + 1 + 1) false Z40 ∧ IsD wr (w.heap.size + 1 + 1 + 1) n o ∧ Below w.heap.size w wr) (fun _ i _ => 40 - (intOf i).toNat)
 case atStart => exact ⟨0, Z40, 0, Nat.zero_le _, rfl, rfl, .inl rfl, rfl, Z40_dig, rfl, gd0.out, ge0.out, gz0.out, go0.out, hb0.out⟩
 case round =>
  clear gd0 ge0 gz0 go0 hb0
  obtain ⟨j, o, b, hj, rfl, rfl, hb01, ho, hoD, hinv, gd, ge, gz, gox, hb⟩ := hrel
  by_cases hlt' : j < 40
  ·have cd := gd.cell j (by omega)
   have ce := ge.cell j (by omega)
   obtain ⟨v0, cx⟩ := gox.has j (by omega)
   have fx := gox.f (1 + j)
   have bd := hd.get j (by omega)
   have be := he.get j (by omega)
   have hstep := fun (b' v : Int) => plus_step o d e j (by omega) (by omega) (by omega) b b' v
   replace hstep := Hd hstep
   replace hinv := Hd hinv
   replace hd := Hd hd
   replace he := Hd he
   replace h1 := Hd h1
   replace h2 := Hd h2
   replace ho := Hd ho
   replace gd := Hd gd
   replace ge := Hd ge
   replace gz := Hd gz
   replace gox := Hd gox
   replace hb := Hd hb
   replace hoD := Hd hoD
   generalize hx : d[j]'(by have := h1.out; omega) = x at *
   generalize hy : e[j]'(by have := h2.out; omega) = y at *
   clear hx hy
   have hb0 : 0 ≤ b := by omega
   have hb1 : b ≤ 1 := by omega
   have e1 : IntKind.i64.wrap (x + y) = x + y := IntWalk.i64_in _ (by omega)
   have e2 : IntKind.i64.wrap (x + y + b) = x + y + b := IntWalk.i64_in _ (by omega)
   ·go_wp2_with fail
    go_quiet (fail)
    clear e1 e2 cd ce
    go_wp2_with fail
    go_roundw
    case rel => exact ⟨j + 1, o.set j ((x + y + b) % 256), (x + y + b) / 256, by omega, by go_num, rfl, by omega, by rw [List.length_set]; exact ho.out, hoD.out.set j (by omega), hstep.out ((x + y + b) / 256) ((x + y + b) % 256) (by omega) hinv.out, (isD_drewN gd.out).set_other (by omega), (isD_drewN ge.out).set_other (by omega), (isD_drewN gz.out).set_other (by omega), (isD_drewN gox.out).set j _, (wbelow_drewN hb.out).setCell (show w.heap.size ≤ w.heap.size + 1 + 1 + 1 by omega) _⟩
    case measure => simp [intOf]; omega
  ·obtain rfl : j = 40 := by omega
   have hend := plus_end o d e ho h1 h2 b hb01 hoD hlt hinv
   rw [hR.out] at hend
   subst hend
   clear hinv hoD
   replace hb := Hd hb
   go_wp2_with (first | (with_reducible refine wpl_nload rfl rfl rfl gox ho ?_) | (with_reducible refine wpl_nstore rfl rfl rfl rfl gz rfl ho ?_))
   (try simp only [Exit.inBlock, Exit.then])
   refine bodyPost_ret (n_result Tryz.results152 _ _ _ _ _ rfl (gz.row n o) ho) rfl ?_
   exact ⟨rfl, wbelow_row hb.out (by omega) _⟩
/-- three numbers, made one behind the other -/
theorem three_nd (w : World) (n m z : Bool) (d e f : List Int) :
 IsD (((w.alloc (oD n d)).alloc (oD m e)).alloc (oD z f)) w.heap.size n d ∧ IsD (((w.alloc (oD n d)).alloc (oD m e)).alloc (oD z f)) (w.heap.size + 1) m e ∧
 IsD (((w.alloc (oD n d)).alloc (oD m e)).alloc (oD z f)) (w.heap.size + 1 + 1) z f ∧ Below w.heap.size w (((w.alloc (oD n d)).alloc (oD m e)).alloc (oD z f)) := by
 obtain ⟨h1, h2⟩ := two_nd w n m d e
 refine ⟨h1.alloc _, h2.alloc _, ?_, (below2 w _ _).alloc (by rw [wsize_alloc, wsize_alloc]; omega) _⟩
 have := IsD.new ((w.alloc (oD n d)).alloc (oD m e)) z f
 rwa [wsize_alloc, wsize_alloc] at this
theorem wbelow_up {a b c : World} {B C : Nat} (h : Below B a b) (hC : B ≤ C) (k : Below C b c) : Below B a c := h.trans (k.mono hC)
theorem add_ge_tf (d e : List Int) (hd : Dig d) (he : Dig e) (h1 : d.length = 40) (h2 : e.length = 40) (hq : valN e ≤ valN d) (w : World) :
 Calls Tryz.prog 152 #[nv true d, nv false e] w fun r w' => r = .returned (nv true (digN 40 (valN d - valN e))) ∧ Below w.heap.size w w' := by
 obtain ⟨R, hR⟩ : ∃ R, digN 40 (valN d - valN e) = R := ⟨_, rfl⟩
 rw [hR]
 have hRl : R.length = 40 := by rw [← hR, digN_length]
 replace hR := Hd hR
 have hn1 := neg3 w true false false d e Z40
 have hn2 := neg3' w true false false d e Z40
 obtain ⟨gd, ge, gz, hb⟩ := three_nd w true false false d e Z40
 go_enter Tryz.func152, Tryz.ntmps152
 go_wp2_with (first | (with_reducible refine wpl_nbox rfl rfl rfl ?_) | (with_reducible refine wpl_nalloc rfl rfl ?_) | (with_reducible refine wpl_nload rfl rfl rfl gd h1 ?_) | (with_reducible refine wpl_nload rfl rfl rfl ge h2 ?_))
 clear hn1 hn2
 replace hd := Hd hd
 replace he := Hd he
 replace hq := Hd hq
 replace h1 := Hd h1
 replace h2 := Hd h2
 refine (size_d true false d e hd.out he.out h1.out h2.out _).mono ?_
 rintro r w1 ⟨rfl, hb1⟩
 have gd1 := gd.below hb1
 have ge1 := ge.below hb1
 have gz1 := gz.below hb1
 have hb2 := wbelow_up hb (by rw [wsize_alloc, wsize_alloc, wsize_alloc]; omega) hb1
 clear gd ge gz hb hb1
 obtain ⟨s, hs, h0⟩ : ∃ s, sgn (valN d - valN e) = s ∧ 0 ≤ s := ⟨_, rfl, by have := hq.out; unfold sgn; split <;> (try split) <;> omega⟩
 rw [hs]
 clear hs
 replace h1 := h1.out
 replace h2 := h2.out
 go_wp2_with (first | (with_reducible refine wpl_nload rfl rfl rfl gd1 h1 ?_) | (with_reducible refine wpl_nload rfl rfl rfl ge1 h2 ?_))
 replace h1 := Hd h1
 replace h2 := Hd h2
 refine (minus_d true false d e hd.out he.out h1.out h2.out hq.out _).mono ?_
 rintro r w2 ⟨rfl, hb3⟩
 rw [hR.out]
 have gz2 := gz1.below hb3
 have hb4 := wbelow_up hb2 hb2.size hb3
 clear gd1 ge1 gz1 hb2 hb3
 go_wp2_with (first | (with_reducible refine wpl_nstore rfl rfl rfl rfl gz2 rfl hRl ?_))
 (try simp only [Exit.inBlock, Exit.then])
 refine bodyPost_ret (n_result Tryz.results152 _ _ _ _ _ rfl (gz2.row true R) hRl) rfl ?_
 exact ⟨rfl, wbelow_row hb4 (by omega) _⟩
theorem add_lt_tf (d e : List Int) (hd : Dig d) (he : Dig e) (h1 : d.length = 40) (h2 : e.length = 40) (hq : valN d < valN e) (w : World) :
 Calls Tryz.prog 152 #[nv true d, nv false e] w fun r w' => r = .returned (nv false (digN 40 (valN e - valN d))) ∧ Below w.heap.size w w' := by
 obtain ⟨R, hR⟩ : ∃ R, digN 40 (valN e - valN d) = R := ⟨_, rfl⟩
 rw [hR]
 have hRl : R.length = 40 := by rw [← hR, digN_length]
 replace hR := Hd hR
 have hn1 := neg3 w true false false d e Z40
 have hn2 := neg3' w true false false d e Z40
 obtain ⟨gd, ge, gz, hb⟩ := three_nd w true false false d e Z40
 go_enter Tryz.func152, Tryz.ntmps152
 go_wp2_with (first | (with_reducible refine wpl_nbox rfl rfl rfl ?_) | (with_reducible refine wpl_nalloc rfl rfl ?_) | (with_reducible refine wpl_nload rfl rfl rfl gd h1 ?_) | (with_reducible refine wpl_nload rfl rfl rfl ge h2 ?_))
 clear hn1 hn2
 replace hd := Hd hd
 replace he := Hd he
 replace hq := Hd hq
 replace h1 := Hd h1
 replace h2 := Hd h2
 refine (size_d true false d e hd.out he.out h1.out h2.out _).mono ?_
 rintro r w1 ⟨rfl, hb1⟩
 have gd1 := gd.below hb1
 have ge1 := ge.below hb1
 have gz1 := gz.below hb1
 have hb2 := wbelow_up hb (by rw [wsize_alloc, wsize_alloc, wsize_alloc]; omega) hb1
 clear gd ge gz hb hb1
 rw [show sgn (valN d - valN e) = -1 from sgn_neg (by have := hq.out; omega)]
 replace h1 := h1.out
 replace h2 := h2.out
 go_wp2_with (first | (with_reducible refine wpl_nload rfl rfl rfl gd1 h1 ?_) | (with_reducible refine wpl_nload rfl rfl rfl ge1 h2 ?_))
 replace h1 := Hd h1
 replace h2 := Hd h2
 refine (minus_d false true e d he.out hd.out h2.out h1.out (Int.le_of_lt hq.out) _).mono ?_
 rintro r w2 ⟨rfl, hb3⟩
 rw [hR.out]
 have gz2 := gz1.below hb3
 have hb4 := wbelow_up hb2 hb2.size hb3
 clear gd1 ge1 gz1 hb2 hb3
 go_wp2_with (first | (with_reducible refine wpl_nstore rfl rfl rfl rfl gz2 rfl hRl ?_))
 (try simp only [Exit.inBlock, Exit.then])
 refine bodyPost_ret (n_result Tryz.results152 _ _ _ _ _ rfl (gz2.row false R) hRl) rfl ?_
 exact ⟨rfl, wbelow_row hb4 (by omega) _⟩
theorem add_ge_ft (d e : List Int) (hd : Dig d) (he : Dig e) (h1 : d.length = 40) (h2 : e.length = 40) (hq : valN e ≤ valN d) (w : World) :
 Calls Tryz.prog 152 #[nv false d, nv true e] w fun r w' => r = .returned (nv false (digN 40 (valN d - valN e))) ∧ Below w.heap.size w w' := by
 obtain ⟨R, hR⟩ : ∃ R, digN 40 (valN d - valN e) = R := ⟨_, rfl⟩
 rw [hR]
 have hRl : R.length = 40 := by rw [← hR, digN_length]
 replace hR := Hd hR
 have hn1 := neg3 w false true false d e Z40
 have hn2 := neg3' w false true false d e Z40
 obtain ⟨gd, ge, gz, hb⟩ := three_nd w false true false d e Z40
 go_enter Tryz.func152, Tryz.ntmps152
 go_wp2_with (first | (with_reducible refine wpl_nbox rfl rfl rfl ?_) | (with_reducible refine wpl_nalloc rfl rfl ?_) | (with_reducible refine wpl_nload rfl rfl rfl gd h1 ?_) | (with_reducible refine wpl_nload rfl rfl rfl ge h2 ?_))
 clear hn1 hn2
 replace hd := Hd hd
 replace he := Hd he
 replace hq := Hd hq
 replace h1 := Hd h1
 replace h2 := Hd h2
 refine (size_d false true d e hd.out he.out h1.out h2.out _).mono ?_
 rintro r w1 ⟨rfl, hb1⟩
 have gd1 := gd.below hb1
 have ge1 := ge.below hb1
 have gz1 := gz.below hb1
 have hb2 := wbelow_up hb (by rw [wsize_alloc, wsize_alloc, wsize_alloc]; omega) hb1
 clear gd ge gz hb hb1
 obtain ⟨s, hs, h0⟩ : ∃ s, sgn (valN d - valN e) = s ∧ 0 ≤ s := ⟨_, rfl, by have := hq.out; unfold sgn; split <;> (try split) <;> omega⟩
 rw [hs]
 clear hs
 replace h1 := h1.out
 replace h2 := h2.out
 go_wp2_with (first | (with_reducible refine wpl_nload rfl rfl rfl gd1 h1 ?_) | (with_reducible refine wpl_nload rfl rfl rfl ge1 h2 ?_))
 replace h1 := Hd h1
 replace h2 := Hd h2
 refine (minus_d false true d e hd.out he.out h1.out h2.out hq.out _).mono ?_
 rintro r w2 ⟨rfl, hb3⟩
 rw [hR.out]
 have gz2 := gz1.below hb3
 have hb4 := wbelow_up hb2 hb2.size hb3
 clear gd1 ge1 gz1 hb2 hb3
 go_wp2_with (first | (with_reducible refine wpl_nstore rfl rfl rfl rfl gz2 rfl hRl ?_))
 (try simp only [Exit.inBlock, Exit.then])
 refine bodyPost_ret (n_result Tryz.results152 _ _ _ _ _ rfl (gz2.row false R) hRl) rfl ?_
 exact ⟨rfl, wbelow_row hb4 (by omega) _⟩
theorem add_lt_ft (d e : List Int) (hd : Dig d) (he : Dig e) (h1 : d.length = 40) (h2 : e.length = 40) (hq : valN d < valN e) (w : World) :
 Calls Tryz.prog 152 #[nv false d, nv true e] w fun r w' => r = .returned (nv true (digN 40 (valN e - valN d))) ∧ Below w.heap.size w w' := by
 obtain ⟨R, hR⟩ : ∃ R, digN 40 (valN e - valN d) = R := ⟨_, rfl⟩
 rw [hR]
 have hRl : R.length = 40 := by rw [← hR, digN_length]
 replace hR := Hd hR
 have hn1 := neg3 w false true false d e Z40
 have hn2 := neg3' w false true false d e Z40
 obtain ⟨gd, ge, gz, hb⟩ := three_nd w false true false d e Z40
 go_enter Tryz.func152, Tryz.ntmps152
 go_wp2_with (first | (with_reducible refine wpl_nbox rfl rfl rfl ?_) | (with_reducible refine wpl_nalloc rfl rfl ?_) | (with_reducible refine wpl_nload rfl rfl rfl gd h1 ?_) | (with_reducible refine wpl_nload rfl rfl rfl ge h2 ?_))
 clear hn1 hn2
 replace hd := Hd hd
 replace he := Hd he
 replace hq := Hd hq
 replace h1 := Hd h1
 replace h2 := Hd h2
 refine (size_d false true d e hd.out he.out h1.out h2.out _).mono ?_
 rintro r w1 ⟨rfl, hb1⟩
 have gd1 := gd.below hb1
 have ge1 := ge.below hb1
 have gz1 := gz.below hb1
 have hb2 := wbelow_up hb (by rw [wsize_alloc, wsize_alloc, wsize_alloc]; omega) hb1
 clear gd ge gz hb hb1
 rw [show sgn (valN d - valN e) = -1 from sgn_neg (by have := hq.out; omega)]
 replace h1 := h1.out
 replace h2 := h2.out
 go_wp2_with (first | (with_reducible refine wpl_nload rfl rfl rfl gd1 h1 ?_) | (with_reducible refine wpl_nload rfl rfl rfl ge1 h2 ?_))
 replace h1 := Hd h1
 replace h2 := Hd h2
 refine (minus_d true false e d he.out hd.out h2.out h1.out (Int.le_of_lt hq.out) _).mono ?_
 rintro r w2 ⟨rfl, hb3⟩
 rw [hR.out]
 have gz2 := gz1.below hb3
 have hb4 := wbelow_up hb2 hb2.size hb3
 clear gd1 ge1 gz1 hb2 hb3
 go_wp2_with (first | (with_reducible refine wpl_nstore rfl rfl rfl rfl gz2 rfl hRl ?_))
 (try simp only [Exit.inBlock, Exit.then])
 refine bodyPost_ret (n_result Tryz.results152 _ _ _ _ _ rfl (gz2.row true R) hRl) rfl ?_
 exact ⟨rfl, wbelow_row hb4 (by omega) _⟩
end Go.Proofs.YtjjgbillihedgaaGreatDoor
namespace Go.Proofs.YtjjgbillihedgaaGreatDoor
namespace Wide
theorem valN_nn {l : List Int} (h : Dig l) : 0 ≤ valN l := (valN_bd h).1
/-- a number of k digits behind which there are none -/
theorem mul_lt' {a b A B : Int} (ha0 : 0 ≤ a) (hb0 : 0 ≤ b) (ha : a < A) (hb : b < B) : a * b < A * B := by
 have h1 : a * b ≤ a * B := Int.mul_le_mul_of_nonneg_left (by omega) ha0
 have h2 : a * B < A * B := Int.mul_lt_mul_of_pos_right ha (by omega)
 omega
/-- one more digit of a product's row -/
theorem row_step (o b : List Int) (p j : Nat) (hp : p < o.length) (hj : j < b.length) (c a T : Int)
 (h : valN o + 256 ^ p * c + a * 256 ^ p * valN (b.drop j) = T) :
 valN (o.set p ((o[p] + c + a * b[j]) % 256)) + 256 ^ (p + 1) * ((o[p] + c + a * b[j]) / 256) + a * 256 ^ (p + 1) * valN (b.drop (j + 1)) = T := by
 have h2 := times_step o p hp c (a * b[j]) (T - a * 256 ^ (p + 1) * valN (b.drop (j + 1))) (by
  rw [valN_drop b j hj] at h
  rw [Int.pow_succ]
  generalize valN (b.drop (j + 1)) = q at *
  generalize b[j] = d at *
  generalize (256 : Int) ^ p = P at *
  have e1 : a * P * (d + 256 * q) = P * (a * d) + a * (P * 256) * q := by
   rw [Int.mul_add]
   congr 1
   ·rw [Int.mul_comm a P, Int.mul_assoc]
   ·rw [← Int.mul_assoc, Int.mul_assoc a P 256]
  omega)
 omega
/-- ... where there is no digit more -/
theorem row_step0 (o b : List Int) (p j : Nat) (hp : p < o.length) (hb : valN (b.drop j) = 0) (hb2 : valN (b.drop (j + 1)) = 0) (c a T : Int)
 (h : valN o + 256 ^ p * c + a * 256 ^ p * valN (b.drop j) = T) :
 valN (o.set p ((o[p] + c) % 256)) + 256 ^ (p + 1) * ((o[p] + c) / 256) + a * 256 ^ (p + 1) * valN (b.drop (j + 1)) = T := by
 have h2 := times_step o p hp c 0 T (by rw [hb] at h; omega)
 rw [hb2]
 rw [Int.add_zero] at h2
 omega
/-- a carry behind the last digit: the row is not longer -/
theorem row_carry {o : List Int} {p n : Nat} {c X T : Int} (ho : 0 ≤ valN o) (hX : 0 ≤ X) (hc : 0 < c) (h : valN o + 256 ^ p * c + X = T) (hT : T < 256 ^ n) : p < n := by
 rcases Nat.lt_or_ge p n with h1 | h1
 ·exact h1
 ·exfalso
  obtain ⟨k, rfl⟩ := Nat.exists_eq_add_of_le h1
  have hp := pow_pos256 k
  have hn := pow_pos256 n
  rw [Int.pow_add] at h
  generalize (256 : Int) ^ n = N at *
  generalize (256 : Int) ^ k = K at *
  have e1 : N * 1 ≤ N * K := Int.mul_le_mul_of_nonneg_left hp (by omega)
  have e2 : N * K * 1 ≤ N * K * c := Int.mul_le_mul_of_nonneg_left (by omega) (by omega)
  omega
theorem prod_bd {a b : Int} (ha : 0 ≤ a ∧ a ≤ 255) (hb : 0 ≤ b ∧ b ≤ 255) : 0 ≤ a * b ∧ a * b ≤ 65025 := by
 refine ⟨Int.mul_nonneg ha.1 hb.1, ?_⟩
 have h1 : a * b ≤ a * 255 := Int.mul_le_mul_of_nonneg_left hb.2 ha.1
 omega
theorem row_start (d e : List Int) (i : Nat) (hi : i < d.length) (o : List Int) (h : valN o = valN (d.take i) * valN e) :
 valN o + 256 ^ (i + 0) * 0 + d[i] * 256 ^ (i + 0) * valN (e.drop 0) = valN (d.take (i + 1)) * valN e := by
 rw [valN_take d i hi, h, List.drop_zero, Nat.add_zero, Int.mul_zero, Int.add_zero, Int.add_mul, Int.mul_comm d[i]]
theorem row_end {o e : List Int} {p j : Nat} {a T : Int} (he : valN (e.drop j) = 0) (h : valN o + 256 ^ p * 0 + a * 256 ^ p * valN (e.drop j) = T) : valN o = T := by
 rw [he] at h; omega
theorem take_bd {d : List Int} (hd : Dig d) (n : Nat) (hn : n ≤ d.length) : 0 ≤ valN (d.take n) ∧ valN (d.take n) < 256 ^ n := by
 have := valN_bd (hd.take n)
 rwa [List.length_take, Nat.min_eq_left hn] at this
theorem row_lt {d e : List Int} (hd : Dig d) (he0 : 0 ≤ valN e) (n : Nat) (hn : n ≤ d.length) (he : valN e < 256 ^ 16) : valN (d.take n) * valN e < 256 ^ (n + 16) := by
 obtain ⟨h1, h2⟩ := take_bd hd n hn
 rw [Int.pow_add]
 exact mul_lt' h1 he0 h2 he
theorem drop_zero_of {e : List Int} (he : Dig e) (n : Nat) (h : valN e < 256 ^ n) (hn : n ≤ e.length) : valN (e.drop n) = 0 := by
 have h1 := valN_cut e n hn
 have h2 := take_bd he n hn
 have h3 := valN_nn (he.drop n)
 have h4 := pow_pos256 n
 rcases Int.lt_or_le 0 (valN (e.drop n)) with h5 | h5
 ·have : (256 : Int) ^ n * 1 ≤ 256 ^ n * valN (e.drop n) := Int.mul_le_mul_of_nonneg_left (by omega) (by omega)
  omega
 ·omega
theorem drop_zero_more {e : List Int} (he : Dig e) (n : Nat) (h : valN (e.drop n) = 0) (m : Nat) (hm : n ≤ m) : valN (e.drop m) = 0 := by
 obtain ⟨k, rfl⟩ := Nat.exists_eq_add_of_le hm
 induction k with
 | zero => exact h
 | succ k ih =>
   have ih := ih (by omega)
   by_cases hl : n + k < e.length
   ·rw [valN_drop e (n + k) hl] at ih
    have h1 := he.get (n + k) hl
    have h2 := valN_nn (he.drop (n + k + 1))
    rw [show n + (k + 1) = n + k + 1 by omega]
    omega
   ·rw [List.drop_of_length_le (by omega)]; rfl
/-- the end of a product -/
theorem times_end (o d e : List Int) (ho : o.length = 40) (hoD : Dig o) (hd : Dig d) (h1 : d.length = 40) (hlt : valN d < 256 ^ 16) (h : valN o = valN (d.take 16) * valN e) : o = digN 40 (valN d * valN e) := by
 have h2 := valN_cut d 16 (by omega)
 rw [drop_zero_of hd 16 hlt (by omega)] at h2
 have := dig_of_val o hoD
 rw [ho, h] at this
 rw [h2, Int.mul_zero, Int.add_zero]
 exact this
/-- a row that is moved up by one -/
def upD (r : List Int) (k : Nat) : List Int := r.take (k + 1) ++ (r.drop k).take (39 - k)
theorem upD_length (r : List Int) (h : r.length = 40) (k : Nat) (hk : k ≤ 39) : (upD r k).length = 40 := by
 simp [upD, h]; omega
theorem upD_start (r : List Int) (h : r.length = 40) : upD r 39 = r := by
 unfold upD
 rw [Nat.sub_self, List.take_zero, List.append_nil, List.take_of_length_le (by omega)]
theorem upD_get (r : List Int) (h : r.length = 40) (k : Nat) (hk : k < 39) (hl : k < (upD r (k + 1)).length) : (upD r (k + 1))[k] = r[k]'(by omega) := by
 have h2 : (upD r (k + 1))[k]? = r[k]? := by
  unfold upD
  rw [List.getElem?_append_left (by simp [h]; omega), List.getElem?_take_of_lt (by omega)]
 rw [List.getElem?_eq_getElem hl, List.getElem?_eq_getElem (by omega)] at h2
 exact Option.some.inj h2
theorem upD_step (r : List Int) (h : r.length = 40) (k : Nat) (hk : k < 39) : (upD r (k + 1)).set (k + 1) (r[k]'(by omega)) = upD r k := by
 have e1 : r.take (k + 1 + 1) = r.take (k + 1) ++ [r[k + 1]'(by omega)] := List.take_succ_eq_append_getElem (by omega)
 have e2 : (r.drop k).take (39 - k) = r[k]'(by omega) :: (r.drop (k + 1)).take (39 - (k + 1)) := by
  rw [List.drop_eq_getElem_cons (by omega), show 39 - k = (39 - (k + 1)) + 1 by omega, List.take_succ_cons]
 unfold upD
 rw [e1, e2, List.append_assoc, List.set_append_right _ _ (by simp [h]; omega)]
 congr 1
 simp [h]
 rw [show k + 1 - min (k + 1) 40 = 0 by omega]
 rfl
theorem upD_end (r : List Int) (h : r.length = 40) (a : Int) : (upD r 0).set 0 a = a :: r.take 39 := by
 obtain ⟨x, l, rfl⟩ : ∃ x l, r = x :: l := by
  cases r with
  | nil => cases h
  | cons x l => exact ⟨x, l, rfl⟩
 simp [upD]
theorem Dig.upD {r : List Int} (h : Dig r) (k : Nat) : Dig (upD r k) := (h.take _).append ((h.drop _).take _)
/-- the moved row's number -/
theorem up_val (r : List Int) (hr : Dig r) (h : r.length = 40) (a : Int) (hlt : valN r < 256 ^ 39) : valN (a :: r.take 39) = a + 256 * valN r := by
 rw [valN, valN_cut r 39 (by omega), drop_zero_of hr 39 hlt (by omega)]
 omega
theorem up_dig (r : List Int) (hr : Dig r) (a : Int) (ha : 0 ≤ a ∧ a ≤ 255) : Dig (a :: r.take 39) := fun c hc => by
 rcases List.mem_cons.1 hc with rfl | h1
 ·exact ha
 ·exact hr.take 39 c h1
theorem up_len (r : List Int) (h : r.length = 40) (a : Int) : (a :: r.take 39).length = 40 := by simp [h]
/-- one more digit of a quotient: what stood above, its rest, and the digit -/
theorem quo_step (A B Q R d c V : Int) (hA : A = Q * B + R) (hV : V + c * B = d + 256 * R) : d + 256 * A = (c + 256 * Q) * B + V := by
 rw [Int.add_mul, hA, Int.mul_add, ← Int.mul_assoc]
 omega
theorem quo_end (A B Q R : Int) (hB : 0 < B) (hA : A = Q * B + R) (h0 : 0 ≤ R) (h1 : R < B) : Q = A / B ∧ R = A % B := by
 have e := Int.add_mul_ediv_right R Q (c := B) (by omega)
 rw [Int.add_comm, ← hA] at e
 have e2 : R / B = 0 := Int.ediv_eq_zero_of_lt h0 h1
 refine ⟨by omega, ?_⟩
 have e3 := Int.add_mul_emod_self_right R Q B
 rw [Int.add_comm, ← hA, Int.emod_eq_of_lt h0 h1] at e3
 exact e3.symm
/-- a digit of a quotient is one -/
theorem quo_dig {B R d c V : Int} (hB : 0 < B) (hR : R < B) (hd : 0 ≤ d ∧ d ≤ 255) (hV0 : 0 ≤ V) (hV : V + c * B = d + 256 * R) : c ≤ 255 := by
 rcases Int.lt_or_le 255 c with h | h
 ·have : 256 * B ≤ c * B := Int.mul_le_mul_of_nonneg_right (by omega) (by omega)
  omega
 ·exact h
theorem set_drop (q : List Int) (i : Nat) (hi : i < q.length) (c : Int) : (q.set i c).drop i = c :: q.drop (i + 1) := by
 rw [List.drop_eq_getElem_cons (by simpa using hi), List.getElem_set_self, List.drop_set_of_lt (Nat.lt_succ_self i)]
end Wide
open Go.RowKit
open Rf
open Wide
theorem isD_put {w : World} {b c k i : Nat} {n : Bool} {d : List Int} {v : Value} (h : IsD w b n d) (hne : b ≠ c) : IsD ((w.drewN k).setCell ⟨c, i, none⟩ v) b n d := (isD_drewN h).set_other hne
theorem isD_at {w : World} {b k : Nat} {n : Bool} {d : List Int} (h : IsD w b n d) (i : Nat) (v : Int) : IsD ((w.drewN k).setCell ⟨b, 1 + i, none⟩ (.int .i64 v)) b n (d.set i v) := (isD_drewN h).set i v
theorem below_at {B k i : Nat} {a w : World} (h : Below B a w) (v : Value) : Below B a ((w.drewN k).setCell ⟨B + 1 + 1 + 1, i, none⟩ v) := (wbelow_drewN h).setCell (show B ≤ B + 1 + 1 + 1 by omega) _
theorem mul_d (n m : Bool) (d e : List Int) (hd : Dig d) (he : Dig e) (h1 : d.length = 40) (h2 : e.length = 40) (hl1 : valN d < 256 ^ 16) (hl2 : valN e < 256 ^ 16) (w : World) :
 Calls Tryz.prog 153 #[nv n d, nv m e] w fun r w' => r = .returned (nv (n != m) (digN 40 (valN d * valN e))) ∧ Below w.heap.size w w' := by
 obtain ⟨R, hR⟩ : ∃ R, digN 40 (valN d * valN e) = R := ⟨_, rfl⟩
 rw [hR]
 replace hR := Hd hR
 have hn1 := neg3 w n m false d e Z40
 have hn2 := neg3' w n m false d e Z40
 go_enter Tryz.func153, Tryz.ntmps153
 go_wp2_with (first | (with_reducible refine wpl_nbox rfl rfl rfl ?_) | (with_reducible refine wpl_nalloc rfl rfl ?_) | (with_reducible refine wpl_nbuild1 rfl rfl rfl ?_) | (with_reducible refine wpl_nstore_new rfl rfl rfl rfl (by simp) rfl rfl ?_))
 clear hn1 hn2
 obtain ⟨gd0, ge0, gz0, go0, hb0⟩ := four_nd w n m false (n != m) d e Z40 Z40
 replace gd0 := Hd gd0
 replace ge0 := Hd ge0
 replace gz0 := Hd gz0
 replace go0 := Hd go0
 replace hb0 := Hd hb0
 replace hl1 := Hd hl1
 have he16 := Hd (drop_zero_of he 16 hl2 (by omega))
 replace hl2 := Hd hl2
 go_loopw [6] (fun iv wr => ∃ (i : Nat) (o : List Int), i ≤ 16 ∧ iv = .int .i64 i ∧ o.length = 40 ∧ Dig o ∧ valN o = valN (d.take i) * valN e ∧
  IsD wr w.heap.size n d ∧ IsD wr (w.heap.size + 1) m e ∧ IsD wr (w.heap.size + 1 + 1) false Z40 ∧ IsD wr (w.heap.size + 1 + 1 + 1) (n != m) o ∧ Below w.heap.size w wr) (fun i _ => 16 - (intOf i).toNat)
 case atStart => exact ⟨0, Z40, Nat.zero_le _, rfl, rfl, Z40_dig, by rw [List.take_zero]; show valN (List.replicate 40 0) = _; rw [valN_zero]; exact (Int.zero_mul _).symm, gd0.out, ge0.out, gz0.out, go0.out, hb0.out⟩
 case round =>
  clear gd0 ge0 gz0 go0 hb0
  obtain ⟨i, o, hi, rfl, ho, hoD, hinv, gd, ge, gz, gox, hb⟩ := hrel
  by_cases hlt : i < 16
  ·have hst := Hd (row_start d e i (by omega) o hinv)
   clear hinv
   have cd := Hd (gd.cell i (by omega))
   have bd := hd.get i (by omega)
   have hT := Hd (row_lt hd (valN_nn he) (i + 1) (by omega) hl2.out)
   replace gd := Hd gd
   replace ge := Hd ge
   replace gz := Hd gz
   replace gox := Hd gox
   replace hb := Hd hb
   replace ho := Hd ho
   replace hoD := Hd hoD
   replace h1 := Hd h1
   replace h2 := Hd h2
   replace hd := Hd hd
   replace he := Hd he
   obtain ⟨x, hx⟩ : ∃ x, d[i]'(by have := h1.out; omega) = x := ⟨_, rfl⟩
   rw [hx] at hst cd bd
   replace hx := Hd hx
   obtain ⟨T, hTT⟩ : ∃ T, valN (d.take (i + 1)) * valN e = T := ⟨_, rfl⟩
   rw [hTT] at hst hT
   replace hTT := Hd hTT
   have hlt2 : (i : Int) < 16 := by omega
   have hdec : decide ((i : Int) < 16) = true := decide_eq_true hlt2
   go_wp2_with fail
   (try simp only [hdec])
   obtain ⟨wo, hwo⟩ : ∃ wo : World, wo = wr := ⟨_, rfl⟩
   replace hwo := Hd hwo
   go_loopw [7, 8] (fun cv jv wi => ∃ (j : Nat) (c : Int) (q : List Int), j ≤ 17 ∧ jv = .int .i64 j ∧ cv = .int .i64 c ∧ 0 ≤ c ∧ c ≤ 255 ∧ q.length = 40 ∧ Dig q ∧
    valN q + 256 ^ (i + j) * c + x * 256 ^ (i + j) * valN (e.drop j) = T ∧
    IsD wi w.heap.size n d ∧ IsD wi (w.heap.size + 1) m e ∧ IsD wi (w.heap.size + 1 + 1) false Z40 ∧ IsD wi (w.heap.size + 1 + 1 + 1) (n != m) q ∧ Below w.heap.size w wi) (fun _ j _ => 17 - (intOf j).toNat)
   case atStart => exact ⟨0, 0, o, Nat.zero_le _, rfl, rfl, by omega, by omega, ho.out, hoD.out, hst.out, gd.out, ge.out, gz.out, gox.out, hb.out⟩
   case round =>
    clear gd ge gz gox hb hst ho hoD hwo cd
    obtain ⟨j, c, q, hj, rfl, rfl, c0, c1, hq, hqD, hinv, gd, ge, gz, gox, hb⟩ := hrel
    obtain ⟨p, hp⟩ : ∃ p, i + j = p := ⟨_, rfl⟩
    have hp2 : (i : Int) + (j : Int) = (p : Int) := by omega
    rw [hp] at hinv
    replace h1 := h1.out
    replace h2 := h2.out
    replace hd := hd.out
    replace he := he.out
    have cd := gd.cell i (by omega)
    have hdi : d[i]'(by omega) = x := hx.out
    rw [hdi] at cd
    clear hdi
    have cq := gox.cell p (by omega)
    have fq := gox.f (1 + p)
    have bq := hqD.get p (by omega)
    by_cases hj16 : j < 16
    ·have ce := ge.cell j (by omega)
     have be := he.get j (by omega)
     have hfin := row_step q e p j (by omega) (by omega) c x T hinv
     obtain ⟨y, hy⟩ : ∃ y, e[j]'(by omega) = y := ⟨_, rfl⟩
     rw [hy] at ce be hfin
     clear hy
     obtain ⟨z, hz⟩ : ∃ z, q[p]'(by omega) = z := ⟨_, rfl⟩
     rw [hz] at cq bq hfin
     clear hz
     obtain ⟨pr0, pr1⟩ := prod_bd bd be
     obtain ⟨P, hP⟩ : ∃ P, x * y = P := ⟨_, rfl⟩
     rw [hP] at pr0 pr1 hfin
     have e0 : IntKind.i64.wrap (z + c) = z + c := IntWalk.i64_in _ (by omega)
     have e1 : IntKind.i64.wrap P = P := IntWalk.i64_in _ (by omega)
     have e2 : IntKind.i64.wrap (z + c + P) = z + c + P := IntWalk.i64_in _ (by omega)
     replace hfin := Hd hfin
     replace hd := Hd hd
     replace he := Hd he
     replace h1 := Hd h1
     replace h2 := Hd h2
     replace hq := Hd hq
     replace hqD := Hd hqD
     replace hinv := Hd hinv
     replace gd := Hd gd
     replace ge := Hd ge
     replace gz := Hd gz
     replace gox := Hd gox
     replace hb := Hd hb
     go_wp2_with fail
     go_quiet (fail)
     clear e0 e1 e2 cd ce
     go_wp2_with fail
     go_roundw
     case rel => exact ⟨j + 1, (z + c + P) / 256, q.set p ((z + c + P) % 256), by omega, by go_num, rfl, by omega, by omega, by rw [List.length_set]; exact hq.out, hqD.out.set p (by omega), by rw [show i + (j + 1) = p + 1 by omega]; exact hfin.out, isD_put gd.out (by omega), isD_put ge.out (by omega), isD_put gz.out (by omega), isD_at gox.out p _, below_at hb.out _⟩
     case measure => simp [intOf]; omega
    ·have hz16 := drop_zero_more he 16 he16.out j (by omega)
     have hz17 := drop_zero_more he 16 he16.out (j + 1) (by omega)
     by_cases hc : 0 < c
     ·have hpn := row_carry (valN_nn hqD) (X := x * 256 ^ p * valN (e.drop j)) (by rw [hz16, Int.mul_zero]; exact Int.le_refl _) hc hinv hT.out
      have hfin := row_step0 q e p j (by omega) hz16 hz17 c x T hinv
      obtain ⟨z, hz⟩ : ∃ z, q[p]'(by omega) = z := ⟨_, rfl⟩
      rw [hz] at cq bq hfin
      clear hz
      have e0 : IntKind.i64.wrap (z + c) = z + c := IntWalk.i64_in _ (by omega)
      replace hfin := Hd hfin
      replace hd := Hd hd
      replace he := Hd he
      replace h1 := Hd h1
      replace h2 := Hd h2
      replace hq := Hd hq
      replace hqD := Hd hqD
      replace hinv := Hd hinv
      replace gd := Hd gd
      replace ge := Hd ge
      replace gz := Hd gz
      replace gox := Hd gox
      replace hb := Hd hb
      go_wp2_with fail
      clear e0 cd
      go_roundw
      case rel => exact ⟨j + 1, (z + c) / 256, q.set p ((z + c) % 256), by omega, by go_num, rfl, by omega, by omega, by rw [List.length_set]; exact hq.out, hqD.out.set p (by omega), by rw [show i + (j + 1) = p + 1 by omega]; exact hfin.out, gd.out.set_other (by omega), ge.out.set_other (by omega), gz.out.set_other (by omega), gox.out.set p _, hb.out.setCell (show w.heap.size ≤ w.heap.size + 1 + 1 + 1 by omega) _⟩
      case measure => simp [intOf]; omega
     ·obtain rfl : c = 0 := by omega
      have hend := row_end hz16 hinv
      replace hd := Hd hd
      replace he := Hd he
      replace h1 := Hd h1
      replace h2 := Hd h2
      replace hq := Hd hq
      replace hqD := Hd hqD
      replace hinv := Hd hinv
      replace gd := Hd gd
      replace ge := Hd ge
      replace gz := Hd gz
      replace gox := Hd gox
      replace hb := Hd hb
      go_wp2_with fail
      go_roundw
      case rel => exact ⟨i + 1, q, by omega, by go_num, hq.out, hqD.out, by rw [hTT.out]; exact hend, gd.out, ge.out, gz.out, gox.out, hb.out⟩
      case measure => simp [intOf]; omega
  ·obtain rfl : i = 16 := by omega
   have hend := times_end o d e ho hoD hd h1 hl1.out hinv
   rw [hR.out] at hend
   subst hend
   clear hinv hoD
   replace hb := Hd hb
   go_wp2_with (first | (with_reducible refine wpl_nload rfl rfl rfl gox ho ?_) | (with_reducible refine wpl_nstore rfl rfl rfl rfl gz rfl ho ?_))
   (try simp only [Exit.inBlock, Exit.then])
   refine bodyPost_ret (n_result Tryz.results153 _ _ _ _ _ rfl (gz.row (n != m) o) ho) rfl ?_
   exact ⟨rfl, wbelow_row hb.out (by omega) _⟩
end Go.Proofs.YtjjgbillihedgaaGreatDoor
