/- the walk over a set's ids -/
import Derived.Test.YtmikhngmclngiaaDoorSgL
import Derived.Deep.Upon
namespace Go.Proofs.YtmikhngmclngiaaDoor
open Go.RowKit
open Rf
open Sg

/-- ints as values -/
def iv (l : List Int) : List Value := l.map (.int .i64)
theorem iv_append (l m : List Int) : iv (l ++ m) = iv l ++ iv m := List.map_append
theorem iv_length (l : List Int) : (iv l).length = l.length := List.length_map _
theorem infoInt : (Tryd.prog.info? 3).map (fun i => (i.zero, i.size, i.bytes)) = some (some (.int .i64 0), 1, 8) := by kernel_rfl
/-- a slice of ints of the call's own -/
def OwnI (w : World) (B : Nat) (a : Option Addr) (c : Nat) (l : List Int) : Prop := w.ownsRow B 3 1 (.slice a l.length c) l.length (iv l)
theorem OwnI.below {w w' : World} {B : Nat} {a : Option Addr} {c : Nat} {l : List Int} (h : OwnI w B a c l) (hb : Below w.heap.size w w') : OwnI w' B a c l :=
  World.ownsRow.kept (row := none) h ⟨hb.os, hb.tape, hb.output, hb.size, fun k hk _ => hb.block k hk⟩ (by cases (Value.slice a l.length c).ownBlock <;> simp)
theorem OwnI.alloc {w : World} {B : Nat} {a : Option Addr} {c : Nat} {l : List Int} (h : OwnI w B a c l) (o : Obj) : OwnI (w.alloc o) B a c l := World.ownsRow.alloc h o
theorem OwnI.nil (w : World) (B : Nat) : OwnI w B none 0 [] := World.ownsRow_nil w B 3 1
/-- a contract: ints are returned in a row of the call's own -/
def RetInts (f : FuncId) (args : Array Value) (l : List Int) : Prop := ∀ w : World, Calls Tryd.prog f args w fun e w' => ∃ a c, e = .returned (.slice a l.length c) ∧ OwnI w' w.heap.size a c l ∧ Below w.heap.size w w'
theorem RetInts.on {f : FuncId} {args : Array Value} {l : List Int} (h : RetInts f args l) (w : World) : Calls Tryd.prog f args w fun e w' => ∃ a c, e = .returned (.slice a l.length c) ∧ OwnI w' w.heap.size a c l ∧ Below w.heap.size w w' := h w
/-- an element is there -/
theorem OwnI.cell {w : World} {B : Nat} {a : Option Addr} {c : Nat} {l : List Int} (h : OwnI w B a c l) (j : Nat) (hj : j < l.length) :
    ∃ g, a = some ⟨g, 0, none⟩ ∧ B ≤ g ∧ g < w.heap.size ∧ w.cell? ⟨g, j, none⟩ = some (.int .i64 l[j]) := by
  rcases h.2 with ⟨hv, hn⟩ | ⟨g, cap, cur, hv, hb, hg, hc⟩
  · omega
  · obtain ⟨rfl, rfl⟩ : a = some ⟨g, 0, none⟩ ∧ c = cap := by cases hv; exact ⟨rfl, rfl⟩
    refine ⟨g, rfl, hb, lt_of_block hg, ?_⟩
    have := World.ownsRow.cells h (g := g) rfl j (.int .i64 l[j]) (by simp [iv, hj])
    rw [show (⟨g, 0, none⟩ : Addr).add j = ⟨g, j, none⟩ by unfold Addr.add; split <;> simp_all] at this
    exact this
theorem src_one (w : World) (x : Int) : Src Tryd.prog 1 23 (.slice (some ⟨w.heap.size, 0, none⟩) 1 1) 1 [.int .i64 x] (w.alloc (.cells #[.int .i64 x] 3)) :=
  Src.ofSlice _ Tryd.underlying23 ⟨w.heap.size, 0, none⟩ 1 1 _ rfl (cell_one_new _ _ _) (by intro u hu; simp at hu; subst hu; rfl)
theorem idsFrom_len (s k n : Nat) : (idsFrom s k n).length ≤ n := by
  induction n generalizing k with
  | zero => exact Nat.le_refl 0
  | succ n ih =>
    have := ih (k + 1)
    rw [idsFrom, List.length_append]
    split <;> simp <;> omega

set_option maxRecDepth 100000 in
set_option maxHeartbeats 4000000 in
theorem ids_c (s : Nat) (hs : s < 4294967296) : RetInts 20 #[.int .u32 (s : Int)] (ids s) := fun w => by
  obtain ⟨i0, hi, hz0, hz1, hz2⟩ := info_parts infoInt
  go_enter Tryd.func20, Tryd.ntmps20
  go_wp2_with fail
  go_loopw [3, 4] (fun b i wr => ∃ k : Nat, k ≤ 24 ∧ i = .int .i64 ((k : Int) + 1) ∧ (∃ a c, b = .slice a (idsFrom s 1 k).length c ∧ OwnI wr w.heap.size a c (idsFrom s 1 k)) ∧ Below w.heap.size w wr) (fun _ i _ => 25 - (intOf i).toNat)
  case atStart => exact ⟨0, Nat.zero_le _, rfl, ⟨none, 0, rfl, OwnI.nil w _⟩, Below.refl _ _⟩
  case round =>
    obtain ⟨k, hk, rfl, ⟨a, c, rfl, hown⟩, hb⟩ := hrel
    replace hown := Lib.hid hown
    replace hb := Lib.hid hb
    have hsz := hb.out.size
    by_cases hlt : k < 24
    · have ch := has_c s hs ((k : Int) + 1)
      have hhas : has s ((k : Int) + 1) = s.testBit (1 + k) := by
        unfold has isId
        rw [show ((k : Int) + 1).toNat = 1 + k by omega, decide_eq_true (by omega), decide_eq_true (by omega)]
        rfl
      rw [hhas] at ch
      have hsn := idsFrom_snoc s 1 k
      have hln := idsFrom_len s 1 k
      have hI1 : (k : Int) + 1 ≤ 24 := by omega
      generalize hL : idsFrom s 1 k = L at *
      replace hL := Lib.hid hL
      generalize hL' : idsFrom s 1 (k + 1) = L' at *
      replace hL' := Lib.hid hL'
      generalize s.testBit (1 + k) = b at *
      replace hsn := Lib.hid hsn
      replace ch := Lib.hid ch
      cases b with
      | false =>
        go_wp2_with fail
        refine (ch.out.on _).mono ?_
        rintro e w1 ⟨rfl, rfl⟩
        have hsn' := hsn.out
        rw [if_neg (by decide), List.append_nil] at hsn'
        subst hsn'
        clear hsn
        go_wp2_with fail
        go_roundw
        case rel => exact ⟨k + 1, by omega, by go_num, ⟨a, c, by rw [hL'.out], by rw [hL'.out]; exact hown.out⟩, hb.out⟩
        case measure => simp [intOf]; omega
      | true =>
        go_wp2_with fail
        refine (ch.out.on _).mono ?_
        rintro e w1 ⟨rfl, rfl⟩
        have hsrc := src_one wr ((k : Int) + 1)
        go_wp2_with (at_builtin; refine wpList_append_own_src _ rfl (.tmp 12) (.tmp 14) 23 23 rfl w.heap.size 3 i0 (.int .i64 0) 1 8 Tryd.underlying23 hi hz0 hz1 hz2 rfl rfl (hown.out.alloc _) rfl hsrc ?_ ?_ ?_ ?_)
        · unfold maxLen; omega
        · omega
        · rw [size_alloc]; omega
        intro b' c' w2 hown2 hg1
        have hfin := Lib.hid (Below.grown (hb.out.alloc hsz (.cells #[.int .i64 ((k : Int) + 1)] 3)) hg1 (by rw [size_alloc]; omega) (fun q hq => by have := World.ownsRow.lt hown.out q hq; omega))
        rw [show ([.int .i64 ((k : Int) + 1)] : List Value) = iv [(k : Int) + 1] from rfl, ← iv_append] at hown2
        have hsn' := hsn.out
        rw [if_pos trivial, show ((1 + k : Nat) : Int) = (k : Int) + 1 by omega] at hsn'
        replace hsn' := Lib.hid hsn'
        have hown3 : OwnI w2 w.heap.size b' c' (L ++ [(k : Int) + 1]) := by
          unfold OwnI
          rw [List.length_append]
          exact hown2
        replace hown3 := Lib.hid hown3
        clear hown2 hg1 hsrc hown hb hsn
        go_wp2_with fail
        go_roundw
        case rel => exact ⟨k + 1, by omega, by go_num, ⟨b', c', by rw [hL'.out, hsn'.out, List.length_append]; rfl, by rw [hL'.out, hsn'.out]; exact hown3.out⟩, hfin.out⟩
        case measure => simp [intOf]; omega
    · obtain rfl : k = 24 := by omega
      go_wp2_with fail
      go_ret
      exact ⟨a, c, rfl, hown.out, hb.out⟩
end Go.Proofs.YtmikhngmclngiaaDoor
