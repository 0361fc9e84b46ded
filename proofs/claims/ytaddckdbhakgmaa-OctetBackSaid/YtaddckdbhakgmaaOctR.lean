/- the walks over the Reader of layer 2 -/
import Derived.Test.YtaddckdbhakgmaaOctW
import Derived.Test.YtaddckdbhakgmaaRd
namespace Go.Proofs.Ytaddckdbhakgmaa
open Go.RowKit
open Rf

/-- block b is a reader (of type T): what is left, and whether it is bad -/
def IsR (T : TypeId) (w : World) (b : Nat) (l : List UInt8) (bad : Bool) : Prop := w.heap[b]? = some (.cells #[.string (text l), .bool bad] T (0, 0))

section
variable {T : TypeId} {w w' : World} {b : Nat} {l : List UInt8} {bad : Bool}
theorem IsR.lt (h : IsR T w b l bad) : b < w.heap.size := lt_of_block h
theorem IsR.c0 (h : IsR T w b l bad) : w.cell? ⟨b, 0, none⟩ = some (.string (text l)) := by unfold IsR at h; simp [World.cell?, h]
theorem IsR.c1 (h : IsR T w b l bad) : w.cell? ⟨b, 1, none⟩ = some (.bool bad) := by unfold IsR at h; simp [World.cell?, h]
theorem IsR.f (h : IsR T w b l bad) (i : Nat) : w.frozen? ⟨b, i, none⟩ = false := by unfold IsR at h; simp [World.frozen?, h]
theorem IsR.below (h : IsR T w b l bad) (hb : Below w.heap.size w w') : IsR T w' b l bad := (hb.block b h.lt).trans h
theorem IsR.other {row : Option Nat} (h : IsR T w b l bad) (hg : w.grownBy w' row) (hne : some b ≠ row) : IsR T w' b l bad := (hg.block b h.lt hne).trans h
theorem IsR.set0 (h : IsR T w b l bad) (l' : List UInt8) : IsR T (w.setCell ⟨b, 0, none⟩ (.string (text l'))) b l' bad := by
  show (w.heap.modify b _)[b]? = _
  unfold IsR at h
  rw [Array.getElem?_modify, if_pos rfl, h]
  rfl
theorem IsR.set1 (h : IsR T w b l bad) (bad' : Bool) : IsR T (w.setCell ⟨b, 1, none⟩ (.bool bad')) b l bad' := by
  show (w.heap.modify b _)[b]? = _
  unfold IsR at h
  rw [Array.getElem?_modify, if_pos rfl, h]
  rfl
theorem IsR.new (w : World) (T : TypeId) (l : List UInt8) : IsR T (w.alloc (.cells #[.string (text l), .bool false] T)) w.heap.size l false := heap_alloc_new w _
theorem grown_refl (w : World) (row : Option Nat) : w.grownBy w row := ⟨rfl, rfl, rfl, Nat.le_refl _, fun _ _ _ => rfl⟩
theorem grown_set (w : World) (b i : Nat) (v : Value) : w.grownBy (w.setCell ⟨b, i, none⟩ v) (some b) :=
  ⟨rfl, rfl, rfl, by simp [World.setCell], fun k _ hk => Below.heap_setCell w _ v k (fun e => hk (by rw [e]))⟩
theorem grown_trans {a b c : World} {row : Option Nat} (h : a.grownBy b row) (k : b.grownBy c row) : a.grownBy c row :=
  ⟨k.os.trans h.os, k.tape.trans h.tape, k.output.trans h.output, Nat.le_trans h.size k.size, fun i hi hne => (k.block i (Nat.lt_of_lt_of_le hi h.size) hne).trans (h.block i hi hne)⟩
end

theorem extract_mid (l : List UInt8) (a b : Nat) : (text l).extract a b = text ((l.drop a).take (b - a)) := by
  apply ByteArray.ext
  apply Array.ext'
  simp [text, List.take_drop]
theorem extract_end (l : List UInt8) (a : Nat) : (text l).extract a (text l).size = text (l.drop a) := by
  rw [extract_mid, text_size, List.take_of_length_le (by rw [List.length_drop]; exact Nat.le_refl _)]

set_option maxHeartbeats 400000 in
theorem read_c (s : ByteArray) (w : World) :
    Calls Try.prog 28 #[.string s] w fun e w' => e = .returned (.pointer (some ⟨w.heap.size, 0, none⟩)) ∧ w' = w.alloc (.cells #[.string s, .bool false] 68) := by
  go_enter Try.func28, Try.ntmps28
  go_wp2
  go_ret
  exact ⟨rfl, rfl⟩

section
variable {w : World} {b : Nat} {l : List UInt8} {bad : Bool}

set_option maxHeartbeats 400000 in
theorem bad_c (h : IsR 68 w b l bad) : Calls Try.prog 37 #[.pointer (some ⟨b, 0, none⟩)] w fun e w' => e = .returned (.bool bad) ∧ w = w' := by
  have c0 := h.c0
  have c1 := h.c1
  go_enter Try.func37, Try.ntmps37
  go_wp2
  go_ret
  exact ⟨rfl, rfl⟩

set_option maxHeartbeats 400000 in
theorem left_c (h : IsR 68 w b l bad) : Calls Try.prog 38 #[.pointer (some ⟨b, 0, none⟩)] w fun e w' => e = .returned (.int .i64 (rLeft l bad)) ∧ w = w' := by
  have c0 := h.c0
  have hs := text_size l
  cases bad with
  | true =>
    go_enter Try.func38, Try.ntmps38
    go_wp2_with fail
    refine (bad_c h).mono ?_
    rintro e w' ⟨rfl, rfl⟩
    go_wp2_with fail
    go_ret
    exact ⟨rfl, rfl⟩
  | false =>
    go_enter Try.func38, Try.ntmps38
    go_wp2_with fail
    refine (bad_c h).mono ?_
    rintro e w' ⟨rfl, rfl⟩
    go_wp2_with fail
    go_ret
    exact ⟨rfl, rfl⟩

set_option maxHeartbeats 400000 in
theorem done_c (h : IsR 68 w b l bad) : Calls Try.prog 40 #[.pointer (some ⟨b, 0, none⟩)] w fun e w' => e = .returned (.bool (!bad && l.isEmpty)) ∧ w = w' := by
  have c0 := h.c0
  have hs : (text l).toList = l := toList_text l
  cases bad with
  | true =>
    go_enter Try.func40, Try.ntmps40
    go_wp2_with fail
    refine (bad_c h).mono ?_
    rintro e w' ⟨rfl, rfl⟩
    go_wp2_with fail
    go_ret
    exact ⟨rfl, rfl⟩
  | false =>
    go_enter Try.func40, Try.ntmps40
    go_wp2_with fail
    refine (bad_c h).mono ?_
    rintro e w' ⟨rfl, rfl⟩
    go_wp2_with fail
    go_ret
    exact ⟨rfl, rfl⟩

set_option maxHeartbeats 400000 in
theorem take_bad (h : IsR 68 w b l true) (f n : Int) (is : Bool) : Calls Try.prog 46 #[.pointer (some ⟨b, 0, none⟩), .int .i64 f, .int .i64 n, .bool is] w fun e w' => e = .returned (.string ByteArray.empty) ∧ IsR 68 w' b l true ∧ w.grownBy w' (some b) := by
  have c0 := h.c0
  go_enter Try.func46, Try.ntmps46
  go_wp2_with fail
  refine (bad_c h).mono ?_
  rintro e w' ⟨rfl, rfl⟩
  go_wp2_with fail
  go_ret
  exact ⟨rfl, h, grown_refl _ _⟩

set_option maxHeartbeats 400000 in
theorem take_no (h : IsR 68 w b l false) (f n : Int) (is : Bool) (hf : 0 ≤ f) (hf2 : f ≤ 8) (hn : is = false ∨ n < 0 ∨ (l.length : Int) - f < n) (hl : l.length ≤ 1000000000000) : Calls Try.prog 46 #[.pointer (some ⟨b, 0, none⟩), .int .i64 f, .int .i64 n, .bool is] w fun e w' => e = .returned (.string ByteArray.empty) ∧ IsR 68 w' b l true ∧ w.grownBy w' (some b) := by
  have c0 := h.c0
  have c1 := h.c1
  have f1 := h.f 1
  have hs := text_size l
  have hset := h.set1 true
  have hgr := grown_set w b 1 (.bool true)
  cases is with
  | false =>
    clear hn
    go_enter Try.func46, Try.ntmps46
    go_wp2_with fail
    refine (bad_c h).mono ?_
    rintro e w' ⟨rfl, rfl⟩
    go_wp2_with fail
    go_ret
    exact ⟨rfl, hset, hgr⟩
  | true =>
    by_cases hn0 : n < 0
    · clear hn
      go_enter Try.func46, Try.ntmps46
      go_wp2_with fail
      refine (bad_c h).mono ?_
      rintro e w' ⟨rfl, rfl⟩
      go_wp2_with fail
      go_ret
      exact ⟨rfl, hset, hgr⟩
    · have hn1 : (l.length : Int) - f < n := by simpa [hn0] using hn
      clear hn
      go_enter Try.func46, Try.ntmps46
      go_wp2_with fail
      refine (bad_c h).mono ?_
      rintro e w' ⟨rfl, rfl⟩
      go_wp2_with fail
      go_ret
      exact ⟨rfl, hset, hgr⟩

set_option maxHeartbeats 400000 in
theorem take_yes (h : IsR 68 w b l false) (f n : Int) (hf : 0 ≤ f) (hf2 : f ≤ 8) (hn : 0 ≤ n) (hn1 : n ≤ (l.length : Int) - f) (hl : l.length ≤ 1000000000000) : Calls Try.prog 46 #[.pointer (some ⟨b, 0, none⟩), .int .i64 f, .int .i64 n, .bool true] w fun e w' => e = .returned (.string (text ((l.drop f.toNat).take n.toNat))) ∧ IsR 68 w' b (l.drop (f.toNat + n.toNat)) false ∧ w.grownBy w' (some b) := by
  obtain ⟨f, rfl⟩ := Int.eq_ofNat_of_zero_le hf
  obtain ⟨n, rfl⟩ := Int.eq_ofNat_of_zero_le hn
  have c0 := h.c0
  have f0 := h.f 0
  have hs := text_size l
  have e1 := extract_mid l f (f + n)
  have e2 := extract_end l (f + n)
  rw [show f + n - f = n by omega] at e1
  rw [hs] at e2
  have hset := h.set0 (l.drop (f + n))
  have hgr := grown_set w b 0 (.string (text (l.drop (f + n))))
  simp only [Int.toNat_natCast]
  go_enter Try.func46, Try.ntmps46
  go_wp2_with fail
  refine (bad_c h).mono ?_
  rintro e w' ⟨rfl, rfl⟩
  go_wp2_with fail
  go_ret
  exact ⟨congrArg (fun x => Ending.returned (.string x)) e1, hset, hgr⟩
end
end Go.Proofs.Ytaddckdbhakgmaa
