/- the walks over package octet's Writer -/
import Derived.Test.YtaddckdbhakgmaaRows
import Derived.Test.YtaddckdbhakgmaaLib
import Derived.Test.YtaddckdbhakgmaaLe
import Derived.WalkKit
import Derived.WalkSpells
import Derived.WalkLawsBesides
namespace Go.Proofs.Ytaddckdbhakgmaa
open Go.RowKit
open Rf

theorem infoU8 : (Try.prog.info? 5).map (fun i => (i.zero, i.size, i.bytes)) = some (some (.int .u8 0), 1, 1) := by kernel_rfl

/-- block b is a Writer of the call's own (made from block B on), whose bytes are l -/
structure IsW (B : Nat) (w : World) (b : Nat) (l : List UInt8) : Prop where
  base : B ≤ b
  obj : ∃ a c, w.heap[b]? = some (.cells #[.slice a l.length c] 42 (0, 0)) ∧ w.ownsRow (b + 1) 5 1 (.slice a l.length c) l.length (bv l)

theorem IsW.lt {B : Nat} {w : World} {b : Nat} {l : List UInt8} (h : IsW B w b l) : b < w.heap.size := by
  obtain ⟨a, c, h1, _⟩ := h.obj
  exact lt_of_block h1

theorem IsW.mono {B B' : Nat} {w : World} {b : Nat} {l : List UInt8} (h : IsW B w b l) (hB : B' ≤ B) : IsW B' w b l := ⟨Nat.le_trans hB h.base, h.obj⟩

/-- what is laid behind, or turns nothing below the heap's end, leaves a Writer as it is -/
theorem IsW.below {B : Nat} {w w' : World} {b : Nat} {l : List UInt8} (h : IsW B w b l) (hb : Below w.heap.size w w') : IsW B w' b l := by
  obtain ⟨hB, a, c, h1, h2⟩ := h
  refine ⟨hB, a, c, by rw [hb.block b (lt_of_block h1)]; exact h1, h2.kept (row := none) ⟨hb.os, hb.tape, hb.output, hb.size, fun k hk _ => hb.block k hk⟩ ?_⟩
  cases hv : (Value.slice a l.length c).ownBlock <;> simp

theorem IsW.new (B : Nat) (w : World) (hB : B ≤ w.heap.size) : IsW B (w.alloc (.cells #[.slice none 0 0] 42)) w.heap.size [] :=
  ⟨hB, none, 0, heap_alloc_new w _, World.ownsRow_nil _ _ _ _⟩

theorem IsW.cell {B : Nat} {w : World} {b : Nat} {l : List UInt8} (h : IsW B w b l) : ∃ a c, w.cell? ⟨b, 0, none⟩ = some (.slice a l.length c) ∧ w.frozen? ⟨b, 0, none⟩ = false ∧ w.ownsRow (b + 1) 5 1 (.slice a l.length c) l.length (bv l) := by
  obtain ⟨a, c, h1, h2⟩ := h.obj
  exact ⟨a, c, cell_of_one h1, free_of_one h1, h2⟩

/-- behind an append: the Writer's block is there yet, and what is stored makes it a Writer again -/
theorem IsW.store {B : Nat} {w w1 : World} {b : Nat} {l m : List UInt8} {a a' : Option Addr} {c c' : Nat} (h : IsW B w b l) (hc : w.cell? ⟨b, 0, none⟩ = some (.slice a l.length c)) (hown : w.ownsRow (b + 1) 5 1 (.slice a l.length c) l.length (bv l))
    (hg : w.grownBy w1 (Value.slice a l.length c).ownBlock) (h1 : w1.ownsRow (b + 1) 5 1 (.slice a' (l.length + m.length) c') (l.length + m.length) (bv l ++ bv m)) :
    w1.cell? ⟨b, 0, none⟩ = some (.slice a l.length c) ∧ w1.frozen? ⟨b, 0, none⟩ = false ∧ b < w1.heap.size ∧ IsW B (w1.setCell ⟨b, 0, none⟩ (.slice a' (l.length + m.length) c')) b (l ++ m) ∧ Below b w (w1.setCell ⟨b, 0, none⟩ (.slice a' (l.length + m.length) c')) := by
  obtain ⟨hB, a0, c0, hb, _⟩ := h
  have e := cell_of_one hb
  rw [hc] at e
  obtain ⟨rfl, rfl⟩ : a0 = a ∧ c0 = c := by simpa [eq_comm] using e
  have hne : some b ≠ (Value.slice a0 l.length c0).ownBlock := by
    intro hh
    have := hown.lt b hh.symm
    omega
  have hb1 : w1.heap[b]? = some (.cells #[.slice a0 l.length c0] 42 (0, 0)) := by rw [hg.block b (lt_of_block hb) hne]; exact hb
  refine ⟨cell_of_one hb1, free_of_one hb1, lt_of_block hb1, ⟨hB, a', c', ?_, ?_⟩, ?_⟩
  · rw [List.length_append]; exact one_setCell hb1
  · rw [bv_append, List.length_append]
    refine ownsRow_setCell_other h1 ?_ _
    intro hh
    have := h1.lt b hh
    omega
  · refine Below.setCell (Below.grown (Below.refl b w) hg (Nat.le_of_lt (lt_of_block hb)) ?_) (Nat.le_refl b) _
    intro k hk
    have := hown.lt k hk
    omega

set_option maxHeartbeats 400000 in
theorem isWide_c (k : Int) (w : World) : Calls Try.prog 44 #[.int .i64 k] w fun e w' => e = .returned (.bool (isW k)) ∧ w = w' := by
  by_cases h1 : k = 1
  · subst h1
    go_enter Try.func44, Try.ntmps44
    go_wp2
    go_ret
    exact ⟨rfl, rfl⟩
  by_cases h2 : k = 2
  · subst h2
    go_enter Try.func44, Try.ntmps44
    go_wp2
    go_ret
    exact ⟨rfl, rfl⟩
  by_cases h4 : k = 4
  · subst h4
    go_enter Try.func44, Try.ntmps44
    go_wp2
    go_ret
    exact ⟨rfl, rfl⟩
  by_cases h8 : k = 8
  · subst h8
    go_enter Try.func44, Try.ntmps44
    go_wp2
    go_ret
    exact ⟨rfl, rfl⟩
  have e1 : (k == 1) = false := by simpa using h1
  have e2 : (k == 2) = false := by simpa using h2
  have e4 : (k == 4) = false := by simpa using h4
  have e8 : (k == 8) = false := by simpa using h8
  have hfin : Hid (isW k = false) := by unfold Hid isW; rw [e1, e2, e4, e8]; rfl
  go_enter Try.func44, Try.ntmps44
  go_wp2
  go_ret
  exact ⟨by rw [hfin.out]; rfl, rfl⟩

theorem isWide_yes (k : Int) (h : k = 1 ∨ k = 2 ∨ k = 4 ∨ k = 8) (w : World) : Calls Try.prog 44 #[.int .i64 k] w fun e w' => e = .returned (.bool true) ∧ w = w' := by
  have e : isW k = true := by rcases h with rfl | rfl | rfl | rfl <;> rfl
  have := isWide_c k w
  rwa [e] at this
theorem isWide_no (k : Int) (h : isW k = false) (w : World) : Calls Try.prog 44 #[.int .i64 k] w fun e w' => e = .returned (.bool false) ∧ w = w' := by
  have := isWide_c k w
  rwa [h] at this

set_option maxHeartbeats 400000 in
theorem raw_c {B : Nat} {w : World} {b : Nat} {l : List UInt8} (hw : IsW B w b l) (s : ByteArray) (hl : l.length + s.size ≤ 140737488355328) :
    Calls Try.prog 26 #[.pointer (some ⟨b, 0, none⟩), .string s] w fun e w' => e = .returned (.bool true) ∧ IsW B w' b (l ++ byts s) ∧ Below b w w' := by
  obtain ⟨i0, hi, hz0, hz1, hz2⟩ := info_parts infoU8
  obtain ⟨a, c, hc, hf, hown⟩ := hw.cell
  have hlt := hw.lt
  have hsz : (byts s).length = s.size := byts_length s
  go_enter Try.func26, Try.ntmps26
  go_wp2_with (at_builtin; refine wpList_append_own_src _ rfl (.tmp 11) (.tmp 12) 33 9 rfl (b + 1) 5 i0 (.int .u8 0) 1 1 Try.underlying33 hi hz0 hz1 hz2 rfl rfl hown rfl (Src.ofString _ Try.underlying9 s) ?_ ?_ ?_ ?_)
  · unfold maxLen; omega
  · omega
  · omega
  intro b' c' w1 hown1 hg1
  rw [byteCells_bv, ← hsz] at hown1
  obtain ⟨k0, f0, l0, hW, hB⟩ := hw.store hc hown hg1 hown1
  rw [hsz] at hW hB
  go_wp2
  go_ret
  exact ⟨rfl, hW, hB⟩

set_option maxHeartbeats 400000 in
theorem string_c {B : Nat} {w : World} {b : Nat} {l : List UInt8} (hw : IsW B w b l) :
    Calls Try.prog 27 #[.pointer (some ⟨b, 0, none⟩)] w fun e w' => e = .returned (.string (text l)) ∧ w = w' := by
  obtain ⟨a, c, hc, hf, hown⟩ := hw.cell
  have hr := run_string_own w 33 9 5 Try.underlying33 Try.underlying5 Try.underlying9 hown
  go_enter Try.func27, Try.ntmps27
  go_wp2
  go_ret
  exact ⟨rfl, rfl⟩

set_option maxHeartbeats 400000 in
/-- the loop of Num, behind the tests -/
theorem num_yes {B : Nat} {w : World} {b : Nat} {l : List UInt8} (hw : IsW B w b l) (k : Int) (n : Int) (h0 : 0 ≤ n) (h1 : n ≤ 18446744073709551615) (hk : k = 1 ∨ k = 2 ∨ k = 4 ∨ k = 8) (hn : sh k.toNat n = 0) (hl : l.length + 8 ≤ 140737488355328) :
    Calls Try.prog 21 #[.pointer (some ⟨b, 0, none⟩), .int .i64 k, .int .u64 n] w fun e w' => e = .returned (.bool true) ∧ IsW B w' b (l ++ le k.toNat n) ∧ Below b w w' := by
  obtain ⟨i0, hi, hz0, hz1, hz2⟩ := info_parts infoU8
  have hlt := hw.lt
  obtain ⟨kn, hka, hkb⟩ : ∃ kn : Nat, k ≤ kn ∧ (kn : Int) ≤ k := ⟨k.toNat, by omega, by omega⟩
  have hkn : k.toNat = kn := by omega
  rw [hkn] at hn ⊢
  clear hkn
  rcases hk with rfl | rfl | rfl | rfl
  all_goals
    have hn := hn
    first
    | (have hs : ((n / 256 : Int) != 0) = false := (by have hx : kn = 1 := (by omega); rw [hx, sh1] at hn; simp [hn]))
    | (have hs : ((n / 65536 : Int) != 0) = false := (by have hx : kn = 2 := (by omega); rw [hx, sh2] at hn; simp [hn]))
    | (have hs : ((n / 4294967296 : Int) != 0) = false := (by have hx : kn = 4 := (by omega); rw [hx, sh4] at hn; simp [hn]))
    | skip
    clear hn
    go_enter Try.func21, Try.ntmps21
    go_wp2_with (first | (go_at_call 44; refine (isWide_yes _ (by omega) _).mono ?_; rintro e w' ⟨rfl, rfl⟩))
    go_loopw [2, 27] (fun v i wr => ∃ j : Nat, j ≤ kn ∧ i = .int .i64 j ∧ v = .int .u64 (sh j n) ∧ IsW B wr b (l ++ le j n) ∧ Below b w wr) (fun _ i _ => kn - (intOf i).toNat)
    case atStart => exact ⟨0, by omega, rfl, rfl, by simpa [le] using hw, Below.refl _ _⟩
    case round =>
      obtain ⟨j, hj, rfl, rfl, hwr, hbr⟩ := hrel
      have hb := sh_bd j n _ h0 h1
      have hjn : j ≤ 8 := by omega
      by_cases hlt' : j < kn
      · obtain ⟨a, c, hc, hf, hown⟩ := hwr.cell
        have hltr := hwr.lt
        have hll : (l ++ le j n).length ≤ l.length + j := by rw [List.length_append, le_length]; omega
        have hby : ((UInt8.ofNat (sh j n % 256).toNat).toNat : Int) = sh j n % 256 := byte_back _ (by omega) (by omega)
        have hby := Lib.hid hby
        generalize hm : l ++ le j n = m at *
        have hm := Lib.hid hm
        generalize hv : sh j n = v at *
        have hv := Lib.hid hv
        have hsrc : Src Try.prog 1 33 (.slice (some ⟨wr.heap.size, 0, none⟩) 1 1) 1 [.int .u8 (v % 256)] (wr.alloc (.cells #[.int .u8 (v % 256)] 5)) :=
          Src.ofSlice _ Try.underlying33 ⟨wr.heap.size, 0, none⟩ 1 1 _ rfl (cell_one_new _ _ _) (by intro u hu; simp at hu; subst hu; rfl)
        go_wp2_with (at_builtin; refine wpList_append_own_src _ rfl (.tmp 33) (.tmp 36) 33 33 rfl (b + 1) 5 i0 (.int .u8 0) 1 1 Try.underlying33 hi hz0 hz1 hz2 rfl rfl (hown.alloc _) rfl hsrc ?_ ?_ ?_ ?_)
        · unfold maxLen; omega
        · omega
        · simp; omega
        intro b' c' w1 hown1 hg1
        have hg2 : wr.grownBy w1 (Value.slice a m.length c).ownBlock := ⟨hg1.os, hg1.tape, hg1.output, Nat.le_trans (by simp) hg1.size, fun k hk hne => (hg1.block k (by simp; omega) hne).trans (Below.heap_alloc wr _ k hk)⟩
        have e1 : ([.int .u8 (v % 256)] : List Value) = bv [UInt8.ofNat (v % 256).toNat] := by rw [bv_one, hby.out]
        rw [e1] at hown1
        obtain ⟨k0, f0, l0, hW, hB⟩ := hwr.store (m := [UInt8.ofNat (v % 256).toNat]) hc hown hg2 hown1
        clear e1 hsrc hown1 hown hg1 hg2
        go_wp2
        go_roundw
        case rel => exact ⟨j + 1, by omega, by go_num, by rw [sh, hv.out], by rw [le, ← List.append_assoc, hm.out, hv.out]; exact hW, hbr.trans hB⟩
        case measure => simp [intOf]; omega
      · obtain rfl : j = kn := by omega
        go_wp2
        go_ret
        exact ⟨rfl, hwr, hbr⟩

set_option maxHeartbeats 400000 in
theorem num_no {w : World} {a : Addr} (k : Int) (n : Int) (h0 : 0 ≤ n) (h1 : n ≤ 18446744073709551615) (h : okNum k n = false) :
    Calls Try.prog 21 #[.pointer (some a), .int .i64 k, .int .u64 n] w fun e w' => e = .returned (.bool false) ∧ w = w' := by
  by_cases hw : isW k = true
  · have hk : k = 1 ∨ k = 2 ∨ k = 4 ∨ k = 8 := by simp only [isW, Bool.or_eq_true, beq_iff_eq] at hw; omega
    have hn : (sh k.toNat n == 0) = false := by rw [okNum, hw, Bool.true_and] at h; exact h
    clear hw h
    rcases hk with rfl | rfl | rfl | rfl
    · have hs : ((n / 256 : Int) != 0) = true := by rw [show Int.toNat 1 = 1 from rfl, sh1] at hn; simpa using hn
      clear hn
      go_enter Try.func21, Try.ntmps21
      go_wp2_with (first | (go_at_call 44; refine (isWide_yes _ (by omega) _).mono ?_; rintro e w' ⟨rfl, rfl⟩))
      go_ret
      exact ⟨rfl, rfl⟩
    · have hs : ((n / 65536 : Int) != 0) = true := by rw [show Int.toNat 2 = 2 from rfl, sh2] at hn; simpa using hn
      clear hn
      go_enter Try.func21, Try.ntmps21
      go_wp2_with (first | (go_at_call 44; refine (isWide_yes _ (by omega) _).mono ?_; rintro e w' ⟨rfl, rfl⟩))
      go_ret
      exact ⟨rfl, rfl⟩
    · have hs : ((n / 4294967296 : Int) != 0) = true := by rw [show Int.toNat 4 = 4 from rfl, sh4] at hn; simpa using hn
      clear hn
      go_enter Try.func21, Try.ntmps21
      go_wp2_with (first | (go_at_call 44; refine (isWide_yes _ (by omega) _).mono ?_; rintro e w' ⟨rfl, rfl⟩))
      go_ret
      exact ⟨rfl, rfl⟩
    · rw [show Int.toNat 8 = 8 from rfl, sh8, beq_eq_false_iff_ne] at hn
      omega
  · have hw : isW k = false := by simpa using hw
    go_enter Try.func21, Try.ntmps21
    go_wp2_with (first | (go_at_call 44; refine (isWide_no _ hw _).mono ?_; rintro e w' ⟨rfl, rfl⟩))
    go_ret
    exact ⟨rfl, rfl⟩

/-- Num, whatever it is asked -/
theorem num_c {B : Nat} {w : World} {b : Nat} {l : List UInt8} (hw : IsW B w b l) (k : Int) (n : Int) (h0 : 0 ≤ n) (h1 : n ≤ 18446744073709551615) (hl : l.length + 8 ≤ 140737488355328) :
    Calls Try.prog 21 #[.pointer (some ⟨b, 0, none⟩), .int .i64 k, .int .u64 n] w fun e w' => e = .returned (.bool (okNum k n)) ∧ IsW B w' b (l ++ if okNum k n then le k.toNat n else []) ∧ Below b w w' := by
  by_cases h : okNum k n = true
  · rw [h, if_pos rfl]
    simp only [okNum, isW, Bool.and_eq_true, Bool.or_eq_true, beq_iff_eq] at h
    exact num_yes hw k n h0 h1 (by omega) h.2 hl
  · have h' : okNum k n = false := by simpa using h
    rw [h', if_neg (by decide), List.append_nil]
    refine (num_no k n h0 h1 h').mono fun e w' ⟨he, hww⟩ => ⟨he, ?_, ?_⟩
    · rw [← hww]; exact hw
    · rw [← hww]; exact Below.refl _ _

/-- a nil Writer -/
theorem num_nil {w : World} (k : Int) (n : Int) :
    Calls Try.prog 21 #[.pointer none, .int .i64 k, .int .u64 n] w fun e w' => e = .returned (.bool false) ∧ w = w' := by
  go_enter Try.func21, Try.ntmps21
  go_wp2_with fail
  go_ret
  exact ⟨rfl, rfl⟩
theorem raw_nil {w : World} (s : ByteArray) :
    Calls Try.prog 26 #[.pointer none, .string s] w fun e w' => e = .returned (.bool false) ∧ w = w' := by
  go_enter Try.func26, Try.ntmps26
  go_wp2_with fail
  go_ret
  exact ⟨rfl, rfl⟩
theorem string_nil {w : World} :
    Calls Try.prog 27 #[.pointer none] w fun e w' => e = .returned (.string ByteArray.empty) ∧ w = w' := by
  go_enter Try.func27, Try.ntmps27
  go_wp2_with fail
  go_ret
  exact ⟨rfl, rfl⟩

def lenByte (n : Nat) : List UInt8 := le 1 n

set_option maxHeartbeats 400000 in
theorem name_yes {B : Nat} {w : World} {b : Nat} {l : List UInt8} (hw : IsW B w b l) (s : ByteArray) (hs : s.size ≤ 255) (hl : l.length + 300 ≤ 140737488355328) :
    Calls Try.prog 23 #[.pointer (some ⟨b, 0, none⟩), .string s] w fun e w' => e = .returned (.bool true) ∧ IsW B w' b (l ++ (le 1 s.size ++ byts s)) ∧ Below b w w' := by
  have hsh : sh 1 (s.size : Int) = 0 := by rw [sh1]; omega
  go_enter Try.func23, Try.ntmps23
  go_wp2_with fail
  refine (num_yes hw 1 (s.size : Int) (by omega) (by omega) (by omega) hsh (by omega)).mono ?_
  rintro e w1 ⟨rfl, hw1, hb1⟩
  go_wp2_with fail
  refine (raw_c hw1 s (by rw [List.length_append, le_length]; simp; omega)).mono ?_
  rintro e w2 ⟨rfl, hw2, hb2⟩
  go_wp2_with fail
  go_ret
  exact ⟨rfl, by rw [List.append_assoc] at hw2; exact hw2, hb1.trans hb2⟩

set_option maxHeartbeats 400000 in
theorem name_no {w : World} (v : Value) (s : ByteArray) (hs : 255 < s.size) (hs2 : s.size ≤ maxLen) :
    Calls Try.prog 23 #[v, .string s] w fun e w' => e = .returned (.bool false) ∧ w = w' := by
  unfold maxLen at hs2
  go_enter Try.func23, Try.ntmps23
  go_wp2_with fail
  go_ret
  exact ⟨rfl, rfl⟩

set_option maxHeartbeats 400000 in
theorem name_nil {w : World} (s : ByteArray) (hs2 : s.size ≤ maxLen) :
    Calls Try.prog 23 #[.pointer none, .string s] w fun e w' => e = .returned (.bool false) ∧ w = w' := by
  by_cases hs : 255 < s.size
  · exact name_no _ s hs hs2
  · go_enter Try.func23, Try.ntmps23
    go_wp2_with fail
    refine (num_nil _ _).mono ?_
    rintro e w' ⟨rfl, rfl⟩
    go_wp2_with fail
    go_ret
    exact ⟨rfl, rfl⟩

set_option maxHeartbeats 400000 in
theorem part_c {B : Nat} {w : World} {b : Nat} {l : List UInt8} (hw : IsW B w b l) (s : ByteArray) (hs : s.size ≤ 4294967295) (hl : l.length + 10000000000 ≤ 140737488355328) :
    Calls Try.prog 25 #[.pointer (some ⟨b, 0, none⟩), .string s] w fun e w' => e = .returned (.bool true) ∧ IsW B w' b (l ++ (le 4 s.size ++ byts s)) ∧ Below b w w' := by
  have hsh : sh 4 (s.size : Int) = 0 := by rw [sh4]; omega
  go_enter Try.func25, Try.ntmps25
  go_wp2_with fail
  refine (num_yes hw 4 (s.size : Int) (by omega) (by omega) (by omega) hsh (by omega)).mono ?_
  rintro e w1 ⟨rfl, hw1, hb1⟩
  go_wp2_with fail
  refine (raw_c hw1 s (by rw [List.length_append, le_length]; simp; omega)).mono ?_
  rintro e w2 ⟨rfl, hw2, hb2⟩
  go_wp2_with fail
  go_ret
  exact ⟨rfl, by rw [List.append_assoc] at hw2; exact hw2, hb1.trans hb2⟩

set_option maxHeartbeats 400000 in
theorem part_nil {w : World} (s : ByteArray) (hs2 : s.size ≤ maxLen) :
    Calls Try.prog 25 #[.pointer none, .string s] w fun e w' => e = .returned (.bool false) ∧ w = w' := by
  unfold maxLen at hs2
  go_enter Try.func25, Try.ntmps25
  go_wp2_with fail
  refine (num_nil _ _).mono ?_
  rintro e w' ⟨rfl, rfl⟩
  go_wp2_with fail
  go_ret
  exact ⟨rfl, rfl⟩
end Go.Proofs.Ytaddckdbhakgmaa
