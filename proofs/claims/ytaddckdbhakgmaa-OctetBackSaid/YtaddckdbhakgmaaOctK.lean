/- the Writer's walks once more, with what they leave as it is: blocks of other types (printed by gen_octk.py from OctW) -/
import Derived.Test.YtaddckdbhakgmaaActs
namespace Go.Proofs.Ytaddckdbhakgmaa
open Go.RowKit
open Rf

/-- blocks that are no Writer and no bytes are as they were -/
def KeepT (w w' : World) : Prop := ∀ (F : Nat) (cs : Array Value) (T : TypeId) (p : Nat × Nat), T ≠ 5 → T ≠ 42 → w.heap[F]? = some (.cells cs T p) → w'.heap[F]? = some (.cells cs T p)
theorem KeepT.refl (w : World) : KeepT w w := fun _ _ _ _ _ _ h => h
theorem KeepT.trans {a b c : World} (h : KeepT a b) (k : KeepT b c) : KeepT a c := fun F cs T p h1 h2 h3 => k F cs T p h1 h2 (h F cs T p h1 h2 h3)
theorem KeepT.below {w w' : World} (h : Below w.heap.size w w') : KeepT w w' := fun F _ _ _ _ _ h3 => (h.block F (lt_of_block h3)).trans h3
theorem IsW.keep {B : Nat} {w w1 : World} {b : Nat} {l : List UInt8} {a : Option Addr} {c : Nat} (h : IsW B w b l) (_hc : w.cell? ⟨b, 0, none⟩ = some (.slice a l.length c)) (hown : w.ownsRow (b + 1) 5 1 (.slice a l.length c) l.length (bv l))
    (hg : w.grownBy w1 (Value.slice a l.length c).ownBlock) (v : Value) : KeepT w (w1.setCell ⟨b, 0, none⟩ v) := by
  intro F cs T p hT1 hT2 hF
  obtain ⟨hB, a0, c0, hb, _⟩ := h
  have hne : F ≠ b := by
    rintro rfl
    rw [hb] at hF
    simp only [Option.some.injEq, Obj.cells.injEq] at hF
    exact hT2 hF.2.1.symm
  have hno : some F ≠ (Value.slice a l.length c).ownBlock := by
    intro hh
    rcases hown.2 with ⟨hv, _⟩ | ⟨g, cap, cur, hv, _, hgb, _⟩
    · rw [hv] at hh
      cases hh
    · rw [hv] at hh
      obtain rfl : F = g := by simpa [Value.ownBlock] using hh
      rw [hgb] at hF
      simp only [Option.some.injEq, Obj.cells.injEq] at hF
      exact hT1 hF.2.1.symm
  show (w1.heap.modify b _)[F]? = _
  rw [Array.getElem?_modify, if_neg (fun e => hne e.symm), hg.block F (lt_of_block hF) hno]
  exact hF

set_option maxHeartbeats 400000 in
theorem raw_k {B : Nat} {w : World} {b : Nat} {l : List UInt8} (hw : IsW B w b l) (s : ByteArray) (hl : l.length + s.size ≤ 140737488355328) :
    Calls Try.prog 26 #[.pointer (some ⟨b, 0, none⟩), .string s] w fun e w' => e = .returned (.bool true) ∧ IsW B w' b (l ++ byts s) ∧ Below b w w' ∧ KeepT w w' := by
  obtain ⟨i0, hi, hz0, hz1, hz2⟩ := info_parts infoU8
  obtain ⟨a, c, hc, hf, hown⟩ := hw.cell
  have hlt := hw.lt
  have hsz : (byts s).length = s.size := byts_length s
  go_enter Try.func26, Try.ntmps26
  go_wp2_with (at_builtin; refine wpList_append_own_src _ rfl (.tmp 11) (.tmp 12) 33 9 rfl (b + 1) 5 i0 (.int .u8 0) 1 1 Try.underlying33 hi hz0 hz1 hz2 rfl rfl hown rfl (Src.ofString _ Try.underlying9 s) ?_ ?_ ?_ ?_)
  · unfold maxLen; omega
  · omega
  · omega
  intro b' c' w1 hown1 hg1
  rw [byteCells_bv, ← hsz] at hown1
  obtain ⟨k0, f0, l0, hW, hB⟩ := hw.store hc hown hg1 hown1
  rw [hsz] at hW hB
  go_wp2
  go_ret
  exact ⟨rfl, hW, hB, hw.keep hc hown hg1 _⟩


set_option maxHeartbeats 400000 in
theorem num_yesk {B : Nat} {w : World} {b : Nat} {l : List UInt8} (hw : IsW B w b l) (k : Int) (n : Int) (h0 : 0 ≤ n) (h1 : n ≤ 18446744073709551615) (hk : k = 1 ∨ k = 2 ∨ k = 4 ∨ k = 8) (hn : sh k.toNat n = 0) (hl : l.length + 8 ≤ 140737488355328) :
    Calls Try.prog 21 #[.pointer (some ⟨b, 0, none⟩), .int .i64 k, .int .u64 n] w fun e w' => e = .returned (.bool true) ∧ IsW B w' b (l ++ le k.toNat n) ∧ Below b w w' ∧ KeepT w w' := by
  obtain ⟨i0, hi, hz0, hz1, hz2⟩ := info_parts infoU8
  have hlt := hw.lt
  obtain ⟨kn, hka, hkb⟩ : ∃ kn : Nat, k ≤ kn ∧ (kn : Int) ≤ k := ⟨k.toNat, by omega, by omega⟩
  have hkn : k.toNat = kn := by omega
  rw [hkn] at hn ⊢
  clear hkn
  rcases hk with rfl | rfl | rfl | rfl
  all_goals
    have hn := hn
    first
    | (have hs : ((n / 256 : Int) != 0) = false := (by have hx : kn = 1 := (by omega); rw [hx, sh1] at hn; simp [hn]))
    | (have hs : ((n / 65536 : Int) != 0) = false := (by have hx : kn = 2 := (by omega); rw [hx, sh2] at hn; simp [hn]))
    | (have hs : ((n / 4294967296 : Int) != 0) = false := (by have hx : kn = 4 := (by omega); rw [hx, sh4] at hn; simp [hn]))
    | skip
    clear hn
    go_enter Try.func21, Try.ntmps21
    go_wp2_with (first | (go_at_call 44; refine (isWide_yes _ (by omega) _).mono ?_; rintro e w' ⟨rfl, rfl⟩))
    go_loopw [2, 27] (fun v i wr => ∃ j : Nat, j ≤ kn ∧ i = .int .i64 j ∧ v = .int .u64 (sh j n) ∧ IsW B wr b (l ++ le j n) ∧ Below b w wr ∧ KeepT w wr) (fun _ i _ => kn - (intOf i).toNat)
    case atStart => exact ⟨0, by omega, rfl, rfl, by simpa [le] using hw, Below.refl _ _, KeepT.refl _⟩
    case round =>
      obtain ⟨j, hj, rfl, rfl, hwr, hbr, hkr⟩ := hrel
      have hb := sh_bd j n _ h0 h1
      have hjn : j ≤ 8 := by omega
      by_cases hlt' : j < kn
      · obtain ⟨a, c, hc, hf, hown⟩ := hwr.cell
        have hltr := hwr.lt
        have hll : (l ++ le j n).length ≤ l.length + j := by rw [List.length_append, le_length]; omega
        have hby : ((UInt8.ofNat (sh j n % 256).toNat).toNat : Int) = sh j n % 256 := byte_back _ (by omega) (by omega)
        have hby := Lib.hid hby
        generalize hm : l ++ le j n = m at *
        have hm := Lib.hid hm
        generalize hv : sh j n = v at *
        have hv := Lib.hid hv
        have hsrc : Src Try.prog 1 33 (.slice (some ⟨wr.heap.size, 0, none⟩) 1 1) 1 [.int .u8 (v % 256)] (wr.alloc (.cells #[.int .u8 (v % 256)] 5)) :=
          Src.ofSlice _ Try.underlying33 ⟨wr.heap.size, 0, none⟩ 1 1 _ rfl (cell_one_new _ _ _) (by intro u hu; simp at hu; subst hu; rfl)
        go_wp2_with (at_builtin; refine wpList_append_own_src _ rfl (.tmp 33) (.tmp 36) 33 33 rfl (b + 1) 5 i0 (.int .u8 0) 1 1 Try.underlying33 hi hz0 hz1 hz2 rfl rfl (hown.alloc _) rfl hsrc ?_ ?_ ?_ ?_)
        · unfold maxLen; omega
        · omega
        · simp; omega
        intro b' c' w1 hown1 hg1
        have hg2 : wr.grownBy w1 (Value.slice a m.length c).ownBlock := ⟨hg1.os, hg1.tape, hg1.output, Nat.le_trans (by simp) hg1.size, fun k hk hne => (hg1.block k (by simp; omega) hne).trans (Below.heap_alloc wr _ k hk)⟩
        have e1 : ([.int .u8 (v % 256)] : List Value) = bv [UInt8.ofNat (v % 256).toNat] := by rw [bv_one, hby.out]
        rw [e1] at hown1
        obtain ⟨k0, f0, l0, hW, hB⟩ := hwr.store (m := [UInt8.ofNat (v % 256).toNat]) hc hown hg2 hown1
        have hK := Lib.hid (hkr.trans (hwr.keep hc hown hg2 (.slice b' (m.length + [UInt8.ofNat (v % 256).toNat].length) c')))
        clear e1 hsrc hown1 hown hg1 hg2
        go_wp2
        go_roundw
        case rel => exact ⟨j + 1, by omega, by go_num, by rw [sh, hv.out], by rw [le, ← List.append_assoc, hm.out, hv.out]; exact hW, hbr.trans hB, hK.out⟩
        case measure => simp [intOf]; omega
      · obtain rfl : j = kn := by omega
        go_wp2
        go_ret
        exact ⟨rfl, hwr, hbr, hkr⟩


theorem num_k {B : Nat} {w : World} {b : Nat} {l : List UInt8} (hw : IsW B w b l) (k : Int) (n : Int) (h0 : 0 ≤ n) (h1 : n ≤ 18446744073709551615) (hl : l.length + 8 ≤ 140737488355328) :
    Calls Try.prog 21 #[.pointer (some ⟨b, 0, none⟩), .int .i64 k, .int .u64 n] w fun e w' => e = .returned (.bool (okNum k n)) ∧ IsW B w' b (l ++ if okNum k n then le k.toNat n else []) ∧ Below b w w' ∧ KeepT w w' := by
  by_cases h : okNum k n = true
  · rw [h, if_pos rfl]
    simp only [okNum, isW, Bool.and_eq_true, Bool.or_eq_true, beq_iff_eq] at h
    exact num_yesk hw k n h0 h1 (by omega) h.2 hl
  · have h' : okNum k n = false := by simpa using h
    rw [h', if_neg (by decide), List.append_nil]
    refine (num_no k n h0 h1 h').mono fun e w' ⟨he, hww⟩ => ⟨he, ?_, ?_, ?_⟩
    · rw [← hww]; exact hw
    · rw [← hww]; exact Below.refl _ _
    · rw [← hww]; exact KeepT.refl _


set_option maxHeartbeats 400000 in
theorem name_k {B : Nat} {w : World} {b : Nat} {l : List UInt8} (hw : IsW B w b l) (s : ByteArray) (hs : s.size ≤ 255) (hl : l.length + 300 ≤ 140737488355328) :
    Calls Try.prog 23 #[.pointer (some ⟨b, 0, none⟩), .string s] w fun e w' => e = .returned (.bool true) ∧ IsW B w' b (l ++ (le 1 s.size ++ byts s)) ∧ Below b w w' ∧ KeepT w w' := by
  have hsh : sh 1 (s.size : Int) = 0 := by rw [sh1]; omega
  go_enter Try.func23, Try.ntmps23
  go_wp2_with fail
  refine (num_yesk hw 1 (s.size : Int) (by omega) (by omega) (by omega) hsh (by omega)).mono ?_
  rintro e w1 ⟨rfl, hw1, hb1, hk1⟩
  go_wp2_with fail
  refine (raw_k hw1 s (by rw [List.length_append, le_length]; simp; omega)).mono ?_
  rintro e w2 ⟨rfl, hw2, hb2, hk2⟩
  go_wp2_with fail
  go_ret
  exact ⟨rfl, by rw [List.append_assoc] at hw2; exact hw2, hb1.trans hb2, hk1.trans hk2⟩


set_option maxHeartbeats 400000 in
theorem part_k {B : Nat} {w : World} {b : Nat} {l : List UInt8} (hw : IsW B w b l) (s : ByteArray) (hs : s.size ≤ 4294967295) (hl : l.length + 10000000000 ≤ 140737488355328) :
    Calls Try.prog 25 #[.pointer (some ⟨b, 0, none⟩), .string s] w fun e w' => e = .returned (.bool true) ∧ IsW B w' b (l ++ (le 4 s.size ++ byts s)) ∧ Below b w w' ∧ KeepT w w' := by
  have hsh : sh 4 (s.size : Int) = 0 := by rw [sh4]; omega
  go_enter Try.func25, Try.ntmps25
  go_wp2_with fail
  refine (num_yesk hw 4 (s.size : Int) (by omega) (by omega) (by omega) hsh (by omega)).mono ?_
  rintro e w1 ⟨rfl, hw1, hb1, hk1⟩
  go_wp2_with fail
  refine (raw_k hw1 s (by rw [List.length_append, le_length]; simp; omega)).mono ?_
  rintro e w2 ⟨rfl, hw2, hb2, hk2⟩
  go_wp2_with fail
  go_ret
  exact ⟨rfl, by rw [List.append_assoc] at hw2; exact hw2, hb1.trans hb2, hk1.trans hk2⟩
end Go.Proofs.Ytaddckdbhakgmaa
