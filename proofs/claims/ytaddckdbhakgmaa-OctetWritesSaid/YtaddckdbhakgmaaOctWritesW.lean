/- the walk of OctetWrites -/
import Derived.Test.YtaddckdbhakgmaaActs
namespace Go.Proofs.Ytaddckdbhakgmaa
open Go.RowKit
open Rf

/-- a copy of an act, in a variable of its own, in a later world -/
theorem act_new {w w' : World} {K W N : Int} {S : ByteArray} (h : Below (w.alloc (.cells #[.int .i64 K, .int .i64 W, .int .u64 N, .string S] 45)).heap.size (w.alloc (.cells #[.int .i64 K, .int .i64 W, .int .u64 N, .string S] 45)) w') :
    w'.cell? ⟨w.heap.size, 0, none⟩ = some (.int .i64 K) ∧ w'.cell? ⟨w.heap.size, 1, none⟩ = some (.int .i64 W) ∧ w'.cell? ⟨w.heap.size, 2, none⟩ = some (.int .u64 N) ∧ w'.cell? ⟨w.heap.size, 3, none⟩ = some (.string S) := by
  have hg : (w.alloc (.cells #[.int .i64 K, .int .i64 W, .int .u64 N, .string S] 45)).heap[w.heap.size]? = some (.cells #[.int .i64 K, .int .i64 W, .int .u64 N, .string S] 45 (0, 0)) := heap_alloc_new w _
  have hg' := (h.block w.heap.size (by simp)).trans hg
  refine ⟨?_, ?_, ?_, ?_⟩ <;> simp [World.cell?, hg']

set_option maxRecDepth 100000 in
set_option maxHeartbeats 8000000 in
theorem octWrites_any (a : Option Addr) (len cap : Nat) (z : Nat → ActD) (w : World) (hlen : len ≤ maxLen) (hr : RowAct w a len z) :
    Calls Try.prog 7 #[.slice a len cap] w fun e w' => e = .returned (.bool true) ∧ Below w.heap.size w w' := by
  replace hlen : len ≤ 9223372036854775807 := by unfold maxLen at hlen; omega
  go_enter Try.func7, Try.ntmps7
  go_wp2_with fail
  refine (awake2_c _).mono ?_
  rintro e w1 ⟨rfl, hb1⟩
  have hrW : RowAct w1 a len z := hr.below hb1
  have hw1 := IsW.new w1.heap.size w1 (Nat.le_refl _)
  have hs1 := hb1.size
  clear hr
  replace hrW := Lib.hid hrW
  go_wp2_with fail
  go_loopw [4, 5] (fun s i wr => ∃ (k : Nat) (l : List UInt8), k ≤ 40 ∧ i = .int .i64 k ∧ s = .string (text l) ∧ l.length ≤ k * 1100 ∧ IsW w1.heap.size wr w1.heap.size l ∧ Below w1.heap.size w1 wr ) (fun _ i _ => 40 - (intOf i).toNat)
  case atStart => exact ⟨0, [], by omega, rfl, rfl, by simp, hw1, (Below.refl _ _).alloc (Nat.le_refl _) _⟩
  case round =>
    obtain ⟨k, l, hk, rfl, rfl, hll, hw, hb⟩ := hrel
    have hsr := hb.size
    clear hw1
    have hr := hrW.out.below hb
    by_cases hlt : k < len ∧ k < 40
    · obtain ⟨hlt, hlt2⟩ := hlt
      obtain ⟨b0, off, rfl, hl0, ho, c0, c1, c2, c3⟩ := hr k hlt
      obtain ⟨o1, o2, o3, o4, o5, o6, o7⟩ := ho
      generalize z k = x at *
      obtain ⟨K, W, N, S⟩ := x
      dsimp only at *
      by_cases hS : 1024 < S.size
      · unfold maxLen at o7
        go_wp2_with fail
        go_ret
        exact ⟨rfl, (hb1.trans (hb.mono hs1)).alloc (by omega) _⟩
      have hS' : S.size ≤ 1024 := by omega
      have hSz := byts_length S
      have hwa := hw.below ((Below.refl wr.heap.size wr).alloc (Nat.le_refl _) (.cells #[.int .i64 K, .int .i64 W, .int .u64 N, .string S] 45))
      have hba : Below w1.heap.size w1 (wr.alloc (.cells #[.int .i64 K, .int .i64 W, .int .u64 N, .string S] 45)) := hb.alloc hsr _
      have hszA : w1.heap.size ≤ (wr.alloc (.cells #[.int .i64 K, .int .i64 W, .int .u64 N, .string S] 45)).heap.size := hba.size
      have hlz := text_size l
      clear hr hw hb o1 o2
      replace hSz := Lib.hid hSz
      have hlb : (text l).size ≤ 50000 := by omega
      replace hlz := Lib.hid hlz
      replace hszA := Lib.hid hszA
      replace hba := Lib.hid hba
      replace hwa := Lib.hid hwa
      by_cases hK1 : K = 1
      · have t1 : (K == 1) = true := beq_iff_eq.2 hK1
        clear hK1
        have e9 := text_append l (le W.toNat N)
        have hm9 : (text (le W.toNat N)).size = W.toNat := by rw [text_size, le_length]
        cases hok : okNum W N with
        | true =>
          have hWn : W.toNat ≤ 8 := by
            simp only [okNum, isW, Bool.and_eq_true, Bool.or_eq_true, beq_iff_eq] at hok
            omega
          have cr := refNum_c W N o5 o6 (wr.alloc (.cells #[.int .i64 K, .int .i64 W, .int .u64 N, .string S] 45))
          rw [hok, if_pos rfl] at cr
          replace cr := Lib.hid cr
          replace hok := Lib.hid hok
          go_wp2_with fail
          refine cr.out.mono ?_
          rintro e w2 ⟨rfl, hb2⟩
          obtain ⟨d0, d1, d2, d3⟩ := act_new hb2
          have hw2 := Lib.hid (hwa.out.below hb2)
          have hb2' := Lib.hid (hba.out.trans (hb2.mono hszA.out))
          have hs2 := hb2'.out.size
          have cw := num_c hw2.out W N o5 o6 (by omega)
          rw [hok.out, if_pos rfl] at cw
          replace cw := Lib.hid cw
          go_wp2_with fail
          refine cw.out.mono ?_
          rintro e w3 ⟨rfl, hw3, hbw⟩
          have hb3 := Lib.hid (hb2'.out.trans hbw)
          clear hbw
          replace hw3 := Lib.hid hw3
          go_wp2_with fail
          have q9 : ((text (l ++ le W.toNat N)).toList == (text (l ++ le W.toNat N)).toList) = true := beq_self_eq_true _
          refine (string_c hw3.out).mono ?_
          rintro e w' ⟨rfl, rfl⟩
          go_wp2_with fail
          go_roundw
          case rel => exact ⟨k + 1, l ++ le W.toNat N, by omega, by go_num, rfl, by rw [List.length_append, le_length]; omega, hw3.out, hb3.out⟩
          case measure => simp [intOf]; omega
        | false =>
          have cr := refNum_c W N o5 o6 (wr.alloc (.cells #[.int .i64 K, .int .i64 W, .int .u64 N, .string S] 45))
          rw [hok, if_neg (by decide)] at cr
          replace cr := Lib.hid cr
          replace hok := Lib.hid hok
          go_wp2_with fail
          refine cr.out.mono ?_
          rintro e w2 ⟨rfl, hb2⟩
          obtain ⟨d0, d1, d2, d3⟩ := act_new hb2
          have hw2 := Lib.hid (hwa.out.below hb2)
          have hb2' := Lib.hid (hba.out.trans (hb2.mono hszA.out))
          have hs2 := hb2'.out.size
          have cw := num_c hw2.out W N o5 o6 (by omega)
          rw [hok.out, if_neg (by decide), List.append_nil] at cw
          replace cw := Lib.hid cw
          go_wp2_with fail
          refine cw.out.mono ?_
          rintro e w3 ⟨rfl, hw3, hbw⟩
          have hb3 := Lib.hid (hb2'.out.trans hbw)
          clear hbw
          replace hw3 := Lib.hid hw3
          go_wp2_with fail
          have q9 : ((text (l)).toList == (text (l)).toList) = true := beq_self_eq_true _
          refine (string_c hw3.out).mono ?_
          rintro e w' ⟨rfl, rfl⟩
          go_wp2_with fail
          go_roundw
          case rel => exact ⟨k + 1, l, by omega, by go_num, rfl, by omega, hw3.out, hb3.out⟩
          case measure => simp [intOf]; omega
      have t1 : (K == 1) = false := beq_eq_false_iff_ne.2 hK1
      clear hK1
      by_cases hK2 : K = 2
      · have t2 : (K == 2) = true := beq_iff_eq.2 hK2
        clear hK2
        by_cases h255 : S.size ≤ 255
        · have e9 := text_append l (le 1 (S.size : Int) ++ byts S)
          have hm9 : (text (le 1 (S.size : Int) ++ byts S)).size = 1 + S.size := by rw [text_size, List.length_append, le_length, byts_length]
          go_wp2_with fail
          refine (refName_yes S h255 _).mono ?_
          rintro e w2 ⟨rfl, hb2⟩
          obtain ⟨d0, d1, d2, d3⟩ := act_new hb2
          have hw2 := Lib.hid (hwa.out.below hb2)
          have hb2' := Lib.hid (hba.out.trans (hb2.mono hszA.out))
          have hs2 := hb2'.out.size
          go_wp2_with fail
          refine (name_yes hw2.out S h255 (by omega)).mono ?_
          rintro e w3 ⟨rfl, hw3, hbw⟩
          have hb3 := Lib.hid (hb2'.out.trans hbw)
          clear hbw
          replace hw3 := Lib.hid hw3
          go_wp2_with fail
          have q9 : ((text (l ++ (le 1 (S.size : Int) ++ byts S))).toList == (text (l ++ (le 1 (S.size : Int) ++ byts S))).toList) = true := beq_self_eq_true _
          refine (string_c hw3.out).mono ?_
          rintro e w' ⟨rfl, rfl⟩
          go_wp2_with fail
          go_roundw
          case rel => exact ⟨k + 1, l ++ (le 1 (S.size : Int) ++ byts S), by omega, by go_num, rfl, by rw [List.length_append, List.length_append, le_length, hSz.out]; omega, hw3.out, hb3.out⟩
          case measure => simp [intOf]; omega
        · have h255' : 255 < S.size := by omega
          go_wp2_with fail
          refine (refName_no S h255' o7 _).mono ?_
          rintro e w2 ⟨rfl, hb2⟩
          obtain ⟨d0, d1, d2, d3⟩ := act_new hb2
          have hw2 := Lib.hid (hwa.out.below hb2)
          have hb2' := Lib.hid (hba.out.trans (hb2.mono hszA.out))
          have hs2 := hb2'.out.size
          go_wp2_with fail
          refine (name_no _ S h255' o7).mono ?_
          rintro e w' ⟨rfl, rfl⟩
          have hw3 := hw2
          have hb3 := hb2'
          go_wp2_with fail
          have q9 : ((text (l)).toList == (text (l)).toList) = true := beq_self_eq_true _
          refine (string_c hw3.out).mono ?_
          rintro e w' ⟨rfl, rfl⟩
          go_wp2_with fail
          go_roundw
          case rel => exact ⟨k + 1, l, by omega, by go_num, rfl, by omega, hw3.out, hb3.out⟩
          case measure => simp [intOf]; omega
      have t2 : (K == 2) = false := beq_eq_false_iff_ne.2 hK2
      clear hK2
      by_cases hK3 : K = 3
      · have t3 : (K == 3) = true := beq_iff_eq.2 hK3
        clear hK3
        have e9 := text_append l (le 4 (S.size : Int) ++ byts S)
        have hm9 : (text (le 4 (S.size : Int) ++ byts S)).size = 4 + S.size := by rw [text_size, List.length_append, le_length, byts_length]
        go_wp2_with fail
        refine (refPart_c S (by omega) _).mono ?_
        rintro e w2 ⟨rfl, hb2⟩
        obtain ⟨d0, d1, d2, d3⟩ := act_new hb2
        have hw2 := Lib.hid (hwa.out.below hb2)
        have hb2' := Lib.hid (hba.out.trans (hb2.mono hszA.out))
        have hs2 := hb2'.out.size
        go_wp2_with fail
        refine (part_c hw2.out S (by omega) (by omega)).mono ?_
        rintro e w3 ⟨rfl, hw3, hbw⟩
        have hb3 := Lib.hid (hb2'.out.trans hbw)
        clear hbw
        replace hw3 := Lib.hid hw3
        go_wp2_with fail
        have q9 : ((text (l ++ (le 4 (S.size : Int) ++ byts S))).toList == (text (l ++ (le 4 (S.size : Int) ++ byts S))).toList) = true := beq_self_eq_true _
        refine (string_c hw3.out).mono ?_
        rintro e w' ⟨rfl, rfl⟩
        go_wp2_with fail
        go_roundw
        case rel => exact ⟨k + 1, l ++ (le 4 (S.size : Int) ++ byts S), by omega, by go_num, rfl, by rw [List.length_append, List.length_append, le_length, hSz.out]; omega, hw3.out, hb3.out⟩
        case measure => simp [intOf]; omega
      have t3 : (K == 3) = false := beq_eq_false_iff_ne.2 hK3
      clear hK3
      have e9 : text l ++ S = text (l ++ byts S) := by rw [← text_append, text_byts]
      go_wp2_with fail
      refine (raw_c hwa.out S (by omega)).mono ?_
      rintro e w3 ⟨rfl, hw3, hbw⟩
      have hb2' := hba
      have hb3 := Lib.hid (hb2'.out.trans hbw)
      clear hbw
      replace hw3 := Lib.hid hw3
      go_wp2_with fail
      have q9 : ((text (l ++ byts S)).toList == (text (l ++ byts S)).toList) = true := beq_self_eq_true _
      refine (string_c hw3.out).mono ?_
      rintro e w' ⟨rfl, rfl⟩
      go_wp2_with fail
      go_roundw
      case rel => exact ⟨k + 1, l ++ byts S, by omega, by go_num, rfl, by rw [List.length_append, hSz.out]; omega, hw3.out, hb3.out⟩
      case measure => simp [intOf]; omega
    · have hfin : Below w.heap.size w wr := hb1.trans (hb.mono hs1)
      by_cases h1 : k < len
      · have h2 : 40 ≤ k := by omega
        clear hlt
        go_wp2_with fail
        refine (num_nil _ _).mono ?_
        rintro e w' ⟨rfl, rfl⟩
        go_wp2_with fail
        refine (name_nil _ (by decide)).mono ?_
        rintro e w' ⟨rfl, rfl⟩
        go_wp2_with fail
        refine (part_nil _ (by decide)).mono ?_
        rintro e w' ⟨rfl, rfl⟩
        go_wp2_with fail
        refine (raw_nil _).mono ?_
        rintro e w' ⟨rfl, rfl⟩
        go_wp2_with fail
        refine string_nil.mono ?_
        rintro e w' ⟨rfl, rfl⟩
        go_wp2_with fail
        go_ret
        exact ⟨rfl, hfin⟩
      · clear hlt
        go_wp2_with fail
        refine (num_nil _ _).mono ?_
        rintro e w' ⟨rfl, rfl⟩
        go_wp2_with fail
        refine (name_nil _ (by decide)).mono ?_
        rintro e w' ⟨rfl, rfl⟩
        go_wp2_with fail
        refine (part_nil _ (by decide)).mono ?_
        rintro e w' ⟨rfl, rfl⟩
        go_wp2_with fail
        refine (raw_nil _).mono ?_
        rintro e w' ⟨rfl, rfl⟩
        go_wp2_with fail
        refine string_nil.mono ?_
        rintro e w' ⟨rfl, rfl⟩
        go_wp2_with fail
        go_ret
        exact ⟨rfl, hfin⟩
end Go.Proofs.Ytaddckdbhakgmaa
