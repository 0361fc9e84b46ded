/- the walk over retrofitref09.Digits, at numbers from 0 up -/
import Derived.Test.YtmikhngmclngiaaDoorSgT
import Derived.Test.YtmikhngmclngiaaDoorWvD
namespace Go.Proofs.YtmikhngmclngiaaDoor
open Go.RowKit
open Rf
open Wide

theorem str_nil (l : List UInt8) : ((text l).toList == ([] : List UInt8)) = l.isEmpty := by
  rw [toList_byts, byts_text]
  cases l <;> rfl
theorem one_dig (k : Nat) (hk : k < 10) (w : World) :
    (convert 68 9 (.slice (some ⟨w.heap.size, 0, none⟩) 1 1)).run Tryd.prog (w.alloc (.cells #[.int .u8 (48 + (k : Int))] 5)) = .ok (.string (text [UInt8.ofNat (48 + k)])) (w.alloc (.cells #[.int .u8 (48 + (k : Int))] 5)) := by
  have e : ([.int .u8 (48 + (k : Int))] : List Value) = bv [UInt8.ofNat (48 + k)] := by
    rw [bv_one, dig_toNat hk]
    rfl
  have h := ownsRow_lit w w.heap.size 5 (bv [UInt8.ofNat (48 + k)]) 1 (Nat.le_refl _) (by simp [bv]) (by unfold maxLen; omega)
  rw [e]
  exact run_string_own _ 68 9 5 Tryd.underlying68 Tryd.underlying5 Tryd.underlying9 h
def sEmpty (v : Value) : Nat := match v with
  | .string b => if b.size = 0 then 1 else 0
  | _ => 0
/-- what is written, and what is still to be written -/
def Wd (N v : Nat) (l : List UInt8) : Prop := (l = [] ∧ v = N) ∨ (l ≠ [] ∧ more v ++ l = digs N)
theorem Wd.step {N v : Nat} {l : List UInt8} (h : Wd N v l) (hc : l = [] ∨ v ≠ 0) : Wd N (v / 10) (UInt8.ofNat (48 + v % 10) :: l) := by
  refine .inr ⟨List.cons_ne_nil _ _, ?_⟩
  rcases h with ⟨rfl, rfl⟩ | ⟨h1, h2⟩
  · rw [digs_more v]
  · have h0 : v ≠ 0 := hc.elim (fun h => absurd h h1) id
    rw [← h2]
    unfold more at h2 ⊢
    rw [if_neg h0]
    conv => rhs; rw [digs_more v]
    unfold more
    simp
theorem Wd.len {N v : Nat} {l : List UInt8} (h : Wd N v l) (hN : N < 10 ^ 20) : l.length ≤ 20 := by
  rcases h with ⟨rfl, _⟩ | ⟨_, h⟩
  · exact Nat.zero_le _
  · have h1 := digs_len 19 N hN
    rw [← h, List.length_append] at h1
    omega

set_option maxRecDepth 100000 in
set_option maxHeartbeats 4000000 in
theorem digits_c (N : Nat) (hN : N ≤ 9223372036854775807) : Ret 32 #[.int .i64 (N : Int)] (.string (text (digs N))) := fun w => by
  obtain ⟨res, hres⟩ : ∃ res, text (digs N) = res := ⟨_, rfl⟩
  rw [hres]
  replace hres := Lib.hid hres
  have hn0 : ¬ (N : Int) < 0 := by omega
  go_enter Tryd.func32, Tryd.ntmps32
  go_wp2_with fail
  go_loopw [0, 3] (fun nv sv wr => ∃ (l : List UInt8) (v : Nat), nv = .int .i64 (v : Int) ∧ sv = .string (text l) ∧ v ≤ N ∧ Wd N v l ∧ Below w.heap.size w wr) (fun nv sv _ => (intOf nv).toNat + sEmpty sv)
  case atStart => exact ⟨[], N, rfl, rfl, Nat.le_refl _, .inl ⟨rfl, rfl⟩, Below.refl _ _⟩
  case round =>
    obtain ⟨l, v, rfl, rfl, hvN, hw, hb⟩ := hrel
    have hll := Wd.len hw (by omega)
    have hs0 := str_nil l
    have hsz := hb.size
    replace hb := Lib.hid hb
    by_cases hend : l ≠ [] ∧ v = 0
    · obtain ⟨hne, rfl⟩ := hend
      have hl : l = digs N := by
        rcases hw with ⟨h, _⟩ | ⟨_, h⟩
        · exact absurd h hne
        · exact h
      have hr := hres.out
      rw [← hl] at hr
      subst hr
      have hs1 : ((text l).toList == ([] : List UInt8)) = false := by
        rw [hs0]
        cases l with
        | nil => exact absurd rfl hne
        | cons _ _ => rfl
      clear hs0 hl hres hw
      go_wp2_with fail
      go_ret
      exact ⟨rfl, hb.out⟩
    · have hstep := hw.step (by
        by_cases hl : l = []
        · exact .inl hl
        · exact .inr (fun h => hend ⟨hl, h⟩))
      obtain ⟨k, hk⟩ : ∃ k, v % 10 = k := ⟨_, rfl⟩
      rw [hk] at hstep
      have hk9 : k < 10 := by omega
      have e0 : (v : Int).tmod 10 = (k : Int) := by rw [Int.tmod_eq_emod_of_nonneg (by omega)]; omega
      have e0' : (v : Int) % 10 = (k : Int) := by omega
      have e1 : ¬ (k : Int) < 0 := by omega
      have e2 : IntKind.i64.wrap (48 + (k : Int)) = 48 + (k : Int) := IntWalk.i64_in _ (by omega)
      have e3 : IntKind.u8.wrap (48 + (k : Int)) = 48 + (k : Int) := IntWalk.u8_in _ (by omega)
      have hcv := one_dig k hk9 wr
      obtain ⟨u, hu⟩ : ∃ u, UInt8.ofNat (48 + k) = u := ⟨_, rfl⟩
      rw [hu] at hcv hstep
      have hsz1 : (text [u]).size + (text l).size ≤ 1000 := by rw [text_size, text_size]; simp only [List.length_cons, List.length_nil]; omega
      have hmeas : v / 10 + sEmpty (.string (text (u :: l))) < v + sEmpty (.string (text l)) := by
        have h1 : sEmpty (.string (text (u :: l))) = 0 := by
          show (if (text (u :: l)).size = 0 then 1 else 0) = 0
          rw [text_size]; rfl
        rw [h1]
        by_cases hl : l = []
        · subst hl
          have : sEmpty (.string (text [])) = 1 := rfl
          omega
        · have : v ≠ 0 := fun h => hend ⟨hl, h⟩
          omega
      have hfin := Lib.hid (hb.out.alloc hsz (.cells #[.int .u8 (48 + (k : Int))] 5))
      replace hmeas := Lib.hid hmeas
      replace hstep := Lib.hid hstep
      clear hu hk hw
      by_cases hl : l = []
      · subst hl
        have hs1 : ((text []).toList == ([] : List UInt8)) = true := hs0
        clear hs0
        go_wp2_with fail
        rw [text_append]
        go_roundw
        case rel => exact ⟨[u], v / 10, by go_num, rfl, by omega, hstep.out, hfin.out⟩
        case measure => exact hmeas.out
      · have hs1 : ((text l).toList == ([] : List UInt8)) = false := by
          rw [hs0]
          cases l with
          | nil => exact absurd rfl hl
          | cons _ _ => rfl
        clear hs0
        have hv0 : ((v : Int) != 0) = true := bne_iff_ne.2 (by have : v ≠ 0 := fun h => hend ⟨hl, h⟩; omega)
        go_wp2_with fail
        rw [text_append]
        go_roundw
        case rel => exact ⟨u :: l, v / 10, by go_num, rfl, by omega, hstep.out, hfin.out⟩
        case measure => exact hmeas.out
end Go.Proofs.YtmikhngmclngiaaDoor
