/- the walk over math/bits.OnesCount32 -/
import Derived.Test.YtmikhngmclngiaaDoorSgW
namespace Go.Proofs.YtmikhngmclngiaaDoor
open Go.RowKit
open Rf
open Sg

/-- how many bits of a byte are set -/
def pc (n : Nat) : Nat := n % 2 + n / 2 % 2 + n / 4 % 2 + n / 8 % 2 + n / 16 % 2 + n / 32 % 2 + n / 64 % 2 + n / 128 % 2
theorem pc_le (n : Nat) : pc n ≤ 8 := by unfold pc; omega
def popT : ByteArray := ⟨((List.range 256).map fun n => UInt8.ofNat (pc n)).toArray⟩
theorem popT_size : popT.size = 256 := by decide +kernel
theorem popT_get : ∀ i : Nat, i < 256 → popT.data.toList[i]? = some (UInt8.ofNat (pc i)) := fun i hi => by
  unfold popT
  simp [hi]
theorem exec_index {ev : Operand → Value} {o : Oper} {x : Operand} {T : ByteArray} {z : Int} {i p : Nat} (ho : o.op = .index 9 (.const (.string T)) x) (hev : ev (.const (.string T)) = .string T) (hx : ev x = .int .u32 z) (hz : z = (i : Int)) (hT : T = popT) (hi : i < 256) (hp : pc i = p) (w : World) :
    Sem.run Tryd.prog (execOp ev o) w = .ok (.value (.int .u8 (p : Int))) w := by
  subst hT hz hp
  have h := run_index_string (P := Tryd.prog) (w := w) 9 popT .u32 (i : Int) Tryd.underlying9
  rw [dif_pos ⟨by omega, by rw [popT_size]; omega⟩] at h
  have hg : (popT[(i : Int).toNat]'(by rw [popT_size]; omega)) = UInt8.ofNat (pc i) := by
    have h1 := popT_get i hi
    have h2 : popT.data.toList[i]? = some (popT[i]'(by rw [popT_size]; exact hi)) := by
      have hl : i < popT.data.toList.length := by
        have : popT.data.toList.length = popT.size := byts_length popT
        rw [this, popT_size]; exact hi
      rw [List.getElem?_eq_getElem hl]
      rfl
    rw [h2] at h1
    exact Option.some.inj h1
  rw [hg] at h
  have hpc := pc_le i
  have hn : (UInt8.ofNat (pc i)).toNat = pc i := by rw [UInt8.toNat_ofNat']; omega
  rw [hn] at h
  unfold execOp
  simp only [ho, hev, hx, Sem.run_bind, h, Result.andThen, Sem.run_pure]

set_option maxRecDepth 100000 in
set_option maxHeartbeats 4000000 in
theorem ones_c (s : Nat) (hs : s < 4294967296) : Ret 33 #[.int .u32 (s : Int)] (.int .i64 ((pc (s / 16777216) + pc (s / 65536 % 256) + pc (s / 256 % 256) + pc (s % 256) : Nat) : Int)) := fun w => by
  obtain ⟨P3, hP3⟩ : ∃ p, pc (s / 16777216) = p := ⟨_, rfl⟩
  obtain ⟨P2, hP2⟩ : ∃ p, pc (s / 65536 % 256) = p := ⟨_, rfl⟩
  obtain ⟨P1, hP1⟩ : ∃ p, pc (s / 256 % 256) = p := ⟨_, rfl⟩
  obtain ⟨P0, hP0⟩ : ∃ p, pc (s % 256) = p := ⟨_, rfl⟩
  have b3 : P3 ≤ 8 := hP3 ▸ pc_le _
  have b2 : P2 ≤ 8 := hP2 ▸ pc_le _
  have b1 : P1 ≤ 8 := hP1 ▸ pc_le _
  have b0 : P0 ≤ 8 := hP0 ▸ pc_le _
  rw [hP3, hP2, hP1, hP0]
  have a1 : bits .and .u32 ((s : Int) / 65536) 255 = (s : Int) / 65536 % 256 := by
    rw [show ((s : Int) / 65536) = ((s / 65536 : Nat) : Int) by omega]
    have h := u32_and_nat (s / 65536) 255 (by omega) (by decide)
    rw [show s / 65536 &&& 255 = s / 65536 % 2 ^ 8 from Nat.and_two_pow_sub_one_eq_mod (s / 65536) 8] at h
    exact h.trans (by omega)
  have a2 : bits .and .u32 ((s : Int) / 256) 255 = (s : Int) / 256 % 256 := by
    rw [show ((s : Int) / 256) = ((s / 256 : Nat) : Int) by omega]
    have h := u32_and_nat (s / 256) 255 (by omega) (by decide)
    rw [show s / 256 &&& 255 = s / 256 % 2 ^ 8 from Nat.and_two_pow_sub_one_eq_mod (s / 256) 8] at h
    exact h.trans (by omega)
  have a3 : bits .and .u32 (s : Int) 255 = (s : Int) % 256 := by
    have h := u32_and_nat s 255 hs (by decide)
    rw [show s &&& 255 = s % 2 ^ 8 from Nat.and_two_pow_sub_one_eq_mod s 8] at h
    exact h.trans (by omega)
  have w1 : IntKind.u8.wrap ((P3 : Int) + (P2 : Int)) = (P3 : Int) + (P2 : Int) := IntWalk.u8_in _ (by omega)
  have w2 : IntKind.u8.wrap ((P3 : Int) + (P2 : Int) + (P1 : Int)) = (P3 : Int) + (P2 : Int) + (P1 : Int) := IntWalk.u8_in _ (by omega)
  have w3 : IntKind.u8.wrap ((P3 : Int) + (P2 : Int) + (P1 : Int) + (P0 : Int)) = (P3 : Int) + (P2 : Int) + (P1 : Int) + (P0 : Int) := IntWalk.u8_in _ (by omega)
  have w4 : IntKind.i64.wrap ((P3 : Int) + (P2 : Int) + (P1 : Int) + (P0 : Int)) = (P3 : Int) + (P2 : Int) + (P1 : Int) + (P0 : Int) := IntWalk.i64_in _ (by omega)
  go_enter Tryd.func33, Tryd.ntmps33
  go_wp2_with fail
  refine wp_region_held_at (S := fun _ => True) 19 rfl (by kernel_rfl) trivial (fun _ => ?_)
  refine wpAnyH_take (i := 0) (v := ?_) rfl (by decide +kernel) (by decide +kernel) (by decide +kernel) (fun _ _ _ h => h) (Or.inl ⟨by rfl, ?_⟩) (by assumption) ?_
  rotate_left
  · intro w1 _; (try simp only [List.getElem_toArray, List.getElem_cons_zero]); go_simp; try with_reducible rfl
  try simp only [List.getElem_toArray, List.getElem_cons_zero, Act.put, List.setIfInBounds_toArray, List.set_cons_zero, List.set_cons_succ]
  refine wpAnyH_take (i := 1) (v := ?_) rfl (by decide +kernel) (by decide +kernel) (by decide +kernel) (fun _ _ _ h => h) (Or.inl ⟨by rfl, ?_⟩) (by assumption) ?_
  rotate_left
  · intro w1 _; (try simp only [List.getElem_toArray, List.getElem_cons_zero, List.getElem_cons_succ]); go_simp; try with_reducible rfl
  try simp only [List.getElem_toArray, List.getElem_cons_zero, List.getElem_cons_succ, Act.put, List.setIfInBounds_toArray, List.set_cons_zero, List.set_cons_succ]
  refine wpAnyH_take (i := 2) (v := .int .u8 (P3 : Int)) rfl (by decide +kernel) (by decide +kernel) (by decide +kernel) (fun _ _ _ h => h) (Or.inl ⟨by rfl, ?_⟩) (by assumption) ?_
  · intro w1 _
    exact exec_index (i := s / 16777216) rfl rfl rfl (by first | rfl | simp | omega) (by kernel_rfl) (by omega) hP3 w1
  try simp only [List.getElem_toArray, List.getElem_cons_zero, List.getElem_cons_succ, Act.put, List.setIfInBounds_toArray, List.set_cons_zero, List.set_cons_succ]
  refine wpAnyH_take (i := 3) (v := ?_) rfl (by decide +kernel) (by decide +kernel) (by decide +kernel) (fun _ _ _ h => h) (Or.inl ⟨by rfl, ?_⟩) (by assumption) ?_
  rotate_left
  · intro w1 _; (try simp only [List.getElem_toArray, List.getElem_cons_zero, List.getElem_cons_succ]); go_simp; try with_reducible rfl
  try simp only [List.getElem_toArray, List.getElem_cons_zero, List.getElem_cons_succ, Act.put, List.setIfInBounds_toArray, List.set_cons_zero, List.set_cons_succ]
  refine wpAnyH_take (i := 4) (v := ?_) rfl (by decide +kernel) (by decide +kernel) (by decide +kernel) (fun _ _ _ h => h) (Or.inl ⟨by rfl, ?_⟩) (by assumption) ?_
  rotate_left
  · intro w1 _; (try simp only [List.getElem_toArray, List.getElem_cons_zero, List.getElem_cons_succ]); go_simp; try with_reducible rfl
  try simp only [List.getElem_toArray, List.getElem_cons_zero, List.getElem_cons_succ, Act.put, List.setIfInBounds_toArray, List.set_cons_zero, List.set_cons_succ]
  refine wpAnyH_take (i := 5) (v := ?_) rfl (by decide +kernel) (by decide +kernel) (by decide +kernel) (fun _ _ _ h => h) (Or.inl ⟨by rfl, ?_⟩) (by assumption) ?_
  rotate_left
  · intro w1 _; (try simp only [List.getElem_toArray, List.getElem_cons_zero, List.getElem_cons_succ]); go_simp; try with_reducible rfl
  try simp only [List.getElem_toArray, List.getElem_cons_zero, List.getElem_cons_succ, Act.put, List.setIfInBounds_toArray, List.set_cons_zero, List.set_cons_succ]
  refine wpAnyH_take (i := 6) (v := .int .u8 (P2 : Int)) rfl (by decide +kernel) (by decide +kernel) (by decide +kernel) (fun _ _ _ h => h) (Or.inl ⟨by rfl, ?_⟩) (by assumption) ?_
  · intro w1 _
    exact exec_index (i := s / 65536 % 256) rfl rfl rfl (by first | rfl | simp | omega) (by kernel_rfl) (by omega) hP2 w1
  try simp only [List.getElem_toArray, List.getElem_cons_zero, List.getElem_cons_succ, Act.put, List.setIfInBounds_toArray, List.set_cons_zero, List.set_cons_succ]
  refine wpAnyH_take (i := 7) (v := ?_) rfl (by decide +kernel) (by decide +kernel) (by decide +kernel) (fun _ _ _ h => h) (Or.inl ⟨by rfl, ?_⟩) (by assumption) ?_
  rotate_left
  · intro w1 _; (try simp only [List.getElem_toArray, List.getElem_cons_zero, List.getElem_cons_succ]); go_simp; try with_reducible rfl
  try simp only [List.getElem_toArray, List.getElem_cons_zero, List.getElem_cons_succ, Act.put, List.setIfInBounds_toArray, List.set_cons_zero, List.set_cons_succ]
  refine wpAnyH_take (i := 8) (v := ?_) rfl (by decide +kernel) (by decide +kernel) (by decide +kernel) (fun _ _ _ h => h) (Or.inl ⟨by rfl, ?_⟩) (by assumption) ?_
  rotate_left
  · intro w1 _; (try simp only [List.getElem_toArray, List.getElem_cons_zero, List.getElem_cons_succ]); go_simp; try with_reducible rfl
  try simp only [List.getElem_toArray, List.getElem_cons_zero, List.getElem_cons_succ, Act.put, List.setIfInBounds_toArray, List.set_cons_zero, List.set_cons_succ]
  refine wpAnyH_take (i := 9) (v := ?_) rfl (by decide +kernel) (by decide +kernel) (by decide +kernel) (fun _ _ _ h => h) (Or.inl ⟨by rfl, ?_⟩) (by assumption) ?_
  rotate_left
  · intro w1 _; (try simp only [List.getElem_toArray, List.getElem_cons_zero, List.getElem_cons_succ]); go_simp; try with_reducible rfl
  try simp only [List.getElem_toArray, List.getElem_cons_zero, List.getElem_cons_succ, Act.put, List.setIfInBounds_toArray, List.set_cons_zero, List.set_cons_succ]
  refine wpAnyH_take (i := 10) (v := ?_) rfl (by decide +kernel) (by decide +kernel) (by decide +kernel) (fun _ _ _ h => h) (Or.inl ⟨by rfl, ?_⟩) (by assumption) ?_
  rotate_left
  · intro w1 _; (try simp only [List.getElem_toArray, List.getElem_cons_zero, List.getElem_cons_succ]); go_simp; try with_reducible rfl
  try simp only [List.getElem_toArray, List.getElem_cons_zero, List.getElem_cons_succ, Act.put, List.setIfInBounds_toArray, List.set_cons_zero, List.set_cons_succ]
  refine wpAnyH_take (i := 11) (v := .int .u8 (P1 : Int)) rfl (by decide +kernel) (by decide +kernel) (by decide +kernel) (fun _ _ _ h => h) (Or.inl ⟨by rfl, ?_⟩) (by assumption) ?_
  · intro w1 _
    exact exec_index (i := s / 256 % 256) rfl rfl rfl (by first | rfl | simp | omega) (by kernel_rfl) (by omega) hP1 w1
  try simp only [List.getElem_toArray, List.getElem_cons_zero, List.getElem_cons_succ, Act.put, List.setIfInBounds_toArray, List.set_cons_zero, List.set_cons_succ]
  refine wpAnyH_take (i := 12) (v := ?_) rfl (by decide +kernel) (by decide +kernel) (by decide +kernel) (fun _ _ _ h => h) (Or.inl ⟨by rfl, ?_⟩) (by assumption) ?_
  rotate_left
  · intro w1 _; (try simp only [List.getElem_toArray, List.getElem_cons_zero, List.getElem_cons_succ]); go_simp; try with_reducible rfl
  try simp only [List.getElem_toArray, List.getElem_cons_zero, List.getElem_cons_succ, Act.put, List.setIfInBounds_toArray, List.set_cons_zero, List.set_cons_succ]
  refine wpAnyH_take (i := 13) (v := ?_) rfl (by decide +kernel) (by decide +kernel) (by decide +kernel) (fun _ _ _ h => h) (Or.inl ⟨by rfl, ?_⟩) (by assumption) ?_
  rotate_left
  · intro w1 _; (try simp only [List.getElem_toArray, List.getElem_cons_zero, List.getElem_cons_succ]); go_simp; try with_reducible rfl
  try simp only [List.getElem_toArray, List.getElem_cons_zero, List.getElem_cons_succ, Act.put, List.setIfInBounds_toArray, List.set_cons_zero, List.set_cons_succ]
  refine wpAnyH_take (i := 14) (v := ?_) rfl (by decide +kernel) (by decide +kernel) (by decide +kernel) (fun _ _ _ h => h) (Or.inl ⟨by rfl, ?_⟩) (by assumption) ?_
  rotate_left
  · intro w1 _; (try simp only [List.getElem_toArray, List.getElem_cons_zero, List.getElem_cons_succ]); go_simp; try with_reducible rfl
  try simp only [List.getElem_toArray, List.getElem_cons_zero, List.getElem_cons_succ, Act.put, List.setIfInBounds_toArray, List.set_cons_zero, List.set_cons_succ]
  refine wpAnyH_take (i := 15) (v := .int .u8 (P0 : Int)) rfl (by decide +kernel) (by decide +kernel) (by decide +kernel) (fun _ _ _ h => h) (Or.inl ⟨by rfl, ?_⟩) (by assumption) ?_
  · intro w1 _
    exact exec_index (i := s % 256) rfl rfl rfl (by first | rfl | simp | omega) (by kernel_rfl) (by omega) hP0 w1
  try simp only [List.getElem_toArray, List.getElem_cons_zero, List.getElem_cons_succ, Act.put, List.setIfInBounds_toArray, List.set_cons_zero, List.set_cons_succ]
  refine wpAnyH_take (i := 16) (v := ?_) rfl (by decide +kernel) (by decide +kernel) (by decide +kernel) (fun _ _ _ h => h) (Or.inl ⟨by rfl, ?_⟩) (by assumption) ?_
  rotate_left
  · intro w1 _; (try simp only [List.getElem_toArray, List.getElem_cons_zero, List.getElem_cons_succ]); go_simp; try with_reducible rfl
  try simp only [List.getElem_toArray, List.getElem_cons_zero, List.getElem_cons_succ, Act.put, List.setIfInBounds_toArray, List.set_cons_zero, List.set_cons_succ]
  refine wpAnyH_take (i := 17) (v := ?_) rfl (by decide +kernel) (by decide +kernel) (by decide +kernel) (fun _ _ _ h => h) (Or.inl ⟨by rfl, ?_⟩) (by assumption) ?_
  rotate_left
  · intro w1 _; (try simp only [List.getElem_toArray, List.getElem_cons_zero, List.getElem_cons_succ]); go_simp; try with_reducible rfl
  try simp only [List.getElem_toArray, List.getElem_cons_zero, List.getElem_cons_succ, Act.put, List.setIfInBounds_toArray, List.set_cons_zero, List.set_cons_succ]
  refine wpAnyH_take (i := 18) (v := ?_) rfl (by decide +kernel) (by decide +kernel) (by decide +kernel) (fun _ _ _ h => h) (Or.inl ⟨by rfl, ?_⟩) (by assumption) ?_
  rotate_left
  · intro w1 _; (try simp only [List.getElem_toArray, List.getElem_cons_zero, List.getElem_cons_succ]); go_simp; try with_reducible rfl
  try simp only [List.getElem_toArray, List.getElem_cons_zero, List.getElem_cons_succ, Act.put, List.setIfInBounds_toArray, List.set_cons_zero, List.set_cons_succ]
  refine wpAnyH_done (by decide +kernel) ?_ _
  go_wp2_with fail
  go_ret
  exact ⟨by first | rfl | simp, by first | exact below_drewed (Below.refl _ _) | exact below_drewN (Below.refl _ _) | exact Below.refl _ _⟩
end Go.Proofs.YtmikhngmclngiaaDoor
