/- parts of the proof, merged: WvE2 -/
import Derived.Test.YtjjgbillihedgaaGreatDoorQb8
namespace Go.Proofs.YtjjgbillihedgaaGreatDoor
open Go.RowKit
open Rf
open Wide
attribute [local go_sem ↓] Go.wp_at_zero Go.wp_at_succ
set_option maxRecDepth 10000 in
set_option maxHeartbeats 16000000 in
theorem parse_okB (s : ByteArray) (D : List UInt8) (T : ByteArray) (ng : Bool) (hT : byts T = D) (hd : D.all isDig = true) (hl0 : 0 < T.size) (hl : T.size ≤ 39)
    (ct : ∀ w, Calls Tryz.prog 148 #[.string s, .string ⟨#[45]⟩] w fun e w' => e = .returned (.string T) ∧ w' = w)
    (ci : ∀ w, Calls Tryz.prog 149 #[.string T] w fun e w' => e = .returned (.bool true) ∧ Below w.heap.size w w')
    (hng : decide (T.size < s.size) = ng)
    (_h0 : ¬ (T[0].toNat : Int) = 48) (h48' : ((T[0].toNat : Int) == 48) = false) (r : WI) (ec : Int) (hr1 : valD D < 170141183460469231731687303715884105728 → r = mk (neg ng (valD D)) ∧ ec = 0)
    (hr2 : ¬ valD D < 170141183460469231731687303715884105728 → r = zero ∧ ec = 3) (w : World) :
    Calls Tryz.prog 129 #[.string s] w fun e w' => e = .returned (.tuple #[wv r, .int .i64 ec]) ∧ Below w.heap.size w w' := by
  have hDl : D.length = T.size := by rw [← hT, byts_length]
  have hidx : ∀ (j : Nat) (h : j < T.size) (h' : j < D.length), T[j] = D[j] := by
    intro j h h'
    subst hT
    simp [byts]
    rfl
  replace ct := Lib.hid ct
  replace ci := Lib.hid ci
  replace hT := Lib.hid hT
  replace hr1 := Lib.hid hr1
  replace hr2 := Lib.hid hr2
  have c10 := Lib.hid (ofWord_c 10)
  replace hidx := Lib.hid hidx
  go_enter Tryz.func129, Tryz.ntmps129
  go_wp2_with fail
  refine (ct.out _).mono ?_
  rintro e w1 ⟨rfl, rfl⟩
  go_wp2_with fail
  refine (ci.out _).mono ?_
  rintro e w2 ⟨rfl, hb2⟩
  obtain ⟨gz, hb⟩ := one_new (x := zero) hb2
  have hsz := hb.size
  clear hb2
  replace gz := Lib.hid gz
  replace hb := Lib.hid hb
  go_wp2_with fail
  have hbx : w.heap.size ≤ w2.heap.size := hsz
  have hbne : w.heap.size ≠ w2.heap.size := by have := gz.out.lt; omega
  go_loopw [35] (fun i wr => ∃ j : Nat, j ≤ T.size ∧ i = .int .i64 j ∧ valD (D.take j) < 170141183460469231731687303715884105728 ∧ IsN wr w2.heap.size (nw (valD (D.take j))) ∧ IsN wr w.heap.size zero ∧ Below w.heap.size w wr) (fun i _ => T.size - (intOf i).toNat)
  case atStart =>
    have e0 : valD (D.take 0) = 0 := rfl
    rw [show (0 : Int) = ((0 : Nat) : Int) from rfl]
    exact ⟨0, Nat.zero_le _, rfl, by rw [e0]; decide, by rw [e0]; exact IsN.new w2 zero, gz.out.alloc _, hb.out.alloc hsz _⟩
  case round =>
    obtain ⟨j, hj, rfl, hv, gx, gz', hbr⟩ := hrel
    have hszr := hbr.size
    clear gz
    have gz := gz'
    clear gz'
    by_cases hjn : j < T.size
    · have hjD : j < D.length := by omega
      have hnext := Lib.hid (valD_next D j hjD)
      have hmono := Lib.hid (valD_take D (j + 1))
      have hdig : isDig D[j] = true := List.all_eq_true.1 hd _ (List.getElem_mem hjD)
      have hK0 : 48 ≤ D[j].toNat ∧ D[j].toNat ≤ 57 := by unfold isDig at hdig; simpa using hdig
      obtain ⟨K, hK⟩ : ∃ K : Int, (T[j].toNat : Int) = K := ⟨_, rfl⟩
      have hKD : K = D[j].toNat := by rw [← hK, hidx.out j hjn hjD]
      obtain ⟨dg, hdg⟩ : ∃ dg : Nat, D[j].toNat - 48 = dg := ⟨_, rfl⟩
      have hKb : 48 ≤ K ∧ K ≤ 57 := by omega
      have hdg9 : dg ≤ 9 := by omega
      have hKdg : K - 48 = (dg : Int) := by omega
      have cK := ofWord_c (K - 48)
      rw [show (⟨false, 0, K - 48⟩ : WI) = nw dg from by rw [hKdg]; exact ofWord_nw dg (by omega)] at cK
      have hwr : IntKind.u64.wrap (IntKind.u8.wrap (K - 48)) = K - 48 := by simp [IntKind.wrap, IntKind.bits, IntKind.signed]; omega
      rw [← hwr] at cK
      clear hwr
      rw [hdg] at hnext
      clear hdig hK0 hKD hdg hKdg
      generalize hve : valD (D.take j) = v at *
      clear hve
      have cm := mul_c (nw v) (nw 10) (nw_ok (Nat.lt_trans hv (by decide))) (nw_ok (by decide))
      rw [mulN hv (by decide)] at cm
      by_cases hm : v * 10 < 170141183460469231731687303715884105728
      · have e1 : RN (v * 10) = (nw (v * 10), 0) := if_pos hm
        rw [e1] at cm
        have ca := add_c (nw (v * 10)) (nw dg) (nw_ok (Nat.lt_trans hm (by decide))) (nw_ok (by omega))
        rw [addN hm (by omega)] at ca
        clear e1
        by_cases ha : v * 10 + dg < 170141183460469231731687303715884105728
        · have e2 : RN (v * 10 + dg) = (nw (v * 10 + dg), 0) := if_pos ha
          rw [e2] at ca
          clear e2
          rw [show nw 10 = ⟨false, 0, 10⟩ from rfl] at cm
          obtain ⟨G, hG⟩ : ∃ G, nw dg = G := ⟨_, rfl⟩
          obtain ⟨P, hP⟩ : ∃ P, nw (v * 10) = P := ⟨_, rfl⟩
          obtain ⟨Q, hQ⟩ : ∃ Q, nw (v * 10 + dg) = Q := ⟨_, rfl⟩
          obtain ⟨V, hV⟩ : ∃ V, nw v = V := ⟨_, rfl⟩
          rw [hG] at cK
          rw [hV] at gx cm
          rw [hP] at cm ca
          rw [hQ, hG] at ca
          rw [← hnext.out] at hQ ha
          replace hQ := Lib.hid hQ
          replace ha := Lib.hid ha
          clear hm hP hV hG hv
          obtain ⟨Gn, Gh, Gl⟩ := G
          obtain ⟨Pn, Ph, Pl⟩ := P
          obtain ⟨Qn, Qh, Ql⟩ := Q
          obtain ⟨Vn, Vh, Vl⟩ := V
          obtain ⟨x0, x1, x2⟩ := gx.all
          unfold wv at *
          dsimp only at *
          replace gx := Lib.hid gx
          replace gz := Lib.hid gz
          replace hbr := Lib.hid hbr
          replace cm := Lib.hid cm
          replace ca := Lib.hid ca
          replace cK := Lib.hid cK
          replace hd := Lib.hid hd
          go_wp2_with fail
          refine wp_region_held_at (S := fun _ => True) 8 rfl (by kernel_rfl) trivial (fun _ => ?_)
          refine wpAnyH_ready (rs := [0, 1]) (by decide +kernel) (by simp) ?_
          refine AllReadyH.cons rfl (fun K hK => ?_) ?_
          · (try simp only [List.getElem_toArray, List.getElem_cons_zero])
            go_simp
            refine hK.out _ _ trivial (fun _ => ?_)
            clear hK K
            try simp only [List.getElem_toArray, List.getElem_cons_zero, List.getElem_cons_succ, Act.put, List.setIfInBounds_toArray, List.set_cons_zero, List.set_cons_succ]
            refine wpAnyH_ready (rs := [1]) (by decide +kernel) (by simp) ?_
            refine AllReadyH.cons rfl (fun K hK => ?_) ?_
            · (try simp only [List.getElem_toArray, List.getElem_cons_zero, List.getElem_cons_succ])
              go_simp
              refine (c10.out _).mono ?_
              rintro e w5 ⟨rfl, hb5⟩
              have gx5 := Lib.hid (gx.out.drew.below hb5)
              have gz5 := Lib.hid (gz.out.drew.below hb5)
              have hb6 := Lib.hid ((wbelow_drewed hbr.out).trans (hb5.mono hszr))
              obtain ⟨x0, x1, x2⟩ := gx5.out.all
              dsimp only at x0 x1 x2
              go_simp
              refine hK.out _ _ trivial (fun _ => ?_)
              clear hK K
              try simp only [List.getElem_toArray, List.getElem_cons_zero, List.getElem_cons_succ, Act.put, List.setIfInBounds_toArray, List.set_cons_zero, List.set_cons_succ]
              refine wpAnyH_ready (rs := [2]) (by decide +kernel) (by simp) ?_
              refine AllReadyH.cons rfl (fun K hK => ?_) ?_
              · (try simp only [List.getElem_toArray, List.getElem_cons_zero, List.getElem_cons_succ])
                go_simp
                have hs6 := hb6.out.size
                refine (cm.out _).mono ?_
                rintro e w7 ⟨rfl, hb7⟩
                have gx7 := gx5.out.below hb7
                have gz7 := gz5.out.below hb7
                have hb8 := hb6.out.trans (hb7.mono hs6)
                have hs8 := hb8.size
                obtain ⟨x0, x1, x2⟩ := gx7.all
                have xf := gx7.f
                obtain ⟨p0, p1, p2⟩ := (gx7.set Pn Ph Pl).all
                dsimp only at x0 x1 x2 p0 p1 p2
                have gx8 := Lib.hid (gx7.set Pn Ph Pl)
                have gz8 := Lib.hid (gz7.set3_other (c := w2.heap.size) (v0 := .bool Pn) (v1 := .int .u64 Ph) (v2 := .int .u64 Pl) hbne)
                have hb9 := Lib.hid (below_set3 hb8 (b := w2.heap.size) hbx (.bool Pn) (.int .u64 Ph) (.int .u64 Pl))
                clear gx7 gz7 hb8 hb7
                go_simp
                refine hK.out _ _ trivial (fun _ => ?_)
                clear hK K
                try simp only [List.getElem_toArray, List.getElem_cons_zero, List.getElem_cons_succ, Act.put, List.setIfInBounds_toArray, List.set_cons_zero, List.set_cons_succ]
                refine wpAnyH_take (i := 3) (v := ?_) rfl (by decide +kernel) (by decide +kernel) (by decide +kernel) (fun _ _ _ h => h) (Or.inl ⟨by rfl, ?_⟩) trivial ?_
                rotate_left
                · intro w _; (try simp only [List.getElem_toArray, List.getElem_cons_zero, List.getElem_cons_succ]); go_simp; try with_reducible rfl
                try simp only [List.getElem_toArray, List.getElem_cons_zero, List.getElem_cons_succ, Act.put, List.setIfInBounds_toArray, List.set_cons_zero, List.set_cons_succ]
                refine wpAnyH_take (i := 4) (v := ?_) rfl (by decide +kernel) (by decide +kernel) (by decide +kernel) (fun _ _ _ h => h) (Or.inl ⟨by rfl, ?_⟩) trivial ?_
                rotate_left
                · intro w _; (try simp only [List.getElem_toArray, List.getElem_cons_zero, List.getElem_cons_succ]); go_simp; try with_reducible rfl
                try simp only [List.getElem_toArray, List.getElem_cons_zero, List.getElem_cons_succ, Act.put, List.setIfInBounds_toArray, List.set_cons_zero, List.set_cons_succ]
                refine wpAnyH_take (i := 5) (v := ?_) rfl (by decide +kernel) (by decide +kernel) (by decide +kernel) (fun _ _ _ h => h) (Or.inl ⟨by rfl, ?_⟩) trivial ?_
                rotate_left
                · intro w _; (try simp only [List.getElem_toArray, List.getElem_cons_zero, List.getElem_cons_succ]); go_simp; try with_reducible rfl
                try simp only [List.getElem_toArray, List.getElem_cons_zero, List.getElem_cons_succ, Act.put, List.setIfInBounds_toArray, List.set_cons_zero, List.set_cons_succ]
                refine wpAnyH_ready (rs := [6]) (by decide +kernel) (by simp) ?_
                refine AllReadyH.cons rfl (fun K hK => ?_) ?_
                · (try simp only [List.getElem_toArray, List.getElem_cons_zero, List.getElem_cons_succ])
                  go_simp
                  refine hK.out _ _ trivial (fun _ => ?_)
                  clear hK K
                  try simp only [List.getElem_toArray, List.getElem_cons_zero, List.getElem_cons_succ, Act.put, List.setIfInBounds_toArray, List.set_cons_zero, List.set_cons_succ]
                  refine wpAnyH_take (i := 7) (v := ?_) rfl (by decide +kernel) (by decide +kernel) (by decide +kernel) (fun _ _ _ h => h) (Or.inl ⟨by rfl, ?_⟩) trivial ?_
                  rotate_left
                  · intro w _; (try simp only [List.getElem_toArray, List.getElem_cons_zero, List.getElem_cons_succ]); go_simp; try with_reducible rfl
                  try simp only [List.getElem_toArray, List.getElem_cons_zero, List.getElem_cons_succ, Act.put, List.setIfInBounds_toArray, List.set_cons_zero, List.set_cons_succ]
                  refine wpAnyH_done (by decide +kernel) ?_ _
                  clear x0 x1 x2 gx gz hbr
                  have gx := gx8
                  have gz := gz8
                  have hbr := hb9
                  clear gx8 gz8 hb9 gx5 gz5 hb6 hb5
                  have x0 := p0
                  have x1 := p1
                  have x2 := p2
                  have hszr := hbr.out.size
                  clear p0 p1 p2 hs6 hs8 xf
                  generalize ((w7.setCell ⟨w2.heap.size, 0, none⟩ (.bool Pn)).setCell ⟨w2.heap.size, 1, none⟩ (.int .u64 Ph)).setCell ⟨w2.heap.size, 2, none⟩ (.int .u64 Pl) = w8 at *
                  go_wp2_with fail
                  refine wp_region_held_at (S := fun _ => True) 13 rfl (by kernel_rfl) trivial (fun _ => ?_)
                  refine wpAnyH_take (i := 1) (v := ?_) rfl (by decide +kernel) (by decide +kernel) (by decide +kernel) (fun _ _ _ h => h) (Or.inl ⟨by rfl, ?_⟩) trivial ?_
                  rotate_left
                  · intro w _; (try simp only [List.getElem_toArray, List.getElem_cons_zero, List.getElem_cons_succ]); go_simp; try with_reducible rfl
                  try simp only [List.getElem_toArray, List.getElem_cons_zero, List.getElem_cons_succ, Act.put, List.setIfInBounds_toArray, List.set_cons_zero, List.set_cons_succ]
                  refine wpAnyH_take (i := 2) (v := ?_) rfl (by decide +kernel) (by decide +kernel) (by decide +kernel) (fun _ _ _ h => h) (Or.inl ⟨by rfl, ?_⟩) trivial ?_
                  rotate_left
                  · intro w _; (try simp only [List.getElem_toArray, List.getElem_cons_zero, List.getElem_cons_succ]); go_simp; try with_reducible rfl
                  try simp only [List.getElem_toArray, List.getElem_cons_zero, List.getElem_cons_succ, Act.put, List.setIfInBounds_toArray, List.set_cons_zero, List.set_cons_succ]
                  refine wpAnyH_take (i := 3) (v := ?_) rfl (by decide +kernel) (by decide +kernel) (by decide +kernel) (fun _ _ _ h => h) (Or.inl ⟨by rfl, ?_⟩) trivial ?_
                  rotate_left
                  · intro w _; (try simp only [List.getElem_toArray, List.getElem_cons_zero, List.getElem_cons_succ]); go_simp; try with_reducible rfl
                  try simp only [List.getElem_toArray, List.getElem_cons_zero, List.getElem_cons_succ, Act.put, List.setIfInBounds_toArray, List.set_cons_zero, List.set_cons_succ]
                  refine wpAnyH_take (i := 4) (v := ?_) rfl (by decide +kernel) (by decide +kernel) (by decide +kernel) (fun _ _ _ h => h) (Or.inl ⟨by rfl, ?_⟩) trivial ?_
                  rotate_left
                  · intro w _; (try simp only [List.getElem_toArray, List.getElem_cons_zero, List.getElem_cons_succ]); go_simp; try with_reducible rfl
                  try simp only [List.getElem_toArray, List.getElem_cons_zero, List.getElem_cons_succ, Act.put, List.setIfInBounds_toArray, List.set_cons_zero, List.set_cons_succ]
                  refine wpAnyH_take (i := 5) (v := ?_) rfl (by decide +kernel) (by decide +kernel) (by decide +kernel) (fun _ _ _ h => h) (Or.inl ⟨by rfl, ?_⟩) trivial ?_
                  rotate_left
                  · intro w _; (try simp only [List.getElem_toArray, List.getElem_cons_zero, List.getElem_cons_succ]); go_simp; try with_reducible rfl
                  try simp only [List.getElem_toArray, List.getElem_cons_zero, List.getElem_cons_succ, Act.put, List.setIfInBounds_toArray, List.set_cons_zero, List.set_cons_succ]
                  refine wpAnyH_ready (rs := [0, 6]) (by decide +kernel) (by simp) ?_
                  refine AllReadyH.cons rfl (fun K hK => ?_) ?_
                  · (try simp only [List.getElem_toArray, List.getElem_cons_zero])
                    go_simp
                    refine hK.out _ _ trivial (fun _ => ?_)
                    clear hK K
                    try simp only [List.getElem_toArray, List.getElem_cons_zero, List.getElem_cons_succ, Act.put, List.setIfInBounds_toArray, List.set_cons_zero, List.set_cons_succ]
                    refine wpAnyH_ready (rs := [6]) (by decide +kernel) (by simp) ?_
                    refine AllReadyH.cons rfl (fun K hK => ?_) ?_
                    · (try simp only [List.getElem_toArray, List.getElem_cons_zero, List.getElem_cons_succ])
                      go_simp
                      refine (cK.out _).mono ?_
                      rintro e w5 ⟨rfl, hb5⟩
                      have gx5 := Lib.hid (gx.out.drew.below hb5)
                      have gz5 := Lib.hid (gz.out.drew.below hb5)
                      have hb6 := Lib.hid ((wbelow_drewed hbr.out).trans (hb5.mono hszr))
                      obtain ⟨x0, x1, x2⟩ := gx5.out.all
                      dsimp only at x0 x1 x2
                      go_simp
                      refine hK.out _ _ trivial (fun _ => ?_)
                      clear hK K
                      try simp only [List.getElem_toArray, List.getElem_cons_zero, List.getElem_cons_succ, Act.put, List.setIfInBounds_toArray, List.set_cons_zero, List.set_cons_succ]
                      refine wpAnyH_ready (rs := [7]) (by decide +kernel) (by simp) ?_
                      refine AllReadyH.cons rfl (fun K hK => ?_) ?_
                      · (try simp only [List.getElem_toArray, List.getElem_cons_zero, List.getElem_cons_succ])
                        go_simp
                        have hs6 := hb6.out.size
                        refine (ca.out _).mono ?_
                        rintro e w7 ⟨rfl, hb7⟩
                        have gx7 := gx5.out.below hb7
                        have gz7 := gz5.out.below hb7
                        have hb8 := hb6.out.trans (hb7.mono hs6)
                        have hs8 := hb8.size
                        obtain ⟨x0, x1, x2⟩ := gx7.all
                        have xf := gx7.f
                        obtain ⟨p0, p1, p2⟩ := (gx7.set Qn Qh Ql).all
                        dsimp only at x0 x1 x2 p0 p1 p2
                        have gx8 := Lib.hid (gx7.set Qn Qh Ql)
                        have gz8 := Lib.hid (gz7.set3_other (c := w2.heap.size) (v0 := .bool Qn) (v1 := .int .u64 Qh) (v2 := .int .u64 Ql) hbne)
                        have hb9 := Lib.hid (below_set3 hb8 (b := w2.heap.size) hbx (.bool Qn) (.int .u64 Qh) (.int .u64 Ql))
                        clear gx7 gz7 hb8 hb7
                        go_simp
                        refine hK.out _ _ trivial (fun _ => ?_)
                        clear hK K
                        try simp only [List.getElem_toArray, List.getElem_cons_zero, List.getElem_cons_succ, Act.put, List.setIfInBounds_toArray, List.set_cons_zero, List.set_cons_succ]
                        refine wpAnyH_take (i := 8) (v := ?_) rfl (by decide +kernel) (by decide +kernel) (by decide +kernel) (fun _ _ _ h => h) (Or.inl ⟨by rfl, ?_⟩) trivial ?_
                        rotate_left
                        · intro w _; (try simp only [List.getElem_toArray, List.getElem_cons_zero, List.getElem_cons_succ]); go_simp; try with_reducible rfl
                        try simp only [List.getElem_toArray, List.getElem_cons_zero, List.getElem_cons_succ, Act.put, List.setIfInBounds_toArray, List.set_cons_zero, List.set_cons_succ]
                        refine wpAnyH_take (i := 9) (v := ?_) rfl (by decide +kernel) (by decide +kernel) (by decide +kernel) (fun _ _ _ h => h) (Or.inl ⟨by rfl, ?_⟩) trivial ?_
                        rotate_left
                        · intro w _; (try simp only [List.getElem_toArray, List.getElem_cons_zero, List.getElem_cons_succ]); go_simp; try with_reducible rfl
                        try simp only [List.getElem_toArray, List.getElem_cons_zero, List.getElem_cons_succ, Act.put, List.setIfInBounds_toArray, List.set_cons_zero, List.set_cons_succ]
                        refine wpAnyH_take (i := 10) (v := ?_) rfl (by decide +kernel) (by decide +kernel) (by decide +kernel) (fun _ _ _ h => h) (Or.inl ⟨by rfl, ?_⟩) trivial ?_
                        rotate_left
                        · intro w _; (try simp only [List.getElem_toArray, List.getElem_cons_zero, List.getElem_cons_succ]); go_simp; try with_reducible rfl
                        try simp only [List.getElem_toArray, List.getElem_cons_zero, List.getElem_cons_succ, Act.put, List.setIfInBounds_toArray, List.set_cons_zero, List.set_cons_succ]
                        refine wpAnyH_ready (rs := [11]) (by decide +kernel) (by simp) ?_
                        refine AllReadyH.cons rfl (fun K hK => ?_) ?_
                        · (try simp only [List.getElem_toArray, List.getElem_cons_zero, List.getElem_cons_succ])
                          go_simp
                          refine hK.out _ _ trivial (fun _ => ?_)
                          clear hK K
                          try simp only [List.getElem_toArray, List.getElem_cons_zero, List.getElem_cons_succ, Act.put, List.setIfInBounds_toArray, List.set_cons_zero, List.set_cons_succ]
                          refine wpAnyH_take (i := 12) (v := ?_) rfl (by decide +kernel) (by decide +kernel) (by decide +kernel) (fun _ _ _ h => h) (Or.inl ⟨by rfl, ?_⟩) trivial ?_
                          rotate_left
                          · intro w _; (try simp only [List.getElem_toArray, List.getElem_cons_zero, List.getElem_cons_succ]); go_simp; try with_reducible rfl
                          try simp only [List.getElem_toArray, List.getElem_cons_zero, List.getElem_cons_succ, Act.put, List.setIfInBounds_toArray, List.set_cons_zero, List.set_cons_succ]
                          refine wpAnyH_done (by decide +kernel) ?_ _
                          clear x0 x1 x2 gx gz hbr
                          have gx := gx8
                          have gz := gz8
                          have hbr := hb9
                          clear gx8 gz8 hb9 gx5 gz5 hb6 hb5
                          have x0 := p0
                          have x1 := p1
                          have x2 := p2
                          have hszr := hbr.out.size
                          clear p0 p1 p2 hs6 hs8 xf
                          generalize ((w7.setCell ⟨w2.heap.size, 0, none⟩ (.bool Qn)).setCell ⟨w2.heap.size, 1, none⟩ (.int .u64 Qh)).setCell ⟨w2.heap.size, 2, none⟩ (.int .u64 Ql) = w8 at *
                          go_wp2_with fail
                          go_roundw
                          case rel => exact ⟨j + 1, hjn, by go_num, ha.out, by rw [hQ.out]; exact gx.out, gz.out, hbr.out⟩
                          case measure => simp [intOf]; omega
                        exact AllReadyH.nil
                      exact AllReadyH.nil
                    exact AllReadyH.nil
                  refine AllReadyH.cons rfl (fun K hK => ?_) ?_
                  · (try simp only [List.getElem_toArray, List.getElem_cons_zero, List.getElem_cons_succ])
                    go_simp
                    refine (cK.out _).mono ?_
                    rintro e w5 ⟨rfl, hb5⟩
                    have gx5 := Lib.hid (gx.out.drew.below hb5)
                    have gz5 := Lib.hid (gz.out.drew.below hb5)
                    have hb6 := Lib.hid ((wbelow_drewed hbr.out).trans (hb5.mono hszr))
                    obtain ⟨x0, x1, x2⟩ := gx5.out.all
                    dsimp only at x0 x1 x2
                    go_simp
                    refine hK.out _ _ trivial (fun _ => ?_)
                    clear hK K
                    try simp only [List.getElem_toArray, List.getElem_cons_zero, List.getElem_cons_succ, Act.put, List.setIfInBounds_toArray, List.set_cons_zero, List.set_cons_succ]
                    refine wpAnyH_ready (rs := [0]) (by decide +kernel) (by simp) ?_
                    refine AllReadyH.cons rfl (fun K hK => ?_) ?_
                    · (try simp only [List.getElem_toArray, List.getElem_cons_zero])
                      go_simp
                      refine hK.out _ _ trivial (fun _ => ?_)
                      clear hK K
                      try simp only [List.getElem_toArray, List.getElem_cons_zero, List.getElem_cons_succ, Act.put, List.setIfInBounds_toArray, List.set_cons_zero, List.set_cons_succ]
                      refine wpAnyH_ready (rs := [7]) (by decide +kernel) (by simp) ?_
                      refine AllReadyH.cons rfl (fun K hK => ?_) ?_
                      · (try simp only [List.getElem_toArray, List.getElem_cons_zero, List.getElem_cons_succ])
                        go_simp
                        have hs6 := hb6.out.size
                        refine (ca.out _).mono ?_
                        rintro e w7 ⟨rfl, hb7⟩
                        have gx7 := gx5.out.below hb7
                        have gz7 := gz5.out.below hb7
                        have hb8 := hb6.out.trans (hb7.mono hs6)
                        have hs8 := hb8.size
                        obtain ⟨x0, x1, x2⟩ := gx7.all
                        have xf := gx7.f
                        obtain ⟨p0, p1, p2⟩ := (gx7.set Qn Qh Ql).all
                        dsimp only at x0 x1 x2 p0 p1 p2
                        have gx8 := Lib.hid (gx7.set Qn Qh Ql)
                        have gz8 := Lib.hid (gz7.set3_other (c := w2.heap.size) (v0 := .bool Qn) (v1 := .int .u64 Qh) (v2 := .int .u64 Ql) hbne)
                        have hb9 := Lib.hid (below_set3 hb8 (b := w2.heap.size) hbx (.bool Qn) (.int .u64 Qh) (.int .u64 Ql))
                        clear gx7 gz7 hb8 hb7
                        go_simp
                        refine hK.out _ _ trivial (fun _ => ?_)
                        clear hK K
                        try simp only [List.getElem_toArray, List.getElem_cons_zero, List.getElem_cons_succ, Act.put, List.setIfInBounds_toArray, List.set_cons_zero, List.set_cons_succ]
                        refine wpAnyH_take (i := 8) (v := ?_) rfl (by decide +kernel) (by decide +kernel) (by decide +kernel) (fun _ _ _ h => h) (Or.inl ⟨by rfl, ?_⟩) trivial ?_
                        rotate_left
                        · intro w _; (try simp only [List.getElem_toArray, List.getElem_cons_zero, List.getElem_cons_succ]); go_simp; try with_reducible rfl
                        try simp only [List.getElem_toArray, List.getElem_cons_zero, List.getElem_cons_succ, Act.put, List.setIfInBounds_toArray, List.set_cons_zero, List.set_cons_succ]
                        refine wpAnyH_take (i := 9) (v := ?_) rfl (by decide +kernel) (by decide +kernel) (by decide +kernel) (fun _ _ _ h => h) (Or.inl ⟨by rfl, ?_⟩) trivial ?_
                        rotate_left
                        · intro w _; (try simp only [List.getElem_toArray, List.getElem_cons_zero, List.getElem_cons_succ]); go_simp; try with_reducible rfl
                        try simp only [List.getElem_toArray, List.getElem_cons_zero, List.getElem_cons_succ, Act.put, List.setIfInBounds_toArray, List.set_cons_zero, List.set_cons_succ]
                        refine wpAnyH_take (i := 10) (v := ?_) rfl (by decide +kernel) (by decide +kernel) (by decide +kernel) (fun _ _ _ h => h) (Or.inl ⟨by rfl, ?_⟩) trivial ?_
                        rotate_left
                        · intro w _; (try simp only [List.getElem_toArray, List.getElem_cons_zero, List.getElem_cons_succ]); go_simp; try with_reducible rfl
                        try simp only [List.getElem_toArray, List.getElem_cons_zero, List.getElem_cons_succ, Act.put, List.setIfInBounds_toArray, List.set_cons_zero, List.set_cons_succ]
                        refine wpAnyH_ready (rs := [11]) (by decide +kernel) (by simp) ?_
                        refine AllReadyH.cons rfl (fun K hK => ?_) ?_
                        · (try simp only [List.getElem_toArray, List.getElem_cons_zero, List.getElem_cons_succ])
                          go_simp
                          refine hK.out _ _ trivial (fun _ => ?_)
                          clear hK K
                          try simp only [List.getElem_toArray, List.getElem_cons_zero, List.getElem_cons_succ, Act.put, List.setIfInBounds_toArray, List.set_cons_zero, List.set_cons_succ]
                          refine wpAnyH_take (i := 12) (v := ?_) rfl (by decide +kernel) (by decide +kernel) (by decide +kernel) (fun _ _ _ h => h) (Or.inl ⟨by rfl, ?_⟩) trivial ?_
                          rotate_left
                          · intro w _; (try simp only [List.getElem_toArray, List.getElem_cons_zero, List.getElem_cons_succ]); go_simp; try with_reducible rfl
                          try simp only [List.getElem_toArray, List.getElem_cons_zero, List.getElem_cons_succ, Act.put, List.setIfInBounds_toArray, List.set_cons_zero, List.set_cons_succ]
                          refine wpAnyH_done (by decide +kernel) ?_ _
                          clear x0 x1 x2 gx gz hbr
                          have gx := gx8
                          have gz := gz8
                          have hbr := hb9
                          clear gx8 gz8 hb9 gx5 gz5 hb6 hb5
                          have x0 := p0
                          have x1 := p1
                          have x2 := p2
                          have hszr := hbr.out.size
                          clear p0 p1 p2 hs6 hs8 xf
                          generalize ((w7.setCell ⟨w2.heap.size, 0, none⟩ (.bool Qn)).setCell ⟨w2.heap.size, 1, none⟩ (.int .u64 Qh)).setCell ⟨w2.heap.size, 2, none⟩ (.int .u64 Ql) = w8 at *
                          go_wp2_with fail
                          go_roundw
                          case rel => exact ⟨j + 1, hjn, by go_num, ha.out, by rw [hQ.out]; exact gx.out, gz.out, hbr.out⟩
                          case measure => simp [intOf]; omega
                        exact AllReadyH.nil
                      exact AllReadyH.nil
                    exact AllReadyH.nil
                  exact AllReadyH.nil
                exact AllReadyH.nil
              exact AllReadyH.nil
            exact AllReadyH.nil
          refine AllReadyH.cons rfl (fun K hK => ?_) ?_
          · (try simp only [List.getElem_toArray, List.getElem_cons_zero, List.getElem_cons_succ])
            go_simp
            refine (c10.out _).mono ?_
            rintro e w5 ⟨rfl, hb5⟩
            have gx5 := Lib.hid (gx.out.drew.below hb5)
            have gz5 := Lib.hid (gz.out.drew.below hb5)
            have hb6 := Lib.hid ((wbelow_drewed hbr.out).trans (hb5.mono hszr))
            obtain ⟨x0, x1, x2⟩ := gx5.out.all
            dsimp only at x0 x1 x2
            go_simp
            refine hK.out _ _ trivial (fun _ => ?_)
            clear hK K
            try simp only [List.getElem_toArray, List.getElem_cons_zero, List.getElem_cons_succ, Act.put, List.setIfInBounds_toArray, List.set_cons_zero, List.set_cons_succ]
            refine wpAnyH_ready (rs := [0]) (by decide +kernel) (by simp) ?_
            refine AllReadyH.cons rfl (fun K hK => ?_) ?_
            · (try simp only [List.getElem_toArray, List.getElem_cons_zero])
              go_simp
              refine hK.out _ _ trivial (fun _ => ?_)
              clear hK K
              try simp only [List.getElem_toArray, List.getElem_cons_zero, List.getElem_cons_succ, Act.put, List.setIfInBounds_toArray, List.set_cons_zero, List.set_cons_succ]
              refine wpAnyH_ready (rs := [2]) (by decide +kernel) (by simp) ?_
              refine AllReadyH.cons rfl (fun K hK => ?_) ?_
              · (try simp only [List.getElem_toArray, List.getElem_cons_zero, List.getElem_cons_succ])
                go_simp
                have hs6 := hb6.out.size
                refine (cm.out _).mono ?_
                rintro e w7 ⟨rfl, hb7⟩
                have gx7 := gx5.out.below hb7
                have gz7 := gz5.out.below hb7
                have hb8 := hb6.out.trans (hb7.mono hs6)
                have hs8 := hb8.size
                obtain ⟨x0, x1, x2⟩ := gx7.all
                have xf := gx7.f
                obtain ⟨p0, p1, p2⟩ := (gx7.set Pn Ph Pl).all
                dsimp only at x0 x1 x2 p0 p1 p2
                have gx8 := Lib.hid (gx7.set Pn Ph Pl)
                have gz8 := Lib.hid (gz7.set3_other (c := w2.heap.size) (v0 := .bool Pn) (v1 := .int .u64 Ph) (v2 := .int .u64 Pl) hbne)
                have hb9 := Lib.hid (below_set3 hb8 (b := w2.heap.size) hbx (.bool Pn) (.int .u64 Ph) (.int .u64 Pl))
                clear gx7 gz7 hb8 hb7
                go_simp
                refine hK.out _ _ trivial (fun _ => ?_)
                clear hK K
                try simp only [List.getElem_toArray, List.getElem_cons_zero, List.getElem_cons_succ, Act.put, List.setIfInBounds_toArray, List.set_cons_zero, List.set_cons_succ]
                refine wpAnyH_take (i := 3) (v := ?_) rfl (by decide +kernel) (by decide +kernel) (by decide +kernel) (fun _ _ _ h => h) (Or.inl ⟨by rfl, ?_⟩) trivial ?_
                rotate_left
                · intro w _; (try simp only [List.getElem_toArray, List.getElem_cons_zero, List.getElem_cons_succ]); go_simp; try with_reducible rfl
                try simp only [List.getElem_toArray, List.getElem_cons_zero, List.getElem_cons_succ, Act.put, List.setIfInBounds_toArray, List.set_cons_zero, List.set_cons_succ]
                refine wpAnyH_take (i := 4) (v := ?_) rfl (by decide +kernel) (by decide +kernel) (by decide +kernel) (fun _ _ _ h => h) (Or.inl ⟨by rfl, ?_⟩) trivial ?_
                rotate_left
                · intro w _; (try simp only [List.getElem_toArray, List.getElem_cons_zero, List.getElem_cons_succ]); go_simp; try with_reducible rfl
                try simp only [List.getElem_toArray, List.getElem_cons_zero, List.getElem_cons_succ, Act.put, List.setIfInBounds_toArray, List.set_cons_zero, List.set_cons_succ]
                refine wpAnyH_take (i := 5) (v := ?_) rfl (by decide +kernel) (by decide +kernel) (by decide +kernel) (fun _ _ _ h => h) (Or.inl ⟨by rfl, ?_⟩) trivial ?_
                rotate_left
                · intro w _; (try simp only [List.getElem_toArray, List.getElem_cons_zero, List.getElem_cons_succ]); go_simp; try with_reducible rfl
                try simp only [List.getElem_toArray, List.getElem_cons_zero, List.getElem_cons_succ, Act.put, List.setIfInBounds_toArray, List.set_cons_zero, List.set_cons_succ]
                refine wpAnyH_ready (rs := [6]) (by decide +kernel) (by simp) ?_
                refine AllReadyH.cons rfl (fun K hK => ?_) ?_
                · (try simp only [List.getElem_toArray, List.getElem_cons_zero, List.getElem_cons_succ])
                  go_simp
                  refine hK.out _ _ trivial (fun _ => ?_)
                  clear hK K
                  try simp only [List.getElem_toArray, List.getElem_cons_zero, List.getElem_cons_succ, Act.put, List.setIfInBounds_toArray, List.set_cons_zero, List.set_cons_succ]
                  refine wpAnyH_take (i := 7) (v := ?_) rfl (by decide +kernel) (by decide +kernel) (by decide +kernel) (fun _ _ _ h => h) (Or.inl ⟨by rfl, ?_⟩) trivial ?_
                  rotate_left
                  · intro w _; (try simp only [List.getElem_toArray, List.getElem_cons_zero, List.getElem_cons_succ]); go_simp; try with_reducible rfl
                  try simp only [List.getElem_toArray, List.getElem_cons_zero, List.getElem_cons_succ, Act.put, List.setIfInBounds_toArray, List.set_cons_zero, List.set_cons_succ]
                  refine wpAnyH_done (by decide +kernel) ?_ _
                  clear x0 x1 x2 gx gz hbr
                  have gx := gx8
                  have gz := gz8
                  have hbr := hb9
                  clear gx8 gz8 hb9 gx5 gz5 hb6 hb5
                  have x0 := p0
                  have x1 := p1
                  have x2 := p2
                  have hszr := hbr.out.size
                  clear p0 p1 p2 hs6 hs8 xf
                  generalize ((w7.setCell ⟨w2.heap.size, 0, none⟩ (.bool Pn)).setCell ⟨w2.heap.size, 1, none⟩ (.int .u64 Ph)).setCell ⟨w2.heap.size, 2, none⟩ (.int .u64 Pl) = w8 at *
                  go_wp2_with fail
                  refine wp_region_held_at (S := fun _ => True) 13 rfl (by kernel_rfl) trivial (fun _ => ?_)
                  refine wpAnyH_take (i := 1) (v := ?_) rfl (by decide +kernel) (by decide +kernel) (by decide +kernel) (fun _ _ _ h => h) (Or.inl ⟨by rfl, ?_⟩) trivial ?_
                  rotate_left
                  · intro w _; (try simp only [List.getElem_toArray, List.getElem_cons_zero, List.getElem_cons_succ]); go_simp; try with_reducible rfl
                  try simp only [List.getElem_toArray, List.getElem_cons_zero, List.getElem_cons_succ, Act.put, List.setIfInBounds_toArray, List.set_cons_zero, List.set_cons_succ]
                  refine wpAnyH_take (i := 2) (v := ?_) rfl (by decide +kernel) (by decide +kernel) (by decide +kernel) (fun _ _ _ h => h) (Or.inl ⟨by rfl, ?_⟩) trivial ?_
                  rotate_left
                  · intro w _; (try simp only [List.getElem_toArray, List.getElem_cons_zero, List.getElem_cons_succ]); go_simp; try with_reducible rfl
                  try simp only [List.getElem_toArray, List.getElem_cons_zero, List.getElem_cons_succ, Act.put, List.setIfInBounds_toArray, List.set_cons_zero, List.set_cons_succ]
                  refine wpAnyH_take (i := 3) (v := ?_) rfl (by decide +kernel) (by decide +kernel) (by decide +kernel) (fun _ _ _ h => h) (Or.inl ⟨by rfl, ?_⟩) trivial ?_
                  rotate_left
                  · intro w _; (try simp only [List.getElem_toArray, List.getElem_cons_zero, List.getElem_cons_succ]); go_simp; try with_reducible rfl
                  try simp only [List.getElem_toArray, List.getElem_cons_zero, List.getElem_cons_succ, Act.put, List.setIfInBounds_toArray, List.set_cons_zero, List.set_cons_succ]
                  refine wpAnyH_take (i := 4) (v := ?_) rfl (by decide +kernel) (by decide +kernel) (by decide +kernel) (fun _ _ _ h => h) (Or.inl ⟨by rfl, ?_⟩) trivial ?_
                  rotate_left
                  · intro w _; (try simp only [List.getElem_toArray, List.getElem_cons_zero, List.getElem_cons_succ]); go_simp; try with_reducible rfl
                  try simp only [List.getElem_toArray, List.getElem_cons_zero, List.getElem_cons_succ, Act.put, List.setIfInBounds_toArray, List.set_cons_zero, List.set_cons_succ]
                  refine wpAnyH_take (i := 5) (v := ?_) rfl (by decide +kernel) (by decide +kernel) (by decide +kernel) (fun _ _ _ h => h) (Or.inl ⟨by rfl, ?_⟩) trivial ?_
                  rotate_left
                  · intro w _; (try simp only [List.getElem_toArray, List.getElem_cons_zero, List.getElem_cons_succ]); go_simp; try with_reducible rfl
                  try simp only [List.getElem_toArray, List.getElem_cons_zero, List.getElem_cons_succ, Act.put, List.setIfInBounds_toArray, List.set_cons_zero, List.set_cons_succ]
                  refine wpAnyH_ready (rs := [0, 6]) (by decide +kernel) (by simp) ?_
                  refine AllReadyH.cons rfl (fun K hK => ?_) ?_
                  · (try simp only [List.getElem_toArray, List.getElem_cons_zero])
                    go_simp
                    refine hK.out _ _ trivial (fun _ => ?_)
                    clear hK K
                    try simp only [List.getElem_toArray, List.getElem_cons_zero, List.getElem_cons_succ, Act.put, List.setIfInBounds_toArray, List.set_cons_zero, List.set_cons_succ]
                    refine wpAnyH_ready (rs := [6]) (by decide +kernel) (by simp) ?_
                    refine AllReadyH.cons rfl (fun K hK => ?_) ?_
                    · (try simp only [List.getElem_toArray, List.getElem_cons_zero, List.getElem_cons_succ])
                      go_simp
                      refine (cK.out _).mono ?_
                      rintro e w5 ⟨rfl, hb5⟩
                      have gx5 := Lib.hid (gx.out.drew.below hb5)
                      have gz5 := Lib.hid (gz.out.drew.below hb5)
                      have hb6 := Lib.hid ((wbelow_drewed hbr.out).trans (hb5.mono hszr))
                      obtain ⟨x0, x1, x2⟩ := gx5.out.all
                      dsimp only at x0 x1 x2
                      go_simp
                      refine hK.out _ _ trivial (fun _ => ?_)
                      clear hK K
                      try simp only [List.getElem_toArray, List.getElem_cons_zero, List.getElem_cons_succ, Act.put, List.setIfInBounds_toArray, List.set_cons_zero, List.set_cons_succ]
                      refine wpAnyH_ready (rs := [7]) (by decide +kernel) (by simp) ?_
                      refine AllReadyH.cons rfl (fun K hK => ?_) ?_
                      · (try simp only [List.getElem_toArray, List.getElem_cons_zero, List.getElem_cons_succ])
                        go_simp
                        have hs6 := hb6.out.size
                        refine (ca.out _).mono ?_
                        rintro e w7 ⟨rfl, hb7⟩
                        have gx7 := gx5.out.below hb7
                        have gz7 := gz5.out.below hb7
                        have hb8 := hb6.out.trans (hb7.mono hs6)
                        have hs8 := hb8.size
                        obtain ⟨x0, x1, x2⟩ := gx7.all
                        have xf := gx7.f
                        obtain ⟨p0, p1, p2⟩ := (gx7.set Qn Qh Ql).all
                        dsimp only at x0 x1 x2 p0 p1 p2
                        have gx8 := Lib.hid (gx7.set Qn Qh Ql)
                        have gz8 := Lib.hid (gz7.set3_other (c := w2.heap.size) (v0 := .bool Qn) (v1 := .int .u64 Qh) (v2 := .int .u64 Ql) hbne)
                        have hb9 := Lib.hid (below_set3 hb8 (b := w2.heap.size) hbx (.bool Qn) (.int .u64 Qh) (.int .u64 Ql))
                        clear gx7 gz7 hb8 hb7
                        go_simp
                        refine hK.out _ _ trivial (fun _ => ?_)
                        clear hK K
                        try simp only [List.getElem_toArray, List.getElem_cons_zero, List.getElem_cons_succ, Act.put, List.setIfInBounds_toArray, List.set_cons_zero, List.set_cons_succ]
                        refine wpAnyH_take (i := 8) (v := ?_) rfl (by decide +kernel) (by decide +kernel) (by decide +kernel) (fun _ _ _ h => h) (Or.inl ⟨by rfl, ?_⟩) trivial ?_
                        rotate_left
                        · intro w _; (try simp only [List.getElem_toArray, List.getElem_cons_zero, List.getElem_cons_succ]); go_simp; try with_reducible rfl
                        try simp only [List.getElem_toArray, List.getElem_cons_zero, List.getElem_cons_succ, Act.put, List.setIfInBounds_toArray, List.set_cons_zero, List.set_cons_succ]
                        refine wpAnyH_take (i := 9) (v := ?_) rfl (by decide +kernel) (by decide +kernel) (by decide +kernel) (fun _ _ _ h => h) (Or.inl ⟨by rfl, ?_⟩) trivial ?_
                        rotate_left
                        · intro w _; (try simp only [List.getElem_toArray, List.getElem_cons_zero, List.getElem_cons_succ]); go_simp; try with_reducible rfl
                        try simp only [List.getElem_toArray, List.getElem_cons_zero, List.getElem_cons_succ, Act.put, List.setIfInBounds_toArray, List.set_cons_zero, List.set_cons_succ]
                        refine wpAnyH_take (i := 10) (v := ?_) rfl (by decide +kernel) (by decide +kernel) (by decide +kernel) (fun _ _ _ h => h) (Or.inl ⟨by rfl, ?_⟩) trivial ?_
                        rotate_left
                        · intro w _; (try simp only [List.getElem_toArray, List.getElem_cons_zero, List.getElem_cons_succ]); go_simp; try with_reducible rfl
                        try simp only [List.getElem_toArray, List.getElem_cons_zero, List.getElem_cons_succ, Act.put, List.setIfInBounds_toArray, List.set_cons_zero, List.set_cons_succ]
                        refine wpAnyH_ready (rs := [11]) (by decide +kernel) (by simp) ?_
                        refine AllReadyH.cons rfl (fun K hK => ?_) ?_
                        · (try simp only [List.getElem_toArray, List.getElem_cons_zero, List.getElem_cons_succ])
                          go_simp
                          refine hK.out _ _ trivial (fun _ => ?_)
                          clear hK K
                          try simp only [List.getElem_toArray, List.getElem_cons_zero, List.getElem_cons_succ, Act.put, List.setIfInBounds_toArray, List.set_cons_zero, List.set_cons_succ]
                          refine wpAnyH_take (i := 12) (v := ?_) rfl (by decide +kernel) (by decide +kernel) (by decide +kernel) (fun _ _ _ h => h) (Or.inl ⟨by rfl, ?_⟩) trivial ?_
                          rotate_left
                          · intro w _; (try simp only [List.getElem_toArray, List.getElem_cons_zero, List.getElem_cons_succ]); go_simp; try with_reducible rfl
                          try simp only [List.getElem_toArray, List.getElem_cons_zero, List.getElem_cons_succ, Act.put, List.setIfInBounds_toArray, List.set_cons_zero, List.set_cons_succ]
                          refine wpAnyH_done (by decide +kernel) ?_ _
                          clear x0 x1 x2 gx gz hbr
                          have gx := gx8
                          have gz := gz8
                          have hbr := hb9
                          clear gx8 gz8 hb9 gx5 gz5 hb6 hb5
                          have x0 := p0
                          have x1 := p1
                          have x2 := p2
                          have hszr := hbr.out.size
                          clear p0 p1 p2 hs6 hs8 xf
                          generalize ((w7.setCell ⟨w2.heap.size, 0, none⟩ (.bool Qn)).setCell ⟨w2.heap.size, 1, none⟩ (.int .u64 Qh)).setCell ⟨w2.heap.size, 2, none⟩ (.int .u64 Ql) = w8 at *
                          go_wp2_with fail
                          go_roundw
                          case rel => exact ⟨j + 1, hjn, by go_num, ha.out, by rw [hQ.out]; exact gx.out, gz.out, hbr.out⟩
                          case measure => simp [intOf]; omega
                        exact AllReadyH.nil
                      exact AllReadyH.nil
                    exact AllReadyH.nil
                  refine AllReadyH.cons rfl (fun K hK => ?_) ?_
                  · (try simp only [List.getElem_toArray, List.getElem_cons_zero, List.getElem_cons_succ])
                    go_simp
                    refine (cK.out _).mono ?_
                    rintro e w5 ⟨rfl, hb5⟩
                    have gx5 := Lib.hid (gx.out.drew.below hb5)
                    have gz5 := Lib.hid (gz.out.drew.below hb5)
                    have hb6 := Lib.hid ((wbelow_drewed hbr.out).trans (hb5.mono hszr))
                    obtain ⟨x0, x1, x2⟩ := gx5.out.all
                    dsimp only at x0 x1 x2
                    go_simp
                    refine hK.out _ _ trivial (fun _ => ?_)
                    clear hK K
                    try simp only [List.getElem_toArray, List.getElem_cons_zero, List.getElem_cons_succ, Act.put, List.setIfInBounds_toArray, List.set_cons_zero, List.set_cons_succ]
                    refine wpAnyH_ready (rs := [0]) (by decide +kernel) (by simp) ?_
                    refine AllReadyH.cons rfl (fun K hK => ?_) ?_
                    · (try simp only [List.getElem_toArray, List.getElem_cons_zero])
                      go_simp
                      refine hK.out _ _ trivial (fun _ => ?_)
                      clear hK K
                      try simp only [List.getElem_toArray, List.getElem_cons_zero, List.getElem_cons_succ, Act.put, List.setIfInBounds_toArray, List.set_cons_zero, List.set_cons_succ]
                      refine wpAnyH_ready (rs := [7]) (by decide +kernel) (by simp) ?_
                      refine AllReadyH.cons rfl (fun K hK => ?_) ?_
                      · (try simp only [List.getElem_toArray, List.getElem_cons_zero, List.getElem_cons_succ])
                        go_simp
                        have hs6 := hb6.out.size
                        refine (ca.out _).mono ?_
                        rintro e w7 ⟨rfl, hb7⟩
                        have gx7 := gx5.out.below hb7
                        have gz7 := gz5.out.below hb7
                        have hb8 := hb6.out.trans (hb7.mono hs6)
                        have hs8 := hb8.size
                        obtain ⟨x0, x1, x2⟩ := gx7.all
                        have xf := gx7.f
                        obtain ⟨p0, p1, p2⟩ := (gx7.set Qn Qh Ql).all
                        dsimp only at x0 x1 x2 p0 p1 p2
                        have gx8 := Lib.hid (gx7.set Qn Qh Ql)
                        have gz8 := Lib.hid (gz7.set3_other (c := w2.heap.size) (v0 := .bool Qn) (v1 := .int .u64 Qh) (v2 := .int .u64 Ql) hbne)
                        have hb9 := Lib.hid (below_set3 hb8 (b := w2.heap.size) hbx (.bool Qn) (.int .u64 Qh) (.int .u64 Ql))
                        clear gx7 gz7 hb8 hb7
                        go_simp
                        refine hK.out _ _ trivial (fun _ => ?_)
                        clear hK K
                        try simp only [List.getElem_toArray, List.getElem_cons_zero, List.getElem_cons_succ, Act.put, List.setIfInBounds_toArray, List.set_cons_zero, List.set_cons_succ]
                        refine wpAnyH_take (i := 8) (v := ?_) rfl (by decide +kernel) (by decide +kernel) (by decide +kernel) (fun _ _ _ h => h) (Or.inl ⟨by rfl, ?_⟩) trivial ?_
                        rotate_left
                        · intro w _; (try simp only [List.getElem_toArray, List.getElem_cons_zero, List.getElem_cons_succ]); go_simp; try with_reducible rfl
                        try simp only [List.getElem_toArray, List.getElem_cons_zero, List.getElem_cons_succ, Act.put, List.setIfInBounds_toArray, List.set_cons_zero, List.set_cons_succ]
                        refine wpAnyH_take (i := 9) (v := ?_) rfl (by decide +kernel) (by decide +kernel) (by decide +kernel) (fun _ _ _ h => h) (Or.inl ⟨by rfl, ?_⟩) trivial ?_
                        rotate_left
                        · intro w _; (try simp only [List.getElem_toArray, List.getElem_cons_zero, List.getElem_cons_succ]); go_simp; try with_reducible rfl
                        try simp only [List.getElem_toArray, List.getElem_cons_zero, List.getElem_cons_succ, Act.put, List.setIfInBounds_toArray, List.set_cons_zero, List.set_cons_succ]
                        refine wpAnyH_take (i := 10) (v := ?_) rfl (by decide +kernel) (by decide +kernel) (by decide +kernel) (fun _ _ _ h => h) (Or.inl ⟨by rfl, ?_⟩) trivial ?_
                        rotate_left
                        · intro w _; (try simp only [List.getElem_toArray, List.getElem_cons_zero, List.getElem_cons_succ]); go_simp; try with_reducible rfl
                        try simp only [List.getElem_toArray, List.getElem_cons_zero, List.getElem_cons_succ, Act.put, List.setIfInBounds_toArray, List.set_cons_zero, List.set_cons_succ]
                        refine wpAnyH_ready (rs := [11]) (by decide +kernel) (by simp) ?_
                        refine AllReadyH.cons rfl (fun K hK => ?_) ?_
                        · (try simp only [List.getElem_toArray, List.getElem_cons_zero, List.getElem_cons_succ])
                          go_simp
                          refine hK.out _ _ trivial (fun _ => ?_)
                          clear hK K
                          try simp only [List.getElem_toArray, List.getElem_cons_zero, List.getElem_cons_succ, Act.put, List.setIfInBounds_toArray, List.set_cons_zero, List.set_cons_succ]
                          refine wpAnyH_take (i := 12) (v := ?_) rfl (by decide +kernel) (by decide +kernel) (by decide +kernel) (fun _ _ _ h => h) (Or.inl ⟨by rfl, ?_⟩) trivial ?_
                          rotate_left
                          · intro w _; (try simp only [List.getElem_toArray, List.getElem_cons_zero, List.getElem_cons_succ]); go_simp; try with_reducible rfl
                          try simp only [List.getElem_toArray, List.getElem_cons_zero, List.getElem_cons_succ, Act.put, List.setIfInBounds_toArray, List.set_cons_zero, List.set_cons_succ]
                          refine wpAnyH_done (by decide +kernel) ?_ _
                          clear x0 x1 x2 gx gz hbr
                          have gx := gx8
                          have gz := gz8
                          have hbr := hb9
                          clear gx8 gz8 hb9 gx5 gz5 hb6 hb5
                          have x0 := p0
                          have x1 := p1
                          have x2 := p2
                          have hszr := hbr.out.size
                          clear p0 p1 p2 hs6 hs8 xf
                          generalize ((w7.setCell ⟨w2.heap.size, 0, none⟩ (.bool Qn)).setCell ⟨w2.heap.size, 1, none⟩ (.int .u64 Qh)).setCell ⟨w2.heap.size, 2, none⟩ (.int .u64 Ql) = w8 at *
                          go_wp2_with fail
                          go_roundw
                          case rel => exact ⟨j + 1, hjn, by go_num, ha.out, by rw [hQ.out]; exact gx.out, gz.out, hbr.out⟩
                          case measure => simp [intOf]; omega
                        exact AllReadyH.nil
                      exact AllReadyH.nil
                    exact AllReadyH.nil
                  exact AllReadyH.nil
                exact AllReadyH.nil
              exact AllReadyH.nil
            exact AllReadyH.nil
          exact AllReadyH.nil
        · have e2 : RN (v * 10 + dg) = (zero, 3) := if_neg ha
          rw [e2] at ca
          clear e2
          rw [show nw 10 = ⟨false, 0, 10⟩ from rfl] at cm
          obtain ⟨G, hG⟩ : ∃ G, nw dg = G := ⟨_, rfl⟩
          obtain ⟨P, hP⟩ : ∃ P, nw (v * 10) = P := ⟨_, rfl⟩
          obtain ⟨Q, hQ⟩ : ∃ Q, nw (v * 10 + dg) = Q := ⟨_, rfl⟩
          obtain ⟨V, hV⟩ : ∃ V, nw v = V := ⟨_, rfl⟩
          rw [hG] at cK
          rw [hV] at gx cm
          rw [hP] at cm ca
          rw [hG] at ca
          have hbg := Lib.hid (show ¬ valD D < 170141183460469231731687303715884105728 from by have h1 := hnext.out; have h2 := hmono.out; omega)
          clear hm hP hV hG hv hQ ha hnext hmono
          obtain ⟨Gn, Gh, Gl⟩ := G
          obtain ⟨Pn, Ph, Pl⟩ := P
          obtain ⟨Vn, Vh, Vl⟩ := V
          obtain ⟨x0, x1, x2⟩ := gx.all
          unfold wv zero at *
          dsimp only at *
          replace gx := Lib.hid gx
          replace gz := Lib.hid gz
          replace hbr := Lib.hid hbr
          replace cm := Lib.hid cm
          replace ca := Lib.hid ca
          replace cK := Lib.hid cK
          replace hd := Lib.hid hd
          go_wp2_with fail
          refine wp_region_held_at (S := fun _ => True) 8 rfl (by kernel_rfl) trivial (fun _ => ?_)
          refine wpAnyH_ready (rs := [0, 1]) (by decide +kernel) (by simp) ?_
          refine AllReadyH.cons rfl (fun K hK => ?_) ?_
          · (try simp only [List.getElem_toArray, List.getElem_cons_zero])
            go_simp
            refine hK.out _ _ trivial (fun _ => ?_)
            clear hK K
            try simp only [List.getElem_toArray, List.getElem_cons_zero, List.getElem_cons_succ, Act.put, List.setIfInBounds_toArray, List.set_cons_zero, List.set_cons_succ]
            refine wpAnyH_ready (rs := [1]) (by decide +kernel) (by simp) ?_
            refine AllReadyH.cons rfl (fun K hK => ?_) ?_
            · (try simp only [List.getElem_toArray, List.getElem_cons_zero, List.getElem_cons_succ])
              go_simp
              refine (c10.out _).mono ?_
              rintro e w5 ⟨rfl, hb5⟩
              have gx5 := Lib.hid (gx.out.drew.below hb5)
              have gz5 := Lib.hid (gz.out.drew.below hb5)
              have hb6 := Lib.hid ((wbelow_drewed hbr.out).trans (hb5.mono hszr))
              obtain ⟨x0, x1, x2⟩ := gx5.out.all
              dsimp only at x0 x1 x2
              go_simp
              refine hK.out _ _ trivial (fun _ => ?_)
              clear hK K
              try simp only [List.getElem_toArray, List.getElem_cons_zero, List.getElem_cons_succ, Act.put, List.setIfInBounds_toArray, List.set_cons_zero, List.set_cons_succ]
              refine wpAnyH_ready (rs := [2]) (by decide +kernel) (by simp) ?_
              refine AllReadyH.cons rfl (fun K hK => ?_) ?_
              · (try simp only [List.getElem_toArray, List.getElem_cons_zero, List.getElem_cons_succ])
                go_simp
                have hs6 := hb6.out.size
                refine (cm.out _).mono ?_
                rintro e w7 ⟨rfl, hb7⟩
                have gx7 := gx5.out.below hb7
                have gz7 := gz5.out.below hb7
                have hb8 := hb6.out.trans (hb7.mono hs6)
                have hs8 := hb8.size
                obtain ⟨x0, x1, x2⟩ := gx7.all
                have xf := gx7.f
                obtain ⟨p0, p1, p2⟩ := (gx7.set Pn Ph Pl).all
                dsimp only at x0 x1 x2 p0 p1 p2
                have gx8 := Lib.hid (gx7.set Pn Ph Pl)
                have gz8 := Lib.hid (gz7.set3_other (c := w2.heap.size) (v0 := .bool Pn) (v1 := .int .u64 Ph) (v2 := .int .u64 Pl) hbne)
                have hb9 := Lib.hid (below_set3 hb8 (b := w2.heap.size) hbx (.bool Pn) (.int .u64 Ph) (.int .u64 Pl))
                clear gx7 gz7 hb8 hb7
                go_simp
                refine hK.out _ _ trivial (fun _ => ?_)
                clear hK K
                try simp only [List.getElem_toArray, List.getElem_cons_zero, List.getElem_cons_succ, Act.put, List.setIfInBounds_toArray, List.set_cons_zero, List.set_cons_succ]
                refine wpAnyH_take (i := 3) (v := ?_) rfl (by decide +kernel) (by decide +kernel) (by decide +kernel) (fun _ _ _ h => h) (Or.inl ⟨by rfl, ?_⟩) trivial ?_
                rotate_left
                · intro w _; (try simp only [List.getElem_toArray, List.getElem_cons_zero, List.getElem_cons_succ]); go_simp; try with_reducible rfl
                try simp only [List.getElem_toArray, List.getElem_cons_zero, List.getElem_cons_succ, Act.put, List.setIfInBounds_toArray, List.set_cons_zero, List.set_cons_succ]
                refine wpAnyH_take (i := 4) (v := ?_) rfl (by decide +kernel) (by decide +kernel) (by decide +kernel) (fun _ _ _ h => h) (Or.inl ⟨by rfl, ?_⟩) trivial ?_
                rotate_left
                · intro w _; (try simp only [List.getElem_toArray, List.getElem_cons_zero, List.getElem_cons_succ]); go_simp; try with_reducible rfl
                try simp only [List.getElem_toArray, List.getElem_cons_zero, List.getElem_cons_succ, Act.put, List.setIfInBounds_toArray, List.set_cons_zero, List.set_cons_succ]
                refine wpAnyH_take (i := 5) (v := ?_) rfl (by decide +kernel) (by decide +kernel) (by decide +kernel) (fun _ _ _ h => h) (Or.inl ⟨by rfl, ?_⟩) trivial ?_
                rotate_left
                · intro w _; (try simp only [List.getElem_toArray, List.getElem_cons_zero, List.getElem_cons_succ]); go_simp; try with_reducible rfl
                try simp only [List.getElem_toArray, List.getElem_cons_zero, List.getElem_cons_succ, Act.put, List.setIfInBounds_toArray, List.set_cons_zero, List.set_cons_succ]
                refine wpAnyH_ready (rs := [6]) (by decide +kernel) (by simp) ?_
                refine AllReadyH.cons rfl (fun K hK => ?_) ?_
                · (try simp only [List.getElem_toArray, List.getElem_cons_zero, List.getElem_cons_succ])
                  go_simp
                  refine hK.out _ _ trivial (fun _ => ?_)
                  clear hK K
                  try simp only [List.getElem_toArray, List.getElem_cons_zero, List.getElem_cons_succ, Act.put, List.setIfInBounds_toArray, List.set_cons_zero, List.set_cons_succ]
                  refine wpAnyH_take (i := 7) (v := ?_) rfl (by decide +kernel) (by decide +kernel) (by decide +kernel) (fun _ _ _ h => h) (Or.inl ⟨by rfl, ?_⟩) trivial ?_
                  rotate_left
                  · intro w _; (try simp only [List.getElem_toArray, List.getElem_cons_zero, List.getElem_cons_succ]); go_simp; try with_reducible rfl
                  try simp only [List.getElem_toArray, List.getElem_cons_zero, List.getElem_cons_succ, Act.put, List.setIfInBounds_toArray, List.set_cons_zero, List.set_cons_succ]
                  refine wpAnyH_done (by decide +kernel) ?_ _
                  clear x0 x1 x2 gx gz hbr
                  have gx := gx8
                  have gz := gz8
                  have hbr := hb9
                  clear gx8 gz8 hb9 gx5 gz5 hb6 hb5
                  have x0 := p0
                  have x1 := p1
                  have x2 := p2
                  have hszr := hbr.out.size
                  clear p0 p1 p2 hs6 hs8 xf
                  generalize ((w7.setCell ⟨w2.heap.size, 0, none⟩ (.bool Pn)).setCell ⟨w2.heap.size, 1, none⟩ (.int .u64 Ph)).setCell ⟨w2.heap.size, 2, none⟩ (.int .u64 Pl) = w8 at *
                  go_wp2_with fail
                  refine wp_region_held_at (S := fun _ => True) 13 rfl (by kernel_rfl) trivial (fun _ => ?_)
                  refine wpAnyH_take (i := 1) (v := ?_) rfl (by decide +kernel) (by decide +kernel) (by decide +kernel) (fun _ _ _ h => h) (Or.inl ⟨by rfl, ?_⟩) trivial ?_
                  rotate_left
                  · intro w _; (try simp only [List.getElem_toArray, List.getElem_cons_zero, List.getElem_cons_succ]); go_simp; try with_reducible rfl
                  try simp only [List.getElem_toArray, List.getElem_cons_zero, List.getElem_cons_succ, Act.put, List.setIfInBounds_toArray, List.set_cons_zero, List.set_cons_succ]
                  refine wpAnyH_take (i := 2) (v := ?_) rfl (by decide +kernel) (by decide +kernel) (by decide +kernel) (fun _ _ _ h => h) (Or.inl ⟨by rfl, ?_⟩) trivial ?_
                  rotate_left
                  · intro w _; (try simp only [List.getElem_toArray, List.getElem_cons_zero, List.getElem_cons_succ]); go_simp; try with_reducible rfl
                  try simp only [List.getElem_toArray, List.getElem_cons_zero, List.getElem_cons_succ, Act.put, List.setIfInBounds_toArray, List.set_cons_zero, List.set_cons_succ]
                  refine wpAnyH_take (i := 3) (v := ?_) rfl (by decide +kernel) (by decide +kernel) (by decide +kernel) (fun _ _ _ h => h) (Or.inl ⟨by rfl, ?_⟩) trivial ?_
                  rotate_left
                  · intro w _; (try simp only [List.getElem_toArray, List.getElem_cons_zero, List.getElem_cons_succ]); go_simp; try with_reducible rfl
                  try simp only [List.getElem_toArray, List.getElem_cons_zero, List.getElem_cons_succ, Act.put, List.setIfInBounds_toArray, List.set_cons_zero, List.set_cons_succ]
                  refine wpAnyH_take (i := 4) (v := ?_) rfl (by decide +kernel) (by decide +kernel) (by decide +kernel) (fun _ _ _ h => h) (Or.inl ⟨by rfl, ?_⟩) trivial ?_
                  rotate_left
                  · intro w _; (try simp only [List.getElem_toArray, List.getElem_cons_zero, List.getElem_cons_succ]); go_simp; try with_reducible rfl
                  try simp only [List.getElem_toArray, List.getElem_cons_zero, List.getElem_cons_succ, Act.put, List.setIfInBounds_toArray, List.set_cons_zero, List.set_cons_succ]
                  refine wpAnyH_take (i := 5) (v := ?_) rfl (by decide +kernel) (by decide +kernel) (by decide +kernel) (fun _ _ _ h => h) (Or.inl ⟨by rfl, ?_⟩) trivial ?_
                  rotate_left
                  · intro w _; (try simp only [List.getElem_toArray, List.getElem_cons_zero, List.getElem_cons_succ]); go_simp; try with_reducible rfl
                  try simp only [List.getElem_toArray, List.getElem_cons_zero, List.getElem_cons_succ, Act.put, List.setIfInBounds_toArray, List.set_cons_zero, List.set_cons_succ]
                  refine wpAnyH_ready (rs := [0, 6]) (by decide +kernel) (by simp) ?_
                  refine AllReadyH.cons rfl (fun K hK => ?_) ?_
                  · (try simp only [List.getElem_toArray, List.getElem_cons_zero])
                    go_simp
                    refine hK.out _ _ trivial (fun _ => ?_)
                    clear hK K
                    try simp only [List.getElem_toArray, List.getElem_cons_zero, List.getElem_cons_succ, Act.put, List.setIfInBounds_toArray, List.set_cons_zero, List.set_cons_succ]
                    refine wpAnyH_ready (rs := [6]) (by decide +kernel) (by simp) ?_
                    refine AllReadyH.cons rfl (fun K hK => ?_) ?_
                    · (try simp only [List.getElem_toArray, List.getElem_cons_zero, List.getElem_cons_succ])
                      go_simp
                      refine (cK.out _).mono ?_
                      rintro e w5 ⟨rfl, hb5⟩
                      have gx5 := Lib.hid (gx.out.drew.below hb5)
                      have gz5 := Lib.hid (gz.out.drew.below hb5)
                      have hb6 := Lib.hid ((wbelow_drewed hbr.out).trans (hb5.mono hszr))
                      obtain ⟨x0, x1, x2⟩ := gx5.out.all
                      dsimp only at x0 x1 x2
                      go_simp
                      refine hK.out _ _ trivial (fun _ => ?_)
                      clear hK K
                      try simp only [List.getElem_toArray, List.getElem_cons_zero, List.getElem_cons_succ, Act.put, List.setIfInBounds_toArray, List.set_cons_zero, List.set_cons_succ]
                      refine wpAnyH_ready (rs := [7]) (by decide +kernel) (by simp) ?_
                      refine AllReadyH.cons rfl (fun K hK => ?_) ?_
                      · (try simp only [List.getElem_toArray, List.getElem_cons_zero, List.getElem_cons_succ])
                        go_simp
                        have hs6 := hb6.out.size
                        refine (ca.out _).mono ?_
                        rintro e w7 ⟨rfl, hb7⟩
                        have gx7 := gx5.out.below hb7
                        have gz7 := gz5.out.below hb7
                        have hb8 := hb6.out.trans (hb7.mono hs6)
                        have hs8 := hb8.size
                        obtain ⟨x0, x1, x2⟩ := gx7.all
                        have xf := gx7.f
                        obtain ⟨p0, p1, p2⟩ := (gx7.set false 0 0).all
                        dsimp only at x0 x1 x2 p0 p1 p2
                        have gx8 := Lib.hid (gx7.set false 0 0)
                        have gz8 := Lib.hid (gz7.set3_other (c := w2.heap.size) (v0 := .bool false) (v1 := .int .u64 0) (v2 := .int .u64 0) hbne)
                        have hb9 := Lib.hid (below_set3 hb8 (b := w2.heap.size) hbx (.bool false) (.int .u64 0) (.int .u64 0))
                        clear gx7 gz7 hb8 hb7
                        go_simp
                        refine hK.out _ _ trivial (fun _ => ?_)
                        clear hK K
                        try simp only [List.getElem_toArray, List.getElem_cons_zero, List.getElem_cons_succ, Act.put, List.setIfInBounds_toArray, List.set_cons_zero, List.set_cons_succ]
                        refine wpAnyH_take (i := 8) (v := ?_) rfl (by decide +kernel) (by decide +kernel) (by decide +kernel) (fun _ _ _ h => h) (Or.inl ⟨by rfl, ?_⟩) trivial ?_
                        rotate_left
                        · intro w _; (try simp only [List.getElem_toArray, List.getElem_cons_zero, List.getElem_cons_succ]); go_simp; try with_reducible rfl
                        try simp only [List.getElem_toArray, List.getElem_cons_zero, List.getElem_cons_succ, Act.put, List.setIfInBounds_toArray, List.set_cons_zero, List.set_cons_succ]
                        refine wpAnyH_take (i := 9) (v := ?_) rfl (by decide +kernel) (by decide +kernel) (by decide +kernel) (fun _ _ _ h => h) (Or.inl ⟨by rfl, ?_⟩) trivial ?_
                        rotate_left
                        · intro w _; (try simp only [List.getElem_toArray, List.getElem_cons_zero, List.getElem_cons_succ]); go_simp; try with_reducible rfl
                        try simp only [List.getElem_toArray, List.getElem_cons_zero, List.getElem_cons_succ, Act.put, List.setIfInBounds_toArray, List.set_cons_zero, List.set_cons_succ]
                        refine wpAnyH_take (i := 10) (v := ?_) rfl (by decide +kernel) (by decide +kernel) (by decide +kernel) (fun _ _ _ h => h) (Or.inl ⟨by rfl, ?_⟩) trivial ?_
                        rotate_left
                        · intro w _; (try simp only [List.getElem_toArray, List.getElem_cons_zero, List.getElem_cons_succ]); go_simp; try with_reducible rfl
                        try simp only [List.getElem_toArray, List.getElem_cons_zero, List.getElem_cons_succ, Act.put, List.setIfInBounds_toArray, List.set_cons_zero, List.set_cons_succ]
                        refine wpAnyH_ready (rs := [11]) (by decide +kernel) (by simp) ?_
                        refine AllReadyH.cons rfl (fun K hK => ?_) ?_
                        · (try simp only [List.getElem_toArray, List.getElem_cons_zero, List.getElem_cons_succ])
                          go_simp
                          refine hK.out _ _ trivial (fun _ => ?_)
                          clear hK K
                          try simp only [List.getElem_toArray, List.getElem_cons_zero, List.getElem_cons_succ, Act.put, List.setIfInBounds_toArray, List.set_cons_zero, List.set_cons_succ]
                          refine wpAnyH_take (i := 12) (v := ?_) rfl (by decide +kernel) (by decide +kernel) (by decide +kernel) (fun _ _ _ h => h) (Or.inl ⟨by rfl, ?_⟩) trivial ?_
                          rotate_left
                          · intro w _; (try simp only [List.getElem_toArray, List.getElem_cons_zero, List.getElem_cons_succ]); go_simp; try with_reducible rfl
                          try simp only [List.getElem_toArray, List.getElem_cons_zero, List.getElem_cons_succ, Act.put, List.setIfInBounds_toArray, List.set_cons_zero, List.set_cons_succ]
                          refine wpAnyH_done (by decide +kernel) ?_ _
                          clear x0 x1 x2 gx gz hbr
                          have gx := gx8
                          have gz := gz8
                          have hbr := hb9
                          clear gx8 gz8 hb9 gx5 gz5 hb6 hb5
                          have x0 := p0
                          have x1 := p1
                          have x2 := p2
                          have hszr := hbr.out.size
                          clear p0 p1 p2 hs6 hs8 xf
                          generalize ((w7.setCell ⟨w2.heap.size, 0, none⟩ (.bool false)).setCell ⟨w2.heap.size, 1, none⟩ (.int .u64 0)).setCell ⟨w2.heap.size, 2, none⟩ (.int .u64 0) = w8 at *
                          have gzz := gz.out
                          obtain ⟨z0, z1, z2⟩ := gzz.all
                          have zf := gzz.f
                          obtain ⟨t0, t1, t2, hfin⟩ := last_set (w := w) (B := w.heap.size) gzz ⟨false, 0, 0⟩ hbr.out (Nat.le_refl _)
                          dsimp only at t0 t1 t2 z0 z1 z2 hfin
                          replace hfin := Lib.hid hfin
                          clear gzz gx gz hbr
                          go_wp2_with fail
                          (try simp only [Exit.inBlock, Exit.then])
                          refine bodyPost_ret (by simp [results, Tryz.results129, go_sem, t0, t1, t2]; try rfl) rfl ?_
                          refine ⟨?_, hfin.out⟩
                          obtain ⟨e1, e2⟩ := hr2.out hbg.out
                          rw [e1, e2]
                          rfl
                        exact AllReadyH.nil
                      exact AllReadyH.nil
                    exact AllReadyH.nil
                  refine AllReadyH.cons rfl (fun K hK => ?_) ?_
                  · (try simp only [List.getElem_toArray, List.getElem_cons_zero, List.getElem_cons_succ])
                    go_simp
                    refine (cK.out _).mono ?_
                    rintro e w5 ⟨rfl, hb5⟩
                    have gx5 := Lib.hid (gx.out.drew.below hb5)
                    have gz5 := Lib.hid (gz.out.drew.below hb5)
                    have hb6 := Lib.hid ((wbelow_drewed hbr.out).trans (hb5.mono hszr))
                    obtain ⟨x0, x1, x2⟩ := gx5.out.all
                    dsimp only at x0 x1 x2
                    go_simp
                    refine hK.out _ _ trivial (fun _ => ?_)
                    clear hK K
                    try simp only [List.getElem_toArray, List.getElem_cons_zero, List.getElem_cons_succ, Act.put, List.setIfInBounds_toArray, List.set_cons_zero, List.set_cons_succ]
                    refine wpAnyH_ready (rs := [0]) (by decide +kernel) (by simp) ?_
                    refine AllReadyH.cons rfl (fun K hK => ?_) ?_
                    · (try simp only [List.getElem_toArray, List.getElem_cons_zero])
                      go_simp
                      refine hK.out _ _ trivial (fun _ => ?_)
                      clear hK K
                      try simp only [List.getElem_toArray, List.getElem_cons_zero, List.getElem_cons_succ, Act.put, List.setIfInBounds_toArray, List.set_cons_zero, List.set_cons_succ]
                      refine wpAnyH_ready (rs := [7]) (by decide +kernel) (by simp) ?_
                      refine AllReadyH.cons rfl (fun K hK => ?_) ?_
                      · (try simp only [List.getElem_toArray, List.getElem_cons_zero, List.getElem_cons_succ])
                        go_simp
                        have hs6 := hb6.out.size
                        refine (ca.out _).mono ?_
                        rintro e w7 ⟨rfl, hb7⟩
                        have gx7 := gx5.out.below hb7
                        have gz7 := gz5.out.below hb7
                        have hb8 := hb6.out.trans (hb7.mono hs6)
                        have hs8 := hb8.size
                        obtain ⟨x0, x1, x2⟩ := gx7.all
                        have xf := gx7.f
                        obtain ⟨p0, p1, p2⟩ := (gx7.set false 0 0).all
                        dsimp only at x0 x1 x2 p0 p1 p2
                        have gx8 := Lib.hid (gx7.set false 0 0)
                        have gz8 := Lib.hid (gz7.set3_other (c := w2.heap.size) (v0 := .bool false) (v1 := .int .u64 0) (v2 := .int .u64 0) hbne)
                        have hb9 := Lib.hid (below_set3 hb8 (b := w2.heap.size) hbx (.bool false) (.int .u64 0) (.int .u64 0))
                        clear gx7 gz7 hb8 hb7
                        go_simp
                        refine hK.out _ _ trivial (fun _ => ?_)
                        clear hK K
                        try simp only [List.getElem_toArray, List.getElem_cons_zero, List.getElem_cons_succ, Act.put, List.setIfInBounds_toArray, List.set_cons_zero, List.set_cons_succ]
                        refine wpAnyH_take (i := 8) (v := ?_) rfl (by decide +kernel) (by decide +kernel) (by decide +kernel) (fun _ _ _ h => h) (Or.inl ⟨by rfl, ?_⟩) trivial ?_
                        rotate_left
                        · intro w _; (try simp only [List.getElem_toArray, List.getElem_cons_zero, List.getElem_cons_succ]); go_simp; try with_reducible rfl
                        try simp only [List.getElem_toArray, List.getElem_cons_zero, List.getElem_cons_succ, Act.put, List.setIfInBounds_toArray, List.set_cons_zero, List.set_cons_succ]
                        refine wpAnyH_take (i := 9) (v := ?_) rfl (by decide +kernel) (by decide +kernel) (by decide +kernel) (fun _ _ _ h => h) (Or.inl ⟨by rfl, ?_⟩) trivial ?_
                        rotate_left
                        · intro w _; (try simp only [List.getElem_toArray, List.getElem_cons_zero, List.getElem_cons_succ]); go_simp; try with_reducible rfl
                        try simp only [List.getElem_toArray, List.getElem_cons_zero, List.getElem_cons_succ, Act.put, List.setIfInBounds_toArray, List.set_cons_zero, List.set_cons_succ]
                        refine wpAnyH_take (i := 10) (v := ?_) rfl (by decide +kernel) (by decide +kernel) (by decide +kernel) (fun _ _ _ h => h) (Or.inl ⟨by rfl, ?_⟩) trivial ?_
                        rotate_left
                        · intro w _; (try simp only [List.getElem_toArray, List.getElem_cons_zero, List.getElem_cons_succ]); go_simp; try with_reducible rfl
                        try simp only [List.getElem_toArray, List.getElem_cons_zero, List.getElem_cons_succ, Act.put, List.setIfInBounds_toArray, List.set_cons_zero, List.set_cons_succ]
                        refine wpAnyH_ready (rs := [11]) (by decide +kernel) (by simp) ?_
                        refine AllReadyH.cons rfl (fun K hK => ?_) ?_
                        · (try simp only [List.getElem_toArray, List.getElem_cons_zero, List.getElem_cons_succ])
                          go_simp
                          refine hK.out _ _ trivial (fun _ => ?_)
                          clear hK K
                          try simp only [List.getElem_toArray, List.getElem_cons_zero, List.getElem_cons_succ, Act.put, List.setIfInBounds_toArray, List.set_cons_zero, List.set_cons_succ]
                          refine wpAnyH_take (i := 12) (v := ?_) rfl (by decide +kernel) (by decide +kernel) (by decide +kernel) (fun _ _ _ h => h) (Or.inl ⟨by rfl, ?_⟩) trivial ?_
                          rotate_left
                          · intro w _; (try simp only [List.getElem_toArray, List.getElem_cons_zero, List.getElem_cons_succ]); go_simp; try with_reducible rfl
                          try simp only [List.getElem_toArray, List.getElem_cons_zero, List.getElem_cons_succ, Act.put, List.setIfInBounds_toArray, List.set_cons_zero, List.set_cons_succ]
                          refine wpAnyH_done (by decide +kernel) ?_ _
                          clear x0 x1 x2 gx gz hbr
                          have gx := gx8
                          have gz := gz8
                          have hbr := hb9
                          clear gx8 gz8 hb9 gx5 gz5 hb6 hb5
                          have x0 := p0
                          have x1 := p1
                          have x2 := p2
                          have hszr := hbr.out.size
                          clear p0 p1 p2 hs6 hs8 xf
                          generalize ((w7.setCell ⟨w2.heap.size, 0, none⟩ (.bool false)).setCell ⟨w2.heap.size, 1, none⟩ (.int .u64 0)).setCell ⟨w2.heap.size, 2, none⟩ (.int .u64 0) = w8 at *
                          have gzz := gz.out
                          obtain ⟨z0, z1, z2⟩ := gzz.all
                          have zf := gzz.f
                          obtain ⟨t0, t1, t2, hfin⟩ := last_set (w := w) (B := w.heap.size) gzz ⟨false, 0, 0⟩ hbr.out (Nat.le_refl _)
                          dsimp only at t0 t1 t2 z0 z1 z2 hfin
                          replace hfin := Lib.hid hfin
                          clear gzz gx gz hbr
                          go_wp2_with fail
                          (try simp only [Exit.inBlock, Exit.then])
                          refine bodyPost_ret (by simp [results, Tryz.results129, go_sem, t0, t1, t2]; try rfl) rfl ?_
                          refine ⟨?_, hfin.out⟩
                          obtain ⟨e1, e2⟩ := hr2.out hbg.out
                          rw [e1, e2]
                          rfl
                        exact AllReadyH.nil
                      exact AllReadyH.nil
                    exact AllReadyH.nil
                  exact AllReadyH.nil
                exact AllReadyH.nil
              exact AllReadyH.nil
            exact AllReadyH.nil
          refine AllReadyH.cons rfl (fun K hK => ?_) ?_
          · (try simp only [List.getElem_toArray, List.getElem_cons_zero, List.getElem_cons_succ])
            go_simp
            refine (c10.out _).mono ?_
            rintro e w5 ⟨rfl, hb5⟩
            have gx5 := Lib.hid (gx.out.drew.below hb5)
            have gz5 := Lib.hid (gz.out.drew.below hb5)
            have hb6 := Lib.hid ((wbelow_drewed hbr.out).trans (hb5.mono hszr))
            obtain ⟨x0, x1, x2⟩ := gx5.out.all
            dsimp only at x0 x1 x2
            go_simp
            refine hK.out _ _ trivial (fun _ => ?_)
            clear hK K
            try simp only [List.getElem_toArray, List.getElem_cons_zero, List.getElem_cons_succ, Act.put, List.setIfInBounds_toArray, List.set_cons_zero, List.set_cons_succ]
            refine wpAnyH_ready (rs := [0]) (by decide +kernel) (by simp) ?_
            refine AllReadyH.cons rfl (fun K hK => ?_) ?_
            · (try simp only [List.getElem_toArray, List.getElem_cons_zero])
              go_simp
              refine hK.out _ _ trivial (fun _ => ?_)
              clear hK K
              try simp only [List.getElem_toArray, List.getElem_cons_zero, List.getElem_cons_succ, Act.put, List.setIfInBounds_toArray, List.set_cons_zero, List.set_cons_succ]
              refine wpAnyH_ready (rs := [2]) (by decide +kernel) (by simp) ?_
              refine AllReadyH.cons rfl (fun K hK => ?_) ?_
              · (try simp only [List.getElem_toArray, List.getElem_cons_zero, List.getElem_cons_succ])
                go_simp
                have hs6 := hb6.out.size
                refine (cm.out _).mono ?_
                rintro e w7 ⟨rfl, hb7⟩
                have gx7 := gx5.out.below hb7
                have gz7 := gz5.out.below hb7
                have hb8 := hb6.out.trans (hb7.mono hs6)
                have hs8 := hb8.size
                obtain ⟨x0, x1, x2⟩ := gx7.all
                have xf := gx7.f
                obtain ⟨p0, p1, p2⟩ := (gx7.set Pn Ph Pl).all
                dsimp only at x0 x1 x2 p0 p1 p2
                have gx8 := Lib.hid (gx7.set Pn Ph Pl)
                have gz8 := Lib.hid (gz7.set3_other (c := w2.heap.size) (v0 := .bool Pn) (v1 := .int .u64 Ph) (v2 := .int .u64 Pl) hbne)
                have hb9 := Lib.hid (below_set3 hb8 (b := w2.heap.size) hbx (.bool Pn) (.int .u64 Ph) (.int .u64 Pl))
                clear gx7 gz7 hb8 hb7
                go_simp
                refine hK.out _ _ trivial (fun _ => ?_)
                clear hK K
                try simp only [List.getElem_toArray, List.getElem_cons_zero, List.getElem_cons_succ, Act.put, List.setIfInBounds_toArray, List.set_cons_zero, List.set_cons_succ]
                refine wpAnyH_take (i := 3) (v := ?_) rfl (by decide +kernel) (by decide +kernel) (by decide +kernel) (fun _ _ _ h => h) (Or.inl ⟨by rfl, ?_⟩) trivial ?_
                rotate_left
                · intro w _; (try simp only [List.getElem_toArray, List.getElem_cons_zero, List.getElem_cons_succ]); go_simp; try with_reducible rfl
                try simp only [List.getElem_toArray, List.getElem_cons_zero, List.getElem_cons_succ, Act.put, List.setIfInBounds_toArray, List.set_cons_zero, List.set_cons_succ]
                refine wpAnyH_take (i := 4) (v := ?_) rfl (by decide +kernel) (by decide +kernel) (by decide +kernel) (fun _ _ _ h => h) (Or.inl ⟨by rfl, ?_⟩) trivial ?_
                rotate_left
                · intro w _; (try simp only [List.getElem_toArray, List.getElem_cons_zero, List.getElem_cons_succ]); go_simp; try with_reducible rfl
                try simp only [List.getElem_toArray, List.getElem_cons_zero, List.getElem_cons_succ, Act.put, List.setIfInBounds_toArray, List.set_cons_zero, List.set_cons_succ]
                refine wpAnyH_take (i := 5) (v := ?_) rfl (by decide +kernel) (by decide +kernel) (by decide +kernel) (fun _ _ _ h => h) (Or.inl ⟨by rfl, ?_⟩) trivial ?_
                rotate_left
                · intro w _; (try simp only [List.getElem_toArray, List.getElem_cons_zero, List.getElem_cons_succ]); go_simp; try with_reducible rfl
                try simp only [List.getElem_toArray, List.getElem_cons_zero, List.getElem_cons_succ, Act.put, List.setIfInBounds_toArray, List.set_cons_zero, List.set_cons_succ]
                refine wpAnyH_ready (rs := [6]) (by decide +kernel) (by simp) ?_
                refine AllReadyH.cons rfl (fun K hK => ?_) ?_
                · (try simp only [List.getElem_toArray, List.getElem_cons_zero, List.getElem_cons_succ])
                  go_simp
                  refine hK.out _ _ trivial (fun _ => ?_)
                  clear hK K
                  try simp only [List.getElem_toArray, List.getElem_cons_zero, List.getElem_cons_succ, Act.put, List.setIfInBounds_toArray, List.set_cons_zero, List.set_cons_succ]
                  refine wpAnyH_take (i := 7) (v := ?_) rfl (by decide +kernel) (by decide +kernel) (by decide +kernel) (fun _ _ _ h => h) (Or.inl ⟨by rfl, ?_⟩) trivial ?_
                  rotate_left
                  · intro w _; (try simp only [List.getElem_toArray, List.getElem_cons_zero, List.getElem_cons_succ]); go_simp; try with_reducible rfl
                  try simp only [List.getElem_toArray, List.getElem_cons_zero, List.getElem_cons_succ, Act.put, List.setIfInBounds_toArray, List.set_cons_zero, List.set_cons_succ]
                  refine wpAnyH_done (by decide +kernel) ?_ _
                  clear x0 x1 x2 gx gz hbr
                  have gx := gx8
                  have gz := gz8
                  have hbr := hb9
                  clear gx8 gz8 hb9 gx5 gz5 hb6 hb5
                  have x0 := p0
                  have x1 := p1
                  have x2 := p2
                  have hszr := hbr.out.size
                  clear p0 p1 p2 hs6 hs8 xf
                  generalize ((w7.setCell ⟨w2.heap.size, 0, none⟩ (.bool Pn)).setCell ⟨w2.heap.size, 1, none⟩ (.int .u64 Ph)).setCell ⟨w2.heap.size, 2, none⟩ (.int .u64 Pl) = w8 at *
                  go_wp2_with fail
                  refine wp_region_held_at (S := fun _ => True) 13 rfl (by kernel_rfl) trivial (fun _ => ?_)
                  refine wpAnyH_take (i := 1) (v := ?_) rfl (by decide +kernel) (by decide +kernel) (by decide +kernel) (fun _ _ _ h => h) (Or.inl ⟨by rfl, ?_⟩) trivial ?_
                  rotate_left
                  · intro w _; (try simp only [List.getElem_toArray, List.getElem_cons_zero, List.getElem_cons_succ]); go_simp; try with_reducible rfl
                  try simp only [List.getElem_toArray, List.getElem_cons_zero, List.getElem_cons_succ, Act.put, List.setIfInBounds_toArray, List.set_cons_zero, List.set_cons_succ]
                  refine wpAnyH_take (i := 2) (v := ?_) rfl (by decide +kernel) (by decide +kernel) (by decide +kernel) (fun _ _ _ h => h) (Or.inl ⟨by rfl, ?_⟩) trivial ?_
                  rotate_left
                  · intro w _; (try simp only [List.getElem_toArray, List.getElem_cons_zero, List.getElem_cons_succ]); go_simp; try with_reducible rfl
                  try simp only [List.getElem_toArray, List.getElem_cons_zero, List.getElem_cons_succ, Act.put, List.setIfInBounds_toArray, List.set_cons_zero, List.set_cons_succ]
                  refine wpAnyH_take (i := 3) (v := ?_) rfl (by decide +kernel) (by decide +kernel) (by decide +kernel) (fun _ _ _ h => h) (Or.inl ⟨by rfl, ?_⟩) trivial ?_
                  rotate_left
                  · intro w _; (try simp only [List.getElem_toArray, List.getElem_cons_zero, List.getElem_cons_succ]); go_simp; try with_reducible rfl
                  try simp only [List.getElem_toArray, List.getElem_cons_zero, List.getElem_cons_succ, Act.put, List.setIfInBounds_toArray, List.set_cons_zero, List.set_cons_succ]
                  refine wpAnyH_take (i := 4) (v := ?_) rfl (by decide +kernel) (by decide +kernel) (by decide +kernel) (fun _ _ _ h => h) (Or.inl ⟨by rfl, ?_⟩) trivial ?_
                  rotate_left
                  · intro w _; (try simp only [List.getElem_toArray, List.getElem_cons_zero, List.getElem_cons_succ]); go_simp; try with_reducible rfl
                  try simp only [List.getElem_toArray, List.getElem_cons_zero, List.getElem_cons_succ, Act.put, List.setIfInBounds_toArray, List.set_cons_zero, List.set_cons_succ]
                  refine wpAnyH_take (i := 5) (v := ?_) rfl (by decide +kernel) (by decide +kernel) (by decide +kernel) (fun _ _ _ h => h) (Or.inl ⟨by rfl, ?_⟩) trivial ?_
                  rotate_left
                  · intro w _; (try simp only [List.getElem_toArray, List.getElem_cons_zero, List.getElem_cons_succ]); go_simp; try with_reducible rfl
                  try simp only [List.getElem_toArray, List.getElem_cons_zero, List.getElem_cons_succ, Act.put, List.setIfInBounds_toArray, List.set_cons_zero, List.set_cons_succ]
                  refine wpAnyH_ready (rs := [0, 6]) (by decide +kernel) (by simp) ?_
                  refine AllReadyH.cons rfl (fun K hK => ?_) ?_
                  · (try simp only [List.getElem_toArray, List.getElem_cons_zero])
                    go_simp
                    refine hK.out _ _ trivial (fun _ => ?_)
                    clear hK K
                    try simp only [List.getElem_toArray, List.getElem_cons_zero, List.getElem_cons_succ, Act.put, List.setIfInBounds_toArray, List.set_cons_zero, List.set_cons_succ]
                    refine wpAnyH_ready (rs := [6]) (by decide +kernel) (by simp) ?_
                    refine AllReadyH.cons rfl (fun K hK => ?_) ?_
                    · (try simp only [List.getElem_toArray, List.getElem_cons_zero, List.getElem_cons_succ])
                      go_simp
                      refine (cK.out _).mono ?_
                      rintro e w5 ⟨rfl, hb5⟩
                      have gx5 := Lib.hid (gx.out.drew.below hb5)
                      have gz5 := Lib.hid (gz.out.drew.below hb5)
                      have hb6 := Lib.hid ((wbelow_drewed hbr.out).trans (hb5.mono hszr))
                      obtain ⟨x0, x1, x2⟩ := gx5.out.all
                      dsimp only at x0 x1 x2
                      go_simp
                      refine hK.out _ _ trivial (fun _ => ?_)
                      clear hK K
                      try simp only [List.getElem_toArray, List.getElem_cons_zero, List.getElem_cons_succ, Act.put, List.setIfInBounds_toArray, List.set_cons_zero, List.set_cons_succ]
                      refine wpAnyH_ready (rs := [7]) (by decide +kernel) (by simp) ?_
                      refine AllReadyH.cons rfl (fun K hK => ?_) ?_
                      · (try simp only [List.getElem_toArray, List.getElem_cons_zero, List.getElem_cons_succ])
                        go_simp
                        have hs6 := hb6.out.size
                        refine (ca.out _).mono ?_
                        rintro e w7 ⟨rfl, hb7⟩
                        have gx7 := gx5.out.below hb7
                        have gz7 := gz5.out.below hb7
                        have hb8 := hb6.out.trans (hb7.mono hs6)
                        have hs8 := hb8.size
                        obtain ⟨x0, x1, x2⟩ := gx7.all
                        have xf := gx7.f
                        obtain ⟨p0, p1, p2⟩ := (gx7.set false 0 0).all
                        dsimp only at x0 x1 x2 p0 p1 p2
                        have gx8 := Lib.hid (gx7.set false 0 0)
                        have gz8 := Lib.hid (gz7.set3_other (c := w2.heap.size) (v0 := .bool false) (v1 := .int .u64 0) (v2 := .int .u64 0) hbne)
                        have hb9 := Lib.hid (below_set3 hb8 (b := w2.heap.size) hbx (.bool false) (.int .u64 0) (.int .u64 0))
                        clear gx7 gz7 hb8 hb7
                        go_simp
                        refine hK.out _ _ trivial (fun _ => ?_)
                        clear hK K
                        try simp only [List.getElem_toArray, List.getElem_cons_zero, List.getElem_cons_succ, Act.put, List.setIfInBounds_toArray, List.set_cons_zero, List.set_cons_succ]
                        refine wpAnyH_take (i := 8) (v := ?_) rfl (by decide +kernel) (by decide +kernel) (by decide +kernel) (fun _ _ _ h => h) (Or.inl ⟨by rfl, ?_⟩) trivial ?_
                        rotate_left
                        · intro w _; (try simp only [List.getElem_toArray, List.getElem_cons_zero, List.getElem_cons_succ]); go_simp; try with_reducible rfl
                        try simp only [List.getElem_toArray, List.getElem_cons_zero, List.getElem_cons_succ, Act.put, List.setIfInBounds_toArray, List.set_cons_zero, List.set_cons_succ]
                        refine wpAnyH_take (i := 9) (v := ?_) rfl (by decide +kernel) (by decide +kernel) (by decide +kernel) (fun _ _ _ h => h) (Or.inl ⟨by rfl, ?_⟩) trivial ?_
                        rotate_left
                        · intro w _; (try simp only [List.getElem_toArray, List.getElem_cons_zero, List.getElem_cons_succ]); go_simp; try with_reducible rfl
                        try simp only [List.getElem_toArray, List.getElem_cons_zero, List.getElem_cons_succ, Act.put, List.setIfInBounds_toArray, List.set_cons_zero, List.set_cons_succ]
                        refine wpAnyH_take (i := 10) (v := ?_) rfl (by decide +kernel) (by decide +kernel) (by decide +kernel) (fun _ _ _ h => h) (Or.inl ⟨by rfl, ?_⟩) trivial ?_
                        rotate_left
                        · intro w _; (try simp only [List.getElem_toArray, List.getElem_cons_zero, List.getElem_cons_succ]); go_simp; try with_reducible rfl
                        try simp only [List.getElem_toArray, List.getElem_cons_zero, List.getElem_cons_succ, Act.put, List.setIfInBounds_toArray, List.set_cons_zero, List.set_cons_succ]
                        refine wpAnyH_ready (rs := [11]) (by decide +kernel) (by simp) ?_
                        refine AllReadyH.cons rfl (fun K hK => ?_) ?_
                        · (try simp only [List.getElem_toArray, List.getElem_cons_zero, List.getElem_cons_succ])
                          go_simp
                          refine hK.out _ _ trivial (fun _ => ?_)
                          clear hK K
                          try simp only [List.getElem_toArray, List.getElem_cons_zero, List.getElem_cons_succ, Act.put, List.setIfInBounds_toArray, List.set_cons_zero, List.set_cons_succ]
                          refine wpAnyH_take (i := 12) (v := ?_) rfl (by decide +kernel) (by decide +kernel) (by decide +kernel) (fun _ _ _ h => h) (Or.inl ⟨by rfl, ?_⟩) trivial ?_
                          rotate_left
                          · intro w _; (try simp only [List.getElem_toArray, List.getElem_cons_zero, List.getElem_cons_succ]); go_simp; try with_reducible rfl
                          try simp only [List.getElem_toArray, List.getElem_cons_zero, List.getElem_cons_succ, Act.put, List.setIfInBounds_toArray, List.set_cons_zero, List.set_cons_succ]
                          refine wpAnyH_done (by decide +kernel) ?_ _
                          clear x0 x1 x2 gx gz hbr
                          have gx := gx8
                          have gz := gz8
                          have hbr := hb9
                          clear gx8 gz8 hb9 gx5 gz5 hb6 hb5
                          have x0 := p0
                          have x1 := p1
                          have x2 := p2
                          have hszr := hbr.out.size
                          clear p0 p1 p2 hs6 hs8 xf
                          generalize ((w7.setCell ⟨w2.heap.size, 0, none⟩ (.bool false)).setCell ⟨w2.heap.size, 1, none⟩ (.int .u64 0)).setCell ⟨w2.heap.size, 2, none⟩ (.int .u64 0) = w8 at *
                          have gzz := gz.out
                          obtain ⟨z0, z1, z2⟩ := gzz.all
                          have zf := gzz.f
                          obtain ⟨t0, t1, t2, hfin⟩ := last_set (w := w) (B := w.heap.size) gzz ⟨false, 0, 0⟩ hbr.out (Nat.le_refl _)
                          dsimp only at t0 t1 t2 z0 z1 z2 hfin
                          replace hfin := Lib.hid hfin
                          clear gzz gx gz hbr
                          go_wp2_with fail
                          (try simp only [Exit.inBlock, Exit.then])
                          refine bodyPost_ret (by simp [results, Tryz.results129, go_sem, t0, t1, t2]; try rfl) rfl ?_
                          refine ⟨?_, hfin.out⟩
                          obtain ⟨e1, e2⟩ := hr2.out hbg.out
                          rw [e1, e2]
                          rfl
                        exact AllReadyH.nil
                      exact AllReadyH.nil
                    exact AllReadyH.nil
                  refine AllReadyH.cons rfl (fun K hK => ?_) ?_
                  · (try simp only [List.getElem_toArray, List.getElem_cons_zero, List.getElem_cons_succ])
                    go_simp
                    refine (cK.out _).mono ?_
                    rintro e w5 ⟨rfl, hb5⟩
                    have gx5 := Lib.hid (gx.out.drew.below hb5)
                    have gz5 := Lib.hid (gz.out.drew.below hb5)
                    have hb6 := Lib.hid ((wbelow_drewed hbr.out).trans (hb5.mono hszr))
                    obtain ⟨x0, x1, x2⟩ := gx5.out.all
                    dsimp only at x0 x1 x2
                    go_simp
                    refine hK.out _ _ trivial (fun _ => ?_)
                    clear hK K
                    try simp only [List.getElem_toArray, List.getElem_cons_zero, List.getElem_cons_succ, Act.put, List.setIfInBounds_toArray, List.set_cons_zero, List.set_cons_succ]
                    refine wpAnyH_ready (rs := [0]) (by decide +kernel) (by simp) ?_
                    refine AllReadyH.cons rfl (fun K hK => ?_) ?_
                    · (try simp only [List.getElem_toArray, List.getElem_cons_zero])
                      go_simp
                      refine hK.out _ _ trivial (fun _ => ?_)
                      clear hK K
                      try simp only [List.getElem_toArray, List.getElem_cons_zero, List.getElem_cons_succ, Act.put, List.setIfInBounds_toArray, List.set_cons_zero, List.set_cons_succ]
                      refine wpAnyH_ready (rs := [7]) (by decide +kernel) (by simp) ?_
                      refine AllReadyH.cons rfl (fun K hK => ?_) ?_
                      · (try simp only [List.getElem_toArray, List.getElem_cons_zero, List.getElem_cons_succ])
                        go_simp
                        have hs6 := hb6.out.size
                        refine (ca.out _).mono ?_
                        rintro e w7 ⟨rfl, hb7⟩
                        have gx7 := gx5.out.below hb7
                        have gz7 := gz5.out.below hb7
                        have hb8 := hb6.out.trans (hb7.mono hs6)
                        have hs8 := hb8.size
                        obtain ⟨x0, x1, x2⟩ := gx7.all
                        have xf := gx7.f
                        obtain ⟨p0, p1, p2⟩ := (gx7.set false 0 0).all
                        dsimp only at x0 x1 x2 p0 p1 p2
                        have gx8 := Lib.hid (gx7.set false 0 0)
                        have gz8 := Lib.hid (gz7.set3_other (c := w2.heap.size) (v0 := .bool false) (v1 := .int .u64 0) (v2 := .int .u64 0) hbne)
                        have hb9 := Lib.hid (below_set3 hb8 (b := w2.heap.size) hbx (.bool false) (.int .u64 0) (.int .u64 0))
                        clear gx7 gz7 hb8 hb7
                        go_simp
                        refine hK.out _ _ trivial (fun _ => ?_)
                        clear hK K
                        try simp only [List.getElem_toArray, List.getElem_cons_zero, List.getElem_cons_succ, Act.put, List.setIfInBounds_toArray, List.set_cons_zero, List.set_cons_succ]
                        refine wpAnyH_take (i := 8) (v := ?_) rfl (by decide +kernel) (by decide +kernel) (by decide +kernel) (fun _ _ _ h => h) (Or.inl ⟨by rfl, ?_⟩) trivial ?_
                        rotate_left
                        · intro w _; (try simp only [List.getElem_toArray, List.getElem_cons_zero, List.getElem_cons_succ]); go_simp; try with_reducible rfl
                        try simp only [List.getElem_toArray, List.getElem_cons_zero, List.getElem_cons_succ, Act.put, List.setIfInBounds_toArray, List.set_cons_zero, List.set_cons_succ]
                        refine wpAnyH_take (i := 9) (v := ?_) rfl (by decide +kernel) (by decide +kernel) (by decide +kernel) (fun _ _ _ h => h) (Or.inl ⟨by rfl, ?_⟩) trivial ?_
                        rotate_left
                        · intro w _; (try simp only [List.getElem_toArray, List.getElem_cons_zero, List.getElem_cons_succ]); go_simp; try with_reducible rfl
                        try simp only [List.getElem_toArray, List.getElem_cons_zero, List.getElem_cons_succ, Act.put, List.setIfInBounds_toArray, List.set_cons_zero, List.set_cons_succ]
                        refine wpAnyH_take (i := 10) (v := ?_) rfl (by decide +kernel) (by decide +kernel) (by decide +kernel) (fun _ _ _ h => h) (Or.inl ⟨by rfl, ?_⟩) trivial ?_
                        rotate_left
                        · intro w _; (try simp only [List.getElem_toArray, List.getElem_cons_zero, List.getElem_cons_succ]); go_simp; try with_reducible rfl
                        try simp only [List.getElem_toArray, List.getElem_cons_zero, List.getElem_cons_succ, Act.put, List.setIfInBounds_toArray, List.set_cons_zero, List.set_cons_succ]
                        refine wpAnyH_ready (rs := [11]) (by decide +kernel) (by simp) ?_
                        refine AllReadyH.cons rfl (fun K hK => ?_) ?_
                        · (try simp only [List.getElem_toArray, List.getElem_cons_zero, List.getElem_cons_succ])
                          go_simp
                          refine hK.out _ _ trivial (fun _ => ?_)
                          clear hK K
                          try simp only [List.getElem_toArray, List.getElem_cons_zero, List.getElem_cons_succ, Act.put, List.setIfInBounds_toArray, List.set_cons_zero, List.set_cons_succ]
                          refine wpAnyH_take (i := 12) (v := ?_) rfl (by decide +kernel) (by decide +kernel) (by decide +kernel) (fun _ _ _ h => h) (Or.inl ⟨by rfl, ?_⟩) trivial ?_
                          rotate_left
                          · intro w _; (try simp only [List.getElem_toArray, List.getElem_cons_zero, List.getElem_cons_succ]); go_simp; try with_reducible rfl
                          try simp only [List.getElem_toArray, List.getElem_cons_zero, List.getElem_cons_succ, Act.put, List.setIfInBounds_toArray, List.set_cons_zero, List.set_cons_succ]
                          refine wpAnyH_done (by decide +kernel) ?_ _
                          clear x0 x1 x2 gx gz hbr
                          have gx := gx8
                          have gz := gz8
                          have hbr := hb9
                          clear gx8 gz8 hb9 gx5 gz5 hb6 hb5
                          have x0 := p0
                          have x1 := p1
                          have x2 := p2
                          have hszr := hbr.out.size
                          clear p0 p1 p2 hs6 hs8 xf
                          generalize ((w7.setCell ⟨w2.heap.size, 0, none⟩ (.bool false)).setCell ⟨w2.heap.size, 1, none⟩ (.int .u64 0)).setCell ⟨w2.heap.size, 2, none⟩ (.int .u64 0) = w8 at *
                          have gzz := gz.out
                          obtain ⟨z0, z1, z2⟩ := gzz.all
                          have zf := gzz.f
                          obtain ⟨t0, t1, t2, hfin⟩ := last_set (w := w) (B := w.heap.size) gzz ⟨false, 0, 0⟩ hbr.out (Nat.le_refl _)
                          dsimp only at t0 t1 t2 z0 z1 z2 hfin
                          replace hfin := Lib.hid hfin
                          clear gzz gx gz hbr
                          go_wp2_with fail
                          (try simp only [Exit.inBlock, Exit.then])
                          refine bodyPost_ret (by simp [results, Tryz.results129, go_sem, t0, t1, t2]; try rfl) rfl ?_
                          refine ⟨?_, hfin.out⟩
                          obtain ⟨e1, e2⟩ := hr2.out hbg.out
                          rw [e1, e2]
                          rfl
                        exact AllReadyH.nil
                      exact AllReadyH.nil
                    exact AllReadyH.nil
                  exact AllReadyH.nil
                exact AllReadyH.nil
              exact AllReadyH.nil
            exact AllReadyH.nil
          exact AllReadyH.nil
      · have e1 : RN (v * 10) = (zero, 3) := if_neg hm
        rw [e1] at cm
        clear e1
        rw [show nw 10 = ⟨false, 0, 10⟩ from rfl] at cm
        obtain ⟨G, hG⟩ : ∃ G, nw dg = G := ⟨_, rfl⟩
        obtain ⟨P, hP⟩ : ∃ P, nw (v * 10) = P := ⟨_, rfl⟩
        obtain ⟨Q, hQ⟩ : ∃ Q, nw (v * 10 + dg) = Q := ⟨_, rfl⟩
        obtain ⟨V, hV⟩ : ∃ V, nw v = V := ⟨_, rfl⟩
        rw [hG] at cK
        rw [hV] at gx cm
        have hbg := Lib.hid (show ¬ valD D < 170141183460469231731687303715884105728 from by have h1 := hnext.out; have h2 := hmono.out; omega)
        clear hm hP hV hG hv hQ hnext hmono
        obtain ⟨Vn, Vh, Vl⟩ := V
        obtain ⟨x0, x1, x2⟩ := gx.all
        unfold wv zero at *
        dsimp only at *
        replace gx := Lib.hid gx
        replace gz := Lib.hid gz
        replace hbr := Lib.hid hbr
        replace cm := Lib.hid cm
        replace cK := Lib.hid cK
        replace hd := Lib.hid hd
        go_wp2_with fail
        refine wp_region_held_at (S := fun _ => True) 8 rfl (by kernel_rfl) trivial (fun _ => ?_)
        refine wpAnyH_ready (rs := [0, 1]) (by decide +kernel) (by simp) ?_
        refine AllReadyH.cons rfl (fun K hK => ?_) ?_
        · (try simp only [List.getElem_toArray, List.getElem_cons_zero])
          go_simp
          refine hK.out _ _ trivial (fun _ => ?_)
          clear hK K
          try simp only [List.getElem_toArray, List.getElem_cons_zero, List.getElem_cons_succ, Act.put, List.setIfInBounds_toArray, List.set_cons_zero, List.set_cons_succ]
          refine wpAnyH_ready (rs := [1]) (by decide +kernel) (by simp) ?_
          refine AllReadyH.cons rfl (fun K hK => ?_) ?_
          · (try simp only [List.getElem_toArray, List.getElem_cons_zero, List.getElem_cons_succ])
            go_simp
            refine (c10.out _).mono ?_
            rintro e w5 ⟨rfl, hb5⟩
            have gx5 := Lib.hid (gx.out.drew.below hb5)
            have gz5 := Lib.hid (gz.out.drew.below hb5)
            have hb6 := Lib.hid ((wbelow_drewed hbr.out).trans (hb5.mono hszr))
            obtain ⟨x0, x1, x2⟩ := gx5.out.all
            dsimp only at x0 x1 x2
            go_simp
            refine hK.out _ _ trivial (fun _ => ?_)
            clear hK K
            try simp only [List.getElem_toArray, List.getElem_cons_zero, List.getElem_cons_succ, Act.put, List.setIfInBounds_toArray, List.set_cons_zero, List.set_cons_succ]
            refine wpAnyH_ready (rs := [2]) (by decide +kernel) (by simp) ?_
            refine AllReadyH.cons rfl (fun K hK => ?_) ?_
            · (try simp only [List.getElem_toArray, List.getElem_cons_zero, List.getElem_cons_succ])
              go_simp
              have hs6 := hb6.out.size
              refine (cm.out _).mono ?_
              rintro e w7 ⟨rfl, hb7⟩
              have gx7 := gx5.out.below hb7
              have gz7 := gz5.out.below hb7
              have hb8 := hb6.out.trans (hb7.mono hs6)
              have hs8 := hb8.size
              obtain ⟨x0, x1, x2⟩ := gx7.all
              have xf := gx7.f
              obtain ⟨p0, p1, p2⟩ := (gx7.set false 0 0).all
              dsimp only at x0 x1 x2 p0 p1 p2
              have gx8 := Lib.hid (gx7.set false 0 0)
              have gz8 := Lib.hid (gz7.set3_other (c := w2.heap.size) (v0 := .bool false) (v1 := .int .u64 0) (v2 := .int .u64 0) hbne)
              have hb9 := Lib.hid (below_set3 hb8 (b := w2.heap.size) hbx (.bool false) (.int .u64 0) (.int .u64 0))
              clear gx7 gz7 hb8 hb7
              go_simp
              refine hK.out _ _ trivial (fun _ => ?_)
              clear hK K
              try simp only [List.getElem_toArray, List.getElem_cons_zero, List.getElem_cons_succ, Act.put, List.setIfInBounds_toArray, List.set_cons_zero, List.set_cons_succ]
              refine wpAnyH_take (i := 3) (v := ?_) rfl (by decide +kernel) (by decide +kernel) (by decide +kernel) (fun _ _ _ h => h) (Or.inl ⟨by rfl, ?_⟩) trivial ?_
              rotate_left
              · intro w _; (try simp only [List.getElem_toArray, List.getElem_cons_zero, List.getElem_cons_succ]); go_simp; try with_reducible rfl
              try simp only [List.getElem_toArray, List.getElem_cons_zero, List.getElem_cons_succ, Act.put, List.setIfInBounds_toArray, List.set_cons_zero, List.set_cons_succ]
              refine wpAnyH_take (i := 4) (v := ?_) rfl (by decide +kernel) (by decide +kernel) (by decide +kernel) (fun _ _ _ h => h) (Or.inl ⟨by rfl, ?_⟩) trivial ?_
              rotate_left
              · intro w _; (try simp only [List.getElem_toArray, List.getElem_cons_zero, List.getElem_cons_succ]); go_simp; try with_reducible rfl
              try simp only [List.getElem_toArray, List.getElem_cons_zero, List.getElem_cons_succ, Act.put, List.setIfInBounds_toArray, List.set_cons_zero, List.set_cons_succ]
              refine wpAnyH_take (i := 5) (v := ?_) rfl (by decide +kernel) (by decide +kernel) (by decide +kernel) (fun _ _ _ h => h) (Or.inl ⟨by rfl, ?_⟩) trivial ?_
              rotate_left
              · intro w _; (try simp only [List.getElem_toArray, List.getElem_cons_zero, List.getElem_cons_succ]); go_simp; try with_reducible rfl
              try simp only [List.getElem_toArray, List.getElem_cons_zero, List.getElem_cons_succ, Act.put, List.setIfInBounds_toArray, List.set_cons_zero, List.set_cons_succ]
              refine wpAnyH_ready (rs := [6]) (by decide +kernel) (by simp) ?_
              refine AllReadyH.cons rfl (fun K hK => ?_) ?_
              · (try simp only [List.getElem_toArray, List.getElem_cons_zero, List.getElem_cons_succ])
                go_simp
                refine hK.out _ _ trivial (fun _ => ?_)
                clear hK K
                try simp only [List.getElem_toArray, List.getElem_cons_zero, List.getElem_cons_succ, Act.put, List.setIfInBounds_toArray, List.set_cons_zero, List.set_cons_succ]
                refine wpAnyH_take (i := 7) (v := ?_) rfl (by decide +kernel) (by decide +kernel) (by decide +kernel) (fun _ _ _ h => h) (Or.inl ⟨by rfl, ?_⟩) trivial ?_
                rotate_left
                · intro w _; (try simp only [List.getElem_toArray, List.getElem_cons_zero, List.getElem_cons_succ]); go_simp; try with_reducible rfl
                try simp only [List.getElem_toArray, List.getElem_cons_zero, List.getElem_cons_succ, Act.put, List.setIfInBounds_toArray, List.set_cons_zero, List.set_cons_succ]
                refine wpAnyH_done (by decide +kernel) ?_ _
                clear x0 x1 x2 gx gz hbr
                have gx := gx8
                have gz := gz8
                have hbr := hb9
                clear gx8 gz8 hb9 gx5 gz5 hb6 hb5
                have x0 := p0
                have x1 := p1
                have x2 := p2
                have hszr := hbr.out.size
                clear p0 p1 p2 hs6 hs8 xf
                generalize ((w7.setCell ⟨w2.heap.size, 0, none⟩ (.bool false)).setCell ⟨w2.heap.size, 1, none⟩ (.int .u64 0)).setCell ⟨w2.heap.size, 2, none⟩ (.int .u64 0) = w8 at *
                have gzz := gz.out
                obtain ⟨z0, z1, z2⟩ := gzz.all
                have zf := gzz.f
                obtain ⟨t0, t1, t2, hfin⟩ := last_set (w := w) (B := w.heap.size) gzz ⟨false, 0, 0⟩ hbr.out (Nat.le_refl _)
                dsimp only at t0 t1 t2 z0 z1 z2 hfin
                replace hfin := Lib.hid hfin
                clear gzz gx gz hbr
                go_wp2_with fail
                (try simp only [Exit.inBlock, Exit.then])
                refine bodyPost_ret (by simp [results, Tryz.results129, go_sem, t0, t1, t2]; try rfl) rfl ?_
                refine ⟨?_, hfin.out⟩
                obtain ⟨e1, e2⟩ := hr2.out hbg.out
                rw [e1, e2]
                rfl
              exact AllReadyH.nil
            exact AllReadyH.nil
          exact AllReadyH.nil
        refine AllReadyH.cons rfl (fun K hK => ?_) ?_
        · (try simp only [List.getElem_toArray, List.getElem_cons_zero, List.getElem_cons_succ])
          go_simp
          refine (c10.out _).mono ?_
          rintro e w5 ⟨rfl, hb5⟩
          have gx5 := Lib.hid (gx.out.drew.below hb5)
          have gz5 := Lib.hid (gz.out.drew.below hb5)
          have hb6 := Lib.hid ((wbelow_drewed hbr.out).trans (hb5.mono hszr))
          obtain ⟨x0, x1, x2⟩ := gx5.out.all
          dsimp only at x0 x1 x2
          go_simp
          refine hK.out _ _ trivial (fun _ => ?_)
          clear hK K
          try simp only [List.getElem_toArray, List.getElem_cons_zero, List.getElem_cons_succ, Act.put, List.setIfInBounds_toArray, List.set_cons_zero, List.set_cons_succ]
          refine wpAnyH_ready (rs := [0]) (by decide +kernel) (by simp) ?_
          refine AllReadyH.cons rfl (fun K hK => ?_) ?_
          · (try simp only [List.getElem_toArray, List.getElem_cons_zero])
            go_simp
            refine hK.out _ _ trivial (fun _ => ?_)
            clear hK K
            try simp only [List.getElem_toArray, List.getElem_cons_zero, List.getElem_cons_succ, Act.put, List.setIfInBounds_toArray, List.set_cons_zero, List.set_cons_succ]
            refine wpAnyH_ready (rs := [2]) (by decide +kernel) (by simp) ?_
            refine AllReadyH.cons rfl (fun K hK => ?_) ?_
            · (try simp only [List.getElem_toArray, List.getElem_cons_zero, List.getElem_cons_succ])
              go_simp
              have hs6 := hb6.out.size
              refine (cm.out _).mono ?_
              rintro e w7 ⟨rfl, hb7⟩
              have gx7 := gx5.out.below hb7
              have gz7 := gz5.out.below hb7
              have hb8 := hb6.out.trans (hb7.mono hs6)
              have hs8 := hb8.size
              obtain ⟨x0, x1, x2⟩ := gx7.all
              have xf := gx7.f
              obtain ⟨p0, p1, p2⟩ := (gx7.set false 0 0).all
              dsimp only at x0 x1 x2 p0 p1 p2
              have gx8 := Lib.hid (gx7.set false 0 0)
              have gz8 := Lib.hid (gz7.set3_other (c := w2.heap.size) (v0 := .bool false) (v1 := .int .u64 0) (v2 := .int .u64 0) hbne)
              have hb9 := Lib.hid (below_set3 hb8 (b := w2.heap.size) hbx (.bool false) (.int .u64 0) (.int .u64 0))
              clear gx7 gz7 hb8 hb7
              go_simp
              refine hK.out _ _ trivial (fun _ => ?_)
              clear hK K
              try simp only [List.getElem_toArray, List.getElem_cons_zero, List.getElem_cons_succ, Act.put, List.setIfInBounds_toArray, List.set_cons_zero, List.set_cons_succ]
              refine wpAnyH_take (i := 3) (v := ?_) rfl (by decide +kernel) (by decide +kernel) (by decide +kernel) (fun _ _ _ h => h) (Or.inl ⟨by rfl, ?_⟩) trivial ?_
              rotate_left
              · intro w _; (try simp only [List.getElem_toArray, List.getElem_cons_zero, List.getElem_cons_succ]); go_simp; try with_reducible rfl
              try simp only [List.getElem_toArray, List.getElem_cons_zero, List.getElem_cons_succ, Act.put, List.setIfInBounds_toArray, List.set_cons_zero, List.set_cons_succ]
              refine wpAnyH_take (i := 4) (v := ?_) rfl (by decide +kernel) (by decide +kernel) (by decide +kernel) (fun _ _ _ h => h) (Or.inl ⟨by rfl, ?_⟩) trivial ?_
              rotate_left
              · intro w _; (try simp only [List.getElem_toArray, List.getElem_cons_zero, List.getElem_cons_succ]); go_simp; try with_reducible rfl
              try simp only [List.getElem_toArray, List.getElem_cons_zero, List.getElem_cons_succ, Act.put, List.setIfInBounds_toArray, List.set_cons_zero, List.set_cons_succ]
              refine wpAnyH_take (i := 5) (v := ?_) rfl (by decide +kernel) (by decide +kernel) (by decide +kernel) (fun _ _ _ h => h) (Or.inl ⟨by rfl, ?_⟩) trivial ?_
              rotate_left
              · intro w _; (try simp only [List.getElem_toArray, List.getElem_cons_zero, List.getElem_cons_succ]); go_simp; try with_reducible rfl
              try simp only [List.getElem_toArray, List.getElem_cons_zero, List.getElem_cons_succ, Act.put, List.setIfInBounds_toArray, List.set_cons_zero, List.set_cons_succ]
              refine wpAnyH_ready (rs := [6]) (by decide +kernel) (by simp) ?_
              refine AllReadyH.cons rfl (fun K hK => ?_) ?_
              · (try simp only [List.getElem_toArray, List.getElem_cons_zero, List.getElem_cons_succ])
                go_simp
                refine hK.out _ _ trivial (fun _ => ?_)
                clear hK K
                try simp only [List.getElem_toArray, List.getElem_cons_zero, List.getElem_cons_succ, Act.put, List.setIfInBounds_toArray, List.set_cons_zero, List.set_cons_succ]
                refine wpAnyH_take (i := 7) (v := ?_) rfl (by decide +kernel) (by decide +kernel) (by decide +kernel) (fun _ _ _ h => h) (Or.inl ⟨by rfl, ?_⟩) trivial ?_
                rotate_left
                · intro w _; (try simp only [List.getElem_toArray, List.getElem_cons_zero, List.getElem_cons_succ]); go_simp; try with_reducible rfl
                try simp only [List.getElem_toArray, List.getElem_cons_zero, List.getElem_cons_succ, Act.put, List.setIfInBounds_toArray, List.set_cons_zero, List.set_cons_succ]
                refine wpAnyH_done (by decide +kernel) ?_ _
                clear x0 x1 x2 gx gz hbr
                have gx := gx8
                have gz := gz8
                have hbr := hb9
                clear gx8 gz8 hb9 gx5 gz5 hb6 hb5
                have x0 := p0
                have x1 := p1
                have x2 := p2
                have hszr := hbr.out.size
                clear p0 p1 p2 hs6 hs8 xf
                generalize ((w7.setCell ⟨w2.heap.size, 0, none⟩ (.bool false)).setCell ⟨w2.heap.size, 1, none⟩ (.int .u64 0)).setCell ⟨w2.heap.size, 2, none⟩ (.int .u64 0) = w8 at *
                have gzz := gz.out
                obtain ⟨z0, z1, z2⟩ := gzz.all
                have zf := gzz.f
                obtain ⟨t0, t1, t2, hfin⟩ := last_set (w := w) (B := w.heap.size) gzz ⟨false, 0, 0⟩ hbr.out (Nat.le_refl _)
                dsimp only at t0 t1 t2 z0 z1 z2 hfin
                replace hfin := Lib.hid hfin
                clear gzz gx gz hbr
                go_wp2_with fail
                (try simp only [Exit.inBlock, Exit.then])
                refine bodyPost_ret (by simp [results, Tryz.results129, go_sem, t0, t1, t2]; try rfl) rfl ?_
                refine ⟨?_, hfin.out⟩
                obtain ⟨e1, e2⟩ := hr2.out hbg.out
                rw [e1, e2]
                rfl
              exact AllReadyH.nil
            exact AllReadyH.nil
          exact AllReadyH.nil
        exact AllReadyH.nil
    · obtain rfl : j = T.size := by omega
      rw [← hDl, List.take_length] at hv gx
      have cd := made_c ng (nw (valD D)).h (nw (valD D)).l (by unfold nw; dsimp only; omega) (by unfold nw; dsimp only; omega) (by unfold nw; dsimp only; omega) (by unfold nw; dsimp only; omega)
      rw [made_nw] at cd
      obtain ⟨hre, hec⟩ := hr1.out hv
      rw [← hre] at cd
      clear hre hr1 hr2 hv
      replace hec := Lib.hid hec
      generalize nw (valD D) = V at *
      obtain ⟨rn, rh, rl⟩ := r
      obtain ⟨x0, x1, x2⟩ := gx.all
      unfold wv at *
      dsimp only at *
      replace cd := Lib.hid cd
      replace gz := Lib.hid gz
      replace hbr := Lib.hid hbr
      clear gx
      go_wp2_with fail
      refine (cd.out _).mono ?_
      rintro e w9 ⟨rfl, hb9⟩
      have gz9 := gz.out.below hb9
      obtain ⟨z0, z1, z2⟩ := gz9.all
      have zf := gz9.f
      obtain ⟨r0, r1, r2, hfin⟩ := last_set (w := w) (B := w.heap.size) gz9 ⟨rn, rh, rl⟩ (hbr.out.trans (hb9.mono hszr)) (by omega)
      dsimp only at r0 r1 r2 hfin
      replace hfin := Lib.hid hfin
      clear gz gz9 hb9 hbr x0 x1 x2
      go_wp2_with fail
      (try simp only [Exit.inBlock, Exit.then])
      refine bodyPost_ret (by simp [results, Tryz.results129, go_sem, r0, r1, r2]; try rfl) rfl ?_
      exact ⟨by rw [hec.out]; rfl, hfin.out⟩
end Go.Proofs.YtjjgbillihedgaaGreatDoor
