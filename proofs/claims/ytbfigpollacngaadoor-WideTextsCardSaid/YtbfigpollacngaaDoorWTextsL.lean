/- WideTexts: what it computes, and the law -/
import Derived.Test.YtbfigpollacngaaDoorWTexts
import Derived.Test.YtbfigpollacngaaDoorWvO
namespace Go.Proofs.YtbfigpollacngaaDoor
open Go.RowKit
open Rf
open Wide

theorem texts_long (x : WI) (s : ByteArray) (n v : Int) (hs : 100 < s.size) (w : World) : Calls Tryd.prog 5 #[wv x, .string s, .int .i64 n, .int .u64 v] w fun e w' => e = .returned (.bool true) ∧ Below w.heap.size w w' := by
  have cw := awake_c
  obtain ⟨xn, xh, xl⟩ := x
  unfold wv
  dsimp only
  have hle : (100 : Int) < (s.size : Int) := by omega
  replace cw := Lib.hid cw
  go_enter Tryd.func5, Tryd.ntmps5
  go_wp2_with fail
  refine (cw.out _).mono ?_
  rintro e w1 ⟨rfl, hbr⟩
  obtain ⟨gx, hb⟩ := one_new (x := ⟨xn, xh, xl⟩) hbr
  clear hbr gx
  replace hb := Lib.hid hb
  go_wp2_with fail
  go_ret
  exact ⟨rfl, hb.out⟩
theorem wf_i64_bd {n : Int} (h : (Lit.int .i64 n).wf = true) : -9223372036854775808 ≤ n ∧ n ≤ 9223372036854775807 := by
  have e1 : IntKind.i64.min = -9223372036854775808 := rfl
  have e2 : IntKind.i64.max = 9223372036854775807 := rfl
  simp [Lit.wf] at h
  omega
theorem mk_small (n : Int) (h0 : -9223372036854775808 ≤ n) (h1 : n ≤ 9223372036854775807) : smallF (mk n) = (n, true) := by
  have hi : In n = true := In_iff.2 (by omega)
  have hh : (mk n).h = 0 := by unfold mk; dsimp only; omega
  unfold smallF
  have h3 : (mk n).l < 9223372036854775808 ∨ ((mk n).n = true ∧ (mk n).l = 9223372036854775808) := by
    by_cases hn : n = -9223372036854775808
    · subst hn
      exact .inr ⟨rfl, rfl⟩
    · exact .inl (by unfold mk; dsimp only; omega)
  rw [if_pos ⟨mk_form n hi, hh, h3⟩, mk_val]
theorem mk_sign (n : Int) (h0 : -9223372036854775808 ≤ n) (h1 : n ≤ 9223372036854775807) : signF (mk n) = sgn n := by
  unfold signF
  rw [if_pos (mk_form n (In_iff.2 (by omega))), mk_val]
theorem small_bd {x : WI} (ho : x.Ok) (h2 : x.h = 0) (h3 : x.l < 9223372036854775808 ∨ (x.n = true ∧ x.l = 9223372036854775808)) : -9223372036854775808 ≤ x.val ∧ x.val ≤ 9223372036854775807 := by
  obtain ⟨n, h, l⟩ := x
  obtain ⟨_, _, o3, o4⟩ := ho
  dsimp only at *
  subst h2
  have e : (⟨n, 0, l⟩ : WI).val = if n = true then -l else l := by unfold WI.val WI.sz; simp
  rw [e]
  cases n with
  | false =>
    rw [if_neg (by decide)]
    rcases h3 with h3 | h3
    · omega
    · cases h3.1
  | true =>
    rw [if_pos rfl]
    rcases h3 with h3 | h3 <;> omega
theorem small_of {x : WI} (ho : x.Ok) {k : Int} (hk : smallF x = (k, true)) : Ret 20 #[.int .i64 k] (wv x) := fun w => by
  by_cases h : x.form = true ∧ x.h = 0 ∧ (x.l < 9223372036854775808 ∨ (x.n = true ∧ x.l = 9223372036854775808))
  · have e0 : smallF x = (x.val, true) := if_pos h
    rw [e0] at hk
    have e1 : x.val = k := (Prod.mk.inj hk).1
    have hb := small_bd ho h.2.1 h.2.2
    rw [e1] at hb
    have := of_c k hb.1 hb.2 w
    rw [← e1, mk_of ho h.1] at this
    rw [← e1]
    exact this
  · have e0 : smallF x = (0, false) := if_neg h
    rw [e0] at hk
    exact absurd (Prod.mk.inj hk).2 (by decide)
set_option maxHeartbeats 1000000 in
theorem wideTexts_any (x : WI) (ho : x.Ok) (s : ByteArray) (hs : s.size ≤ maxLen) (n : Int) (hn : (Lit.int .i64 n).wf = true) (v : Int) (_hv : (Lit.int .u64 v).wf = true) (w : World) :
    Calls Tryd.prog 5 #[wv x, .string s, .int .i64 n, .int .u64 v] w fun e w' => e = .returned (.bool true) ∧ Below w.heap.size w w' := by
  by_cases hs2 : 100 < s.size
  · exact texts_long x s n v hs2 w
  · obtain ⟨n0, n1⟩ := wf_i64_bd hn
    have hs3 : s.size ≤ 100 := by omega
    have kP : Ret 14 #[.string s] _ := fun w => parse_c s hs w
    have rP := refParse_c s hs3
    have tX : Ret 16 #[wv x] _ := fun w => text_c x ho w
    have rT := refText_c x ho
    have sX := small_c x ho
    have gX : Ret 19 #[wv x] (.bool x.form) := fun w => good_c x w
    have oF : Ret 20 #[.int .i64 n] (wv (mk n)) := fun w => of_c n n0 n1 w
    have sN := small_c (mk n) (mk_ok n (In_iff.2 (by omega)))
    rw [mk_small n n0 n1] at sN
    have wW : Ret 21 #[.int .u64 v] (wv ⟨false, 0, v⟩) := fun w => ofWord_c v w
    have gN : Ret 22 #[wv (mk n)] (.int .i64 (sgn n)) := fun w => by
      have := sign_c (mk n) (mk_ok n (In_iff.2 (by omega))) w
      rwa [mk_sign n n0 n1] at this
    have cN := cmp1_c n
    generalize parseF (byts s) = P at *
    generalize textF x = t at *
    generalize mk n = M at *
    have oK : ∀ k, smallF x = (k, true) → Ret 20 #[.int .i64 k] (wv x) := fun k hk => small_of ho hk
    have hsm := show smallF x = if x.form = true ∧ x.h = 0 ∧ (x.l < 9223372036854775808 ∨ (x.n = true ∧ x.l = 9223372036854775808)) then (x.val, true) else (0, false) from rfl
    cases hf : x.form
    · rw [hf] at gX
      rw [show smallF x = (0, false) by rw [hsm, if_neg (fun h => by rw [hf] at h; cases h.1)]] at sX
      exact texts_a x.n x.h x.l s n v hs3 awake_c P.1.n P.1.h P.1.l P.2 kP rP (text t) tX rT sX gX M.n M.h M.l (sgn n) oF sN wW gN cN w
    · rw [hf] at gX
      by_cases hh : x.h = 0
      · by_cases hl : x.l < 9223372036854775808
        · have hk : smallF x = (x.val, true) := by rw [hsm, if_pos ⟨hf, hh, .inl hl⟩]
          have o := oK _ hk
          rw [hk] at sX
          obtain ⟨xn, xh, xl⟩ := x
          dsimp only at *
          subst hh
          exact texts_c xn xl s n v hs3 hl awake_c P.1.n P.1.h P.1.l P.2 kP rP (text t) tX rT _ sX gX o M.n M.h M.l (sgn n) oF sN wW gN cN w
        · by_cases hl2 : x.l = 9223372036854775808
          · cases hxn : x.n
            · have hk : smallF x = (0, false) := by rw [hsm, if_neg (fun h => h.2.2.elim hl (fun hx => by rw [hxn] at hx; cases hx.1))]
              rw [hk] at sX
              obtain ⟨xn, xh, xl⟩ := x
              dsimp only at *
              subst hh hxn hl2
              exact texts_e s n v hs3 awake_c P.1.n P.1.h P.1.l P.2 kP rP (text t) tX rT sX gX M.n M.h M.l (sgn n) oF sN wW gN cN w
            · have hk : smallF x = (x.val, true) := by rw [hsm, if_pos ⟨hf, hh, .inr ⟨hxn, hl2⟩⟩]
              have o := oK _ hk
              rw [hk] at sX
              obtain ⟨xn, xh, xl⟩ := x
              dsimp only at *
              subst hh hxn hl2
              exact texts_d s n v hs3 awake_c P.1.n P.1.h P.1.l P.2 kP rP (text t) tX rT _ sX gX o M.n M.h M.l (sgn n) oF sN wW gN cN w
          · have hk : smallF x = (0, false) := by rw [hsm, if_neg (fun h => h.2.2.elim hl (fun hx => hl2 hx.2))]
            rw [hk] at sX
            obtain ⟨xn, xh, xl⟩ := x
            dsimp only at *
            subst hh
            cases xn
            · exact texts_q xl s n v hs3 hl awake_c P.1.n P.1.h P.1.l P.2 kP rP (text t) tX rT sX gX M.n M.h M.l (sgn n) oF sN wW gN cN w
            · exact texts_p xl s n v hs3 hl (beq_eq_false_iff_ne.2 hl2) awake_c P.1.n P.1.h P.1.l P.2 kP rP (text t) tX rT sX gX M.n M.h M.l (sgn n) oF sN wW gN cN w
      · have hk : smallF x = (0, false) := by rw [hsm, if_neg (fun h => hh h.2.1)]
        rw [hk] at sX
        exact texts_b x.n x.h x.l s n v hs3 (beq_eq_false_iff_ne.2 hh) awake_c P.1.n P.1.h P.1.l P.2 kP rP (text t) tX rT sX gX M.n M.h M.l (sgn n) oF sN wW gN cN w
end Go.Proofs.YtbfigpollacngaaDoor
