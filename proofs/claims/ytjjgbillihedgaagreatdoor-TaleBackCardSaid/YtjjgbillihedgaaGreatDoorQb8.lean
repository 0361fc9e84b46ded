/- parts of the proof, merged: WvW8, WvW9, WvA, WvB, WvC, WvM, WvE -/
import Derived.Test.YtjjgbillihedgaaGreatDoorQb7
set_option maxHeartbeats 8000000
set_option maxRecDepth 100000
namespace Go.Proofs.YtjjgbillihedgaaGreatDoor
open Go.RowKit
open Rf
open Wide
theorem words (x : WI) (ho : x.Ok) (hf : x.form = true) : ∃ s : Nat, s < 170141183460469231731687303715884105728 ∧ x = ⟨x.n, (nw s).h, (nw s).l⟩ ∧ x.val = neg x.n s := by
 have hb := sz_bd ho hf
 refine ⟨x.sz.toNat, by omega, ?_, ?_⟩
 ·obtain ⟨n, h, l⟩ := x
  obtain ⟨o1, o2, o3, o4⟩ := ho
  unfold WI.sz at *
  unfold nw
  dsimp only at *
  congr 1 <;> omega
 ·have : ((x.sz.toNat : Nat) : Int) = x.sz := by omega
  rw [this]
  unfold WI.val neg
  rfl
theorem made_nw (n : Bool) (q : Nat) : made n (nw q).h (nw q).l = mk (neg n q) := by
 have h := nw_sz q
 unfold WI.sz at h
 rw [made_mk _ _ _ (by unfold nw; dsimp only; omega) (by unfold nw; dsimp only; omega) (by unfold nw; dsimp only; omega), h]
theorem nil2_nw (q : Nat) : nil2 (nw q).h (nw q).l = decide (q = 0) := by
 cases h : nil2 (nw q).h (nw q).l with
 | true => obtain ⟨a, b⟩ := nil2_true h; unfold nw at a b; dsimp only at a b; exact (decide_eq_true (by omega)).symm
 | false => have hh := nil2_false h; unfold nw at hh; dsimp only at hh; exact (decide_eq_false (by omega)).symm
theorem mk_nonneg (n : Int) (h0 : 0 ≤ n) (h1 : n ≤ 18446744073709551615) : mk n = ⟨false, 0, n⟩ := by
 unfold mk
 rw [decide_eq_false (by omega)]
 congr 1 <;> omega
theorem mk_negw (n : Int) (h0 : n < 0) (h1 : -18446744073709551615 ≤ n) : made true 0 (-n) = mk n := by
 rw [made_mk _ _ _ (by omega) (by omega) (by omega)]
 congr 1
 unfold neg
 rw [if_pos rfl]
 omega
theorem wof_c (n : Int) (h0 : -9223372036854775808 ≤ n) (h1 : n ≤ 9223372036854775807) (w : World) : Calls Tryz.prog 22 #[.int .i64 n] w fun e w' => e = .returned (wv (mk n)) ∧ Below w.heap.size w w' := by
 by_cases hn : n < 0
 ·have cm := made_c true 0 (-n) (by omega) (by omega) (by omega) (by omega)
  rw [mk_negw n hn (by omega)] at cm
  have e1 : IntKind.u64.wrap (-(IntKind.u64.wrap n)) = -n := by simp [IntKind.wrap, IntKind.bits, IntKind.signed]; omega
  generalize mk n = r at *
  obtain ⟨rn, rh, rl⟩ := r
  unfold wv at *
  dsimp only at *
  replace cm := Hd cm
  go_enter Tryz.func22, Tryz.ntmps22
  go_wp2_with fail
  refine (cm.out _).mono ?_
  rintro e w3 ⟨rfl, hb3⟩
  obtain ⟨gz, hb4⟩ := one_new (x := ⟨false, 0, 0⟩) hb3
  have hs := hb4.size
  obtain ⟨z0, z1, z2⟩ := gz.all
  have zf := gz.f
  obtain ⟨r0, r1, r2, hfin⟩ := last_set (w := w) (B := w.heap.size) gz ⟨rn, rh, rl⟩ hb4 (by omega)
  dsimp only at r0 r1 r2 hfin
  replace hfin := Hd hfin
  clear gz hb3 hb4
  go_wp2_with fail
  (try simp only [Exit.inBlock, Exit.then])
  refine bodyPost_ret (by simp [results, Tryz.results22, go_sem, r0, r1, r2]; try rfl) rfl ?_
  exact ⟨rfl, hfin.out⟩
 ·rw [mk_nonneg n (by omega) (by omega)]
  have cm := ofWord_c n
  have e1 : IntKind.u64.wrap n = n := by simp [IntKind.wrap, IntKind.bits, IntKind.signed]; omega
  unfold wv at *
  dsimp only at *
  replace cm := Hd cm
  go_enter Tryz.func22, Tryz.ntmps22
  go_wp2_with fail
  refine (cm.out _).mono ?_
  rintro e w3 ⟨rfl, hb3⟩
  obtain ⟨gz, hb4⟩ := one_new (x := ⟨false, 0, 0⟩) hb3
  have hs := hb4.size
  obtain ⟨z0, z1, z2⟩ := gz.all
  have zf := gz.f
  obtain ⟨r0, r1, r2, hfin⟩ := last_set (w := w) (B := w.heap.size) gz ⟨false, 0, n⟩ hb4 (by omega)
  dsimp only at r0 r1 r2 hfin
  replace hfin := Hd hfin
  clear gz hb3 hb4
  go_wp2_with fail
  (try simp only [Exit.inBlock, Exit.then])
  refine bodyPost_ret (by simp [results, Tryz.results22, go_sem, r0, r1, r2]; try rfl) rfl ?_
  exact ⟨rfl, hfin.out⟩
theorem lz10 (w : World) : Calls Tryz.prog 187 #[.int .u64 10] w fun e w' => e = .returned (.int .i64 60) ∧ w = w' :=
 (Go.Proofs.Any.bits_LeadingZeros64 Tryz.lays134 10 w (by decide) (by decide)).mono fun e w' ⟨h1, h2⟩ => ⟨by rw [h1]; rfl, h2.symm⟩
theorem div64_c (h l : Int) (h0 : 0 ≤ h) (h1 : h ≤ 9) (l0 : 0 ≤ l) (l1 : l ≤ 18446744073709551615) (w : World) :
 Calls Tryz.prog 174 #[.int .u64 h, .int .u64 l, .int .u64 10] w fun e w' => e = .returned (.tuple #[.int .u64 ((h * 18446744073709551616 + l) / 10), .int .u64 ((h * 18446744073709551616 + l) % 10)]) ∧ Below w.heap.size w w' := by
 by_cases hh : h = 0
 ·subst hh
  have e1 : ((0 : Int) * 18446744073709551616 + l) / 10 = l / 10 := by omega
  have e2 : ((0 : Int) * 18446744073709551616 + l) % 10 = l % 10 := by omega
  rw [e1, e2]
  clear e1 e2
  go_enter Tryz.func174, Tryz.ntmps174
  go_wp2_with fail
  go_quiet (fail)
  go_wp2
  go_ret2
  exact ⟨rfl, rfl, rfl, rfl, Nat.le_refl _, fun _ _ => rfl⟩
 ·have t1 : (h == 0) = false := by simpa using hh
  have a0 : bits .and .u64 11529215046068469760 4294967295 = 0 := by decide
  obtain ⟨U, hU⟩ : ∃ U, h * 1152921504606846976 + l / 16 = U := ⟨_, rfl⟩
  obtain ⟨L, hL⟩ : ∃ L, l % 16 * 1152921504606846976 = L := ⟨_, rfl⟩
  have eU : bits .or .u64 (h * 1152921504606846976) (l / 16) = U := by
   obtain ⟨H, rfl⟩ := Int.eq_ofNat_of_zero_le h0
   obtain ⟨M, rfl⟩ := Int.eq_ofNat_of_zero_le l0
   have e1 : (H : Int) * 1152921504606846976 = ((H * 1152921504606846976 : Nat) : Int) := by omega
   have e2 : (M : Int) / 16 = ((M / 16 : Nat) : Int) := by omega
   rw [e1, e2, u64_or_nat _ _ (by omega) (by omega)]
   have h := Nat.shiftLeft_add_eq_or_of_lt (b := M / 16) (i := 60) (by omega) H
   rw [Nat.shiftLeft_eq] at h
   rw [show (1152921504606846976 : Nat) = 2 ^ 60 from rfl, ← h]
   omega
  have eL : IntKind.u64.wrap (l * 1152921504606846976) = L := by simp [IntKind.wrap, IntKind.bits, IntKind.signed]; omega
  have bU : 0 ≤ U ∧ U ≤ 11529215046068469759 := by omega
  have bL : 0 ≤ L ∧ L ≤ 18446744073709551615 := by omega
  have eA : bits .and .u64 L 4294967295 = 0 := by
   obtain ⟨M, hM⟩ := Int.eq_ofNat_of_zero_le bL.1
   rw [hM, show (4294967295 : Int) = ((4294967295 : Nat) : Int) from rfl, u64_and_nat _ _ (by omega) (by decide)]
   have e : M &&& 4294967295 = M % 4294967296 := Nat.and_two_pow_sub_one_eq_mod M 32
   rw [e]
   omega
  obtain ⟨V, hV⟩ : ∃ V, U % 2684354560 * 4294967296 + L / 4294967296 = V := ⟨_, rfl⟩
  have eV : IntKind.u64.wrap (IntKind.u64.wrap (IntKind.u64.wrap (U * 4294967296) + L / 4294967296) - IntKind.u64.wrap (U / 2684354560 * 11529215046068469760)) = V := by
   simp [IntKind.wrap, IntKind.bits, IntKind.signed]; omega
  have bV : 0 ≤ V ∧ V ≤ 11529215046068469759 := by omega
  replace hU := Hd hU
  replace hV := Hd hV
  replace hL := Hd hL
  go_enter Tryz.func174, Tryz.ntmps174
  go_wp2_with (go_at_call 187; refine (lz10 _).mono ?_; rintro e w' ⟨rfl, rfl⟩)
  go_rounds 1
  go_rounds 1
  have hU' := hU.out
  have hL' := hL.out
  have hV' := hV.out
  have r1 : U / 2684354560 * 4294967296 + V / 2684354560 = (h * 18446744073709551616 + l) / 10 := by
   clear eU eL eV eA a0
   omega
  have r2 : IntKind.u64.wrap (IntKind.u64.wrap (IntKind.u64.wrap (V * 4294967296)) - IntKind.u64.wrap (V / 2684354560 * 11529215046068469760)) / 1152921504606846976 = (h * 18446744073709551616 + l) % 10 := by
   clear eU eL eV eA a0
   simp [IntKind.wrap, IntKind.bits, IntKind.signed]
   omega
  rw [← r1, ← r2]
  clear hU' hL' hV' r1 r2
  go_ret2
  exact ⟨rfl, Below.refl _ _⟩
def textF (x : WI) : List UInt8 := if x.form = true then (if x.n = true then [45] else []) ++ digs x.sz.toNat else []
theorem infoU8 : (Tryz.prog.info? 5).map (fun i => (i.zero, i.size, i.bytes)) = some (some (.int .u8 0), 1, 1) := by kernel_rfl
theorem src_own {w : World} {base n c : Nat} {a : Option Addr} {xs : List Value} {e : TypeId} (h : w.ownsRow base e 1 (.slice a n c) n xs) (h1 : ∀ u ∈ xs, u.oneCell' = true) (o : Obj) : Src Tryz.prog 1 85 (.slice a n c) n xs (w.alloc o) := by
 rcases h.2 with ⟨hv, hn⟩ | ⟨g, cap, cur, hv, hb, hg, hc⟩
 ·cases hv
  obtain rfl : xs = [] := List.eq_nil_of_length_eq_zero (by simpa using h.1)
  exact Src.ofNil _ Tryz.underlying85 0
 ·obtain ⟨rfl, rfl⟩ : a = some ⟨g, 0, none⟩ ∧ c = cap := by cases hv; exact ⟨rfl, rfl⟩
  have h' := h.alloc o
  exact Src.ofSlice _ Tryz.underlying85 ⟨g, 0, none⟩ n c xs h.1 (fun j u hu => by simpa [Addr.add] using h'.cells (g := g) rfl j u hu) h1
theorem dig_cell (m : Nat) (d : Int) (hd : d = ((m % 10 : Nat) : Int)) : ([.int .u8 (48 + d)] : List Value) = bv [UInt8.ofNat (48 + m % 10)] := by
 rw [bv_one, dig_toNat (Nat.mod_lt _ (by decide)), hd]
 rfl
def mu (v i j : Value) : Nat := (intOf i).toNat * 18446744073709551616 + (intOf j).toNat + (match v with | .slice _ k _ => 1 - k | _ => 0)
theorem mu_of (a : Option Addr) (k c m : Nat) : mu (.slice a k c) (.int .u64 (nw m).h) (.int .u64 (nw m).l) = m + (1 - k) := by
 unfold mu nw
 simp only [intOf]
 omega
theorem Wr_len {s m : Nat} {l : List UInt8} (h : (l = [] ∧ m = s) ∨ (l ≠ [] ∧ digs s = more m ++ l)) : l.length ≤ (digs s).length := by
 rcases h with ⟨rfl, _⟩ | ⟨_, he⟩
 ·exact Nat.zero_le _
 ·rw [he, List.length_append]; omega
/-- what is written, and what is still to be written -/
def Wr (s m : Nat) (l : List UInt8) : Prop := (l = [] ∧ m = s) ∨ (l ≠ [] ∧ digs s = more m ++ l)
theorem Wr.step {s m : Nat} {l : List UInt8} (h : Wr s m l) (hc : m ≠ 0 ∨ l = []) : Wr s (m / 10) ([UInt8.ofNat (48 + m % 10)] ++ l) := by
 refine .inr ⟨by simp, ?_⟩
 rcases h with ⟨rfl, rfl⟩ | ⟨hl, he⟩
 ·rw [List.append_nil]; exact digs_more m
 ·rcases hc with hm | hc
  ·rw [he, more, if_neg hm, digs_more m, List.append_assoc]
  ·exact absurd hc hl
theorem Wr.done {s : Nat} {l : List UInt8} (h : Wr s 0 l) (hc : l ≠ []) : digs s = l := by
 rcases h with ⟨h1, _⟩ | ⟨_, he⟩
 ·exact absurd h1 hc
 ·rw [he]; rfl
theorem wtext_c (x : WI) (ho : x.Ok) (w : World) : Calls Tryz.prog 156 #[wv x] w fun e w' => e = .returned (.string (text (textF x))) ∧ Below w.heap.size w w' := by
 have cx := Hd (form_c x ho)
 unfold textF
 cases hf : x.form with
 | false =>
   rw [hf] at cx
   clear hf ho
   obtain ⟨n, h, l⟩ := x
   unfold wv at *
   dsimp only at *
   rw [if_neg (by decide)]
   go_enter Tryz.func156, Tryz.ntmps156
   go_wp2_with fail
   refine (cx.out _).mono ?_
   rintro e w1 ⟨rfl, hb1⟩
   obtain ⟨gx, hb⟩ := one_new (x := ⟨n, h, l⟩) hb1
   clear gx hb1
   go_wp2_with fail
   go_ret
   exact ⟨rfl, hb⟩
 | true =>
   obtain ⟨s, hs, ex, -⟩ := words x ho hf
   have hz : x.sz.toNat = s := by
    rw [ex]
    have := nw_sz s
    unfold WI.sz at *
    dsimp only at *
    omega
   have hlen : (digs s).length ≤ 39 := digs_len 38 s (Nat.lt_trans hs (by decide))
   rw [hf] at cx
   rw [hz, if_pos rfl]
   clear ho hf hz
   obtain ⟨n, h, l⟩ := x
   obtain ⟨rfl, rfl⟩ : h = (nw s).h ∧ l = (nw s).l := by simpa using ex
   clear ex
   obtain ⟨i0, hi, hz0, hz1, hz2⟩ := info_parts infoU8
   unfold wv at *
   dsimp only at *
   obtain ⟨sh, hsh⟩ : ∃ sh, (nw s).h = sh := ⟨_, rfl⟩
   obtain ⟨sl, hsl⟩ : ∃ sl, (nw s).l = sl := ⟨_, rfl⟩
   rw [hsh, hsl] at cx ⊢
   replace hsh := Hd hsh
   replace hsl := Hd hsl
   replace hs := Hd hs
   replace hlen := Hd hlen
   go_enter Tryz.func156, Tryz.ntmps156
   go_wp2_with fail
   refine (cx.out _).mono ?_
   rintro e w1 ⟨rfl, hb1⟩
   obtain ⟨gx, hb⟩ := one_new (x := ⟨n, sh, sl⟩) hb1
   have hsz := hb.size
   obtain ⟨x0, x1, x2⟩ := gx.all
   dsimp only at x0 x1 x2
   replace gx := Hd gx
   replace hb := Hd hb
   clear hb1
   go_wp2_with fail
   go_quiet (fail)
   go_wp2_with fail
   go_loopw [3, 4, 5] (fun v i j wr => ∃ (m : Nat) (l : List UInt8) (a : Option Addr) (c : Nat), m ≤ s ∧ Wr s m l ∧ v = .slice a l.length c ∧ i = .int .u64 (nw m).h ∧ j = .int .u64 (nw m).l ∧ wr.ownsRow (w.heap.size + 1) 5 1 (.slice a l.length c) l.length (bv l) ∧
    IsN wr w.heap.size ⟨n, sh, sl⟩ ∧ Below w.heap.size w wr) (fun v i j _ => mu v i j)
   case atStart =>
    refine ⟨s, [], none, 0, Nat.le_refl _, .inl ⟨rfl, rfl⟩, rfl, by rw [hsh.out], by rw [hsl.out], World.ownsRow_nil _ _ _ _, gx.out, ?_⟩
    exact hb.out.trans ⟨rfl, rfl, rfl, Nat.le_refl _, fun _ _ => rfl⟩
   case round =>
    obtain ⟨m, l, a, c, hm, hwr, rfl, rfl, rfl, hown, gr, hbr⟩ := hrel
    have hl39 := Nat.le_trans (Wr_len hwr) hlen.out
    have mN := nw_ok (Nat.lt_of_le_of_lt hm (Nat.lt_trans hs.out (by decide)))
    have t := or_nil (nw m).h (nw m).l mN.1 mN.2.1 mN.2.2.1 mN.2.2.2
    rw [nil2_nw] at t
    have hszr := hbr.size
    by_cases hgo : m ≠ 0 ∨ l = []
    ·have hst := Hd (hwr.step hgo)
     have hh10 : (nw m).h / 10 = (nw (m / 10)).h := by unfold nw; dsimp only; omega
     have hl10 : ((nw m).h % 10 * 18446744073709551616 + (nw m).l) / 10 = (nw (m / 10)).l := by unfold nw; dsimp only; omega
     have hd10 : ((nw m).h % 10 * 18446744073709551616 + (nw m).l) % 10 = ((m % 10 : Nat) : Int) := by unfold nw; dsimp only; omega
     have cd := div64_c ((nw m).h % 10) (nw m).l (by omega) (by omega) mN.2.2.1 mN.2.2.2
     rw [hl10, hd10] at cd
     have m1 : (nw m).h ≤ 18446744073709551615 := mN.2.1
     have m0 : 0 ≤ (nw m).h := mN.1
     have mu0 := Hd (mu_of a l.length c m)
     have mu1 := fun a' c' => mu_of a' (1 + l.length) c' (m / 10)
     replace mu1 := Hd mu1
     obtain ⟨d, hd⟩ : ∃ d : Int, ((m % 10 : Nat) : Int) = d := ⟨_, rfl⟩
     have hd9 : 0 ≤ d ∧ d ≤ 9 := by omega
     have hcell := Hd (dig_cell m d hd.symm)
     rw [hd] at cd
     have hm10 : m / 10 ≤ s := by omega
     have hdec : m / 10 + (1 - (1 + l.length)) < m + (1 - l.length) := by
      rcases hgo with h | rfl
      ·omega
      ·simp; omega
     clear hd hl10 hd10 mN
     generalize hB : [UInt8.ofNat (48 + m % 10)] = dg at *
     have hdgl : dg.length = 1 := by rw [← hB]; rfl
     clear hB
     generalize (nw m).h = mh at *
     generalize (nw m).l = ml at *
     replace cd := Hd cd
     have hgo2 : (m ≠ 0 ∧ (bits .or .u64 mh ml != 0) = true) ∨ (l = [] ∧ (bits .or .u64 mh ml != 0) = false) := by
      by_cases h0 : m = 0
      ·exact .inr ⟨hgo.elim (fun h => absurd h0 h) id, by rw [bne, t, decide_eq_true h0]; rfl⟩
      ·exact .inl ⟨h0, by rw [bne, t, decide_eq_false h0]; rfl⟩
     clear hgo t hwr hm
     rcases hgo2 with ⟨-, t⟩ | ⟨hl0, t⟩
     all_goals
      (try have hz : ((l.length : Int) == 0) = true := (by rw [hl0]; rfl))
      (try clear hl0)
      go_wp2_with fail
      refine (cd.out _).mono ?_
      rintro e w5 ⟨rfl, hb5⟩
      have gr5 := gr.below hb5
      have hown5 := hown.kept (row := none) ⟨hb5.os, hb5.tape, hb5.output, hb5.size, fun k hk _ => hb5.block k hk⟩ (by simp; exact Classical.em _)
      have hbr5 := hbr.trans (hb5.mono hszr)
      have hsz5 := hbr5.size
      clear gr hown hbr hb5 cd
      have hlt5 := gr5.lt
      have hownT := ownsRow_lit w5 (w.heap.size + 1) 5 [.int .u8 (48 + d)] 1 (by omega) rfl (by decide)
      have hsrc := src_own hown5 (bv_oneCell _) (.cells #[.int .u8 (48 + d)] 5)
      replace gr5 := Hd gr5
      replace hown5 := Hd hown5
      replace hbr5 := Hd hbr5
      go_wp2_with (at_builtin; refine wpList_append_own_src _ rfl (.tmp 37) (.tmp 38) 85 85 rfl (w.heap.size + 1) 5 i0 (.int .u8 0) 1 1 Tryz.underlying85 hi hz0 hz1 hz2 rfl rfl hownT rfl hsrc ?_ ?_ ?_ ?_)
      ·unfold maxLen; omega
      ·omega
      ·rw [wsize_alloc]; omega
      intro b' c' w6 hown6 hg6
      have hl6 : (dg ++ l).length = 1 + l.length := by rw [List.length_append, hdgl]
      have hown7 : w6.ownsRow (w.heap.size + 1) 5 1 (.slice b' (dg ++ l).length c') (dg ++ l).length (bv (dg ++ l)) := by
       rw [hl6, bv_append, ← hcell.out]; exact hown6
      have gr6 : IsN w6 w.heap.size ⟨n, sh, sl⟩ := (hg6.block w.heap.size (by rw [wsize_alloc]; omega) (by
       show some w.heap.size ≠ some w5.heap.size
       intro hh
       have := Option.some.inj hh
       omega)).trans (gr5.out.alloc _)
      have hb6 : Below w.heap.size w w6 := Below.grown (hbr5.out.alloc hsz5 _) hg6 (by rw [wsize_alloc]; omega) (by
       intro k hk
       have : w5.heap.size = k := Option.some.inj hk
       omega)
      replace hown7 := Hd hown7
      replace gr6 := Hd gr6
      replace hb6 := Hd hb6
      clear hown6 hg6 gr5 hown5 hbr5 hownT hsrc
      go_wp2_with fail
      go_roundw
      case rel => exact ⟨m / 10, dg ++ l, b', c', hm10, hst.out, by rw [hl6], rfl, rfl, hown7.out, gr6.out, hb6.out⟩
      case measure => rw [mu1.out, mu0.out]; exact hdec
    ·obtain ⟨rfl, hnl⟩ : m = 0 ∧ l ≠ [] := by
      refine ⟨Classical.byContradiction fun h => hgo (.inl h), fun h => hgo (.inr h)⟩
     have he := Hd (hwr.done hnl)
     have t' : (bits .or .u64 (nw 0).h (nw 0).l != 0) = false := by rw [bne, t]; rfl
     have hz : ((l.length : Int) == 0) = false := by
      have : l.length ≠ 0 := fun h => hnl (List.length_eq_zero_iff.1 h)
      simpa using this
     have hr := run_string_own wr 85 9 5 Tryz.underlying85 Tryz.underlying5 Tryz.underlying9 hown
     obtain ⟨x0, x1, x2⟩ := gr.all
     dsimp only at x0 x1 x2
     have hsz2 : (text l).size ≤ 39 := by rw [text_size]; exact hl39
     have hm1 : (text l).size ≤ 9223372036854775807 := by omega
     replace hbr := Hd hbr
     clear t hwr hgo hnl gr hown mN
     cases n with
     | false =>
       go_wp2_with fail
       go_ret
       exact ⟨by rw [he.out]; rfl, hbr.out⟩
     | true =>
       go_wp2_with fail
       go_ret
       exact ⟨by rw [he.out]; exact congrArg (fun z => Ending.returned (.string z)) (text_append [45] l), hbr.out⟩
def tenDigits : List UInt8 := [48, 49, 50, 51, 52, 53, 54, 55, 56, 57]
theorem ten_isDig (c : UInt8) : tenDigits.contains c = isDig c := by
 have h : ∀ c : Fin 256, tenDigits.contains (UInt8.ofNat c.val) = isDig (UInt8.ofNat c.val) := by decide
 have := h ⟨c.toNat, c.toNat_lt⟩
 simpa using this
theorem dropWhile_nil {p : UInt8 → Bool} : ∀ l : List UInt8, (l.dropWhile p).isEmpty = l.all p
 | [] => rfl
 | c :: l => by
   rw [List.dropWhile_cons, List.all_cons]
   cases h : p c with
   | true => simpa using dropWhile_nil l
   | false => rfl
theorem trimS_digits (l : List UInt8) : (Lib.trimS l tenDigits).isEmpty = l.all isDig := by
 unfold Lib.trimS Lib.trimLeftS Lib.trimRightS
 rw [dropWhile_nil]
 have hf : (fun c => tenDigits.contains c) = isDig := funext ten_isDig
 rw [hf, List.all_reverse]
 cases h : l.all isDig with
 | true =>
   refine List.all_eq_true.2 fun c hc => ?_
   have h1 : c ∈ l.reverse := (List.dropWhile_sublist _).subset hc
   exact List.all_eq_true.1 h c (List.mem_reverse.1 h1)
 | false =>
   have hh : (l.reverse.dropWhile isDig).isEmpty = false := by rw [dropWhile_nil, List.all_reverse, h]
   cases hd : l.reverse.dropWhile isDig with
   | nil => rw [hd] at hh; cases hh
   | cons c r =>
     have h2 := List.head?_dropWhile_not isDig l.reverse
     rw [hd] at h2
     rw [List.all_cons]
     simp at h2
     rw [h2]; rfl
def isDigs (l : List UInt8) : Bool := !l.isEmpty && l.all isDig
theorem str_empty (s : ByteArray) : (s.toList == []) = (byts s).isEmpty := by
 rw [toList_byts]
 cases h : byts s <;> rfl
theorem isDigits_c (s : ByteArray) (hs : s.size ≤ maxLen) (w : World) : Calls Tryz.prog 149 #[.string s] w fun e w' => e = .returned (.bool (isDigs (byts s))) ∧ Below w.heap.size w w' := by
 have ct := fun w => Go.Proofs.Any.strings_Trim_laid Tryz.lays160 (by kernel_rfl) s ⟨#[48, 49, 50, 51, 52, 53, 54, 55, 56, 57]⟩ w hs (by decide) (ascii_of_all (by decide))
 have e1 := str_empty s
 have e2 := str_empty ⟨(Lib.trimS s.data.toList tenDigits).toArray⟩
 have e3 : byts ⟨(Lib.trimS s.data.toList tenDigits).toArray⟩ = Lib.trimS s.data.toList tenDigits := byts_text _
 rw [e3, trimS_digits] at e2
 unfold isDigs
 have e4 : byts s = s.data.toList := rfl
 rw [e4] at e1 ⊢
 change ∀ w, Calls Tryz.prog 167 #[.string s, .string ⟨#[48, 49, 50, 51, 52, 53, 54, 55, 56, 57]⟩] w fun e w' => e = .returned (.string ⟨(Lib.trimS s.data.toList tenDigits).toArray⟩) ∧ Below w.heap.size w w' at ct
 generalize (⟨(Lib.trimS s.data.toList tenDigits).toArray⟩ : ByteArray) = t at *
 generalize s.data.toList.all isDig = b at *
 generalize s.data.toList.isEmpty = z at *
 clear e3 e4
 replace ct := Hd ct
 cases z with
 | true =>
   have e1' : (s.toList != []) = false := by rw [bne, e1]; rfl
   have e1'' : s.toList = [] := by simpa using e1
   go_enter Tryz.func149, Tryz.ntmps149
   go_wp2_with fail
   go_ret
   exact ⟨rfl, Below.refl _ _⟩
 | false =>
   have e1' : (s.toList != []) = true := by rw [bne, e1]; rfl
   have e1'' : ¬ s.toList = [] := by simpa using e1
   go_enter Tryz.func149, Tryz.ntmps149
   go_wp2_with fail
   refine (ct.out _).mono ?_
   rintro e w1 ⟨rfl, hb1⟩
   go_wp2_with fail
   go_ret
   exact ⟨rfl, hb1⟩
theorem two_bd {a b : Int} (a0 : 0 ≤ a) (a1 : a ≤ 18446744073709551615) (b0 : 0 ≤ b) (b1 : b ≤ 18446744073709551615) : 0 ≤ a * b ∧ a * b / 18446744073709551616 ≤ 18446744073709551615 := by
 have h1 := Int.mul_nonneg a0 b0
 have h2 : a * b ≤ 18446744073709551615 * 18446744073709551615 := Int.mul_le_mul a1 b1 b0 (by decide)
 generalize a * b = p at *
 omega
theorem mul_c (x y : WI) (ho : x.Ok) (hp : y.Ok) (w : World) : Calls Tryz.prog 150 #[wv x, wv y] w fun e w' => e = .returned (.tuple #[wv (mulF x y).1, .int .i64 (mulF x y).2]) ∧ Below w.heap.size w w' := by
 unfold mulF
 by_cases hb : (x.form && y.form) = true
 ·rw [if_pos hb, prod_val x y]
  obtain ⟨n, h, l⟩ := x
  obtain ⟨m, g, k⟩ := y
  have ho' := ho
  have hp' := hp
  obtain ⟨o1, o2, o3, o4⟩ := ho'
  obtain ⟨p1, p2, p3, p4⟩ := hp'
  dsimp only at o1 o2 o3 o4 p1 p2 p3 p4
  by_cases h1 : h = 0
  ·subst h1
   have e : (⟨n, 0, l⟩ : WI).sz * (⟨m, g, k⟩ : WI).sz = g * l * 18446744073709551616 + k * l := by
    unfold WI.sz
    dsimp only
    rw [Int.zero_mul, Int.zero_add, Int.mul_comm l, prod_two]
   have en : ((⟨n, 0, l⟩ : WI).n != (⟨m, g, k⟩ : WI).n) = (m != n) := by cases n <;> cases m <;> rfl
   obtain ⟨a0, a1⟩ := two_bd p3 p4 o3 o4
   obtain ⟨b0, b1⟩ := two_bd p1 p2 o3 o4
   rw [e, en, mul_says (m != n) (k * l) (g * l) a0 b0 a1 b1]
   cases hz : nil2 (g * l / 18446744073709551616) ((k * l / 18446744073709551616 + g * l % 18446744073709551616 + 0) / 18446744073709551616) with
   | true => rw [if_pos rfl]; exact mul_swap_fits n m l g k ho hp hb hz w
   | false => rw [if_neg (by decide)]; exact mul_swap_over n m l g k ho hp hb hz w
  ·by_cases g1 : g = 0
   ·subst g1
    have e : (⟨n, h, l⟩ : WI).sz * (⟨m, 0, k⟩ : WI).sz = h * k * 18446744073709551616 + l * k := by
     unfold WI.sz
     dsimp only
     rw [Int.zero_mul, Int.zero_add, prod_two]
    obtain ⟨a0, a1⟩ := two_bd o3 o4 p3 p4
    obtain ⟨b0, b1⟩ := two_bd o1 o2 p3 p4
    rw [e, mul_says _ (l * k) (h * k) a0 b0 a1 b1]
    cases hz : nil2 (h * k / 18446744073709551616) ((l * k / 18446744073709551616 + h * k % 18446744073709551616 + 0) / 18446744073709551616) with
    | true => rw [if_pos rfl]; exact mul_straight_fits n m h l k ho hp hb h1 hz w
    | false => rw [if_neg (by decide)]; exact mul_straight_over n m h l k ho hp hb h1 hz w
   ·have hbig := big_prod (h := h) (l := l) (g := g) (k := k) (by omega) o3 (by omega) p3
    have er : R (neg ((⟨n, h, l⟩ : WI).n != (⟨m, g, k⟩ : WI).n) ((⟨n, h, l⟩ : WI).sz * (⟨m, g, k⟩ : WI).sz)) = (zero, 3) := R_out (neg_big hbig)
    rw [er]
    exact mul_both n m h l g k ho hp hb h1 g1 w
 ·rw [if_neg hb]
  have cc := check_c x y ho hp false
  rw [Bool.false_and, Bool.not_false, Bool.and_true, if_neg hb] at cc
  clear hb
  replace cc := Hd cc
  obtain ⟨n, h, l⟩ := x
  obtain ⟨m, g, k⟩ := y
  unfold wv zero at *
  dsimp only at *
  go_enter Tryz.func150, Tryz.ntmps150
  go_wp2_with fail
  refine (cc.out _).mono ?_
  rintro e w1 ⟨rfl, hb1⟩
  obtain ⟨gx, gy, gz, hb⟩ := three_new (x := ⟨n, h, l⟩) (y := ⟨m, g, k⟩) (z := ⟨false, 0, 0⟩) hb1
  have hs := hb.size
  obtain ⟨z0, z1, z2⟩ := gz.all
  have zf := gz.f
  obtain ⟨r0, r1, r2, hfin⟩ := last_set (w := w) (B := w.heap.size) gz ⟨false, 0, 0⟩ hb (by omega)
  dsimp only at r0 r1 r2 hfin
  replace hfin := Hd hfin
  clear gx gy gz hb1 hb
  go_wp2_with fail
  (try simp only [Exit.inBlock, Exit.then])
  refine bodyPost_ret (by simp [results, Tryz.results150, go_sem, r0, r1, r2]; try rfl) rfl ?_
  exact ⟨rfl, hfin.out⟩
attribute [local go_sem ↓] Go.wp_at_zero Go.wp_at_succ
theorem nw_form {v : Nat} (h : v < 170141183460469231731687303715884105728) : (nw v).form = true := by
 unfold WI.form nw
 dsimp only
 rw [decide_eq_true (by omega)]
 rfl
theorem nw_val (v : Nat) : (nw v).val = v := by
 have := nw_sz v
 unfold WI.val
 exact this
theorem mk_nw (v : Nat) : mk (v : Int) = nw v := by
 have := made_nw false v
 unfold neg at this
 rw [if_neg (by decide)] at this
 rw [← this]
 rfl
def RN (v : Nat) : WI × Int := if v < 170141183460469231731687303715884105728 then (nw v, 0) else (zero, 3)
theorem R_nat (v : Nat) : R (v : Int) = RN v := by
 unfold RN
 split
 ·rw [R_in (by rw [In_iff]; omega), mk_nw]
 ·rw [R_out (by rw [In_iff]; omega)]
theorem mulN {v u : Nat} (hv : v < 170141183460469231731687303715884105728) (hu : u < 170141183460469231731687303715884105728) : mulF (nw v) (nw u) = RN (v * u) := by
 unfold mulF
 rw [nw_form hv, nw_form hu, nw_val, nw_val, ← Int.natCast_mul, R_nat]
 rfl
theorem addN {v u : Nat} (hv : v < 170141183460469231731687303715884105728) (hu : u < 170141183460469231731687303715884105728) : addF (nw v) (nw u) = RN (v + u) := by
 unfold addF
 rw [nw_form hv, nw_form hu, nw_val, nw_val, ← Int.natCast_add, R_nat]
 rfl
/-- the digits behind the sign -/
def digOf (l : List UInt8) : List UInt8 := if l.head? = some 45 then l.tail else l
def parseF (l : List UInt8) : WI × Int :=
 if isDigs (digOf l) = false ∨ ((digOf l).head? = some 48 ∧ l ≠ [48]) then (zero, 4)
 else if 39 < (digOf l).length then (zero, 3)
 else if valD (digOf l) < 170141183460469231731687303715884105728 then (mk (neg (decide (l.head? = some 45)) (valD (digOf l))), 0) else (zero, 3)
theorem trimPrefix_dig (l : List UInt8) : Lib.trimPrefix l [45] = digOf l := by
 unfold Lib.trimPrefix Lib.hasPrefix digOf
 cases l with
 | nil => rfl
 | cons c r =>
   by_cases h : c = 45
   ·subst h; rfl
   ·have : ([45] : List UInt8).isPrefixOf (c :: r) = false := by simp [List.isPrefixOf]; exact fun e => h e.symm
    rw [this]
    simp [h]
theorem digOf_lt (l : List UInt8) : decide ((digOf l).length < l.length) = decide (l.head? = some 45) := by
 unfold digOf
 cases l with
 | nil => rfl
 | cons c r => by_cases h : c = 45 <;> simp [h]
theorem valD_le (l m : List UInt8) : valD l ≤ valD (l ++ m) := by
 induction m generalizing l with
 | nil => rw [List.append_nil]; exact Nat.le_refl _
 | cons c m ih =>
   have h := ih (l ++ [c])
   rw [List.append_assoc, valD_snoc] at h
   exact Nat.le_trans (by omega) h
theorem valD_take (D : List UInt8) (j : Nat) : valD (D.take j) ≤ valD D := by
 have h := valD_le (D.take j) (D.drop j)
 rwa [List.take_append_drop] at h
theorem valD_next (D : List UInt8) (j : Nat) (hj : j < D.length) : valD (D.take (j + 1)) = valD (D.take j) * 10 + (D[j].toNat - 48) := by
 rw [List.take_succ_eq_append_getElem hj, valD_snoc]
theorem ofWord_nw (n : Nat) (h : n < 18446744073709551616) : (⟨false, 0, (n : Int)⟩ : WI) = nw n := by
 unfold nw
 congr 1 <;> omega
end Go.Proofs.YtjjgbillihedgaaGreatDoor
