/- the walk over the text of a number -/
import Derived.Test.YtbfigpollacngaaDoorWvA
namespace Go.Proofs.YtbfigpollacngaaDoor
open Go.RowKit
open Rf
open Wide

def textF (x : WI) : List UInt8 := if x.form = true then (if x.n = true then [45] else []) ++ digs x.sz.toNat else []
theorem infoU8 : (Tryd.prog.info? 5).map (fun i => (i.zero, i.size, i.bytes)) = some (some (.int .u8 0), 1, 1) := by kernel_rfl
theorem src_own {w : World} {base n c : Nat} {a : Option Addr} {xs : List Value} {e : TypeId} (h : w.ownsRow base e 1 (.slice a n c) n xs) (h1 : ∀ u ∈ xs, u.oneCell' = true) (o : Obj) : Src Tryd.prog 1 56 (.slice a n c) n xs (w.alloc o) := by
  rcases h.2 with ⟨hv, hn⟩ | ⟨g, cap, cur, hv, hb, hg, hc⟩
  · cases hv
    obtain rfl : xs = [] := List.eq_nil_of_length_eq_zero (by simpa using h.1)
    exact Src.ofNil _ Tryd.underlying56 0
  · obtain ⟨rfl, rfl⟩ : a = some ⟨g, 0, none⟩ ∧ c = cap := by cases hv; exact ⟨rfl, rfl⟩
    have h' := h.alloc o
    exact Src.ofSlice _ Tryd.underlying56 ⟨g, 0, none⟩ n c xs h.1 (fun j u hu => by simpa [Addr.add] using h'.cells (g := g) rfl j u hu) h1
theorem dig_cell (m : Nat) (d : Int) (hd : d = ((m % 10 : Nat) : Int)) : ([.int .u8 (48 + d)] : List Value) = bv [UInt8.ofNat (48 + m % 10)] := by
  rw [bv_one, dig_toNat (Nat.mod_lt _ (by decide)), hd]
  rfl
def mu (v i j : Value) : Nat := (intOf i).toNat * 18446744073709551616 + (intOf j).toNat + (match v with | .slice _ k _ => 1 - k | _ => 0)
theorem mu_of (a : Option Addr) (k c m : Nat) : mu (.slice a k c) (.int .u64 (nw m).h) (.int .u64 (nw m).l) = m + (1 - k) := by
  unfold mu nw
  simp only [intOf]
  omega
theorem Wr_len {s m : Nat} {l : List UInt8} (h : (l = [] ∧ m = s) ∨ (l ≠ [] ∧ digs s = more m ++ l)) : l.length ≤ (digs s).length := by
  rcases h with ⟨rfl, _⟩ | ⟨_, he⟩
  · exact Nat.zero_le _
  · rw [he, List.length_append]; omega
/-- what is written, and what is still to be written -/
def Wr (s m : Nat) (l : List UInt8) : Prop := (l = [] ∧ m = s) ∨ (l ≠ [] ∧ digs s = more m ++ l)
theorem Wr.step {s m : Nat} {l : List UInt8} (h : Wr s m l) (hc : m ≠ 0 ∨ l = []) : Wr s (m / 10) ([UInt8.ofNat (48 + m % 10)] ++ l) := by
  refine .inr ⟨by simp, ?_⟩
  rcases h with ⟨rfl, rfl⟩ | ⟨hl, he⟩
  · rw [List.append_nil]; exact digs_more m
  · rcases hc with hm | hc
    · rw [he, more, if_neg hm, digs_more m, List.append_assoc]
    · exact absurd hc hl
theorem Wr.done {s : Nat} {l : List UInt8} (h : Wr s 0 l) (hc : l ≠ []) : digs s = l := by
  rcases h with ⟨h1, _⟩ | ⟨_, he⟩
  · exact absurd h1 hc
  · rw [he]; rfl

set_option maxRecDepth 10000 in
set_option maxHeartbeats 8000000 in
theorem text_c (x : WI) (ho : x.Ok) (w : World) : Calls Tryd.prog 16 #[wv x] w fun e w' => e = .returned (.string (text (textF x))) ∧ Below w.heap.size w w' := by
  have cx := Lib.hid (form_c x ho)
  unfold textF
  cases hf : x.form with
  | false =>
    rw [hf] at cx
    clear hf ho
    obtain ⟨n, h, l⟩ := x
    unfold wv at *
    dsimp only at *
    rw [if_neg (by decide)]
    go_enter Tryd.func16, Tryd.ntmps16
    go_wp2_with fail
    refine (cx.out _).mono ?_
    rintro e w1 ⟨rfl, hb1⟩
    obtain ⟨gx, hb⟩ := one_new (x := ⟨n, h, l⟩) hb1
    clear gx hb1
    go_wp2_with fail
    go_ret
    exact ⟨rfl, hb⟩
  | true =>
    obtain ⟨s, hs, ex, -⟩ := words x ho hf
    have hz : x.sz.toNat = s := by
      rw [ex]
      have := nw_sz s
      unfold WI.sz at *
      dsimp only at *
      omega
    have hlen : (digs s).length ≤ 39 := digs_len 38 s (Nat.lt_trans hs (by decide))
    rw [hf] at cx
    rw [hz, if_pos rfl]
    clear ho hf hz
    obtain ⟨n, h, l⟩ := x
    obtain ⟨rfl, rfl⟩ : h = (nw s).h ∧ l = (nw s).l := by simpa using ex
    clear ex
    obtain ⟨i0, hi, hz0, hz1, hz2⟩ := info_parts infoU8
    unfold wv at *
    dsimp only at *
    obtain ⟨sh, hsh⟩ : ∃ sh, (nw s).h = sh := ⟨_, rfl⟩
    obtain ⟨sl, hsl⟩ : ∃ sl, (nw s).l = sl := ⟨_, rfl⟩
    rw [hsh, hsl] at cx ⊢
    replace hsh := Lib.hid hsh
    replace hsl := Lib.hid hsl
    replace hs := Lib.hid hs
    replace hlen := Lib.hid hlen
    go_enter Tryd.func16, Tryd.ntmps16
    go_wp2_with fail
    refine (cx.out _).mono ?_
    rintro e w1 ⟨rfl, hb1⟩
    obtain ⟨gx, hb⟩ := one_new (x := ⟨n, sh, sl⟩) hb1
    have hsz := hb.size
    obtain ⟨x0, x1, x2⟩ := gx.all
    dsimp only at x0 x1 x2
    replace gx := Lib.hid gx
    replace hb := Lib.hid hb
    clear hb1
    go_wp2_with fail
    go_quiet (fail)
    go_wp2_with fail
    go_loopw [3, 4, 5] (fun v i j wr => ∃ (m : Nat) (l : List UInt8) (a : Option Addr) (c : Nat), m ≤ s ∧ Wr s m l ∧ v = .slice a l.length c ∧ i = .int .u64 (nw m).h ∧ j = .int .u64 (nw m).l ∧ wr.ownsRow (w.heap.size + 1) 5 1 (.slice a l.length c) l.length (bv l) ∧
        IsN wr w.heap.size ⟨n, sh, sl⟩ ∧ Below w.heap.size w wr) (fun v i j _ => mu v i j)
    case atStart =>
      refine ⟨s, [], none, 0, Nat.le_refl _, .inl ⟨rfl, rfl⟩, rfl, by rw [hsh.out], by rw [hsl.out], World.ownsRow_nil _ _ _ _, gx.out, ?_⟩
      exact hb.out.trans ⟨rfl, rfl, rfl, Nat.le_refl _, fun _ _ => rfl⟩
    case round =>
      obtain ⟨m, l, a, c, hm, hwr, rfl, rfl, rfl, hown, gr, hbr⟩ := hrel
      have hl39 := Nat.le_trans (Wr_len hwr) hlen.out
      have mN := nw_ok (Nat.lt_of_le_of_lt hm (Nat.lt_trans hs.out (by decide)))
      have t := or_nil (nw m).h (nw m).l mN.1 mN.2.1 mN.2.2.1 mN.2.2.2
      rw [nil2_nw] at t
      have hszr := hbr.size
      by_cases hgo : m ≠ 0 ∨ l = []
      · have hst := Lib.hid (hwr.step hgo)
        have hh10 : (nw m).h / 10 = (nw (m / 10)).h := by unfold nw; dsimp only; omega
        have hl10 : ((nw m).h % 10 * 18446744073709551616 + (nw m).l) / 10 = (nw (m / 10)).l := by unfold nw; dsimp only; omega
        have hd10 : ((nw m).h % 10 * 18446744073709551616 + (nw m).l) % 10 = ((m % 10 : Nat) : Int) := by unfold nw; dsimp only; omega
        have cd := div64_c ((nw m).h % 10) (nw m).l (by omega) (by omega) mN.2.2.1 mN.2.2.2
        rw [hl10, hd10] at cd
        have m1 : (nw m).h ≤ 18446744073709551615 := mN.2.1
        have m0 : 0 ≤ (nw m).h := mN.1
        have mu0 := Lib.hid (mu_of a l.length c m)
        have mu1 := fun a' c' => mu_of a' (1 + l.length) c' (m / 10)
        replace mu1 := Lib.hid mu1
        obtain ⟨d, hd⟩ : ∃ d : Int, ((m % 10 : Nat) : Int) = d := ⟨_, rfl⟩
        have hd9 : 0 ≤ d ∧ d ≤ 9 := by omega
        have hcell := Lib.hid (dig_cell m d hd.symm)
        rw [hd] at cd
        have hm10 : m / 10 ≤ s := by omega
        have hdec : m / 10 + (1 - (1 + l.length)) < m + (1 - l.length) := by
          rcases hgo with h | rfl
          · omega
          · simp; omega
        clear hd hl10 hd10 mN
        generalize hB : [UInt8.ofNat (48 + m % 10)] = dg at *
        have hdgl : dg.length = 1 := by rw [← hB]; rfl
        clear hB
        generalize (nw m).h = mh at *
        generalize (nw m).l = ml at *
        replace cd := Lib.hid cd
        have hgo2 : (m ≠ 0 ∧ (bits .or .u64 mh ml != 0) = true) ∨ (l = [] ∧ (bits .or .u64 mh ml != 0) = false) := by
          by_cases h0 : m = 0
          · exact .inr ⟨hgo.elim (fun h => absurd h0 h) id, by rw [bne, t, decide_eq_true h0]; rfl⟩
          · exact .inl ⟨h0, by rw [bne, t, decide_eq_false h0]; rfl⟩
        clear hgo t hwr hm
        rcases hgo2 with ⟨-, t⟩ | ⟨hl0, t⟩
        all_goals
          (try have hz : ((l.length : Int) == 0) = true := (by rw [hl0]; rfl))
          (try clear hl0)
          go_wp2_with fail
          refine (cd.out _).mono ?_
          rintro e w5 ⟨rfl, hb5⟩
          have gr5 := gr.below hb5
          have hown5 := hown.kept (row := none) ⟨hb5.os, hb5.tape, hb5.output, hb5.size, fun k hk _ => hb5.block k hk⟩ (by simp; exact Classical.em _)
          have hbr5 := hbr.trans (hb5.mono hszr)
          have hsz5 := hbr5.size
          clear gr hown hbr hb5 cd
          have hlt5 := gr5.lt
          have hownT := ownsRow_lit w5 (w.heap.size + 1) 5 [.int .u8 (48 + d)] 1 (by omega) rfl (by decide)
          have hsrc := src_own hown5 (bv_oneCell _) (.cells #[.int .u8 (48 + d)] 5)
          replace gr5 := Lib.hid gr5
          replace hown5 := Lib.hid hown5
          replace hbr5 := Lib.hid hbr5
          go_wp2_with (at_builtin; refine wpList_append_own_src _ rfl (.tmp 37) (.tmp 38) 56 56 rfl (w.heap.size + 1) 5 i0 (.int .u8 0) 1 1 Tryd.underlying56 hi hz0 hz1 hz2 rfl rfl hownT rfl hsrc ?_ ?_ ?_ ?_)
          · unfold maxLen; omega
          · omega
          · rw [size_alloc]; omega
          intro b' c' w6 hown6 hg6
          have hl6 : (dg ++ l).length = 1 + l.length := by rw [List.length_append, hdgl]
          have hown7 : w6.ownsRow (w.heap.size + 1) 5 1 (.slice b' (dg ++ l).length c') (dg ++ l).length (bv (dg ++ l)) := by
            rw [hl6, bv_append, ← hcell.out]; exact hown6
          have gr6 : IsN w6 w.heap.size ⟨n, sh, sl⟩ := (hg6.block w.heap.size (by rw [size_alloc]; omega) (by
            show some w.heap.size ≠ some w5.heap.size
            intro hh
            have := Option.some.inj hh
            omega)).trans (gr5.out.alloc _)
          have hb6 : Below w.heap.size w w6 := Below.grown (hbr5.out.alloc hsz5 _) hg6 (by rw [size_alloc]; omega) (by
            intro k hk
            have : w5.heap.size = k := Option.some.inj hk
            omega)
          replace hown7 := Lib.hid hown7
          replace gr6 := Lib.hid gr6
          replace hb6 := Lib.hid hb6
          clear hown6 hg6 gr5 hown5 hbr5 hownT hsrc
          go_wp2_with fail
          go_roundw
          case rel => exact ⟨m / 10, dg ++ l, b', c', hm10, hst.out, by rw [hl6], rfl, rfl, hown7.out, gr6.out, hb6.out⟩
          case measure => rw [mu1.out, mu0.out]; exact hdec
      · obtain ⟨rfl, hnl⟩ : m = 0 ∧ l ≠ [] := by
          refine ⟨Classical.byContradiction fun h => hgo (.inl h), fun h => hgo (.inr h)⟩
        have he := Lib.hid (hwr.done hnl)
        have t' : (bits .or .u64 (nw 0).h (nw 0).l != 0) = false := by rw [bne, t]; rfl
        have hz : ((l.length : Int) == 0) = false := by
          have : l.length ≠ 0 := fun h => hnl (List.length_eq_zero_iff.1 h)
          simpa using this
        have hr := run_string_own wr 56 9 5 Tryd.underlying56 Tryd.underlying5 Tryd.underlying9 hown
        obtain ⟨x0, x1, x2⟩ := gr.all
        dsimp only at x0 x1 x2
        have hsz2 : (text l).size ≤ 39 := by rw [text_size]; exact hl39
        have hm1 : (text l).size ≤ 9223372036854775807 := by omega
        replace hbr := Lib.hid hbr
        clear t hwr hgo hnl gr hown mN
        cases n with
        | false =>
          go_wp2_with fail
          go_ret
          exact ⟨by rw [he.out]; rfl, hbr.out⟩
        | true =>
          go_wp2_with fail
          go_ret
          exact ⟨by rw [he.out]; exact congrArg (fun z => Ending.returned (.string z)) (text_append [45] l), hbr.out⟩
end Go.Proofs.YtbfigpollacngaaDoor
