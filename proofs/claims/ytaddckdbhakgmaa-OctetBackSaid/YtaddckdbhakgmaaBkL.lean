/- the walk over OctetBack (printed by gen_oback.py) -/
import Derived.Test.YtaddckdbhakgmaaOctK
import Derived.Test.YtaddckdbhakgmaaBkW
namespace Go.Proofs.Ytaddckdbhakgmaa
open Go.RowKit
open Rf
open Bk

/-- acts as cells -/
def av (l : List ActD) : List Value := l.flatMap fun x => [.int .i64 x.K, .int .i64 x.W, .int .u64 x.N, .string x.S]
theorem av_cons (x : ActD) (l : List ActD) : av (x :: l) = .int .i64 x.K :: .int .i64 x.W :: .int .u64 x.N :: .string x.S :: av l := rfl
theorem av_append (l m : List ActD) : av (l ++ m) = av l ++ av m := by unfold av; rw [List.flatMap_append]
theorem av_get : ∀ (l : List ActD) (j : Nat) (hj : j < l.length), (av l)[j * 4]? = some (.int .i64 l[j].K) ∧ (av l)[j * 4 + 1]? = some (.int .i64 l[j].W) ∧ (av l)[j * 4 + 2]? = some (.int .u64 l[j].N) ∧ (av l)[j * 4 + 3]? = some (.string l[j].S)
  | x :: l, 0, _ => ⟨rfl, rfl, rfl, rfl⟩
  | x :: l, j + 1, hj => by
    have := av_get l j (by simpa using hj)
    rw [show (j + 1) * 4 = j * 4 + 1 + 1 + 1 + 1 by omega, av_cons]
    simpa using this
/-- a slice of acts of the call's own -/
def OwnA (w : World) (B : Nat) (a : Option Addr) (c : Nat) (l : List ActD) : Prop := w.ownsRow B 45 4 (.slice a l.length c) l.length (av l)
theorem OwnA.alloc {w : World} {B : Nat} {a : Option Addr} {c : Nat} {l : List ActD} (h : OwnA w B a c l) (o : Obj) : OwnA (w.alloc o) B a c l := World.ownsRow.alloc h o
theorem OwnA.nil (w : World) (B : Nat) (hB : B ≤ w.heap.size) : OwnA (w.alloc (.cells #[] 45)) B (some ⟨w.heap.size, 0, none⟩) 0 [] := ⟨rfl, .inr ⟨w.heap.size, 0, #[], rfl, hB, heap_alloc_new w _, Nat.le_refl _, by unfold maxLen; omega, rfl, rfl⟩⟩
theorem OwnA.keep {w w' : World} {B : Nat} {a : Option Addr} {c : Nat} {l : List ActD} (h : OwnA w B a c l) (hk : KeepT w w') : OwnA w' B a c l := by
  refine ⟨h.1, ?_⟩
  rcases h.2 with h' | ⟨g, cap, cur, h1, h2, h3, h4⟩
  · exact .inl h'
  · exact .inr ⟨g, cap, cur, h1, h2, hk _ _ _ _ (by decide) (by decide) h3, h4⟩
theorem OwnA.in {w : World} {B : Nat} {a : Option Addr} {c : Nat} {l : List ActD} (h : OwnA w B a c l) : InA w a l := by
  rcases Nat.eq_zero_or_pos l.length with h0 | h0
  · exact .inl (List.eq_nil_of_length_eq_zero h0)
  · rcases h.2 with ⟨hv, hn⟩ | ⟨g, cap, cur, hv, hb, hg, hc⟩
    · omega
    · obtain ⟨rfl, rfl⟩ : a = some ⟨g, 0, none⟩ ∧ c = cap := by cases hv; exact ⟨rfl, rfl⟩
      refine .inr ⟨g, rfl, lt_of_block hg, fun j hj => ?_⟩
      have key : ∀ i u, (av l)[i]? = some u → w.cell? ⟨g, i, none⟩ = some u := fun i u hu => by
        have := World.ownsRow.cells h (g := g) rfl i u hu
        rw [show (⟨g, 0, none⟩ : Addr).add i = ⟨g, i, none⟩ by unfold Addr.add; split <;> simp_all] at this
        exact this
      obtain ⟨k0, k1, k2, k3⟩ := av_get l j hj
      exact ⟨key _ _ k0, key _ _ k1, key _ _ k2, key _ _ k3⟩
theorem OwnA.lt {w : World} {B : Nat} {a : Option Addr} {c : Nat} {l : List ActD} (h : OwnA w B a c l) : ∀ g, a = some ⟨g, 0, none⟩ → g < w.heap.size := by
  rintro g rfl
  rcases h.2 with ⟨hv, hn⟩ | ⟨g', cap, cur, hv, hb, hg, hc⟩
  · cases hv
  · cases hv
    exact lt_of_block hg
/-- the Writer is as it was behind an append to the row -/
theorem IsW.far {B B' : Nat} {w w' : World} {b : Nat} {l : List UInt8} {a : Option Addr} {c : Nat} {xs : List ActD} (h : IsW B w b l) (hown : OwnA w B' a c xs) (hg : w.grownBy w' (Value.slice a xs.length c).ownBlock) : IsW B w' b l := by
  obtain ⟨hB, a0, c0, h1, h2⟩ := h
  have key : ∀ (k : Nat) (cs : Array Value) (T : TypeId) (p : Nat × Nat), T ≠ 45 → w.heap[k]? = some (.cells cs T p) → some k ≠ (Value.slice a xs.length c).ownBlock := by
    intro k cs T p hT hk hh
    rcases hown.2 with ⟨hv, _⟩ | ⟨g, cap, cur, hv, _, hgb, _⟩
    · rw [hv] at hh
      cases hh
    · rw [hv] at hh
      obtain rfl : k = g := by simpa [Value.ownBlock] using hh
      rw [hgb] at hk
      simp only [Option.some.injEq, Obj.cells.injEq] at hk
      exact hT hk.2.1.symm
  refine ⟨hB, a0, c0, by rw [hg.block b (lt_of_block h1) (key _ _ _ _ (by decide) h1)]; exact h1, ?_⟩
  refine h2.kept hg ?_
  rcases h2.2 with ⟨hv, _⟩ | ⟨g, cap, cur, hv, _, hgb, _⟩
  · left; rw [hv]; rfl
  · right
    rw [hv]
    exact key g _ _ _ (by decide) hgb
theorem src_act (w : World) (x : ActD) : Src Try.prog 4 39 (.slice (some ⟨w.heap.size, 0, none⟩) 1 1) 1 [.int .i64 x.K, .int .i64 x.W, .int .u64 x.N, .string x.S] (w.alloc (.cells #[.int .i64 x.K, .int .i64 x.W, .int .u64 x.N, .string x.S] 45)) :=
  Src.ofSlice _ Try.underlying39 ⟨w.heap.size, 0, none⟩ 1 1 _ rfl (by
    intro j u hj
    have hg : (w.alloc (.cells #[.int .i64 x.K, .int .i64 x.W, .int .u64 x.N, .string x.S] 45)).heap[w.heap.size]? = some (.cells #[.int .i64 x.K, .int .i64 x.W, .int .u64 x.N, .string x.S] 45 (0, 0)) := heap_alloc_new w _
    generalize w.alloc (.cells #[.int .i64 x.K, .int .i64 x.W, .int .u64 x.N, .string x.S] 45) = w' at *
    rw [show (⟨w.heap.size, 0, none⟩ : Addr).add j = ⟨w.heap.size, j, none⟩ by unfold Addr.add; split <;> simp_all]
    simp only [World.cell?, hg]
    simpa using hj) (by intro u hu; simp at hu; rcases hu with rfl | rfl | rfl | rfl <;> rfl)
theorem infoAct : (Try.prog.info? 45).map (fun i => (i.zero, i.size, i.bytes)) = some (some (.agg #[.int .i64 0, .int .i64 0, .int .u64 0, .string ByteArray.empty]), 4, 40) := by kernel_rfl
theorem fine_snoc {xs : List ActD} {x : ActD} (h : ∀ y ∈ xs, Fine y) (hx : Fine x) : ∀ y ∈ xs ++ [x], Fine y := by
  intro y hy
  rcases List.mem_append.1 hy with h' | h'
  · exact h y h'
  · rw [List.mem_singleton.1 h']; exact hx
theorem extract_last (l : List UInt8) : (text l).extract 0 (l.length - 1) = text l.dropLast := by
  rw [extract_text, byts_text, List.dropLast_eq_take]

set_option maxRecDepth 100000 in
set_option maxHeartbeats 16000000 in
theorem octBack_any (a : Option Addr) (len cap : Nat) (z : Nat → ActD) (w : World) (hlen : len ≤ maxLen) (hr : RowAct w a len z) :
    Calls Try.prog 9 #[.slice a len cap] w fun e w' => e = .returned (.bool true) ∧ Below w.heap.size w w' := by
  replace hlen : len ≤ 9223372036854775807 := by unfold maxLen at hlen; omega
  obtain ⟨i0, hi, hz0, hz1, hz2⟩ := info_parts infoAct
  go_enter Try.func9, Try.ntmps9
  go_wp2_with fail
  refine (awake2_c _).mono ?_
  rintro e w1 ⟨rfl, hb1⟩
  have hrW : RowAct w1 a len z := hr.below hb1
  have hw0 := IsW.new w1.heap.size w1 (Nat.le_refl _)
  have hw1 := hw0.below ((Below.refl _ _).alloc (Nat.le_refl _) (.cells #[] 45))
  have hs1 := hb1.size
  have hbb := ((Below.refl w1.heap.size w1).alloc (Nat.le_refl _) (.cells #[.slice none 0 0] 42)).alloc (by simp) (.cells #[] 45)
  have hown0 := OwnA.nil (w1.alloc (.cells #[.slice none 0 0] 42)) w1.heap.size (by simp)
  have hsw : (w1.alloc (.cells #[.slice none 0 0] 42)).heap.size = w1.heap.size + 1 := by simp
  rw [hsw] at hown0
  clear hr hw0 hsw
  replace hrW := Lib.hid hrW
  replace hw1 := Lib.hid hw1
  replace hbb := Lib.hid hbb
  replace hown0 := Lib.hid hown0
  go_wp2_with fail
  go_loopw [4, 5] (fun s i wr => ∃ (k : Nat) (xs : List ActD), k ≤ 40 ∧ i = .int .i64 k ∧ xs.length ≤ k ∧ (∀ x ∈ xs, Fine x) ∧ (enc xs).length ≤ k * 1100 ∧ (∃ a c, s = .slice a xs.length c ∧ OwnA wr w1.heap.size a c xs) ∧ IsW w1.heap.size wr w1.heap.size (enc xs) ∧ Below w1.heap.size w1 wr) (fun _ i _ => 40 - (intOf i).toNat)
  case atStart => exact ⟨0, [], by omega, rfl, by simp, by simp, by simp [enc], ⟨_, _, rfl, hown0.out⟩, hw1.out, hbb.out⟩
  case round =>
    clear hw1 hbb hown0
    obtain ⟨k, xs, hk, rfl, hxk, hfine, hll, ⟨a', c', rfl, hown⟩, hw, hb⟩ := hrel
    have hsr := hb.size
    have hr := hrW.out.below hb
    replace hfine := Lib.hid hfine
    by_cases hlt : k < len ∧ k < 40
    · obtain ⟨hlt, hlt2⟩ := hlt
      obtain ⟨b0, off, rfl, hl0, ho, c0, c1, c2, c3⟩ := hr k hlt
      obtain ⟨y, hy⟩ : ∃ y, z k = y := ⟨_, rfl⟩
      rw [hy] at ho c0 c1 c2 c3
      clear hy
      have ho2 := ho
      obtain ⟨o1, o2, o3, o4, o5, o6, o7⟩ := ho
      obtain ⟨K, W, N, S⟩ := y
      dsimp only at *
      by_cases hS : 1024 < S.size
      · unfold maxLen at o7
        have hfin := Lib.hid ((hb1.trans (hb.mono hs1)).alloc (by omega) (.cells #[.int .i64 K, .int .i64 W, .int .u64 N, .string S] 45))
        clear hown hw hb hr ho2
        go_wp2_with fail
        go_ret
        exact ⟨rfl, hfin.out⟩
      have hS' : S.size ≤ 1024 := by omega
      have hSz := byts_length S
      have hwa := hw.below ((Below.refl wr.heap.size wr).alloc (Nat.le_refl _) (.cells #[.int .i64 K, .int .i64 W, .int .u64 N, .string S] 45))
      have hba := hb.alloc hsr (.cells #[.int .i64 K, .int .i64 W, .int .u64 N, .string S] 45)
      have hszA := hba.size
      have hown1 := hown.alloc (.cells #[.int .i64 K, .int .i64 W, .int .u64 N, .string S] 45)
      have hag := heap_alloc_new wr (.cells #[.int .i64 K, .int .i64 W, .int .u64 N, .string S] 45)
      have hbase : w1.heap.size ≤ w1.heap.size := Nat.le_refl _
      clear hr hw hb o1 o2 o7 hown
      replace hSz := Lib.hid hSz
      replace hszA := Lib.hid hszA
      replace hba := Lib.hid hba
      replace hwa := Lib.hid hwa
      replace hown1 := Lib.hid hown1
      have hx4 := act4 hag
      obtain ⟨x0, x1, x2, x3⟩ := hx4
      by_cases hK1 : K = 1
      · have t1 : (K == 1) = true := beq_iff_eq.2 hK1
        have he8 : encA ⟨K, W, N, S⟩ = le W.toNat N := if_pos hK1
        cases hok : okNum W N with
        | true =>
          have hme : Fine ⟨K, W, N, S⟩ := ⟨.inl ⟨hK1, hok⟩, ho2, hS'⟩
          have hWn : W.toNat ≤ 8 := by have := (okNum_iff hok).1; omega
          have he9 : (encA ⟨K, W, N, S⟩).length = W.toNat := by rw [he8, le_length]
          have cw := num_k hwa.out W N o5 o6 (by omega)
          rw [hok, if_pos rfl] at cw
          clear hK1 hok
          replace he8 := Lib.hid he8
          replace he9 := Lib.hid he9
          replace hme := Lib.hid hme
          replace cw := Lib.hid cw
          clear ho2
          go_wp2_with fail
          refine cw.out.mono ?_
          rintro e w3 ⟨rfl, hw3, hbw, hkw⟩
          have hb3 := hba.out.trans (hbw.mono hbase)
          have hown3 := hown1.out.keep hkw
          obtain ⟨d0, d1, d2, d3⟩ := act4 (hkw _ _ _ _ (by decide) (by decide) hag)
          have hsz3 := hb3.size
          have hW4 := hw3.below ((Below.refl w3.heap.size w3).alloc (Nat.le_refl _) (.cells #[.int .i64 K, .int .i64 W, .int .u64 N, .string S] 45))
          have hb4 := hb3.alloc hsz3 (.cells #[.int .i64 K, .int .i64 W, .int .u64 N, .string S] 45)
          have hsz4 := hb4.size
          have hown4 := hown3.alloc (.cells #[.int .i64 K, .int .i64 W, .int .u64 N, .string S] 45)
          have hsrc := src_act w3 ⟨K, W, N, S⟩
          clear hown3 hag hkw hbw
          replace hW4 := Lib.hid hW4
          replace hb4 := Lib.hid hb4
          replace hown4 := Lib.hid hown4
          go_wp2_with (at_builtin; refine wpList_append_own_src _ rfl (.tmp 76) (.tmp 78) 39 39 rfl w1.heap.size 45 i0 (.agg #[.int .i64 0, .int .i64 0, .int .u64 0, .string ByteArray.empty]) 4 40 Try.underlying39 hi hz0 hz1 hz2 rfl rfl hown4.out rfl hsrc ?_ ?_ ?_ ?_)
          · unfold maxLen; omega
          · omega
          · exact hsz4
          intro b' d' w5 hown5 hg5
          have hW5 := Lib.hid (hW4.out.far hown4.out hg5)
          have hb5 := Lib.hid (Below.grown hb4.out hg5 hsz4 (fun q hq => by have := World.ownsRow.lt hown4.out q hq; omega))
          rw [show ([.int .i64 K, .int .i64 W, .int .u64 N, .string S] : List Value) = av [⟨K, W, N, S⟩] from rfl, ← av_append] at hown5
          have hown6 : OwnA w5 w1.heap.size b' d' (xs ++ [⟨K, W, N, S⟩]) := by
            unfold OwnA
            rw [List.length_append]
            exact hown5
          replace hown6 := Lib.hid hown6
          have hfine' := Lib.hid (fine_snoc hfine.out hme.out)
          clear hown5 hg5 hsrc hown4 hW4 hb4 hown1
          go_wp2_with fail
          go_roundw
          case rel => exact ⟨k + 1, xs ++ [⟨K, W, N, S⟩], by omega, by go_num, by rw [List.length_append]; simp; omega, hfine'.out, by rw [enc_snoc, List.length_append, he9.out]; omega, ⟨b', d', by rw [List.length_append]; rfl, hown6.out⟩, by rw [enc_snoc, he8.out]; exact hW5.out, hb5.out⟩
          case measure => simp [intOf]; omega
        | false =>
          have cw := num_k hwa.out W N o5 o6 (by omega)
          rw [hok, if_neg (by decide), List.append_nil] at cw
          have q2 : (K == 2) = false := beq_eq_false_iff_ne.2 (by omega)
          have q3 : (K == 3) = false := beq_eq_false_iff_ne.2 (by omega)
          have q4 : (K == 4) = false := beq_eq_false_iff_ne.2 (by omega)
          clear hK1 hok he8 ho2
          replace cw := Lib.hid cw
          go_wp2_with fail
          refine cw.out.mono ?_
          rintro e w3 ⟨rfl, hw3, hbw, hkw⟩
          have hb3 := Lib.hid (hba.out.trans hbw)
          replace hown1 := Lib.hid (hown1.out.keep hkw)
          replace hw3 := Lib.hid hw3
          obtain ⟨d0, d1, d2, d3⟩ := act4 (hkw _ _ _ _ (by decide) (by decide) hag)
          clear hbw hkw hag cw
          go_wp2_with fail
          go_roundw
          case rel => exact ⟨k + 1, xs, by omega, by go_num, by omega, hfine.out, by omega, ⟨a', c', rfl, hown1.out⟩, hw3.out, hb3.out⟩
          case measure => simp [intOf]; omega
      have t1 : (K == 1) = false := beq_eq_false_iff_ne.2 hK1
      by_cases hK2 : K = 2
      · have t2 : (K == 2) = true := beq_iff_eq.2 hK2
        have he8 : encA ⟨K, W, N, S⟩ = le 1 (S.size : Int) ++ byts S := by unfold encA; rw [if_neg hK1, if_pos hK2]
        clear hK1
        by_cases h255 : S.size ≤ 255
        · have hme : Fine ⟨K, W, N, S⟩ := ⟨.inr (.inl ⟨hK2, h255⟩), ho2, hS'⟩
          have he9 : (encA ⟨K, W, N, S⟩).length = 1 + S.size := by rw [he8, List.length_append, le_length, hSz.out]
          have cw := name_k hwa.out S h255 (by omega)
          clear hK2 ho2
          replace he8 := Lib.hid he8
          replace he9 := Lib.hid he9
          replace hme := Lib.hid hme
          replace cw := Lib.hid cw
          go_wp2_with fail
          refine cw.out.mono ?_
          rintro e w3 ⟨rfl, hw3, hbw, hkw⟩
          have hb3 := hba.out.trans (hbw.mono hbase)
          have hown3 := hown1.out.keep hkw
          obtain ⟨d0, d1, d2, d3⟩ := act4 (hkw _ _ _ _ (by decide) (by decide) hag)
          have hsz3 := hb3.size
          have hW4 := hw3.below ((Below.refl w3.heap.size w3).alloc (Nat.le_refl _) (.cells #[.int .i64 K, .int .i64 W, .int .u64 N, .string S] 45))
          have hb4 := hb3.alloc hsz3 (.cells #[.int .i64 K, .int .i64 W, .int .u64 N, .string S] 45)
          have hsz4 := hb4.size
          have hown4 := hown3.alloc (.cells #[.int .i64 K, .int .i64 W, .int .u64 N, .string S] 45)
          have hsrc := src_act w3 ⟨K, W, N, S⟩
          clear hown3 hag hkw hbw
          replace hW4 := Lib.hid hW4
          replace hb4 := Lib.hid hb4
          replace hown4 := Lib.hid hown4
          go_wp2_with (at_builtin; refine wpList_append_own_src _ rfl (.tmp 76) (.tmp 78) 39 39 rfl w1.heap.size 45 i0 (.agg #[.int .i64 0, .int .i64 0, .int .u64 0, .string ByteArray.empty]) 4 40 Try.underlying39 hi hz0 hz1 hz2 rfl rfl hown4.out rfl hsrc ?_ ?_ ?_ ?_)
          · unfold maxLen; omega
          · omega
          · exact hsz4
          intro b' d' w5 hown5 hg5
          have hW5 := Lib.hid (hW4.out.far hown4.out hg5)
          have hb5 := Lib.hid (Below.grown hb4.out hg5 hsz4 (fun q hq => by have := World.ownsRow.lt hown4.out q hq; omega))
          rw [show ([.int .i64 K, .int .i64 W, .int .u64 N, .string S] : List Value) = av [⟨K, W, N, S⟩] from rfl, ← av_append] at hown5
          have hown6 : OwnA w5 w1.heap.size b' d' (xs ++ [⟨K, W, N, S⟩]) := by
            unfold OwnA
            rw [List.length_append]
            exact hown5
          replace hown6 := Lib.hid hown6
          have hfine' := Lib.hid (fine_snoc hfine.out hme.out)
          clear hown5 hg5 hsrc hown4 hW4 hb4 hown1
          go_wp2_with fail
          go_roundw
          case rel => exact ⟨k + 1, xs ++ [⟨K, W, N, S⟩], by omega, by go_num, by rw [List.length_append]; simp; omega, hfine'.out, by rw [enc_snoc, List.length_append, he9.out]; omega, ⟨b', d', by rw [List.length_append]; rfl, hown6.out⟩, by rw [enc_snoc, he8.out]; exact hW5.out, hb5.out⟩
          case measure => simp [intOf]; omega
        · have cw := name_no (w := wr.alloc (.cells #[.int .i64 K, .int .i64 W, .int .u64 N, .string S] 45)) (.pointer (some ⟨w1.heap.size, 0, none⟩)) S (by omega) (by unfold maxLen; omega)
          have hw3 := hwa
          have hb3 := hba
          have q3 : (K == 3) = false := beq_eq_false_iff_ne.2 (by omega)
          have q4 : (K == 4) = false := beq_eq_false_iff_ne.2 (by omega)
          clear hK2 ho2 he8
          replace cw := Lib.hid cw
          go_wp2_with fail
          refine cw.out.mono ?_
          rintro e w3 ⟨rfl, rfl⟩
          go_wp2_with fail
          go_roundw
          case rel => exact ⟨k + 1, xs, by omega, by go_num, by omega, hfine.out, by omega, ⟨a', c', rfl, hown1.out⟩, hw3.out, hb3.out⟩
          case measure => simp [intOf]; omega
      have t2 : (K == 2) = false := beq_eq_false_iff_ne.2 hK2
      by_cases hK3 : K = 3
      · have t3 : (K == 3) = true := beq_iff_eq.2 hK3
        have he8 : encA ⟨K, W, N, S⟩ = le 4 (S.size : Int) ++ byts S := by unfold encA; rw [if_neg hK1, if_neg hK2, if_pos hK3]
        have hme : Fine ⟨K, W, N, S⟩ := ⟨.inr (.inr (.inl hK3)), ho2, hS'⟩
        have he9 : (encA ⟨K, W, N, S⟩).length = 4 + S.size := by rw [he8, List.length_append, le_length, hSz.out]
        have cw := part_k hwa.out S (by omega) (by omega)
        clear hK1 hK2 hK3 ho2
        replace he8 := Lib.hid he8
        replace he9 := Lib.hid he9
        replace hme := Lib.hid hme
        replace cw := Lib.hid cw
        go_wp2_with fail
        refine cw.out.mono ?_
        rintro e w3 ⟨rfl, hw3, hbw, hkw⟩
        have hb3 := hba.out.trans (hbw.mono hbase)
        have hown3 := hown1.out.keep hkw
        obtain ⟨d0, d1, d2, d3⟩ := act4 (hkw _ _ _ _ (by decide) (by decide) hag)
        have hsz3 := hb3.size
        have hW4 := hw3.below ((Below.refl w3.heap.size w3).alloc (Nat.le_refl _) (.cells #[.int .i64 K, .int .i64 W, .int .u64 N, .string S] 45))
        have hb4 := hb3.alloc hsz3 (.cells #[.int .i64 K, .int .i64 W, .int .u64 N, .string S] 45)
        have hsz4 := hb4.size
        have hown4 := hown3.alloc (.cells #[.int .i64 K, .int .i64 W, .int .u64 N, .string S] 45)
        have hsrc := src_act w3 ⟨K, W, N, S⟩
        clear hown3 hag hkw hbw
        replace hW4 := Lib.hid hW4
        replace hb4 := Lib.hid hb4
        replace hown4 := Lib.hid hown4
        go_wp2_with (at_builtin; refine wpList_append_own_src _ rfl (.tmp 76) (.tmp 78) 39 39 rfl w1.heap.size 45 i0 (.agg #[.int .i64 0, .int .i64 0, .int .u64 0, .string ByteArray.empty]) 4 40 Try.underlying39 hi hz0 hz1 hz2 rfl rfl hown4.out rfl hsrc ?_ ?_ ?_ ?_)
        · unfold maxLen; omega
        · omega
        · exact hsz4
        intro b' d' w5 hown5 hg5
        have hW5 := Lib.hid (hW4.out.far hown4.out hg5)
        have hb5 := Lib.hid (Below.grown hb4.out hg5 hsz4 (fun q hq => by have := World.ownsRow.lt hown4.out q hq; omega))
        rw [show ([.int .i64 K, .int .i64 W, .int .u64 N, .string S] : List Value) = av [⟨K, W, N, S⟩] from rfl, ← av_append] at hown5
        have hown6 : OwnA w5 w1.heap.size b' d' (xs ++ [⟨K, W, N, S⟩]) := by
          unfold OwnA
          rw [List.length_append]
          exact hown5
        replace hown6 := Lib.hid hown6
        have hfine' := Lib.hid (fine_snoc hfine.out hme.out)
        clear hown5 hg5 hsrc hown4 hW4 hb4 hown1
        go_wp2_with fail
        go_roundw
        case rel => exact ⟨k + 1, xs ++ [⟨K, W, N, S⟩], by omega, by go_num, by rw [List.length_append]; simp; omega, hfine'.out, by rw [enc_snoc, List.length_append, he9.out]; omega, ⟨b', d', by rw [List.length_append]; rfl, hown6.out⟩, by rw [enc_snoc, he8.out]; exact hW5.out, hb5.out⟩
        case measure => simp [intOf]; omega
      have t3 : (K == 3) = false := beq_eq_false_iff_ne.2 hK3
      by_cases hK4 : K = 4
      · have t4 : (K == 4) = true := beq_iff_eq.2 hK4
        have he8 : encA ⟨K, W, N, S⟩ = byts S := by unfold encA; rw [if_neg hK1, if_neg hK2, if_neg hK3]
        have hme : Fine ⟨K, W, N, S⟩ := ⟨.inr (.inr (.inr hK4)), ho2, hS'⟩
        have he9 : (encA ⟨K, W, N, S⟩).length = S.size := by rw [he8, hSz.out]
        have cw := raw_k hwa.out S (by omega)
        clear hK1 hK2 hK3 hK4 ho2
        replace he8 := Lib.hid he8
        replace he9 := Lib.hid he9
        replace hme := Lib.hid hme
        replace cw := Lib.hid cw
        go_wp2_with fail
        refine cw.out.mono ?_
        rintro e w3 ⟨rfl, hw3, hbw, hkw⟩
        have hb3 := hba.out.trans (hbw.mono hbase)
        have hown3 := hown1.out.keep hkw
        obtain ⟨d0, d1, d2, d3⟩ := act4 (hkw _ _ _ _ (by decide) (by decide) hag)
        have hsz3 := hb3.size
        have hW4 := hw3.below ((Below.refl w3.heap.size w3).alloc (Nat.le_refl _) (.cells #[.int .i64 K, .int .i64 W, .int .u64 N, .string S] 45))
        have hb4 := hb3.alloc hsz3 (.cells #[.int .i64 K, .int .i64 W, .int .u64 N, .string S] 45)
        have hsz4 := hb4.size
        have hown4 := hown3.alloc (.cells #[.int .i64 K, .int .i64 W, .int .u64 N, .string S] 45)
        have hsrc := src_act w3 ⟨K, W, N, S⟩
        clear hown3 hag hkw hbw
        replace hW4 := Lib.hid hW4
        replace hb4 := Lib.hid hb4
        replace hown4 := Lib.hid hown4
        go_wp2_with (at_builtin; refine wpList_append_own_src _ rfl (.tmp 76) (.tmp 78) 39 39 rfl w1.heap.size 45 i0 (.agg #[.int .i64 0, .int .i64 0, .int .u64 0, .string ByteArray.empty]) 4 40 Try.underlying39 hi hz0 hz1 hz2 rfl rfl hown4.out rfl hsrc ?_ ?_ ?_ ?_)
        · unfold maxLen; omega
        · omega
        · exact hsz4
        intro b' d' w5 hown5 hg5
        have hW5 := Lib.hid (hW4.out.far hown4.out hg5)
        have hb5 := Lib.hid (Below.grown hb4.out hg5 hsz4 (fun q hq => by have := World.ownsRow.lt hown4.out q hq; omega))
        rw [show ([.int .i64 K, .int .i64 W, .int .u64 N, .string S] : List Value) = av [⟨K, W, N, S⟩] from rfl, ← av_append] at hown5
        have hown6 : OwnA w5 w1.heap.size b' d' (xs ++ [⟨K, W, N, S⟩]) := by
          unfold OwnA
          rw [List.length_append]
          exact hown5
        replace hown6 := Lib.hid hown6
        have hfine' := Lib.hid (fine_snoc hfine.out hme.out)
        clear hown5 hg5 hsrc hown4 hW4 hb4 hown1
        go_wp2_with fail
        go_roundw
        case rel => exact ⟨k + 1, xs ++ [⟨K, W, N, S⟩], by omega, by go_num, by rw [List.length_append]; simp; omega, hfine'.out, by rw [enc_snoc, List.length_append, he9.out]; omega, ⟨b', d', by rw [List.length_append]; rfl, hown6.out⟩, by rw [enc_snoc, he8.out]; exact hW5.out, hb5.out⟩
        case measure => simp [intOf]; omega
      have t4 : (K == 4) = false := beq_eq_false_iff_ne.2 hK4
      have hw3 := hwa
      have hb3 := hba
      clear hK1 hK2 hK3 hK4 ho2
      go_wp2_with fail
      go_roundw
      case rel => exact ⟨k + 1, xs, by omega, by go_num, by omega, hfine.out, by omega, ⟨a', c', rfl, hown1.out⟩, hw3.out, hb3.out⟩
      case measure => simp [intOf]; omega
    · have hgood := back_good xs hfine.out
      have hshort := back_short xs hfine.out
      have hSx : ∀ x ∈ xs, x.S.size ≤ 1024 := fun x hx => (hfine.out x hx).2.2
      have cs := string_c hw
      have hob := hown.lt
      have hfin := hb1.trans (hb.mono hs1)
      have hfs := hfin.size
      clear hw hb hr hfine
      generalize hE : enc xs = E at *
      have hR := IsR.new wr 68 E
      have hb2 := hfin.alloc hfs (.cells #[.string (text E), .bool false] 68)
      have ho2 := (hown.alloc (.cells #[.string (text E), .bool false] 68)).in
      have cb := back_c xs (by omega) hSx a' c' wr.heap.size E false (by omega) _ ho2 hR (fun g hg => by have := hob g hg; omega)
      rw [hgood] at cb
      have hsz : (wr.alloc (.cells #[.string (text E), .bool false] 68)).heap.size = wr.heap.size + 1 := by simp
      have hts := text_size E
      have hxl := extract_last E
      have hEl : (E.length : Int) ≤ 44000 := by omega
      clear hgood hown
      replace cb := Lib.hid cb
      replace cs := Lib.hid cs
      replace hb2 := Lib.hid hb2
      replace ho2 := Lib.hid ho2
      replace hob := Lib.hid hob
      replace hSx := Lib.hid hSx
      replace hshort := Lib.hid hshort
      replace hfin := Lib.hid hfin
      replace hxl := Lib.hid hxl
      replace hE := Lib.hid hE
      have step : ∀ (g : (¬ (k < len ∧ k < 40))), (k < len ∧ 40 ≤ k) ∨ len ≤ k := fun _ => by omega
      have hcase := step hlt
      clear step hlt
      rcases hcase with ⟨h1, h2⟩ | h1
      · go_wp2_with fail
        refine cs.out.mono ?_
        rintro e w' ⟨rfl, rfl⟩
        go_wp2_with fail
        refine (read_c _ _).mono ?_
        rintro e w2 ⟨rfl, rfl⟩
        go_wp2_with fail
        refine cb.out.mono ?_
        rintro e w3 ⟨rfl, hR3, hg3⟩
        have hsz3 := hg3.size
        have hb3 := hb2.out.grown hg3 (by omega) (fun q hq => by cases hq; omega)
        have ho3 := ho2.out.other hg3 (fun g hg _ => by have := hob.out g hg; omega)
        clear hg3 hb2 ho2 cb hR3
        by_cases hne : E = []
        · subst hne
          have e1 : (((text []).size : Int) == 0) = true := rfl
          replace hb3 := Lib.hid hb3
          go_wp2_with fail
          go_ret
          exact ⟨rfl, hb3.out⟩
        · have e1 : (((text E).size : Int) == 0) = false := by
            have := List.length_pos_iff.2 hne
            rw [beq_eq_false_iff_ne]
            omega
          have hpos := List.length_pos_iff.2 hne
          have hsh := hshort.out hne
          have hR4 := IsR.new w3 68 E.dropLast
          have hq3 : w.heap.size ≤ w3.heap.size := by omega
          have hb4 := hb3.alloc hq3 (.cells #[.string (text E.dropLast), .bool false] 68)
          have hb30 : Below w3.heap.size w3 (w3.alloc (.cells #[.string (text E.dropLast), .bool false] 68)) := (Below.refl _ _).alloc (Nat.le_refl _) _
          have ho4 : InA (w3.alloc (.cells #[.string (text E.dropLast), .bool false] 68)) a' xs := by
            rcases ho3 with h | ⟨g, h1, h2, h3⟩
            · exact .inl h
            · exact .inr ⟨g, h1, by simp; omega, fun j hj => ⟨by rw [hb30.cell (p := ⟨g, j * 4, none⟩) h2]; exact (h3 j hj).1, by rw [hb30.cell (p := ⟨g, j * 4 + 1, none⟩) h2]; exact (h3 j hj).2.1, by rw [hb30.cell (p := ⟨g, j * 4 + 2, none⟩) h2]; exact (h3 j hj).2.2.1, by rw [hb30.cell (p := ⟨g, j * 4 + 3, none⟩) h2]; exact (h3 j hj).2.2.2⟩⟩
          have cb4 := back_c xs (by omega) hSx.out a' c' w3.heap.size E.dropLast false (by rw [List.length_dropLast]; omega) _ ho4 hR4 (fun g hg => by have := hob.out g hg; omega)
          obtain ⟨st, hst⟩ : ∃ st, backF xs E.dropLast false = st := ⟨_, rfl⟩
          rw [hst] at cb4 hsh
          obtain ⟨r1, r2, r3⟩ := st
          obtain ⟨q1, q2⟩ := hsh
          dsimp only at q1 q2 cb4
          subst q1 q2
          have hsz4 : (w3.alloc (.cells #[.string (text E.dropLast), .bool false] 68)).heap.size = w3.heap.size + 1 := by simp
          clear hst hb30 ho4 ho3 hR4 hshort
          replace cb4 := Lib.hid cb4
          replace hb4 := Lib.hid hb4
          have hxl' := hxl.out
          clear hb3
          go_wp2_with fail
          refine (read_c _ _).mono ?_
          rintro e w5 ⟨rfl, rfl⟩
          go_wp2_with fail
          refine cb4.out.mono ?_
          rintro e w6 ⟨rfl, hR6, hg6⟩
          have hb6 := Lib.hid (hb4.out.grown hg6 (by omega) (fun q hq => by cases hq; omega))
          have cd := Lib.hid (done_c hR6)
          clear hg6 hb4 cb4 hR6
          go_wp2_with fail
          refine cd.out.mono ?_
          rintro e w' ⟨rfl, rfl⟩
          go_wp2_with fail
          go_ret
          exact ⟨rfl, hb6.out⟩
      · go_wp2_with fail
        refine cs.out.mono ?_
        rintro e w' ⟨rfl, rfl⟩
        go_wp2_with fail
        refine (read_c _ _).mono ?_
        rintro e w2 ⟨rfl, rfl⟩
        go_wp2_with fail
        refine cb.out.mono ?_
        rintro e w3 ⟨rfl, hR3, hg3⟩
        have hsz3 := hg3.size
        have hb3 := hb2.out.grown hg3 (by omega) (fun q hq => by cases hq; omega)
        have ho3 := ho2.out.other hg3 (fun g hg _ => by have := hob.out g hg; omega)
        clear hg3 hb2 ho2 cb hR3
        by_cases hne : E = []
        · subst hne
          have e1 : (((text []).size : Int) == 0) = true := rfl
          replace hb3 := Lib.hid hb3
          go_wp2_with fail
          go_ret
          exact ⟨rfl, hb3.out⟩
        · have e1 : (((text E).size : Int) == 0) = false := by
            have := List.length_pos_iff.2 hne
            rw [beq_eq_false_iff_ne]
            omega
          have hpos := List.length_pos_iff.2 hne
          have hsh := hshort.out hne
          have hR4 := IsR.new w3 68 E.dropLast
          have hq3 : w.heap.size ≤ w3.heap.size := by omega
          have hb4 := hb3.alloc hq3 (.cells #[.string (text E.dropLast), .bool false] 68)
          have hb30 : Below w3.heap.size w3 (w3.alloc (.cells #[.string (text E.dropLast), .bool false] 68)) := (Below.refl _ _).alloc (Nat.le_refl _) _
          have ho4 : InA (w3.alloc (.cells #[.string (text E.dropLast), .bool false] 68)) a' xs := by
            rcases ho3 with h | ⟨g, h1, h2, h3⟩
            · exact .inl h
            · exact .inr ⟨g, h1, by simp; omega, fun j hj => ⟨by rw [hb30.cell (p := ⟨g, j * 4, none⟩) h2]; exact (h3 j hj).1, by rw [hb30.cell (p := ⟨g, j * 4 + 1, none⟩) h2]; exact (h3 j hj).2.1, by rw [hb30.cell (p := ⟨g, j * 4 + 2, none⟩) h2]; exact (h3 j hj).2.2.1, by rw [hb30.cell (p := ⟨g, j * 4 + 3, none⟩) h2]; exact (h3 j hj).2.2.2⟩⟩
          have cb4 := back_c xs (by omega) hSx.out a' c' w3.heap.size E.dropLast false (by rw [List.length_dropLast]; omega) _ ho4 hR4 (fun g hg => by have := hob.out g hg; omega)
          obtain ⟨st, hst⟩ : ∃ st, backF xs E.dropLast false = st := ⟨_, rfl⟩
          rw [hst] at cb4 hsh
          obtain ⟨r1, r2, r3⟩ := st
          obtain ⟨q1, q2⟩ := hsh
          dsimp only at q1 q2 cb4
          subst q1 q2
          have hsz4 : (w3.alloc (.cells #[.string (text E.dropLast), .bool false] 68)).heap.size = w3.heap.size + 1 := by simp
          clear hst hb30 ho4 ho3 hR4 hshort
          replace cb4 := Lib.hid cb4
          replace hb4 := Lib.hid hb4
          have hxl' := hxl.out
          clear hb3
          go_wp2_with fail
          refine (read_c _ _).mono ?_
          rintro e w5 ⟨rfl, rfl⟩
          go_wp2_with fail
          refine cb4.out.mono ?_
          rintro e w6 ⟨rfl, hR6, hg6⟩
          have hb6 := Lib.hid (hb4.out.grown hg6 (by omega) (fun q hq => by cases hq; omega))
          have cd := Lib.hid (done_c hR6)
          clear hg6 hb4 cb4 hR6
          go_wp2_with fail
          refine cd.out.mono ?_
          rintro e w' ⟨rfl, rfl⟩
          go_wp2_with fail
          go_ret
          exact ⟨rfl, hb6.out⟩
end Go.Proofs.Ytaddckdbhakgmaa
