/- the walk over sig.Parse -/
import Derived.Test.YtmikhngmclngiaaDoorSgY
namespace Go.Proofs.YtmikhngmclngiaaDoor
open Go.RowKit
open Rf
open Sg
open Wide

/-- what the library's variables hold, as far as it is read -/
structure Glob (w : World) : Prop where
  e0 : ∃ t p, w.cell? ⟨0, 0, none⟩ = some (.iface t p)
  e1 : ∃ t p, w.cell? ⟨1, 0, none⟩ = some (.iface t p)
  mx : ∃ m, w.cell? ⟨2, 0, none⟩ = some (.int .i64 m)
  sz : 3 ≤ w.heap.size
theorem Glob.below {w w' : World} {B : Nat} (h : Glob w) (hb : Below B w w') (hB : 3 ≤ B) : Glob w' := by
  refine ⟨?_, ?_, ?_, Nat.le_trans h.sz hb.size⟩
  · obtain ⟨t, p, hc⟩ := h.e0
    exact ⟨t, p, by rw [hb.cell (p := ⟨0, 0, none⟩) (show 0 < B by omega)]; exact hc⟩
  · obtain ⟨t, p, hc⟩ := h.e1
    exact ⟨t, p, by rw [hb.cell (p := ⟨1, 0, none⟩) (show 1 < B by omega)]; exact hc⟩
  · obtain ⟨m, hc⟩ := h.mx
    exact ⟨m, by rw [hb.cell (p := ⟨2, 0, none⟩) (show 2 < B by omega)]; exact hc⟩
theorem Glob.on {w w' : World} (h : Glob w) (hb : Below w.heap.size w w') : Glob w' := h.below hb h.sz
namespace Sg
/-- the int that a text is taken for -/
def atoiV (l : List UInt8) : Int := match Lib.atoiAll l with
  | .ok v => v
  | .range => Lib.atoiSat l
  | _ => 0
/-- the pieces between the plusses -/
def pieces (s : ByteArray) : List ByteArray := Lib.splitB ⟨#[43]⟩ 0 (Lib.countB s ⟨#[43]⟩) s
def outOf (s : ByteArray) : Nat := setOf ((pieces s).map fun x => atoiV x.data.toList)
def parseS (s : ByteArray) : Nat × Int := if textS (outOf s) = byts s then (outOf s, 0) else (0, 4)
end Sg
theorem below_bytes (w : World) (e : TypeId) (s : ByteArray) : Below w.heap.size w (Lib.bytesWorld w e s) := by
  refine ⟨rfl, rfl, rfl, ?_, fun k hk => Lib.bytesWorld_at_old w e s k hk⟩
  unfold Lib.bytesWorld
  simp [World.freeze, World.alloc, World.drew, -World.alloc_eq, -World.drew_eq]
theorem atoi_c (s : ByteArray) (hs : s.size ≤ 281474976710656) (w : World) (hg : Glob w) :
    Calls Tryd.prog 29 #[.string s] w fun e w' => ∃ ev, e = .returned (.tuple #[.int .i64 (atoiV s.data.toList), ev]) ∧ Below w.heap.size w w' := by
  unfold atoiV
  cases h : Lib.atoiAll s.data.toList
  · rename_i v
    exact (Go.Proofs.Any.strconv_Atoi_ok Tryd.laysC172 s (by omega) v h w).mono fun e w' ⟨h1, h2⟩ => ⟨_, h1, by
      rcases h2 with rfl | ⟨t, rfl⟩
      · exact Below.refl _ _
      · exact below_bytes w _ t⟩
  · obtain ⟨t, p, hc⟩ := hg.e0
    exact (Go.Proofs.Any.strconv_Atoi_syntax Tryd.laysC172 s hs h _ w hc (.inr ⟨t, p, rfl⟩)).mono fun e w' ⟨N, h1, _, _, h2⟩ => ⟨_, h1, h2⟩
  · obtain ⟨t, p, hc⟩ := hg.e1
    exact (Go.Proofs.Any.strconv_Atoi_range Tryd.laysC172 s hs h _ w hc (.inr ⟨t, p, rfl⟩)).mono fun e w' ⟨N, h1, _, _, h2⟩ => ⟨_, h1, h2⟩
theorem extract_le (s : ByteArray) (i j : Nat) : (s.extract i j).size ≤ s.size := by
  rw [ByteArray.size_extract]
  omega
theorem split_le (sep : ByteArray) : ∀ (k : Nat) (s : ByteArray), ∀ x ∈ Lib.splitB sep 0 k s, x.size ≤ s.size
  | 0, s, x, hx => by
    rw [Lib.splitB_zero] at hx
    rw [List.mem_singleton.1 hx]
    exact Nat.le_refl _
  | k + 1, s, x, hx => by
    unfold Lib.splitB at hx
    split at hx
    · rw [List.mem_singleton.1 hx]
      exact Nat.le_refl _
    · rcases List.mem_cons.1 hx with rfl | h
      · exact extract_le s _ _
      · exact Nat.le_trans (split_le sep k _ x h) (extract_le s _ _)
theorem pieces_le (s : ByteArray) : ∀ x ∈ pieces s, x.size ≤ s.size := split_le _ _ s
theorem pieces_len (s : ByteArray) : (pieces s).length = Lib.countB s ⟨#[43]⟩ + 1 := Lib.splitB_all ⟨#[43]⟩ (by decide) 0 _ s rfl
theorem split_c (s : ByteArray) (hs : s.size ≤ 100000) (w : World) (hg : Glob w) :
    Calls Tryd.prog 28 #[.string s, .string ⟨#[43]⟩] w fun e w' => e = .returned (.slice (some ⟨w.heap.size, 0, none⟩) (pieces s).length (pieces s).length) ∧ w' = w.alloc (.cells ((pieces s).map Value.string).toArray 9) := by
  obtain ⟨m, hc⟩ := hg.mx
  have h := Go.Proofs.Any.strings_Split Tryd.lays146 (by kernel_rfl) s ⟨#[43]⟩ m w (by omega) hc (by decide)
  rw [pieces_len]
  exact h

set_option maxRecDepth 100000 in
set_option maxHeartbeats 4000000 in
theorem parse_c (s : ByteArray) (hs : s.size ≤ 100000) (w : World) (hg : Glob w) :
    Calls Tryd.prog 13 #[.string s] w fun e w' => e = .returned (.tuple #[.int .u32 (((parseS s).1 : Nat) : Int), .int .i64 (parseS s).2]) ∧ Below w.heap.size w w' := by
  have csp := split_c s hs w hg
  have hple := pieces_le s
  have hpl : (pieces s).length ≤ 100001 := by
    rw [pieces_len]
    have := Lib.countB_le ⟨#[43]⟩ (by decide) s.size s (Nat.le_refl _)
    omega
  obtain ⟨rP, hrP⟩ : ∃ r, parseS s = r := ⟨_, rfl⟩
  rw [hrP]
  unfold parseS outOf at hrP
  generalize pieces s = P at *
  replace csp := Lib.hid csp
  replace hrP := Lib.hid hrP
  have hgW := hg.on (below1 w (.cells (P.map Value.string).toArray 9))
  have hcell : ∀ j (hj : j < P.length), (w.alloc (.cells (P.map Value.string).toArray 9)).cell? ⟨w.heap.size, j, none⟩ = some (.string P[j]) := fun j hj => by
    rw [(IsC.new w 9 (P.map Value.string).toArray).cell j]
    simp [hj]
  have hb0 := below1 w (.cells (P.map Value.string).toArray 9)
  have hlt0 : w.heap.size < (w.alloc (.cells (P.map Value.string).toArray 9)).heap.size := by rw [size_alloc]; omega
  go_enter Tryd.func13, Tryd.ntmps13
  replace hgW := Lib.hid hgW
  replace hcell := Lib.hid hcell
  replace hb0 := Lib.hid hb0
  go_wp2_with fail
  refine csp.out.mono ?_
  rintro e w1 ⟨rfl, rfl⟩
  generalize w.alloc (.cells (P.map Value.string).toArray 9) = W at *
  go_wp2_with fail
  go_loopw [4, 12] (fun o i wr => ∃ j : Nat, j ≤ P.length ∧ i = .int .i64 j ∧ o = .int .u32 ((setOf ((P.take j).map fun x => atoiV x.data.toList) : Nat) : Int) ∧ Below W.heap.size W wr) (fun _ i _ => P.length - (intOf i).toNat)
  case atStart => exact ⟨0, Nat.zero_le _, rfl, rfl, Below.refl _ _⟩
  case round =>
    obtain ⟨j, hj, rfl, rfl, hbr⟩ := hrel
    by_cases hlt : j < P.length
    · have hc : wr.cell? ⟨w.heap.size, j, none⟩ = some (.string P[j]) := by
        rw [hbr.cell (p := ⟨w.heap.size, j, none⟩) hlt0]
        exact hcell.out j hlt
      have hst : (P.take (j + 1)).map (fun x => atoiV x.data.toList) = (P.take j).map (fun x => atoiV x.data.toList) ++ [atoiV P[j].data.toList] := by
        rw [List.take_succ_eq_append_getElem hlt, List.map_append]
        rfl
      have hltI : (j : Int) < (P.length : Int) := by omega
      have hsz := hple P[j] (List.getElem_mem hlt)
      have hsl := setOf_lt ((P.take j).map fun x => atoiV x.data.toList)
      have hnext := congrArg setOf hst
      rw [setOf_snoc] at hnext
      clear hst
      generalize P[j] = x at *
      have hgr := hgW.out.on hbr
      have cA := atoi_c x (by omega) wr hgr
      generalize atoiV x.data.toList = v at *
      obtain ⟨S', hS'⟩ : ∃ S', setOf ((P.take (j + 1)).map fun x => atoiV x.data.toList) = S' := ⟨_, rfl⟩
      rw [hS'] at hnext
      generalize setOf ((P.take j).map fun x => atoiV x.data.toList) = S at *
      have cW := with_c S hsl v
      rw [← hnext] at cW
      have hwz := hbr.size
      clear hnext hgr
      replace hS' := Lib.hid hS'
      replace cA := Lib.hid cA
      replace cW := Lib.hid cW
      replace hbr := Lib.hid hbr
      go_wp2_with fail
      refine cA.out.mono ?_
      rintro e w2 ⟨ev, rfl, hb2⟩
      have hfin := Lib.hid (below_up hbr.out hwz hb2)
      clear hbr hb2
      go_wp2_with fail
      refine (cW.out.on _).mono ?_
      rintro e w3 ⟨rfl, rfl⟩
      go_wp2_with fail
      go_roundw
      case rel => exact ⟨j + 1, by omega, by go_num, by rw [hS'.out], hfin.out⟩
      case measure => simp [intOf]; omega
    · obtain rfl : j = P.length := by omega
      rw [List.take_length]
      have hsl := setOf_lt (P.map fun x => atoiV x.data.toList)
      have hr := hrP.out
      generalize setOf (P.map fun x => atoiV x.data.toList) = S at *
      have ct := text_c S hsl
      have hfin := below_up hb0.out hb0.out.size hbr
      have hq := hfin.size
      clear hrP hbr
      replace ct := Lib.hid ct
      replace hfin := Lib.hid hfin
      have hstr : ((text (textS S)).toList == s.toList) = decide (textS S = byts s) := by
        rw [toList_byts, toList_byts, byts_text]
        exact Bool.eq_iff_iff.2 ⟨fun h => decide_eq_true (by simpa using h), fun h => by simpa using of_decide_eq_true h⟩
      by_cases hm : textS S = byts s
      · rw [if_pos hm] at hr
        rw [decide_eq_true hm] at hstr
        subst hr
        clear hm
        go_wp2_with fail
        refine (ct.out.on _).mono ?_
        rintro e w2 ⟨rfl, hb2⟩
        have hfin2 := below_up hfin.out hq hb2
        go_wp2_with fail
        (try simp only [Exit.inBlock, Exit.then])
        refine bodyPost_ret (by simp [results, Tryd.results13, go_sem]; try rfl) rfl ?_
        exact ⟨rfl, hfin2⟩
      · rw [if_neg hm] at hr
        rw [decide_eq_false hm] at hstr
        subst hr
        clear hm
        go_wp2_with fail
        refine (ct.out.on _).mono ?_
        rintro e w2 ⟨rfl, hb2⟩
        have hfin2 := below_up hfin.out hq hb2
        go_wp2_with fail
        (try simp only [Exit.inBlock, Exit.then])
        refine bodyPost_ret (by simp [results, Tryd.results13, go_sem]; try rfl) rfl ?_
        exact ⟨rfl, hfin2⟩
end Go.Proofs.YtmikhngmclngiaaDoor
