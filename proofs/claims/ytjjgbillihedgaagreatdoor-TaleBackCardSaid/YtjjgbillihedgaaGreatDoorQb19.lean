/- parts of the proof, merged: TlC4 -/
import Derived.Test.YtjjgbillihedgaaGreatDoorQb18
namespace Go.Proofs.YtjjgbillihedgaaGreatDoor
set_option linter.unusedVariables false
set_option linter.unusedSimpArgs false
open Go.RowKit
open Rf
open Sg
open Wide
open Tl
theorem index_words (x : ByteArray) (w : World) (b : Nat) (h : ∀ k : Nat, k < 12 → w.cell? ⟨b, k, none⟩ = some (.string (text (wordB k)))) :
    Calls Tryz.prog 70 #[.slice (some ⟨b, 1, none⟩) 11 11, .string x] w fun e w' => e = .returned (.int .i64 (Lib.idxOfS (wordL.drop 1) x)) ∧ w = w' := by
  refine (Any.slices_Index_string Tryz.lays109 b 1 11 11 (wordL.drop 1) x w (by decide) (by decide) (fun j hj => ?_)).mono fun e w' h => ⟨h.1, h.2.symm⟩
  have hj' : j < 11 := hj
  rw [h (1 + j) (by omega)]
  unfold wordB
  rw [text_byts]
  have hl : 1 + j < wordL.length := by show 1 + j < 12; omega
  rw [show ((((1 + j : Nat) : Int)).toNat) = 1 + j by omega]
  simp only [List.getD_eq_getElem?_getD, List.getElem?_drop, List.getElem?_eq_getElem hl]
  rfl
/-- twelve cells of a block, filled anew -/
def set12 (w : World) (b : Nat) (v0 v1 v2 v3 v4 v5 v6 v7 v8 v9 v10 v11 : Value) : World :=
  (((((((((((w.setCell ⟨b, 0, none⟩ v0).setCell ⟨b, 1, none⟩ v1).setCell ⟨b, 2, none⟩ v2).setCell ⟨b, 3, none⟩ v3).setCell ⟨b, 4, none⟩ v4).setCell ⟨b, 5, none⟩ v5).setCell ⟨b, 6, none⟩ v6).setCell ⟨b, 7, none⟩ v7).setCell ⟨b, 8, none⟩ v8).setCell ⟨b, 9, none⟩ v9).setCell ⟨b, 10, none⟩ v10).setCell ⟨b, 11, none⟩ v11
section
variable {w : World} {b : Nat} {v0 v1 v2 v3 v4 v5 v6 v7 v8 v9 v10 v11 : Value}
theorem isC_set12 {T : TypeId} {z0 z1 z2 z3 z4 z5 z6 z7 z8 z9 z10 z11 : Value} (h : IsC w b T #[z0, z1, z2, z3, z4, z5, z6, z7, z8, z9, z10, z11]) :
    IsC (set12 w b v0 v1 v2 v3 v4 v5 v6 v7 v8 v9 v10 v11) b T #[v0, v1, v2, v3, v4, v5, v6, v7, v8, v9, v10, v11] := by
  have h0 : IsC (w.setCell ⟨b, 0, none⟩ v0) b T #[v0, z1, z2, z3, z4, z5, z6, z7, z8, z9, z10, z11] := h.set 0 v0
  have h1 : IsC ((w.setCell ⟨b, 0, none⟩ v0).setCell ⟨b, 1, none⟩ v1) b T #[v0, v1, z2, z3, z4, z5, z6, z7, z8, z9, z10, z11] := h0.set 1 v1
  have h2 : IsC (((w.setCell ⟨b, 0, none⟩ v0).setCell ⟨b, 1, none⟩ v1).setCell ⟨b, 2, none⟩ v2) b T #[v0, v1, v2, z3, z4, z5, z6, z7, z8, z9, z10, z11] := h1.set 2 v2
  have h3 : IsC ((((w.setCell ⟨b, 0, none⟩ v0).setCell ⟨b, 1, none⟩ v1).setCell ⟨b, 2, none⟩ v2).setCell ⟨b, 3, none⟩ v3) b T #[v0, v1, v2, v3, z4, z5, z6, z7, z8, z9, z10, z11] := h2.set 3 v3
  have h4 : IsC (((((w.setCell ⟨b, 0, none⟩ v0).setCell ⟨b, 1, none⟩ v1).setCell ⟨b, 2, none⟩ v2).setCell ⟨b, 3, none⟩ v3).setCell ⟨b, 4, none⟩ v4) b T #[v0, v1, v2, v3, v4, z5, z6, z7, z8, z9, z10, z11] := h3.set 4 v4
  have h5 : IsC ((((((w.setCell ⟨b, 0, none⟩ v0).setCell ⟨b, 1, none⟩ v1).setCell ⟨b, 2, none⟩ v2).setCell ⟨b, 3, none⟩ v3).setCell ⟨b, 4, none⟩ v4).setCell ⟨b, 5, none⟩ v5) b T #[v0, v1, v2, v3, v4, v5, z6, z7, z8, z9, z10, z11] := h4.set 5 v5
  have h6 : IsC (((((((w.setCell ⟨b, 0, none⟩ v0).setCell ⟨b, 1, none⟩ v1).setCell ⟨b, 2, none⟩ v2).setCell ⟨b, 3, none⟩ v3).setCell ⟨b, 4, none⟩ v4).setCell ⟨b, 5, none⟩ v5).setCell ⟨b, 6, none⟩ v6) b T #[v0, v1, v2, v3, v4, v5, v6, z7, z8, z9, z10, z11] := h5.set 6 v6
  have h7 : IsC ((((((((w.setCell ⟨b, 0, none⟩ v0).setCell ⟨b, 1, none⟩ v1).setCell ⟨b, 2, none⟩ v2).setCell ⟨b, 3, none⟩ v3).setCell ⟨b, 4, none⟩ v4).setCell ⟨b, 5, none⟩ v5).setCell ⟨b, 6, none⟩ v6).setCell ⟨b, 7, none⟩ v7) b T #[v0, v1, v2, v3, v4, v5, v6, v7, z8, z9, z10, z11] := h6.set 7 v7
  have h8 : IsC (((((((((w.setCell ⟨b, 0, none⟩ v0).setCell ⟨b, 1, none⟩ v1).setCell ⟨b, 2, none⟩ v2).setCell ⟨b, 3, none⟩ v3).setCell ⟨b, 4, none⟩ v4).setCell ⟨b, 5, none⟩ v5).setCell ⟨b, 6, none⟩ v6).setCell ⟨b, 7, none⟩ v7).setCell ⟨b, 8, none⟩ v8) b T #[v0, v1, v2, v3, v4, v5, v6, v7, v8, z9, z10, z11] := h7.set 8 v8
  have h9 : IsC ((((((((((w.setCell ⟨b, 0, none⟩ v0).setCell ⟨b, 1, none⟩ v1).setCell ⟨b, 2, none⟩ v2).setCell ⟨b, 3, none⟩ v3).setCell ⟨b, 4, none⟩ v4).setCell ⟨b, 5, none⟩ v5).setCell ⟨b, 6, none⟩ v6).setCell ⟨b, 7, none⟩ v7).setCell ⟨b, 8, none⟩ v8).setCell ⟨b, 9, none⟩ v9) b T #[v0, v1, v2, v3, v4, v5, v6, v7, v8, v9, z10, z11] := h8.set 9 v9
  have h10 : IsC (((((((((((w.setCell ⟨b, 0, none⟩ v0).setCell ⟨b, 1, none⟩ v1).setCell ⟨b, 2, none⟩ v2).setCell ⟨b, 3, none⟩ v3).setCell ⟨b, 4, none⟩ v4).setCell ⟨b, 5, none⟩ v5).setCell ⟨b, 6, none⟩ v6).setCell ⟨b, 7, none⟩ v7).setCell ⟨b, 8, none⟩ v8).setCell ⟨b, 9, none⟩ v9).setCell ⟨b, 10, none⟩ v10) b T #[v0, v1, v2, v3, v4, v5, v6, v7, v8, v9, v10, z11] := h9.set 10 v10
  have h11 : IsC ((((((((((((w.setCell ⟨b, 0, none⟩ v0).setCell ⟨b, 1, none⟩ v1).setCell ⟨b, 2, none⟩ v2).setCell ⟨b, 3, none⟩ v3).setCell ⟨b, 4, none⟩ v4).setCell ⟨b, 5, none⟩ v5).setCell ⟨b, 6, none⟩ v6).setCell ⟨b, 7, none⟩ v7).setCell ⟨b, 8, none⟩ v8).setCell ⟨b, 9, none⟩ v9).setCell ⟨b, 10, none⟩ v10).setCell ⟨b, 11, none⟩ v11) b T #[v0, v1, v2, v3, v4, v5, v6, v7, v8, v9, v10, v11] := h10.set 11 v11
  exact h11
theorem below_set12 {B : Nat} {a : World} (h : Below B a w) (hb : B ≤ b) : Below B a (set12 w b v0 v1 v2 v3 v4 v5 v6 v7 v8 v9 v10 v11) :=
  (((((((((((h.setCell (p := ⟨b, 0, none⟩) hb v0).setCell (p := ⟨b, 1, none⟩) hb v1).setCell (p := ⟨b, 2, none⟩) hb v2).setCell (p := ⟨b, 3, none⟩) hb v3).setCell (p := ⟨b, 4, none⟩) hb v4).setCell (p := ⟨b, 5, none⟩) hb v5).setCell (p := ⟨b, 6, none⟩) hb v6).setCell (p := ⟨b, 7, none⟩) hb v7).setCell (p := ⟨b, 8, none⟩) hb v8).setCell (p := ⟨b, 9, none⟩) hb v9).setCell (p := ⟨b, 10, none⟩) hb v10).setCell (p := ⟨b, 11, none⟩) hb v11
theorem OwnV.set {B : Nat} {a : Option Addr} {c i : Nat} {l : List WI} {v : Value} (h : OwnV w B a c l) (hb : b < B) : OwnV (w.setCell ⟨b, i, none⟩ v) B a c l := ownsRow_setCell_below h (a := ⟨b, i, none⟩) hb v
theorem OwnQ.set {B : Nat} {a : Option Addr} {c i : Nat} {l : List PartD} {v : Value} (h : OwnQ w B a c l) (hb : b < B) : OwnQ (w.setCell ⟨b, i, none⟩ v) B a c l := by
  obtain ⟨q, h1, h2, h3⟩ := h
  exact ⟨q, h1, ownsRow_setCell_below h2 (a := ⟨b, i, none⟩) hb v, fun x hx => (h3 x hx).set hb⟩
theorem OwnQ.mono {B B' : Nat} {a : Option Addr} {c : Nat} {l : List PartD} (h : OwnQ w B a c l) (hB : B' ≤ B) : OwnQ w B' a c l := by
  obtain ⟨q, h1, h2, h3⟩ := h
  refine ⟨q, h1, ⟨h2.1, ?_⟩, fun x hx => (h3 x hx).mono hB⟩
  rcases h2.2 with h' | ⟨g, cap, cur, e1, e2, e3⟩
  · exact .inl h'
  · exact .inr ⟨g, cap, cur, e1, by omega, e3⟩
theorem OwnQ.set12 {B : Nat} {a : Option Addr} {c : Nat} {l : List PartD} (h : OwnQ w B a c l) (hb : b < B) : OwnQ (set12 w b v0 v1 v2 v3 v4 v5 v6 v7 v8 v9 v10 v11) B a c l :=
  (((((((((((h.set hb).set hb).set hb).set hb).set hb).set hb).set hb).set hb).set hb).set hb).set hb).set hb
end
theorem own_ne {w : World} {B c g b : Nat} {l : List (List UInt8)} {T : TypeId} {cs : Array Value} (h : OwnS w B (some ⟨g, 0, none⟩) c l) (hb : IsC w b T cs) (hT : T ≠ 9) : g ≠ b := by
  rintro rfl
  rcases h.2 with ⟨hv, _⟩ | ⟨g', cap, cur, hv, _, hg, _⟩
  · cases hv
  · cases hv
    unfold IsC at hb
    rw [hg] at hb
    cases hb
    exact hT rfl
theorem idxS_at (x : ByteArray) : ∀ (l : List ByteArray) (i : Nat), Lib.idxFromS l x i ≠ -1 → l[(Lib.idxFromS l x i - i).toNat]? = some x
  | [], i, h => absurd rfl h
  | y :: l, i, h => by
    unfold Lib.idxFromS at h ⊢
    split
    · rename_i e
      rw [show ((i : Int) - (i : Int)).toNat = 0 by omega]
      simp [e]
    · rename_i e
      rw [if_neg e] at h
      have h1 := idxS_at x l (i + 1) h
      have h2 := idxS_bd x l (i + 1)
      rcases h2 with h2 | ⟨h2, _⟩
      · exact absurd h2 h
      · rw [show (Lib.idxFromS l x (i + 1) - (i : Int)).toNat = (Lib.idxFromS l x (i + 1) - ((i + 1 : Nat) : Int)).toNat + 1 by omega, List.getElem?_cons_succ]
        exact h1
theorem kind_inj {a b : List UInt8} (h : kindOf a = kindOf b) (h0 : kindOf a ≠ 0) : a = b := by
  unfold kindOf Lib.idxOfS at h h0
  have e1 := idxS_at (text a) (wordL.drop 1) 0 (by omega)
  have e2 := idxS_at (text b) (wordL.drop 1) 0 (by omega)
  have e : Lib.idxFromS (wordL.drop 1) (text a) 0 = Lib.idxFromS (wordL.drop 1) (text b) 0 := by omega
  rw [e, e2] at e1
  have := Option.some.inj e1
  rw [← byts_text a, ← byts_text b, this]
/-- what a guess hands back -/
def Guessed (w : World) (x : OpD) (e : Ending) (w' : World) : Prop := (∃ a c b d, e = .returned (opv x (.slice a x.P.length c) (.slice b x.cP.length d)) ∧ OwnQ w' w.heap.size a c x.P ∧ OwnQ w' w.heap.size b d x.cP) ∧ Below w.heap.size w w'
theorem src_str3 (w : World) (x y z : ByteArray) : Src Tryz.prog 1 76 (.slice (some ⟨w.heap.size, 0, none⟩) 3 3) 3 [.string x, .string y, .string z] (w.alloc (.cells #[.string x, .string y, .string z] 9)) :=
  Src.ofSlice _ Tryz.underlying76 ⟨w.heap.size, 0, none⟩ 3 3 _ rfl (by
    intro j u hj
    have hc := (IsC.new w 9 #[.string x, .string y, .string z]).cell j
    rw [addr_add, Nat.zero_add, hc]
    simpa using hj) (by intro u hu; simp at hu; rcases hu with rfl | rfl | rfl <;> rfl)
theorem pad_get (l : List (List UInt8)) (j : Nat) (hj : j < 3) (hl : 0 < l.length) : (l ++ [[], [], []])[j]? = some (l.getD j []) := by
  rw [List.getD_eq_getElem?_getD]
  rcases Nat.lt_or_ge j l.length with h | h
  · rw [List.getElem?_append_left h, List.getElem?_eq_getElem h]; rfl
  · rw [List.getElem?_eq_none h, List.getElem?_append_right h]
    have : j - l.length = 0 ∨ j - l.length = 1 := by omega
    rcases this with h | h <;> rw [h] <;> rfl
theorem behF_len (l : List UInt8) : (behF l).length ≤ l.length + 1 := by
  unfold behF
  split <;> simp
set_option maxRecDepth 100000 in
set_option maxHeartbeats 64000000 in
theorem guessG (s : ByteArray) (hs : s.size ≤ 99500) (w : World) (hg : GlobT w) (w0 t0 : List UInt8) (hw0 : (Lib.cut (byts s) [32]).1 = w0) (ht0 : (Lib.cut (byts s) [32]).2.1 = t0)
    (hrec : kindOf w0 = 8 ∧ (Lib.cut t0 [32]).1 ≠ w0 → ∀ w', GlobT w' → Calls Tryz.prog 40 #[.string (text t0)] w' fun e w'' => Guessed w' (guess1F t0) e w'') :
    Calls Tryz.prog 40 #[.string s] w fun e w' => Guessed w (guessF (byts s)) e w' := by
  obtain ⟨i0, hi, hz0, hz1, hz2'⟩ := info_parts infoStr
  have hb0 := below1 w (.cells #[.int .i64 0, .int .u64 0, .int .i64 0, .slice none 0 0, .int .u32 0, .int .u32 0, .int .i64 0, .int .u64 0, .int .i64 0, .slice none 0 0, .int .i64 0, .string ⟨#[]⟩] 32)
  have hbox := IsC.new w 32 #[.int .i64 0, .int .u64 0, .int .i64 0, .slice none 0 0, .int .u32 0, .int .u32 0, .int .i64 0, .int .u64 0, .int .i64 0, .slice none 0 0, .int .i64 0, .string ⟨#[]⟩]
  have hg0 := hg.on hb0
  have cc := cutS_c s ⟨#[32]⟩ (by omega) _ hg0
  rw [show byts ⟨#[32]⟩ = [32] from rfl] at cc
  obtain ⟨hl1, hl2⟩ := cut_le (byts s) [32]
  rw [byts_length] at hl1 hl2
  have hGF : guessF (byts s) = (if kindOf w0 = 8 ∧ (Lib.cut t0 [32]).1 ≠ w0 then ⟨8, 0, 0, [], 0, 0, asCmdK (guess1F t0).K, (guess1F t0).E, (guess1F t0).C, (guess1F t0).P, 0, sS⟩ else gO (kindOf w0) t0) := by
    unfold guessF
    conv => lhs; unfold guess1F
    simp only [hw0, ht0]
    rfl
  rw [hw0, ht0] at cc
  rw [hw0] at hl1
  rw [ht0] at hl2
  generalize (Lib.cut (byts s) [32]).2.2 = bb at *
  obtain ⟨R, hR⟩ : ∃ R, guessF (byts s) = R := ⟨_, rfl⟩
  rw [hR] at hGF ⊢
  clear hw0 ht0 hR
  have hk := kindOf_bd w0
  have cI := fun (w' : World) (b : Nat) h => index_words (text w0) w' b h
  have hidx : Lib.idxOfS (wordL.drop 1) (text w0) + 1 = kindOf w0 := rfl
  have cS := fun w' (hg : GlobT w') => splitF_c 32 (text t0) (by rw [text_size]; omega) w' hg
  rw [byts_text] at cS
  have hne := List.length_pos_iff.2 (segsQ_ne 32 t0)
  have hml := segsQ_mem 32 t0
  have hWl := segsQ_len 32 t0
  obtain ⟨kd, hkd⟩ : ∃ kd, kindOf w0 = kd := ⟨_, rfl⟩
  obtain ⟨ix, hix⟩ : ∃ ix, Lib.idxOfS (wordL.drop 1) (text w0) = ix := ⟨_, rfl⟩
  rw [hix] at cI hidx
  rw [hkd] at hk hidx hGF hrec
  have hxk : ix + 1 = kd := hidx
  obtain ⟨n, hn⟩ : ∃ n, (segsQ 32 t0).length = n := ⟨_, rfl⟩
  have hWW : (segsQ 32 t0 ++ [[], [], []]).length = n + 3 := by rw [List.length_append, hn]; rfl
  have hsvl : (sv (segsQ 32 t0)).length = n * 1 := by rw [sv_length, hn, Nat.mul_one]
  have p0 := pad_get (segsQ 32 t0) 0 (by decide) hne
  have p1 := pad_get (segsQ 32 t0) 1 (by decide) hne
  have p2 := pad_get (segsQ 32 t0) 2 (by decide) hne
  rw [hn] at cS hne hWl
  replace cc := Lib.hid cc
  replace cI := Lib.hid cI
  replace cS := Lib.hid cS
  replace hrec := Lib.hid hrec
  replace hGF := Lib.hid hGF
  replace hml := Lib.hid hml
  replace hn := Lib.hid hn
  replace hWW := Lib.hid hWW
  replace hsvl := Lib.hid hsvl
  replace p0 := Lib.hid p0
  replace p1 := Lib.hid p1
  replace p2 := Lib.hid p2
  replace hb0 := Lib.hid hb0
  replace hbox := Lib.hid hbox
  replace hkd := Lib.hid hkd
  clear hix hidx
  have hb0s := hb0.out.size
  go_enter Tryz.func40, Tryz.ntmps40
  go_wp2_with fail
  refine cc.out.mono ?_
  rintro x w1 ⟨rfl, hb1⟩
  have hg1 := hg0.on hb1
  replace hb0 := Lib.hid (below_up hb0.out hb0s hb1)
  replace hbox := Lib.hid (isC_of hb1 hbox.out)
  clear cc hb1 hb0s hg0
  have hb0s := hb0.out.size
  go_wp2_with fail
  refine (words_b _).mono ?_
  rintro x w2 ⟨rfl, hb2, hcells⟩
  have hg2 := (hg1.on hb2).on (below1 w2 (.cells #[.int .i64 kd, .int .u64 0, .int .i64 0, .slice none 0 0, .int .u32 0, .int .u32 0, .int .i64 0, .int .u64 0, .int .i64 0, .slice none 0 0, .int .i64 0, .string ⟨#[]⟩] 32))
  have hbx2 := isC_of hb2 hbox.out
  have hlt2 := hbx2.lt
  have hb3 := below_up hb0.out hb0s hb2
  replace hbox := Lib.hid (hbx2.alloc (.cells #[.int .i64 kd, .int .u64 0, .int .i64 0, .slice none 0 0, .int .u32 0, .int .u32 0, .int .i64 0, .int .u64 0, .int .i64 0, .slice none 0 0, .int .i64 0, .string ⟨#[]⟩] 32))
  have hpr := Lib.hid (IsC.new w2 32 #[.int .i64 kd, .int .u64 0, .int .i64 0, .slice none 0 0, .int .u32 0, .int .u32 0, .int .i64 0, .int .u64 0, .int .i64 0, .slice none 0 0, .int .i64 0, .string ⟨#[]⟩])
  replace hb0 := Lib.hid (hb3.alloc hb3.size (.cells #[.int .i64 kd, .int .u64 0, .int .i64 0, .slice none 0 0, .int .u32 0, .int .u32 0, .int .i64 0, .int .u64 0, .int .i64 0, .slice none 0 0, .int .i64 0, .string ⟨#[]⟩] 32))
  have cI2 := Lib.hid (cI.out w2 w1.heap.size hcells)
  have cS2 := Lib.hid (cS.out _ hg2)
  clear hb2 hcells hb0s hbx2 hb3 hg1 cI cS
  have hb0s := hb0.out.size
  go_wp2_with fail
  refine cI2.out.mono ?_
  rintro x w' ⟨rfl, rfl⟩
  have hlt6 := hpr.out.lt
  have hz2 := size_alloc w2 (.cells #[.int .i64 kd, .int .u64 0, .int .i64 0, .slice none 0 0, .int .u32 0, .int .u32 0, .int .i64 0, .int .u64 0, .int .i64 0, .slice none 0 0, .int .i64 0, .string ⟨#[]⟩] 32)
  go_wp2_with fail
  refine cS2.out.mono ?_
  rintro x w3 ⟨rfl, hown, hb3⟩
  rw [hz2] at hown
  have hsrc := src_str3 w3 ⟨#[]⟩ ⟨#[]⟩ ⟨#[]⟩
  have hob := below1 w3 (.cells #[.string ⟨#[]⟩, .string ⟨#[]⟩, .string ⟨#[]⟩] 9)
  have hIn1 := inT_cells ((OwnS.in (by rw [← hn.out] at hown; exact hown)).below hob)
  have hb3s := hb3.size
  go_wp2_with (at_builtin; refine wpList_append_full_src rfl (.tmp 24) (.tmp 25) 76 76 rfl 9 i0 (.string ⟨#[]⟩) 1 16 Tryz.underlying76 hi hz0 hz1 hz2' rfl (w2.heap.size + 1) 0 n (sv (segsQ 32 t0)) hsvl.out hIn1 rfl rfl hsrc ?_ ?_ ?_ w.heap.size ?_ ?_)
  · decide
  · unfold maxLen; omega
  · omega
  · (try rw [size_alloc]); omega
  intro b' c' w4 hown2 hb4
  have hb34 := hob.trans (hb4.mono (by (try rw [size_alloc]); omega))
  have hg4 := (hg2.on hb3).on hb34
  replace hbox := Lib.hid (isC_of hb34 (isC_of hb3 hbox.out))
  replace hpr := Lib.hid (isC_of hb34 (isC_of hb3 hpr.out))
  have hO : OwnS w4 w.heap.size b' c' (segsQ 32 t0 ++ [[], [], []]) := by
    unfold OwnS
    rw [hWW.out, sv_append]
    exact hown2
  have hb5 := below_up (below_up hb0.out hb0s hb3) (Nat.le_trans hb0s hb3s) hb34
  obtain ⟨g, rfl, hcap⟩ := hO.addr (by simp)
  rw [hWW.out] at hcap
  have hgt : ∀ j (hj : j < 3), w4.cell? ⟨g, j, none⟩ = some (.string (text (wAt t0 j))) := by
    intro j hj
    have h := OwnS.cell hO j (by rw [hWW.out]; omega)
    have h2 := pad_get (segsQ 32 t0) j hj (by rw [hn.out]; omega)
    rw [List.getElem?_eq_getElem (by rw [hWW.out]; omega)] at h2
    rw [Option.some.inj h2] at h
    exact h
  have hwl : ∀ j, (wAt t0 j).length ≤ 99500 := by
    intro j
    unfold wAt
    rw [List.getD_eq_getElem?_getD]
    cases hh : (segsQ 32 t0)[j]? with
    | none => simp
    | some x => have := hml.out x (List.mem_of_getElem? hh); simp; omega
  have b6 := hpr.out.lt
  have hb5s := hb5.size
  have hw24 : w2.heap.size < w4.heap.size := by have := hb34.size; omega
  have hgne : g ≠ w2.heap.size := own_ne hO hpr.out (by decide)
  clear hown hob hIn1 hown2 hb4 hb3 hb34 hsrc hO cI2 cS2 hb0 hb0s hml p0 p1 p2 hWW hsvl hg2 hb3s
  replace hb5 := Lib.hid hb5
  have k0 := hpr.out.cell 0
  have hne26 : w.heap.size ≠ w2.heap.size := by omega
  have hle26 : w.heap.size ≤ w2.heap.size := by omega
  by_cases k1 : kd = 1
  · subst k1
    have cb := behind_c (text t0) (by rw [text_size]; omega)
    rw [byts_text] at cb
    have cC := cut_c (⟨#[101, 32, 49, 32, 49]⟩ ++ text (behF t0)) (by rw [ByteArray.size_append, text_size]; have := behF_len t0; show 5 + _ ≤ _; omega) w4 hg4
    rw [byts_append, byts_text, show byts ⟨#[101, 32, 49, 32, 49]⟩ = [101, 32, 49, 32, 49] from rfl] at cC
    have q9 : ¬ 9223372036854775807 < 5 + (text (behF t0)).size := by rw [text_size]; have := behF_len t0; omega
    have hR := hGF.out
    rw [if_neg (fun h => absurd h.1 (by decide))] at hR
    have hR2 := hR.trans (show gO 1 t0 = ⟨1, 0, 0, (cutF ([101, 32, 49, 32, 49] ++ behF t0)).2.1, 0, 0, 0, 0, 0, [], 0, sS⟩ from rfl)
    replace hR2 := Lib.hid hR2
    clear hGF hR hrec
    generalize behF t0 = bt at *
    generalize cutF ([101, 32, 49, 32, 49] ++ bt) = Q at *
    obtain ⟨QE, QP, Qr⟩ := Q
    dsimp only at *
    replace cb := Lib.hid cb
    replace cC := Lib.hid cC
    go_wp2_with fail
    refine (cb.out.on _).mono ?_
    rintro x w' ⟨rfl, rfl⟩
    go_wp2_with fail
    refine cC.out.mono ?_
    rintro x w5 ⟨⟨qa, qc, rfl, hQ⟩, hb6⟩
    have hQX := Lib.hid hQ
    have hprX := Lib.hid (isC_of hb6 hpr.out)
    have hbxX := Lib.hid (isC_of hb6 hbox.out)
    have hbX := Lib.hid (below_up hb5.out hb5s hb6)
    have hq26 : w2.heap.size < w4.heap.size := hw24
    have hqw : w.heap.size < w4.heap.size := by omega
    have hqle : w.heap.size ≤ w4.heap.size := by omega
    clear hb6 hQ cC cb k0
    have e0 := hprX.out.cell 3
    have e1 := hprX.out.f 3
    have hprY : IsC (w5.setCell ⟨w2.heap.size, 3, none⟩ (.slice qa QP.length qc)) w2.heap.size 32 #[.int .i64 1, .int .u64 0, .int .i64 0, .slice qa QP.length qc, .int .u32 0, .int .u32 0, .int .i64 0, .int .u64 0, .int .i64 0, .slice none 0 0, .int .i64 0, .string ⟨#[]⟩] := (hprX.out.set 3 (.slice qa QP.length qc))
    have hbxY : IsC (w5.setCell ⟨w2.heap.size, 3, none⟩ (.slice qa QP.length qc)) w.heap.size 32 #[.int .i64 0, .int .u64 0, .int .i64 0, .slice none 0 0, .int .u32 0, .int .u32 0, .int .i64 0, .int .u64 0, .int .i64 0, .slice none 0 0, .int .i64 0, .string ⟨#[]⟩] := (hbxX.out.set_other (c := w2.heap.size) (i := 3) (v := .slice qa QP.length qc) hne26)
    have hbY : Below w.heap.size w (w5.setCell ⟨w2.heap.size, 3, none⟩ (.slice qa QP.length qc)) := (hbX.out.setCell (p := ⟨w2.heap.size, 3, none⟩) hle26 (.slice qa QP.length qc))
    have f0 := hbxY.f 0
    have x0 := hbxY.cell 0
    have y0 := hprY.cell 0
    have f1 := hbxY.f 1
    have x1 := hbxY.cell 1
    have y1 := hprY.cell 1
    have f2 := hbxY.f 2
    have x2 := hbxY.cell 2
    have y2 := hprY.cell 2
    have f3 := hbxY.f 3
    have x3 := hbxY.cell 3
    have y3 := hprY.cell 3
    have f4 := hbxY.f 4
    have x4 := hbxY.cell 4
    have y4 := hprY.cell 4
    have f5 := hbxY.f 5
    have x5 := hbxY.cell 5
    have y5 := hprY.cell 5
    have f6 := hbxY.f 6
    have x6 := hbxY.cell 6
    have y6 := hprY.cell 6
    have f7 := hbxY.f 7
    have x7 := hbxY.cell 7
    have y7 := hprY.cell 7
    have f8 := hbxY.f 8
    have x8 := hbxY.cell 8
    have y8 := hprY.cell 8
    have f9 := hbxY.f 9
    have x9 := hbxY.cell 9
    have y9 := hprY.cell 9
    have f10 := hbxY.f 10
    have x10 := hbxY.cell 10
    have y10 := hprY.cell 10
    have f11 := hbxY.f 11
    have x11 := hbxY.cell 11
    have y11 := hprY.cell 11
    have hs12 : IsC (set12 (w5.setCell ⟨w2.heap.size, 3, none⟩ (.slice qa QP.length qc)) w.heap.size (.int .i64 1) (.int .u64 0) (.int .i64 0) (.slice qa QP.length qc) (.int .u32 0) (.int .u32 0) (.int .i64 0) (.int .u64 0) (.int .i64 0) (.slice none 0 0) (.int .i64 0) (.string ⟨#[]⟩)) w.heap.size 32 #[.int .i64 1, .int .u64 0, .int .i64 0, .slice qa QP.length qc, .int .u32 0, .int .u32 0, .int .i64 0, .int .u64 0, .int .i64 0, .slice none 0 0, .int .i64 0, .string ⟨#[]⟩] := isC_set12 (w := (w5.setCell ⟨w2.heap.size, 3, none⟩ (.slice qa QP.length qc))) hbxY
    have t0 := Lib.hid (hs12.cell 0)
    have t1 := Lib.hid (hs12.cell 1)
    have t2 := Lib.hid (hs12.cell 2)
    have t3 := Lib.hid (hs12.cell 3)
    have t4 := Lib.hid (hs12.cell 4)
    have t5 := Lib.hid (hs12.cell 5)
    have t6 := Lib.hid (hs12.cell 6)
    have t7 := Lib.hid (hs12.cell 7)
    have t8 := Lib.hid (hs12.cell 8)
    have t9 := Lib.hid (hs12.cell 9)
    have t10 := Lib.hid (hs12.cell 10)
    have t11 := Lib.hid (hs12.cell 11)
    have hfin := Lib.hid (show Below w.heap.size w (set12 (w5.setCell ⟨w2.heap.size, 3, none⟩ (.slice qa QP.length qc)) w.heap.size (.int .i64 1) (.int .u64 0) (.int .i64 0) (.slice qa QP.length qc) (.int .u32 0) (.int .u32 0) (.int .i64 0) (.int .u64 0) (.int .i64 0) (.slice none 0 0) (.int .i64 0) (.string ⟨#[]⟩)) from below_set12 (w := (w5.setCell ⟨w2.heap.size, 3, none⟩ (.slice qa QP.length qc))) hbY (Nat.le_refl _))
    have hq1 := Lib.hid (OwnQ.mono (OwnQ.set12 (w := (w5.setCell ⟨w2.heap.size, 3, none⟩ (.slice qa QP.length qc))) (v0 := .int .i64 1) (v1 := .int .u64 0) (v2 := .int .i64 0) (v3 := .slice qa QP.length qc) (v4 := .int .u32 0) (v5 := .int .u32 0) (v6 := .int .i64 0) (v7 := .int .u64 0) (v8 := .int .i64 0) (v9 := .slice none 0 0) (v10 := .int .i64 0) (v11 := .string ⟨#[]⟩) ((hQX.out.set (i := 3) (v := .slice qa QP.length qc) hq26)) hqw) hqle)
    clear hs12 hprY hbxY hbY
    go_wp2_with fail
    obtain ⟨wf, hwf⟩ : ∃ wf, set12 (w5.setCell ⟨w2.heap.size, 3, none⟩ (.slice qa QP.length qc)) w.heap.size (.int .i64 1) (.int .u64 0) (.int .i64 0) (.slice qa QP.length qc) (.int .u32 0) (.int .u32 0) (.int .i64 0) (.int .u64 0) (.int .i64 0) (.slice none 0 0) (.int .i64 0) (.string ⟨#[]⟩) = wf := ⟨_, rfl⟩
    have s0 := t0.out
    have s1 := t1.out
    have s2 := t2.out
    have s3 := t3.out
    have s4 := t4.out
    have s5 := t5.out
    have s6 := t6.out
    have s7 := t7.out
    have s8 := t8.out
    have s9 := t9.out
    have s10 := t10.out
    have s11 := t11.out
    have r0 := hfin.out
    have hq1' := hq1.out
    rw [hwf] at s0 s1 s2 s3 s4 s5 s6 s7 s8 s9 s10 s11 r0 hq1'
    rw [show (((((((((((((w5.setCell ⟨w2.heap.size, 3, none⟩ (.slice qa QP.length qc)).setCell ⟨w.heap.size, 0, none⟩ (.int .i64 1)).setCell ⟨w.heap.size, 1, none⟩ (.int .u64 0)).setCell ⟨w.heap.size, 2, none⟩ (.int .i64 0)).setCell ⟨w.heap.size, 3, none⟩ (.slice qa QP.length qc)).setCell ⟨w.heap.size, 4, none⟩ (.int .u32 0)).setCell ⟨w.heap.size, 5, none⟩ (.int .u32 0)).setCell ⟨w.heap.size, 6, none⟩ (.int .i64 0)).setCell ⟨w.heap.size, 7, none⟩ (.int .u64 0)).setCell ⟨w.heap.size, 8, none⟩ (.int .i64 0)).setCell ⟨w.heap.size, 9, none⟩ (.slice none 0 0)).setCell ⟨w.heap.size, 10, none⟩ (.int .i64 0)).setCell ⟨w.heap.size, 11, none⟩ (.string ⟨#[]⟩)) = wf from hwf]
    (try simp only [Exit.inBlock, Exit.then])
    refine bodyPost_ret (by simp [results, Tryz.results40, go_sem, s0, s1, s2, s3, s4, s5, s6, s7, s8, s9, s10, s11]; try rfl) rfl ?_
    rw [hR2.out]
    exact ⟨⟨qa, qc, none, 0, rfl, hq1', OwnQ.nil _ _⟩, r0⟩
  by_cases k2 : kd = 2
  · subst k2
    have cC := cut_c (⟨#[101, 32]⟩ ++ text t0) (by rw [ByteArray.size_append, text_size]; show 2 + _ ≤ _; omega) w4 hg4
    rw [byts_append, byts_text, show byts ⟨#[101, 32]⟩ = [101, 32] from rfl] at cC
    have q9 : ¬ 9223372036854775807 < 2 + (text t0).size := by rw [text_size]; omega
    have hR := hGF.out
    rw [if_neg (fun h => absurd h.1 (by decide))] at hR
    have hR2 := hR.trans (show gO 2 t0 = ⟨2, (cutF ([101, 32] ++ t0)).1, 0, (cutF ([101, 32] ++ t0)).2.1, 0, 0, 0, 0, 0, [], 0, sS⟩ from rfl)
    replace hR2 := Lib.hid hR2
    clear hGF hR hrec
    generalize cutF ([101, 32] ++ t0) = Q at *
    obtain ⟨QE, QP, Qr⟩ := Q
    dsimp only at *
    replace cC := Lib.hid cC
    go_wp2_with fail
    refine cC.out.mono ?_
    rintro x w5 ⟨⟨qa, qc, rfl, hQ⟩, hb6⟩
    have hQX := Lib.hid hQ
    have hprX := Lib.hid (isC_of hb6 hpr.out)
    have hbxX := Lib.hid (isC_of hb6 hbox.out)
    have hbX := Lib.hid (below_up hb5.out hb5s hb6)
    have hq26 : w2.heap.size < w4.heap.size := hw24
    have hqw : w.heap.size < w4.heap.size := by omega
    have hqle : w.heap.size ≤ w4.heap.size := by omega
    clear hb6 hQ cC k0
    have e0 := hprX.out.cell 3
    have e1 := hprX.out.f 3
    have e2 := hprX.out.cell 1
    have e3 := hprX.out.f 1
    have hprY : IsC ((w5.setCell ⟨w2.heap.size, 1, none⟩ (.int .u64 QE)).setCell ⟨w2.heap.size, 3, none⟩ (.slice qa QP.length qc)) w2.heap.size 32 #[.int .i64 2, .int .u64 QE, .int .i64 0, .slice qa QP.length qc, .int .u32 0, .int .u32 0, .int .i64 0, .int .u64 0, .int .i64 0, .slice none 0 0, .int .i64 0, .string ⟨#[]⟩] := ((hprX.out.set 1 (.int .u64 QE)).set 3 (.slice qa QP.length qc))
    have hbxY : IsC ((w5.setCell ⟨w2.heap.size, 1, none⟩ (.int .u64 QE)).setCell ⟨w2.heap.size, 3, none⟩ (.slice qa QP.length qc)) w.heap.size 32 #[.int .i64 0, .int .u64 0, .int .i64 0, .slice none 0 0, .int .u32 0, .int .u32 0, .int .i64 0, .int .u64 0, .int .i64 0, .slice none 0 0, .int .i64 0, .string ⟨#[]⟩] := ((hbxX.out.set_other (c := w2.heap.size) (i := 1) (v := .int .u64 QE) hne26).set_other (c := w2.heap.size) (i := 3) (v := .slice qa QP.length qc) hne26)
    have hbY : Below w.heap.size w ((w5.setCell ⟨w2.heap.size, 1, none⟩ (.int .u64 QE)).setCell ⟨w2.heap.size, 3, none⟩ (.slice qa QP.length qc)) := ((hbX.out.setCell (p := ⟨w2.heap.size, 1, none⟩) hle26 (.int .u64 QE)).setCell (p := ⟨w2.heap.size, 3, none⟩) hle26 (.slice qa QP.length qc))
    have f0 := hbxY.f 0
    have x0 := hbxY.cell 0
    have y0 := hprY.cell 0
    have f1 := hbxY.f 1
    have x1 := hbxY.cell 1
    have y1 := hprY.cell 1
    have f2 := hbxY.f 2
    have x2 := hbxY.cell 2
    have y2 := hprY.cell 2
    have f3 := hbxY.f 3
    have x3 := hbxY.cell 3
    have y3 := hprY.cell 3
    have f4 := hbxY.f 4
    have x4 := hbxY.cell 4
    have y4 := hprY.cell 4
    have f5 := hbxY.f 5
    have x5 := hbxY.cell 5
    have y5 := hprY.cell 5
    have f6 := hbxY.f 6
    have x6 := hbxY.cell 6
    have y6 := hprY.cell 6
    have f7 := hbxY.f 7
    have x7 := hbxY.cell 7
    have y7 := hprY.cell 7
    have f8 := hbxY.f 8
    have x8 := hbxY.cell 8
    have y8 := hprY.cell 8
    have f9 := hbxY.f 9
    have x9 := hbxY.cell 9
    have y9 := hprY.cell 9
    have f10 := hbxY.f 10
    have x10 := hbxY.cell 10
    have y10 := hprY.cell 10
    have f11 := hbxY.f 11
    have x11 := hbxY.cell 11
    have y11 := hprY.cell 11
    have hs12 : IsC (set12 ((w5.setCell ⟨w2.heap.size, 1, none⟩ (.int .u64 QE)).setCell ⟨w2.heap.size, 3, none⟩ (.slice qa QP.length qc)) w.heap.size (.int .i64 2) (.int .u64 QE) (.int .i64 0) (.slice qa QP.length qc) (.int .u32 0) (.int .u32 0) (.int .i64 0) (.int .u64 0) (.int .i64 0) (.slice none 0 0) (.int .i64 0) (.string ⟨#[]⟩)) w.heap.size 32 #[.int .i64 2, .int .u64 QE, .int .i64 0, .slice qa QP.length qc, .int .u32 0, .int .u32 0, .int .i64 0, .int .u64 0, .int .i64 0, .slice none 0 0, .int .i64 0, .string ⟨#[]⟩] := isC_set12 (w := ((w5.setCell ⟨w2.heap.size, 1, none⟩ (.int .u64 QE)).setCell ⟨w2.heap.size, 3, none⟩ (.slice qa QP.length qc))) hbxY
    have t0 := Lib.hid (hs12.cell 0)
    have t1 := Lib.hid (hs12.cell 1)
    have t2 := Lib.hid (hs12.cell 2)
    have t3 := Lib.hid (hs12.cell 3)
    have t4 := Lib.hid (hs12.cell 4)
    have t5 := Lib.hid (hs12.cell 5)
    have t6 := Lib.hid (hs12.cell 6)
    have t7 := Lib.hid (hs12.cell 7)
    have t8 := Lib.hid (hs12.cell 8)
    have t9 := Lib.hid (hs12.cell 9)
    have t10 := Lib.hid (hs12.cell 10)
    have t11 := Lib.hid (hs12.cell 11)
    have hfin := Lib.hid (show Below w.heap.size w (set12 ((w5.setCell ⟨w2.heap.size, 1, none⟩ (.int .u64 QE)).setCell ⟨w2.heap.size, 3, none⟩ (.slice qa QP.length qc)) w.heap.size (.int .i64 2) (.int .u64 QE) (.int .i64 0) (.slice qa QP.length qc) (.int .u32 0) (.int .u32 0) (.int .i64 0) (.int .u64 0) (.int .i64 0) (.slice none 0 0) (.int .i64 0) (.string ⟨#[]⟩)) from below_set12 (w := ((w5.setCell ⟨w2.heap.size, 1, none⟩ (.int .u64 QE)).setCell ⟨w2.heap.size, 3, none⟩ (.slice qa QP.length qc))) hbY (Nat.le_refl _))
    have hq1 := Lib.hid (OwnQ.mono (OwnQ.set12 (w := ((w5.setCell ⟨w2.heap.size, 1, none⟩ (.int .u64 QE)).setCell ⟨w2.heap.size, 3, none⟩ (.slice qa QP.length qc))) (v0 := .int .i64 2) (v1 := .int .u64 QE) (v2 := .int .i64 0) (v3 := .slice qa QP.length qc) (v4 := .int .u32 0) (v5 := .int .u32 0) (v6 := .int .i64 0) (v7 := .int .u64 0) (v8 := .int .i64 0) (v9 := .slice none 0 0) (v10 := .int .i64 0) (v11 := .string ⟨#[]⟩) (((hQX.out.set (i := 1) (v := .int .u64 QE) hq26).set (i := 3) (v := .slice qa QP.length qc) hq26)) hqw) hqle)
    clear hs12 hprY hbxY hbY
    go_wp2_with fail
    obtain ⟨wf, hwf⟩ : ∃ wf, set12 ((w5.setCell ⟨w2.heap.size, 1, none⟩ (.int .u64 QE)).setCell ⟨w2.heap.size, 3, none⟩ (.slice qa QP.length qc)) w.heap.size (.int .i64 2) (.int .u64 QE) (.int .i64 0) (.slice qa QP.length qc) (.int .u32 0) (.int .u32 0) (.int .i64 0) (.int .u64 0) (.int .i64 0) (.slice none 0 0) (.int .i64 0) (.string ⟨#[]⟩) = wf := ⟨_, rfl⟩
    have s0 := t0.out
    have s1 := t1.out
    have s2 := t2.out
    have s3 := t3.out
    have s4 := t4.out
    have s5 := t5.out
    have s6 := t6.out
    have s7 := t7.out
    have s8 := t8.out
    have s9 := t9.out
    have s10 := t10.out
    have s11 := t11.out
    have r0 := hfin.out
    have hq1' := hq1.out
    rw [hwf] at s0 s1 s2 s3 s4 s5 s6 s7 s8 s9 s10 s11 r0 hq1'
    rw [show ((((((((((((((w5.setCell ⟨w2.heap.size, 1, none⟩ (.int .u64 QE)).setCell ⟨w2.heap.size, 3, none⟩ (.slice qa QP.length qc)).setCell ⟨w.heap.size, 0, none⟩ (.int .i64 2)).setCell ⟨w.heap.size, 1, none⟩ (.int .u64 QE)).setCell ⟨w.heap.size, 2, none⟩ (.int .i64 0)).setCell ⟨w.heap.size, 3, none⟩ (.slice qa QP.length qc)).setCell ⟨w.heap.size, 4, none⟩ (.int .u32 0)).setCell ⟨w.heap.size, 5, none⟩ (.int .u32 0)).setCell ⟨w.heap.size, 6, none⟩ (.int .i64 0)).setCell ⟨w.heap.size, 7, none⟩ (.int .u64 0)).setCell ⟨w.heap.size, 8, none⟩ (.int .i64 0)).setCell ⟨w.heap.size, 9, none⟩ (.slice none 0 0)).setCell ⟨w.heap.size, 10, none⟩ (.int .i64 0)).setCell ⟨w.heap.size, 11, none⟩ (.string ⟨#[]⟩)) = wf from hwf]
    (try simp only [Exit.inBlock, Exit.then])
    refine bodyPost_ret (by simp [results, Tryz.results40, go_sem, s0, s1, s2, s3, s4, s5, s6, s7, s8, s9, s10, s11]; try rfl) rfl ?_
    rw [hR2.out]
    exact ⟨⟨qa, qc, none, 0, rfl, hq1', OwnQ.nil _ _⟩, r0⟩
  by_cases k3 : kd = 3
  · subst k3
    have cC := cut_c (⟨#[101, 32]⟩ ++ text t0) (by rw [ByteArray.size_append, text_size]; show 2 + _ ≤ _; omega) w4 hg4
    rw [byts_append, byts_text, show byts ⟨#[101, 32]⟩ = [101, 32] from rfl] at cC
    have q9 : ¬ 9223372036854775807 < 2 + (text t0).size := by rw [text_size]; omega
    have hR := hGF.out
    rw [if_neg (fun h => absurd h.1 (by decide))] at hR
    have hR2 := hR.trans (show gO 3 t0 = ⟨3, (cutF ([101, 32] ++ t0)).1, 0, (cutF ([101, 32] ++ t0)).2.1, 0, 0, 0, 0, 0, [], 0, sS⟩ from rfl)
    replace hR2 := Lib.hid hR2
    clear hGF hR hrec
    generalize cutF ([101, 32] ++ t0) = Q at *
    obtain ⟨QE, QP, Qr⟩ := Q
    dsimp only at *
    replace cC := Lib.hid cC
    go_wp2_with fail
    refine cC.out.mono ?_
    rintro x w5 ⟨⟨qa, qc, rfl, hQ⟩, hb6⟩
    have hQX := Lib.hid hQ
    have hprX := Lib.hid (isC_of hb6 hpr.out)
    have hbxX := Lib.hid (isC_of hb6 hbox.out)
    have hbX := Lib.hid (below_up hb5.out hb5s hb6)
    have hq26 : w2.heap.size < w4.heap.size := hw24
    have hqw : w.heap.size < w4.heap.size := by omega
    have hqle : w.heap.size ≤ w4.heap.size := by omega
    clear hb6 hQ cC k0
    have e0 := hprX.out.cell 3
    have e1 := hprX.out.f 3
    have e2 := hprX.out.cell 1
    have e3 := hprX.out.f 1
    have hprY : IsC ((w5.setCell ⟨w2.heap.size, 1, none⟩ (.int .u64 QE)).setCell ⟨w2.heap.size, 3, none⟩ (.slice qa QP.length qc)) w2.heap.size 32 #[.int .i64 3, .int .u64 QE, .int .i64 0, .slice qa QP.length qc, .int .u32 0, .int .u32 0, .int .i64 0, .int .u64 0, .int .i64 0, .slice none 0 0, .int .i64 0, .string ⟨#[]⟩] := ((hprX.out.set 1 (.int .u64 QE)).set 3 (.slice qa QP.length qc))
    have hbxY : IsC ((w5.setCell ⟨w2.heap.size, 1, none⟩ (.int .u64 QE)).setCell ⟨w2.heap.size, 3, none⟩ (.slice qa QP.length qc)) w.heap.size 32 #[.int .i64 0, .int .u64 0, .int .i64 0, .slice none 0 0, .int .u32 0, .int .u32 0, .int .i64 0, .int .u64 0, .int .i64 0, .slice none 0 0, .int .i64 0, .string ⟨#[]⟩] := ((hbxX.out.set_other (c := w2.heap.size) (i := 1) (v := .int .u64 QE) hne26).set_other (c := w2.heap.size) (i := 3) (v := .slice qa QP.length qc) hne26)
    have hbY : Below w.heap.size w ((w5.setCell ⟨w2.heap.size, 1, none⟩ (.int .u64 QE)).setCell ⟨w2.heap.size, 3, none⟩ (.slice qa QP.length qc)) := ((hbX.out.setCell (p := ⟨w2.heap.size, 1, none⟩) hle26 (.int .u64 QE)).setCell (p := ⟨w2.heap.size, 3, none⟩) hle26 (.slice qa QP.length qc))
    have f0 := hbxY.f 0
    have x0 := hbxY.cell 0
    have y0 := hprY.cell 0
    have f1 := hbxY.f 1
    have x1 := hbxY.cell 1
    have y1 := hprY.cell 1
    have f2 := hbxY.f 2
    have x2 := hbxY.cell 2
    have y2 := hprY.cell 2
    have f3 := hbxY.f 3
    have x3 := hbxY.cell 3
    have y3 := hprY.cell 3
    have f4 := hbxY.f 4
    have x4 := hbxY.cell 4
    have y4 := hprY.cell 4
    have f5 := hbxY.f 5
    have x5 := hbxY.cell 5
    have y5 := hprY.cell 5
    have f6 := hbxY.f 6
    have x6 := hbxY.cell 6
    have y6 := hprY.cell 6
    have f7 := hbxY.f 7
    have x7 := hbxY.cell 7
    have y7 := hprY.cell 7
    have f8 := hbxY.f 8
    have x8 := hbxY.cell 8
    have y8 := hprY.cell 8
    have f9 := hbxY.f 9
    have x9 := hbxY.cell 9
    have y9 := hprY.cell 9
    have f10 := hbxY.f 10
    have x10 := hbxY.cell 10
    have y10 := hprY.cell 10
    have f11 := hbxY.f 11
    have x11 := hbxY.cell 11
    have y11 := hprY.cell 11
    have hs12 : IsC (set12 ((w5.setCell ⟨w2.heap.size, 1, none⟩ (.int .u64 QE)).setCell ⟨w2.heap.size, 3, none⟩ (.slice qa QP.length qc)) w.heap.size (.int .i64 3) (.int .u64 QE) (.int .i64 0) (.slice qa QP.length qc) (.int .u32 0) (.int .u32 0) (.int .i64 0) (.int .u64 0) (.int .i64 0) (.slice none 0 0) (.int .i64 0) (.string ⟨#[]⟩)) w.heap.size 32 #[.int .i64 3, .int .u64 QE, .int .i64 0, .slice qa QP.length qc, .int .u32 0, .int .u32 0, .int .i64 0, .int .u64 0, .int .i64 0, .slice none 0 0, .int .i64 0, .string ⟨#[]⟩] := isC_set12 (w := ((w5.setCell ⟨w2.heap.size, 1, none⟩ (.int .u64 QE)).setCell ⟨w2.heap.size, 3, none⟩ (.slice qa QP.length qc))) hbxY
    have t0 := Lib.hid (hs12.cell 0)
    have t1 := Lib.hid (hs12.cell 1)
    have t2 := Lib.hid (hs12.cell 2)
    have t3 := Lib.hid (hs12.cell 3)
    have t4 := Lib.hid (hs12.cell 4)
    have t5 := Lib.hid (hs12.cell 5)
    have t6 := Lib.hid (hs12.cell 6)
    have t7 := Lib.hid (hs12.cell 7)
    have t8 := Lib.hid (hs12.cell 8)
    have t9 := Lib.hid (hs12.cell 9)
    have t10 := Lib.hid (hs12.cell 10)
    have t11 := Lib.hid (hs12.cell 11)
    have hfin := Lib.hid (show Below w.heap.size w (set12 ((w5.setCell ⟨w2.heap.size, 1, none⟩ (.int .u64 QE)).setCell ⟨w2.heap.size, 3, none⟩ (.slice qa QP.length qc)) w.heap.size (.int .i64 3) (.int .u64 QE) (.int .i64 0) (.slice qa QP.length qc) (.int .u32 0) (.int .u32 0) (.int .i64 0) (.int .u64 0) (.int .i64 0) (.slice none 0 0) (.int .i64 0) (.string ⟨#[]⟩)) from below_set12 (w := ((w5.setCell ⟨w2.heap.size, 1, none⟩ (.int .u64 QE)).setCell ⟨w2.heap.size, 3, none⟩ (.slice qa QP.length qc))) hbY (Nat.le_refl _))
    have hq1 := Lib.hid (OwnQ.mono (OwnQ.set12 (w := ((w5.setCell ⟨w2.heap.size, 1, none⟩ (.int .u64 QE)).setCell ⟨w2.heap.size, 3, none⟩ (.slice qa QP.length qc))) (v0 := .int .i64 3) (v1 := .int .u64 QE) (v2 := .int .i64 0) (v3 := .slice qa QP.length qc) (v4 := .int .u32 0) (v5 := .int .u32 0) (v6 := .int .i64 0) (v7 := .int .u64 0) (v8 := .int .i64 0) (v9 := .slice none 0 0) (v10 := .int .i64 0) (v11 := .string ⟨#[]⟩) (((hQX.out.set (i := 1) (v := .int .u64 QE) hq26).set (i := 3) (v := .slice qa QP.length qc) hq26)) hqw) hqle)
    clear hs12 hprY hbxY hbY
    go_wp2_with fail
    obtain ⟨wf, hwf⟩ : ∃ wf, set12 ((w5.setCell ⟨w2.heap.size, 1, none⟩ (.int .u64 QE)).setCell ⟨w2.heap.size, 3, none⟩ (.slice qa QP.length qc)) w.heap.size (.int .i64 3) (.int .u64 QE) (.int .i64 0) (.slice qa QP.length qc) (.int .u32 0) (.int .u32 0) (.int .i64 0) (.int .u64 0) (.int .i64 0) (.slice none 0 0) (.int .i64 0) (.string ⟨#[]⟩) = wf := ⟨_, rfl⟩
    have s0 := t0.out
    have s1 := t1.out
    have s2 := t2.out
    have s3 := t3.out
    have s4 := t4.out
    have s5 := t5.out
    have s6 := t6.out
    have s7 := t7.out
    have s8 := t8.out
    have s9 := t9.out
    have s10 := t10.out
    have s11 := t11.out
    have r0 := hfin.out
    have hq1' := hq1.out
    rw [hwf] at s0 s1 s2 s3 s4 s5 s6 s7 s8 s9 s10 s11 r0 hq1'
    rw [show ((((((((((((((w5.setCell ⟨w2.heap.size, 1, none⟩ (.int .u64 QE)).setCell ⟨w2.heap.size, 3, none⟩ (.slice qa QP.length qc)).setCell ⟨w.heap.size, 0, none⟩ (.int .i64 3)).setCell ⟨w.heap.size, 1, none⟩ (.int .u64 QE)).setCell ⟨w.heap.size, 2, none⟩ (.int .i64 0)).setCell ⟨w.heap.size, 3, none⟩ (.slice qa QP.length qc)).setCell ⟨w.heap.size, 4, none⟩ (.int .u32 0)).setCell ⟨w.heap.size, 5, none⟩ (.int .u32 0)).setCell ⟨w.heap.size, 6, none⟩ (.int .i64 0)).setCell ⟨w.heap.size, 7, none⟩ (.int .u64 0)).setCell ⟨w.heap.size, 8, none⟩ (.int .i64 0)).setCell ⟨w.heap.size, 9, none⟩ (.slice none 0 0)).setCell ⟨w.heap.size, 10, none⟩ (.int .i64 0)).setCell ⟨w.heap.size, 11, none⟩ (.string ⟨#[]⟩)) = wf from hwf]
    (try simp only [Exit.inBlock, Exit.then])
    refine bodyPost_ret (by simp [results, Tryz.results40, go_sem, s0, s1, s2, s3, s4, s5, s6, s7, s8, s9, s10, s11]; try rfl) rfl ?_
    rw [hR2.out]
    exact ⟨⟨qa, qc, none, 0, rfl, hq1', OwnQ.nil _ _⟩, r0⟩
  by_cases k5 : kd = 5
  · subst k5
    have cC := cut_c (⟨#[101, 32]⟩ ++ text t0) (by rw [ByteArray.size_append, text_size]; show 2 + _ ≤ _; omega) w4 hg4
    rw [byts_append, byts_text, show byts ⟨#[101, 32]⟩ = [101, 32] from rfl] at cC
    have q9 : ¬ 9223372036854775807 < 2 + (text t0).size := by rw [text_size]; omega
    have hR := hGF.out
    rw [if_neg (fun h => absurd h.1 (by decide))] at hR
    have hR2 := hR.trans (show gO 5 t0 = ⟨5, (cutF ([101, 32] ++ t0)).1, 0, (cutF ([101, 32] ++ t0)).2.1, 0, 0, 0, 0, 0, [], 0, sS⟩ from rfl)
    replace hR2 := Lib.hid hR2
    clear hGF hR hrec
    generalize cutF ([101, 32] ++ t0) = Q at *
    obtain ⟨QE, QP, Qr⟩ := Q
    dsimp only at *
    replace cC := Lib.hid cC
    go_wp2_with fail
    refine cC.out.mono ?_
    rintro x w5 ⟨⟨qa, qc, rfl, hQ⟩, hb6⟩
    have hQX := Lib.hid hQ
    have hprX := Lib.hid (isC_of hb6 hpr.out)
    have hbxX := Lib.hid (isC_of hb6 hbox.out)
    have hbX := Lib.hid (below_up hb5.out hb5s hb6)
    have hq26 : w2.heap.size < w4.heap.size := hw24
    have hqw : w.heap.size < w4.heap.size := by omega
    have hqle : w.heap.size ≤ w4.heap.size := by omega
    clear hb6 hQ cC k0
    have e0 := hprX.out.cell 3
    have e1 := hprX.out.f 3
    have e2 := hprX.out.cell 1
    have e3 := hprX.out.f 1
    have hprY : IsC ((w5.setCell ⟨w2.heap.size, 1, none⟩ (.int .u64 QE)).setCell ⟨w2.heap.size, 3, none⟩ (.slice qa QP.length qc)) w2.heap.size 32 #[.int .i64 5, .int .u64 QE, .int .i64 0, .slice qa QP.length qc, .int .u32 0, .int .u32 0, .int .i64 0, .int .u64 0, .int .i64 0, .slice none 0 0, .int .i64 0, .string ⟨#[]⟩] := ((hprX.out.set 1 (.int .u64 QE)).set 3 (.slice qa QP.length qc))
    have hbxY : IsC ((w5.setCell ⟨w2.heap.size, 1, none⟩ (.int .u64 QE)).setCell ⟨w2.heap.size, 3, none⟩ (.slice qa QP.length qc)) w.heap.size 32 #[.int .i64 0, .int .u64 0, .int .i64 0, .slice none 0 0, .int .u32 0, .int .u32 0, .int .i64 0, .int .u64 0, .int .i64 0, .slice none 0 0, .int .i64 0, .string ⟨#[]⟩] := ((hbxX.out.set_other (c := w2.heap.size) (i := 1) (v := .int .u64 QE) hne26).set_other (c := w2.heap.size) (i := 3) (v := .slice qa QP.length qc) hne26)
    have hbY : Below w.heap.size w ((w5.setCell ⟨w2.heap.size, 1, none⟩ (.int .u64 QE)).setCell ⟨w2.heap.size, 3, none⟩ (.slice qa QP.length qc)) := ((hbX.out.setCell (p := ⟨w2.heap.size, 1, none⟩) hle26 (.int .u64 QE)).setCell (p := ⟨w2.heap.size, 3, none⟩) hle26 (.slice qa QP.length qc))
    have f0 := hbxY.f 0
    have x0 := hbxY.cell 0
    have y0 := hprY.cell 0
    have f1 := hbxY.f 1
    have x1 := hbxY.cell 1
    have y1 := hprY.cell 1
    have f2 := hbxY.f 2
    have x2 := hbxY.cell 2
    have y2 := hprY.cell 2
    have f3 := hbxY.f 3
    have x3 := hbxY.cell 3
    have y3 := hprY.cell 3
    have f4 := hbxY.f 4
    have x4 := hbxY.cell 4
    have y4 := hprY.cell 4
    have f5 := hbxY.f 5
    have x5 := hbxY.cell 5
    have y5 := hprY.cell 5
    have f6 := hbxY.f 6
    have x6 := hbxY.cell 6
    have y6 := hprY.cell 6
    have f7 := hbxY.f 7
    have x7 := hbxY.cell 7
    have y7 := hprY.cell 7
    have f8 := hbxY.f 8
    have x8 := hbxY.cell 8
    have y8 := hprY.cell 8
    have f9 := hbxY.f 9
    have x9 := hbxY.cell 9
    have y9 := hprY.cell 9
    have f10 := hbxY.f 10
    have x10 := hbxY.cell 10
    have y10 := hprY.cell 10
    have f11 := hbxY.f 11
    have x11 := hbxY.cell 11
    have y11 := hprY.cell 11
    have hs12 : IsC (set12 ((w5.setCell ⟨w2.heap.size, 1, none⟩ (.int .u64 QE)).setCell ⟨w2.heap.size, 3, none⟩ (.slice qa QP.length qc)) w.heap.size (.int .i64 5) (.int .u64 QE) (.int .i64 0) (.slice qa QP.length qc) (.int .u32 0) (.int .u32 0) (.int .i64 0) (.int .u64 0) (.int .i64 0) (.slice none 0 0) (.int .i64 0) (.string ⟨#[]⟩)) w.heap.size 32 #[.int .i64 5, .int .u64 QE, .int .i64 0, .slice qa QP.length qc, .int .u32 0, .int .u32 0, .int .i64 0, .int .u64 0, .int .i64 0, .slice none 0 0, .int .i64 0, .string ⟨#[]⟩] := isC_set12 (w := ((w5.setCell ⟨w2.heap.size, 1, none⟩ (.int .u64 QE)).setCell ⟨w2.heap.size, 3, none⟩ (.slice qa QP.length qc))) hbxY
    have t0 := Lib.hid (hs12.cell 0)
    have t1 := Lib.hid (hs12.cell 1)
    have t2 := Lib.hid (hs12.cell 2)
    have t3 := Lib.hid (hs12.cell 3)
    have t4 := Lib.hid (hs12.cell 4)
    have t5 := Lib.hid (hs12.cell 5)
    have t6 := Lib.hid (hs12.cell 6)
    have t7 := Lib.hid (hs12.cell 7)
    have t8 := Lib.hid (hs12.cell 8)
    have t9 := Lib.hid (hs12.cell 9)
    have t10 := Lib.hid (hs12.cell 10)
    have t11 := Lib.hid (hs12.cell 11)
    have hfin := Lib.hid (show Below w.heap.size w (set12 ((w5.setCell ⟨w2.heap.size, 1, none⟩ (.int .u64 QE)).setCell ⟨w2.heap.size, 3, none⟩ (.slice qa QP.length qc)) w.heap.size (.int .i64 5) (.int .u64 QE) (.int .i64 0) (.slice qa QP.length qc) (.int .u32 0) (.int .u32 0) (.int .i64 0) (.int .u64 0) (.int .i64 0) (.slice none 0 0) (.int .i64 0) (.string ⟨#[]⟩)) from below_set12 (w := ((w5.setCell ⟨w2.heap.size, 1, none⟩ (.int .u64 QE)).setCell ⟨w2.heap.size, 3, none⟩ (.slice qa QP.length qc))) hbY (Nat.le_refl _))
    have hq1 := Lib.hid (OwnQ.mono (OwnQ.set12 (w := ((w5.setCell ⟨w2.heap.size, 1, none⟩ (.int .u64 QE)).setCell ⟨w2.heap.size, 3, none⟩ (.slice qa QP.length qc))) (v0 := .int .i64 5) (v1 := .int .u64 QE) (v2 := .int .i64 0) (v3 := .slice qa QP.length qc) (v4 := .int .u32 0) (v5 := .int .u32 0) (v6 := .int .i64 0) (v7 := .int .u64 0) (v8 := .int .i64 0) (v9 := .slice none 0 0) (v10 := .int .i64 0) (v11 := .string ⟨#[]⟩) (((hQX.out.set (i := 1) (v := .int .u64 QE) hq26).set (i := 3) (v := .slice qa QP.length qc) hq26)) hqw) hqle)
    clear hs12 hprY hbxY hbY
    go_wp2_with fail
    obtain ⟨wf, hwf⟩ : ∃ wf, set12 ((w5.setCell ⟨w2.heap.size, 1, none⟩ (.int .u64 QE)).setCell ⟨w2.heap.size, 3, none⟩ (.slice qa QP.length qc)) w.heap.size (.int .i64 5) (.int .u64 QE) (.int .i64 0) (.slice qa QP.length qc) (.int .u32 0) (.int .u32 0) (.int .i64 0) (.int .u64 0) (.int .i64 0) (.slice none 0 0) (.int .i64 0) (.string ⟨#[]⟩) = wf := ⟨_, rfl⟩
    have s0 := t0.out
    have s1 := t1.out
    have s2 := t2.out
    have s3 := t3.out
    have s4 := t4.out
    have s5 := t5.out
    have s6 := t6.out
    have s7 := t7.out
    have s8 := t8.out
    have s9 := t9.out
    have s10 := t10.out
    have s11 := t11.out
    have r0 := hfin.out
    have hq1' := hq1.out
    rw [hwf] at s0 s1 s2 s3 s4 s5 s6 s7 s8 s9 s10 s11 r0 hq1'
    rw [show ((((((((((((((w5.setCell ⟨w2.heap.size, 1, none⟩ (.int .u64 QE)).setCell ⟨w2.heap.size, 3, none⟩ (.slice qa QP.length qc)).setCell ⟨w.heap.size, 0, none⟩ (.int .i64 5)).setCell ⟨w.heap.size, 1, none⟩ (.int .u64 QE)).setCell ⟨w.heap.size, 2, none⟩ (.int .i64 0)).setCell ⟨w.heap.size, 3, none⟩ (.slice qa QP.length qc)).setCell ⟨w.heap.size, 4, none⟩ (.int .u32 0)).setCell ⟨w.heap.size, 5, none⟩ (.int .u32 0)).setCell ⟨w.heap.size, 6, none⟩ (.int .i64 0)).setCell ⟨w.heap.size, 7, none⟩ (.int .u64 0)).setCell ⟨w.heap.size, 8, none⟩ (.int .i64 0)).setCell ⟨w.heap.size, 9, none⟩ (.slice none 0 0)).setCell ⟨w.heap.size, 10, none⟩ (.int .i64 0)).setCell ⟨w.heap.size, 11, none⟩ (.string ⟨#[]⟩)) = wf from hwf]
    (try simp only [Exit.inBlock, Exit.then])
    refine bodyPost_ret (by simp [results, Tryz.results40, go_sem, s0, s1, s2, s3, s4, s5, s6, s7, s8, s9, s10, s11]; try rfl) rfl ?_
    rw [hR2.out]
    exact ⟨⟨qa, qc, none, 0, rfl, hq1', OwnQ.nil _ _⟩, r0⟩
  by_cases k4 : kd = 4
  · subst k4
    have cN0 := fun w' (hg : GlobT w') => number_c (text (wAt t0 0)) (by rw [text_size]; have := hwl 0; omega) w' hg
    have cN1 := fun w' (hg : GlobT w') => number_c (text (wAt t0 1)) (by rw [text_size]; have := hwl 1; omega) w' hg
    have cN2 := fun w' (hg : GlobT w') => number_c (text (wAt t0 2)) (by rw [text_size]; have := hwl 2; omega) w' hg
    rw [byts_text] at cN0 cN1 cN2
    have cO := ent_c (atoiV (wAt t0 0)) (atoiV (wAt t0 1)) (atoi_bd _) (atoi_bd _)
    have u0 := hgt 0 (by decide)
    have u1 := hgt 1 (by decide)
    have u2 := hgt 2 (by decide)
    have hR := hGF.out
    rw [if_neg (fun h => absurd h.1 (by decide))] at hR
    have hR2 := hR.trans (show gO 4 t0 = ⟨4, entF (atoiV (wAt t0 0)) (atoiV (wAt t0 1)), atoiV (wAt t0 2), [], 0, 0, 0, 0, 0, [], 0, sS⟩ from rfl)
    replace hR2 := Lib.hid hR2
    clear hGF hR hrec
    generalize entF (atoiV (wAt t0 0)) (atoiV (wAt t0 1)) = EE at *
    generalize atoiV (wAt t0 0) = I0 at *
    generalize atoiV (wAt t0 1) = I1 at *
    generalize atoiV (wAt t0 2) = I2 at *
    have m1 : (1 : Int) < (n : Int) + 3 := by omega
    have m2 : (2 : Int) < (n : Int) + 3 := by omega
    have m0 : (0 : Int) < (n : Int) + 3 := by omega
    replace cN0 := Lib.hid cN0
    replace cN1 := Lib.hid cN1
    replace cN2 := Lib.hid cN2
    replace cO := Lib.hid cO
    clear hgt hwl
    go_wp2_with fail
    refine wp_region_held_at (S := fun w1 => w1.cell? ⟨g, 0, none⟩ = some (.string (text (wAt t0 0))) ∧ w1.cell? ⟨g, 1, none⟩ = some (.string (text (wAt t0 1))) ∧ w1.cell? ⟨g, 2, none⟩ = some (.string (text (wAt t0 2)))) 17 rfl (by kernel_rfl) (by go_keep) (fun hH => ?_)
    refine wpAnyH_take (i := 0) (v := ?_) rfl (by decide +kernel) (by decide +kernel) (by decide +kernel) (fun _ _ _ h => h) (Or.inl ⟨by rfl, ?_⟩) (by assumption) ?_
    rotate_left
    · intro w1 hSw; (try dsimp only at hSw); (try simp only [List.getElem_toArray, List.getElem_cons_zero]); go_simp; try with_reducible rfl
    try simp only [List.getElem_toArray, List.getElem_cons_zero, Act.put, List.setIfInBounds_toArray, List.set_cons_zero, List.set_cons_succ]
    refine wpAnyH_take (i := 1) (v := ?_) rfl (by decide +kernel) (by decide +kernel) (by decide +kernel) (fun _ _ _ h => h) (Or.inl ⟨by rfl, ?_⟩) (by assumption) ?_
    rotate_left
    · intro w1 hSw; (try dsimp only at hSw); (try simp only [List.getElem_toArray, List.getElem_cons_zero, List.getElem_cons_succ]); go_simp; try with_reducible rfl
    try simp only [List.getElem_toArray, List.getElem_cons_zero, List.getElem_cons_succ, Act.put, List.setIfInBounds_toArray, List.set_cons_zero, List.set_cons_succ]
    refine wpAnyH_take (i := 2) (v := ?_) rfl (by decide +kernel) (by decide +kernel) (by decide +kernel) (fun _ _ _ h => h) (Or.inl ⟨by rfl, ?_⟩) (by assumption) ?_
    rotate_left
    · intro w1 hSw; (try dsimp only at hSw); (try simp only [List.getElem_toArray, List.getElem_cons_zero, List.getElem_cons_succ]); go_simp; try with_reducible rfl
    try simp only [List.getElem_toArray, List.getElem_cons_zero, List.getElem_cons_succ, Act.put, List.setIfInBounds_toArray, List.set_cons_zero, List.set_cons_succ]
    refine wpAnyH_take (i := 4) (v := ?_) rfl (by decide +kernel) (by decide +kernel) (by decide +kernel) (fun _ _ _ h => h) (Or.inl ⟨by rfl, ?_⟩) (by assumption) ?_
    rotate_left
    · intro w1 hSw; (try dsimp only at hSw); (try simp only [List.getElem_toArray, List.getElem_cons_zero, List.getElem_cons_succ]); go_simp; try with_reducible rfl
    try simp only [List.getElem_toArray, List.getElem_cons_zero, List.getElem_cons_succ, Act.put, List.setIfInBounds_toArray, List.set_cons_zero, List.set_cons_succ]
    refine wpAnyH_take (i := 5) (v := ?_) rfl (by decide +kernel) (by decide +kernel) (by decide +kernel) (fun _ _ _ h => h) (Or.inl ⟨by rfl, ?_⟩) (by assumption) ?_
    rotate_left
    · intro w1 hSw; (try dsimp only at hSw); (try simp only [List.getElem_toArray, List.getElem_cons_zero, List.getElem_cons_succ]); go_simp; try with_reducible rfl
    try simp only [List.getElem_toArray, List.getElem_cons_zero, List.getElem_cons_succ, Act.put, List.setIfInBounds_toArray, List.set_cons_zero, List.set_cons_succ]
    refine wpAnyH_take (i := 6) (v := ?_) rfl (by decide +kernel) (by decide +kernel) (by decide +kernel) (fun _ _ _ h => h) (Or.inl ⟨by rfl, ?_⟩) (by assumption) ?_
    rotate_left
    · intro w1 hSw; (try dsimp only at hSw); (try simp only [List.getElem_toArray, List.getElem_cons_zero, List.getElem_cons_succ]); go_simp; try with_reducible rfl
    try simp only [List.getElem_toArray, List.getElem_cons_zero, List.getElem_cons_succ, Act.put, List.setIfInBounds_toArray, List.set_cons_zero, List.set_cons_succ]
    refine wpAnyH_take (i := 9) (v := ?_) rfl (by decide +kernel) (by decide +kernel) (by decide +kernel) (fun _ _ _ h => h) (Or.inl ⟨by rfl, ?_⟩) (by assumption) ?_
    rotate_left
    · intro w1 hSw; (try dsimp only at hSw); (try simp only [List.getElem_toArray, List.getElem_cons_zero, List.getElem_cons_succ]); go_simp; try with_reducible rfl
    try simp only [List.getElem_toArray, List.getElem_cons_zero, List.getElem_cons_succ, Act.put, List.setIfInBounds_toArray, List.set_cons_zero, List.set_cons_succ]
    refine wpAnyH_take (i := 10) (v := ?_) rfl (by decide +kernel) (by decide +kernel) (by decide +kernel) (fun _ _ _ h => h) (Or.inl ⟨by rfl, ?_⟩) (by assumption) ?_
    rotate_left
    · intro w1 hSw; (try dsimp only at hSw); (try simp only [List.getElem_toArray, List.getElem_cons_zero, List.getElem_cons_succ]); go_simp; try with_reducible rfl
    try simp only [List.getElem_toArray, List.getElem_cons_zero, List.getElem_cons_succ, Act.put, List.setIfInBounds_toArray, List.set_cons_zero, List.set_cons_succ]
    refine wpAnyH_take (i := 11) (v := ?_) rfl (by decide +kernel) (by decide +kernel) (by decide +kernel) (fun _ _ _ h => h) (Or.inl ⟨by rfl, ?_⟩) (by assumption) ?_
    rotate_left
    · intro w1 hSw; (try dsimp only at hSw); (try simp only [List.getElem_toArray, List.getElem_cons_zero, List.getElem_cons_succ]); go_simp; try with_reducible rfl
    try simp only [List.getElem_toArray, List.getElem_cons_zero, List.getElem_cons_succ, Act.put, List.setIfInBounds_toArray, List.set_cons_zero, List.set_cons_succ]
    refine wpAnyH_ready (rs := [3]) (by decide +kernel) (by simp) ?_
    refine AllReadyH.cons rfl (fun K hK => ?_) AllReadyH.nil
    (try simp only [List.getElem_toArray, List.getElem_cons_zero, List.getElem_cons_succ])
    go_simp
    refine Calls.mono (cN0.out _ (hg4.on (below_drewed (Below.refl _ _)))) ?_
    rintro e w5 ⟨rfl, hb6⟩
    replace u0 := cell_up (show w4.drew.cell? ⟨g, 0, none⟩ = some (.string (text (wAt t0 0))) from u0) hb6
    replace u1 := cell_up (show w4.drew.cell? ⟨g, 1, none⟩ = some (.string (text (wAt t0 1))) from u1) hb6
    replace u2 := cell_up (show w4.drew.cell? ⟨g, 2, none⟩ = some (.string (text (wAt t0 2))) from u2) hb6
    have hprX := Lib.hid (isC_of (w := w4.drew) hb6 hpr.out)
    have hbxX := Lib.hid (isC_of (w := w4.drew) hb6 hbox.out)
    have hbX := Lib.hid (below_up (below_drewed hb5.out) hb5s hb6)
    have hg5 := Lib.hid ((hg4.on (below_drewed (Below.refl _ _))).on hb6)
    have hbXs := hbX.out.size
    clear hb6
    (try go_simp)
    refine hK.out _ _ (by go_keep) (fun hH => ?_)
    clear hK K
    try simp only [List.getElem_toArray, List.getElem_cons_zero, List.getElem_cons_succ, Act.put, List.setIfInBounds_toArray, List.set_cons_zero, List.set_cons_succ]
    refine wpAnyH_ready (rs := [7]) (by decide +kernel) (by simp) ?_
    refine AllReadyH.cons rfl (fun K hK => ?_) AllReadyH.nil
    (try simp only [List.getElem_toArray, List.getElem_cons_zero, List.getElem_cons_succ])
    go_simp
    refine Calls.mono (cN1.out _ hg5.out) ?_
    rintro e w6 ⟨rfl, hb7⟩
    replace u0 := cell_up u0 hb7
    replace u1 := cell_up u1 hb7
    replace u2 := cell_up u2 hb7
    replace hprX := Lib.hid (isC_of hb7 hprX.out)
    replace hbxX := Lib.hid (isC_of hb7 hbxX.out)
    replace hbX := Lib.hid (below_up hbX.out hbXs hb7)
    have hg6 := Lib.hid (hg5.out.on hb7)
    clear hb7 hbXs
    have hbXs := hbX.out.size
    (try go_simp)
    refine hK.out _ _ (by go_keep) (fun hH => ?_)
    clear hK K
    try simp only [List.getElem_toArray, List.getElem_cons_zero, List.getElem_cons_succ, Act.put, List.setIfInBounds_toArray, List.set_cons_zero, List.set_cons_succ]
    refine wpAnyH_ready (rs := [8]) (by decide +kernel) (by simp) ?_
    refine AllReadyH.cons rfl (fun K hK => ?_) AllReadyH.nil
    (try simp only [List.getElem_toArray, List.getElem_cons_zero, List.getElem_cons_succ])
    go_simp
    refine Calls.mono (cO.out.on _) ?_
    rintro e w7 ⟨rfl, rfl⟩
    (try go_simp)
    refine hK.out _ _ (by go_keep) (fun hH => ?_)
    clear hK K
    try simp only [List.getElem_toArray, List.getElem_cons_zero, List.getElem_cons_succ, Act.put, List.setIfInBounds_toArray, List.set_cons_zero, List.set_cons_succ]
    refine wpAnyH_take (i := 13) (v := ?_) rfl (by decide +kernel) (by decide +kernel) (by decide +kernel) (fun _ _ _ h => h) (Or.inl ⟨by rfl, ?_⟩) (by assumption) ?_
    rotate_left
    · intro w1 hSw; (try dsimp only at hSw); (try simp only [List.getElem_toArray, List.getElem_cons_zero, List.getElem_cons_succ]); go_simp; try with_reducible rfl
    try simp only [List.getElem_toArray, List.getElem_cons_zero, List.getElem_cons_succ, Act.put, List.setIfInBounds_toArray, List.set_cons_zero, List.set_cons_succ]
    refine wpAnyH_ready (rs := [12]) (by decide +kernel) (by simp) ?_
    refine AllReadyH.cons rfl (fun K hK => ?_) AllReadyH.nil
    (try simp only [List.getElem_toArray, List.getElem_cons_zero, List.getElem_cons_succ])
    go_simp
    refine Calls.mono (cN2.out _ hg6.out) ?_
    rintro e w7 ⟨rfl, hb8⟩
    replace u0 := cell_up u0 hb8
    replace u1 := cell_up u1 hb8
    replace u2 := cell_up u2 hb8
    replace hprX := Lib.hid (isC_of hb8 hprX.out)
    replace hbxX := Lib.hid (isC_of hb8 hbxX.out)
    replace hbX := Lib.hid (below_up hbX.out hbXs hb8)
    clear hb8 hbXs
    have e0 := hprX.out.cell 1
    have e1 := hprX.out.f 1
    have e2 := hprX.out.cell 2
    have e3 := hprX.out.f 2
    have e4 : (w7.setCell ⟨w2.heap.size, 1, none⟩ (.int .u64 EE)).frozen? ⟨w2.heap.size, 2, none⟩ = false := (hprX.out.set 1 (.int .u64 EE)).f 2
    have e5 : (w7.setCell ⟨w2.heap.size, 1, none⟩ (.int .u64 EE)).cell? ⟨w2.heap.size, 2, none⟩ = _ := (hprX.out.set 1 (.int .u64 EE)).cell 2
    (try go_simp)
    refine hK.out _ _ (by go_keep) (fun hH => ?_)
    clear hK K
    try simp only [List.getElem_toArray, List.getElem_cons_zero, List.getElem_cons_succ, Act.put, List.setIfInBounds_toArray, List.set_cons_zero, List.set_cons_succ]
    refine wpAnyH_ready (rs := [14]) (by decide +kernel) (by simp) ?_
    refine AllReadyH.cons rfl (fun K hK => ?_) AllReadyH.nil
    (try simp only [List.getElem_toArray, List.getElem_cons_zero, List.getElem_cons_succ])
    go_simp
    refine hK.out _ _ (by exact ⟨cell_set_ne hgne u0, cell_set_ne hgne u1, cell_set_ne hgne u2⟩) (fun hH => ?_)
    clear hK K
    try simp only [List.getElem_toArray, List.getElem_cons_zero, List.getElem_cons_succ, Act.put, List.setIfInBounds_toArray, List.set_cons_zero, List.set_cons_succ]
    refine wpAnyH_take (i := 15) (v := ?_) rfl (by decide +kernel) (by decide +kernel) (by decide +kernel) (fun _ _ _ h => h) (Or.inl ⟨by rfl, ?_⟩) (by assumption) ?_
    rotate_left
    · intro w1 hSw; (try dsimp only at hSw); (try simp only [List.getElem_toArray, List.getElem_cons_zero, List.getElem_cons_succ]); go_simp; try with_reducible rfl
    try simp only [List.getElem_toArray, List.getElem_cons_zero, List.getElem_cons_succ, Act.put, List.setIfInBounds_toArray, List.set_cons_zero, List.set_cons_succ]
    refine wpAnyH_ready (rs := [16]) (by decide +kernel) (by simp) ?_
    refine AllReadyH.cons rfl (fun K hK => ?_) AllReadyH.nil
    (try simp only [List.getElem_toArray, List.getElem_cons_zero, List.getElem_cons_succ])
    go_simp
    refine hK.out _ _ (by exact ⟨cell_set_ne hgne (cell_set_ne hgne u0), cell_set_ne hgne (cell_set_ne hgne u1), cell_set_ne hgne (cell_set_ne hgne u2)⟩) (fun hH => ?_)
    clear hK K
    try simp only [List.getElem_toArray, List.getElem_cons_zero, List.getElem_cons_succ, Act.put, List.setIfInBounds_toArray, List.set_cons_zero, List.set_cons_succ]
    refine wpAnyH_done (by decide +kernel) ?_ _
    have hprY : IsC ((w7.setCell ⟨w2.heap.size, 1, none⟩ (.int .u64 EE)).setCell ⟨w2.heap.size, 2, none⟩ (.int .i64 I2)) w2.heap.size 32 #[.int .i64 4, .int .u64 EE, .int .i64 I2, .slice none 0 0, .int .u32 0, .int .u32 0, .int .i64 0, .int .u64 0, .int .i64 0, .slice none 0 0, .int .i64 0, .string ⟨#[]⟩] := ((hprX.out.set 1 (.int .u64 EE)).set 2 (.int .i64 I2))
    have hbxY : IsC ((w7.setCell ⟨w2.heap.size, 1, none⟩ (.int .u64 EE)).setCell ⟨w2.heap.size, 2, none⟩ (.int .i64 I2)) w.heap.size 32 #[.int .i64 0, .int .u64 0, .int .i64 0, .slice none 0 0, .int .u32 0, .int .u32 0, .int .i64 0, .int .u64 0, .int .i64 0, .slice none 0 0, .int .i64 0, .string ⟨#[]⟩] := ((hbxX.out.set_other (c := w2.heap.size) (i := 1) (v := .int .u64 EE) hne26).set_other (c := w2.heap.size) (i := 2) (v := .int .i64 I2) hne26)
    have hbY : Below w.heap.size w ((w7.setCell ⟨w2.heap.size, 1, none⟩ (.int .u64 EE)).setCell ⟨w2.heap.size, 2, none⟩ (.int .i64 I2)) := ((hbX.out.setCell (p := ⟨w2.heap.size, 1, none⟩) hle26 (.int .u64 EE)).setCell (p := ⟨w2.heap.size, 2, none⟩) hle26 (.int .i64 I2))
    have f0 := hbxY.f 0
    have x0 := hbxY.cell 0
    have y0 := hprY.cell 0
    have f1 := hbxY.f 1
    have x1 := hbxY.cell 1
    have y1 := hprY.cell 1
    have f2 := hbxY.f 2
    have x2 := hbxY.cell 2
    have y2 := hprY.cell 2
    have f3 := hbxY.f 3
    have x3 := hbxY.cell 3
    have y3 := hprY.cell 3
    have f4 := hbxY.f 4
    have x4 := hbxY.cell 4
    have y4 := hprY.cell 4
    have f5 := hbxY.f 5
    have x5 := hbxY.cell 5
    have y5 := hprY.cell 5
    have f6 := hbxY.f 6
    have x6 := hbxY.cell 6
    have y6 := hprY.cell 6
    have f7 := hbxY.f 7
    have x7 := hbxY.cell 7
    have y7 := hprY.cell 7
    have f8 := hbxY.f 8
    have x8 := hbxY.cell 8
    have y8 := hprY.cell 8
    have f9 := hbxY.f 9
    have x9 := hbxY.cell 9
    have y9 := hprY.cell 9
    have f10 := hbxY.f 10
    have x10 := hbxY.cell 10
    have y10 := hprY.cell 10
    have f11 := hbxY.f 11
    have x11 := hbxY.cell 11
    have y11 := hprY.cell 11
    have hs12 : IsC (set12 ((w7.setCell ⟨w2.heap.size, 1, none⟩ (.int .u64 EE)).setCell ⟨w2.heap.size, 2, none⟩ (.int .i64 I2)) w.heap.size (.int .i64 4) (.int .u64 EE) (.int .i64 I2) (.slice none 0 0) (.int .u32 0) (.int .u32 0) (.int .i64 0) (.int .u64 0) (.int .i64 0) (.slice none 0 0) (.int .i64 0) (.string ⟨#[]⟩)) w.heap.size 32 #[.int .i64 4, .int .u64 EE, .int .i64 I2, .slice none 0 0, .int .u32 0, .int .u32 0, .int .i64 0, .int .u64 0, .int .i64 0, .slice none 0 0, .int .i64 0, .string ⟨#[]⟩] := isC_set12 (w := ((w7.setCell ⟨w2.heap.size, 1, none⟩ (.int .u64 EE)).setCell ⟨w2.heap.size, 2, none⟩ (.int .i64 I2))) hbxY
    have t0 := Lib.hid (hs12.cell 0)
    have t1 := Lib.hid (hs12.cell 1)
    have t2 := Lib.hid (hs12.cell 2)
    have t3 := Lib.hid (hs12.cell 3)
    have t4 := Lib.hid (hs12.cell 4)
    have t5 := Lib.hid (hs12.cell 5)
    have t6 := Lib.hid (hs12.cell 6)
    have t7 := Lib.hid (hs12.cell 7)
    have t8 := Lib.hid (hs12.cell 8)
    have t9 := Lib.hid (hs12.cell 9)
    have t10 := Lib.hid (hs12.cell 10)
    have t11 := Lib.hid (hs12.cell 11)
    have hfin := Lib.hid (show Below w.heap.size w (set12 ((w7.setCell ⟨w2.heap.size, 1, none⟩ (.int .u64 EE)).setCell ⟨w2.heap.size, 2, none⟩ (.int .i64 I2)) w.heap.size (.int .i64 4) (.int .u64 EE) (.int .i64 I2) (.slice none 0 0) (.int .u32 0) (.int .u32 0) (.int .i64 0) (.int .u64 0) (.int .i64 0) (.slice none 0 0) (.int .i64 0) (.string ⟨#[]⟩)) from below_set12 (w := ((w7.setCell ⟨w2.heap.size, 1, none⟩ (.int .u64 EE)).setCell ⟨w2.heap.size, 2, none⟩ (.int .i64 I2))) hbY (Nat.le_refl _))
    clear hs12 hprY hbxY hbY
    go_wp2_with fail
    obtain ⟨wf, hwf⟩ : ∃ wf, set12 ((w7.setCell ⟨w2.heap.size, 1, none⟩ (.int .u64 EE)).setCell ⟨w2.heap.size, 2, none⟩ (.int .i64 I2)) w.heap.size (.int .i64 4) (.int .u64 EE) (.int .i64 I2) (.slice none 0 0) (.int .u32 0) (.int .u32 0) (.int .i64 0) (.int .u64 0) (.int .i64 0) (.slice none 0 0) (.int .i64 0) (.string ⟨#[]⟩) = wf := ⟨_, rfl⟩
    have s0 := t0.out
    have s1 := t1.out
    have s2 := t2.out
    have s3 := t3.out
    have s4 := t4.out
    have s5 := t5.out
    have s6 := t6.out
    have s7 := t7.out
    have s8 := t8.out
    have s9 := t9.out
    have s10 := t10.out
    have s11 := t11.out
    have r0 := hfin.out
    rw [hwf] at s0 s1 s2 s3 s4 s5 s6 s7 s8 s9 s10 s11 r0
    rw [show ((((((((((((((w7.setCell ⟨w2.heap.size, 1, none⟩ (.int .u64 EE)).setCell ⟨w2.heap.size, 2, none⟩ (.int .i64 I2)).setCell ⟨w.heap.size, 0, none⟩ (.int .i64 4)).setCell ⟨w.heap.size, 1, none⟩ (.int .u64 EE)).setCell ⟨w.heap.size, 2, none⟩ (.int .i64 I2)).setCell ⟨w.heap.size, 3, none⟩ (.slice none 0 0)).setCell ⟨w.heap.size, 4, none⟩ (.int .u32 0)).setCell ⟨w.heap.size, 5, none⟩ (.int .u32 0)).setCell ⟨w.heap.size, 6, none⟩ (.int .i64 0)).setCell ⟨w.heap.size, 7, none⟩ (.int .u64 0)).setCell ⟨w.heap.size, 8, none⟩ (.int .i64 0)).setCell ⟨w.heap.size, 9, none⟩ (.slice none 0 0)).setCell ⟨w.heap.size, 10, none⟩ (.int .i64 0)).setCell ⟨w.heap.size, 11, none⟩ (.string ⟨#[]⟩)) = wf from hwf]
    (try simp only [Exit.inBlock, Exit.then])
    refine bodyPost_ret (by simp [results, Tryz.results40, go_sem, s0, s1, s2, s3, s4, s5, s6, s7, s8, s9, s10, s11]; try rfl) rfl ?_
    rw [hR2.out]
    exact ⟨⟨none, 0, none, 0, rfl, OwnQ.nil _ _, OwnQ.nil _ _⟩, r0⟩
  by_cases k6 : kd = 6
  · subst k6
    have cN0 := fun w' (hg : GlobT w') => number_c (text (wAt t0 0)) (by rw [text_size]; have := hwl 0; omega) w' hg
    have cN1 := fun w' (hg : GlobT w') => number_c (text (wAt t0 1)) (by rw [text_size]; have := hwl 1; omega) w' hg
    have cN2 := fun w' (hg : GlobT w') => number_c (text (wAt t0 2)) (by rw [text_size]; have := hwl 2; omega) w' hg
    rw [byts_text] at cN0 cN1 cN2
    have cO := ent_c (atoiV (wAt t0 0)) (atoiV (wAt t0 1)) (atoi_bd _) (atoi_bd _)
    have u0 := hgt 0 (by decide)
    have u1 := hgt 1 (by decide)
    have u2 := hgt 2 (by decide)
    have hR := hGF.out
    rw [if_neg (fun h => absurd h.1 (by decide))] at hR
    have hR2 := hR.trans (show gO 6 t0 = ⟨6, entF (atoiV (wAt t0 0)) (atoiV (wAt t0 1)), atoiV (wAt t0 2), [], 0, 0, 0, 0, 0, [], 0, sS⟩ from rfl)
    replace hR2 := Lib.hid hR2
    clear hGF hR hrec
    generalize entF (atoiV (wAt t0 0)) (atoiV (wAt t0 1)) = EE at *
    generalize atoiV (wAt t0 0) = I0 at *
    generalize atoiV (wAt t0 1) = I1 at *
    generalize atoiV (wAt t0 2) = I2 at *
    have m1 : (1 : Int) < (n : Int) + 3 := by omega
    have m2 : (2 : Int) < (n : Int) + 3 := by omega
    have m0 : (0 : Int) < (n : Int) + 3 := by omega
    replace cN0 := Lib.hid cN0
    replace cN1 := Lib.hid cN1
    replace cN2 := Lib.hid cN2
    replace cO := Lib.hid cO
    clear hgt hwl
    go_wp2_with fail
    refine wp_region_held_at (S := fun w1 => w1.cell? ⟨g, 0, none⟩ = some (.string (text (wAt t0 0))) ∧ w1.cell? ⟨g, 1, none⟩ = some (.string (text (wAt t0 1))) ∧ w1.cell? ⟨g, 2, none⟩ = some (.string (text (wAt t0 2)))) 17 rfl (by kernel_rfl) (by go_keep) (fun hH => ?_)
    refine wpAnyH_take (i := 0) (v := ?_) rfl (by decide +kernel) (by decide +kernel) (by decide +kernel) (fun _ _ _ h => h) (Or.inl ⟨by rfl, ?_⟩) (by assumption) ?_
    rotate_left
    · intro w1 hSw; (try dsimp only at hSw); (try simp only [List.getElem_toArray, List.getElem_cons_zero]); go_simp; try with_reducible rfl
    try simp only [List.getElem_toArray, List.getElem_cons_zero, Act.put, List.setIfInBounds_toArray, List.set_cons_zero, List.set_cons_succ]
    refine wpAnyH_take (i := 1) (v := ?_) rfl (by decide +kernel) (by decide +kernel) (by decide +kernel) (fun _ _ _ h => h) (Or.inl ⟨by rfl, ?_⟩) (by assumption) ?_
    rotate_left
    · intro w1 hSw; (try dsimp only at hSw); (try simp only [List.getElem_toArray, List.getElem_cons_zero, List.getElem_cons_succ]); go_simp; try with_reducible rfl
    try simp only [List.getElem_toArray, List.getElem_cons_zero, List.getElem_cons_succ, Act.put, List.setIfInBounds_toArray, List.set_cons_zero, List.set_cons_succ]
    refine wpAnyH_take (i := 2) (v := ?_) rfl (by decide +kernel) (by decide +kernel) (by decide +kernel) (fun _ _ _ h => h) (Or.inl ⟨by rfl, ?_⟩) (by assumption) ?_
    rotate_left
    · intro w1 hSw; (try dsimp only at hSw); (try simp only [List.getElem_toArray, List.getElem_cons_zero, List.getElem_cons_succ]); go_simp; try with_reducible rfl
    try simp only [List.getElem_toArray, List.getElem_cons_zero, List.getElem_cons_succ, Act.put, List.setIfInBounds_toArray, List.set_cons_zero, List.set_cons_succ]
    refine wpAnyH_take (i := 4) (v := ?_) rfl (by decide +kernel) (by decide +kernel) (by decide +kernel) (fun _ _ _ h => h) (Or.inl ⟨by rfl, ?_⟩) (by assumption) ?_
    rotate_left
    · intro w1 hSw; (try dsimp only at hSw); (try simp only [List.getElem_toArray, List.getElem_cons_zero, List.getElem_cons_succ]); go_simp; try with_reducible rfl
    try simp only [List.getElem_toArray, List.getElem_cons_zero, List.getElem_cons_succ, Act.put, List.setIfInBounds_toArray, List.set_cons_zero, List.set_cons_succ]
    refine wpAnyH_take (i := 5) (v := ?_) rfl (by decide +kernel) (by decide +kernel) (by decide +kernel) (fun _ _ _ h => h) (Or.inl ⟨by rfl, ?_⟩) (by assumption) ?_
    rotate_left
    · intro w1 hSw; (try dsimp only at hSw); (try simp only [List.getElem_toArray, List.getElem_cons_zero, List.getElem_cons_succ]); go_simp; try with_reducible rfl
    try simp only [List.getElem_toArray, List.getElem_cons_zero, List.getElem_cons_succ, Act.put, List.setIfInBounds_toArray, List.set_cons_zero, List.set_cons_succ]
    refine wpAnyH_take (i := 6) (v := ?_) rfl (by decide +kernel) (by decide +kernel) (by decide +kernel) (fun _ _ _ h => h) (Or.inl ⟨by rfl, ?_⟩) (by assumption) ?_
    rotate_left
    · intro w1 hSw; (try dsimp only at hSw); (try simp only [List.getElem_toArray, List.getElem_cons_zero, List.getElem_cons_succ]); go_simp; try with_reducible rfl
    try simp only [List.getElem_toArray, List.getElem_cons_zero, List.getElem_cons_succ, Act.put, List.setIfInBounds_toArray, List.set_cons_zero, List.set_cons_succ]
    refine wpAnyH_take (i := 9) (v := ?_) rfl (by decide +kernel) (by decide +kernel) (by decide +kernel) (fun _ _ _ h => h) (Or.inl ⟨by rfl, ?_⟩) (by assumption) ?_
    rotate_left
    · intro w1 hSw; (try dsimp only at hSw); (try simp only [List.getElem_toArray, List.getElem_cons_zero, List.getElem_cons_succ]); go_simp; try with_reducible rfl
    try simp only [List.getElem_toArray, List.getElem_cons_zero, List.getElem_cons_succ, Act.put, List.setIfInBounds_toArray, List.set_cons_zero, List.set_cons_succ]
    refine wpAnyH_take (i := 10) (v := ?_) rfl (by decide +kernel) (by decide +kernel) (by decide +kernel) (fun _ _ _ h => h) (Or.inl ⟨by rfl, ?_⟩) (by assumption) ?_
    rotate_left
    · intro w1 hSw; (try dsimp only at hSw); (try simp only [List.getElem_toArray, List.getElem_cons_zero, List.getElem_cons_succ]); go_simp; try with_reducible rfl
    try simp only [List.getElem_toArray, List.getElem_cons_zero, List.getElem_cons_succ, Act.put, List.setIfInBounds_toArray, List.set_cons_zero, List.set_cons_succ]
    refine wpAnyH_take (i := 11) (v := ?_) rfl (by decide +kernel) (by decide +kernel) (by decide +kernel) (fun _ _ _ h => h) (Or.inl ⟨by rfl, ?_⟩) (by assumption) ?_
    rotate_left
    · intro w1 hSw; (try dsimp only at hSw); (try simp only [List.getElem_toArray, List.getElem_cons_zero, List.getElem_cons_succ]); go_simp; try with_reducible rfl
    try simp only [List.getElem_toArray, List.getElem_cons_zero, List.getElem_cons_succ, Act.put, List.setIfInBounds_toArray, List.set_cons_zero, List.set_cons_succ]
    refine wpAnyH_ready (rs := [3]) (by decide +kernel) (by simp) ?_
    refine AllReadyH.cons rfl (fun K hK => ?_) AllReadyH.nil
    (try simp only [List.getElem_toArray, List.getElem_cons_zero, List.getElem_cons_succ])
    go_simp
    refine Calls.mono (cN0.out _ (hg4.on (below_drewed (Below.refl _ _)))) ?_
    rintro e w5 ⟨rfl, hb6⟩
    replace u0 := cell_up (show w4.drew.cell? ⟨g, 0, none⟩ = some (.string (text (wAt t0 0))) from u0) hb6
    replace u1 := cell_up (show w4.drew.cell? ⟨g, 1, none⟩ = some (.string (text (wAt t0 1))) from u1) hb6
    replace u2 := cell_up (show w4.drew.cell? ⟨g, 2, none⟩ = some (.string (text (wAt t0 2))) from u2) hb6
    have hprX := Lib.hid (isC_of (w := w4.drew) hb6 hpr.out)
    have hbxX := Lib.hid (isC_of (w := w4.drew) hb6 hbox.out)
    have hbX := Lib.hid (below_up (below_drewed hb5.out) hb5s hb6)
    have hg5 := Lib.hid ((hg4.on (below_drewed (Below.refl _ _))).on hb6)
    have hbXs := hbX.out.size
    clear hb6
    (try go_simp)
    refine hK.out _ _ (by go_keep) (fun hH => ?_)
    clear hK K
    try simp only [List.getElem_toArray, List.getElem_cons_zero, List.getElem_cons_succ, Act.put, List.setIfInBounds_toArray, List.set_cons_zero, List.set_cons_succ]
    refine wpAnyH_ready (rs := [7]) (by decide +kernel) (by simp) ?_
    refine AllReadyH.cons rfl (fun K hK => ?_) AllReadyH.nil
    (try simp only [List.getElem_toArray, List.getElem_cons_zero, List.getElem_cons_succ])
    go_simp
    refine Calls.mono (cN1.out _ hg5.out) ?_
    rintro e w6 ⟨rfl, hb7⟩
    replace u0 := cell_up u0 hb7
    replace u1 := cell_up u1 hb7
    replace u2 := cell_up u2 hb7
    replace hprX := Lib.hid (isC_of hb7 hprX.out)
    replace hbxX := Lib.hid (isC_of hb7 hbxX.out)
    replace hbX := Lib.hid (below_up hbX.out hbXs hb7)
    have hg6 := Lib.hid (hg5.out.on hb7)
    clear hb7 hbXs
    have hbXs := hbX.out.size
    (try go_simp)
    refine hK.out _ _ (by go_keep) (fun hH => ?_)
    clear hK K
    try simp only [List.getElem_toArray, List.getElem_cons_zero, List.getElem_cons_succ, Act.put, List.setIfInBounds_toArray, List.set_cons_zero, List.set_cons_succ]
    refine wpAnyH_ready (rs := [8]) (by decide +kernel) (by simp) ?_
    refine AllReadyH.cons rfl (fun K hK => ?_) AllReadyH.nil
    (try simp only [List.getElem_toArray, List.getElem_cons_zero, List.getElem_cons_succ])
    go_simp
    refine Calls.mono (cO.out.on _) ?_
    rintro e w7 ⟨rfl, rfl⟩
    (try go_simp)
    refine hK.out _ _ (by go_keep) (fun hH => ?_)
    clear hK K
    try simp only [List.getElem_toArray, List.getElem_cons_zero, List.getElem_cons_succ, Act.put, List.setIfInBounds_toArray, List.set_cons_zero, List.set_cons_succ]
    refine wpAnyH_take (i := 13) (v := ?_) rfl (by decide +kernel) (by decide +kernel) (by decide +kernel) (fun _ _ _ h => h) (Or.inl ⟨by rfl, ?_⟩) (by assumption) ?_
    rotate_left
    · intro w1 hSw; (try dsimp only at hSw); (try simp only [List.getElem_toArray, List.getElem_cons_zero, List.getElem_cons_succ]); go_simp; try with_reducible rfl
    try simp only [List.getElem_toArray, List.getElem_cons_zero, List.getElem_cons_succ, Act.put, List.setIfInBounds_toArray, List.set_cons_zero, List.set_cons_succ]
    refine wpAnyH_ready (rs := [12]) (by decide +kernel) (by simp) ?_
    refine AllReadyH.cons rfl (fun K hK => ?_) AllReadyH.nil
    (try simp only [List.getElem_toArray, List.getElem_cons_zero, List.getElem_cons_succ])
    go_simp
    refine Calls.mono (cN2.out _ hg6.out) ?_
    rintro e w7 ⟨rfl, hb8⟩
    replace u0 := cell_up u0 hb8
    replace u1 := cell_up u1 hb8
    replace u2 := cell_up u2 hb8
    replace hprX := Lib.hid (isC_of hb8 hprX.out)
    replace hbxX := Lib.hid (isC_of hb8 hbxX.out)
    replace hbX := Lib.hid (below_up hbX.out hbXs hb8)
    clear hb8 hbXs
    have e0 := hprX.out.cell 1
    have e1 := hprX.out.f 1
    have e2 := hprX.out.cell 2
    have e3 := hprX.out.f 2
    have e4 : (w7.setCell ⟨w2.heap.size, 1, none⟩ (.int .u64 EE)).frozen? ⟨w2.heap.size, 2, none⟩ = false := (hprX.out.set 1 (.int .u64 EE)).f 2
    have e5 : (w7.setCell ⟨w2.heap.size, 1, none⟩ (.int .u64 EE)).cell? ⟨w2.heap.size, 2, none⟩ = _ := (hprX.out.set 1 (.int .u64 EE)).cell 2
    (try go_simp)
    refine hK.out _ _ (by go_keep) (fun hH => ?_)
    clear hK K
    try simp only [List.getElem_toArray, List.getElem_cons_zero, List.getElem_cons_succ, Act.put, List.setIfInBounds_toArray, List.set_cons_zero, List.set_cons_succ]
    refine wpAnyH_ready (rs := [14]) (by decide +kernel) (by simp) ?_
    refine AllReadyH.cons rfl (fun K hK => ?_) AllReadyH.nil
    (try simp only [List.getElem_toArray, List.getElem_cons_zero, List.getElem_cons_succ])
    go_simp
    refine hK.out _ _ (by exact ⟨cell_set_ne hgne u0, cell_set_ne hgne u1, cell_set_ne hgne u2⟩) (fun hH => ?_)
    clear hK K
    try simp only [List.getElem_toArray, List.getElem_cons_zero, List.getElem_cons_succ, Act.put, List.setIfInBounds_toArray, List.set_cons_zero, List.set_cons_succ]
    refine wpAnyH_take (i := 15) (v := ?_) rfl (by decide +kernel) (by decide +kernel) (by decide +kernel) (fun _ _ _ h => h) (Or.inl ⟨by rfl, ?_⟩) (by assumption) ?_
    rotate_left
    · intro w1 hSw; (try dsimp only at hSw); (try simp only [List.getElem_toArray, List.getElem_cons_zero, List.getElem_cons_succ]); go_simp; try with_reducible rfl
    try simp only [List.getElem_toArray, List.getElem_cons_zero, List.getElem_cons_succ, Act.put, List.setIfInBounds_toArray, List.set_cons_zero, List.set_cons_succ]
    refine wpAnyH_ready (rs := [16]) (by decide +kernel) (by simp) ?_
    refine AllReadyH.cons rfl (fun K hK => ?_) AllReadyH.nil
    (try simp only [List.getElem_toArray, List.getElem_cons_zero, List.getElem_cons_succ])
    go_simp
    refine hK.out _ _ (by exact ⟨cell_set_ne hgne (cell_set_ne hgne u0), cell_set_ne hgne (cell_set_ne hgne u1), cell_set_ne hgne (cell_set_ne hgne u2)⟩) (fun hH => ?_)
    clear hK K
    try simp only [List.getElem_toArray, List.getElem_cons_zero, List.getElem_cons_succ, Act.put, List.setIfInBounds_toArray, List.set_cons_zero, List.set_cons_succ]
    refine wpAnyH_done (by decide +kernel) ?_ _
    have hprY : IsC ((w7.setCell ⟨w2.heap.size, 1, none⟩ (.int .u64 EE)).setCell ⟨w2.heap.size, 2, none⟩ (.int .i64 I2)) w2.heap.size 32 #[.int .i64 6, .int .u64 EE, .int .i64 I2, .slice none 0 0, .int .u32 0, .int .u32 0, .int .i64 0, .int .u64 0, .int .i64 0, .slice none 0 0, .int .i64 0, .string ⟨#[]⟩] := ((hprX.out.set 1 (.int .u64 EE)).set 2 (.int .i64 I2))
    have hbxY : IsC ((w7.setCell ⟨w2.heap.size, 1, none⟩ (.int .u64 EE)).setCell ⟨w2.heap.size, 2, none⟩ (.int .i64 I2)) w.heap.size 32 #[.int .i64 0, .int .u64 0, .int .i64 0, .slice none 0 0, .int .u32 0, .int .u32 0, .int .i64 0, .int .u64 0, .int .i64 0, .slice none 0 0, .int .i64 0, .string ⟨#[]⟩] := ((hbxX.out.set_other (c := w2.heap.size) (i := 1) (v := .int .u64 EE) hne26).set_other (c := w2.heap.size) (i := 2) (v := .int .i64 I2) hne26)
    have hbY : Below w.heap.size w ((w7.setCell ⟨w2.heap.size, 1, none⟩ (.int .u64 EE)).setCell ⟨w2.heap.size, 2, none⟩ (.int .i64 I2)) := ((hbX.out.setCell (p := ⟨w2.heap.size, 1, none⟩) hle26 (.int .u64 EE)).setCell (p := ⟨w2.heap.size, 2, none⟩) hle26 (.int .i64 I2))
    have f0 := hbxY.f 0
    have x0 := hbxY.cell 0
    have y0 := hprY.cell 0
    have f1 := hbxY.f 1
    have x1 := hbxY.cell 1
    have y1 := hprY.cell 1
    have f2 := hbxY.f 2
    have x2 := hbxY.cell 2
    have y2 := hprY.cell 2
    have f3 := hbxY.f 3
    have x3 := hbxY.cell 3
    have y3 := hprY.cell 3
    have f4 := hbxY.f 4
    have x4 := hbxY.cell 4
    have y4 := hprY.cell 4
    have f5 := hbxY.f 5
    have x5 := hbxY.cell 5
    have y5 := hprY.cell 5
    have f6 := hbxY.f 6
    have x6 := hbxY.cell 6
    have y6 := hprY.cell 6
    have f7 := hbxY.f 7
    have x7 := hbxY.cell 7
    have y7 := hprY.cell 7
    have f8 := hbxY.f 8
    have x8 := hbxY.cell 8
    have y8 := hprY.cell 8
    have f9 := hbxY.f 9
    have x9 := hbxY.cell 9
    have y9 := hprY.cell 9
    have f10 := hbxY.f 10
    have x10 := hbxY.cell 10
    have y10 := hprY.cell 10
    have f11 := hbxY.f 11
    have x11 := hbxY.cell 11
    have y11 := hprY.cell 11
    have hs12 : IsC (set12 ((w7.setCell ⟨w2.heap.size, 1, none⟩ (.int .u64 EE)).setCell ⟨w2.heap.size, 2, none⟩ (.int .i64 I2)) w.heap.size (.int .i64 6) (.int .u64 EE) (.int .i64 I2) (.slice none 0 0) (.int .u32 0) (.int .u32 0) (.int .i64 0) (.int .u64 0) (.int .i64 0) (.slice none 0 0) (.int .i64 0) (.string ⟨#[]⟩)) w.heap.size 32 #[.int .i64 6, .int .u64 EE, .int .i64 I2, .slice none 0 0, .int .u32 0, .int .u32 0, .int .i64 0, .int .u64 0, .int .i64 0, .slice none 0 0, .int .i64 0, .string ⟨#[]⟩] := isC_set12 (w := ((w7.setCell ⟨w2.heap.size, 1, none⟩ (.int .u64 EE)).setCell ⟨w2.heap.size, 2, none⟩ (.int .i64 I2))) hbxY
    have t0 := Lib.hid (hs12.cell 0)
    have t1 := Lib.hid (hs12.cell 1)
    have t2 := Lib.hid (hs12.cell 2)
    have t3 := Lib.hid (hs12.cell 3)
    have t4 := Lib.hid (hs12.cell 4)
    have t5 := Lib.hid (hs12.cell 5)
    have t6 := Lib.hid (hs12.cell 6)
    have t7 := Lib.hid (hs12.cell 7)
    have t8 := Lib.hid (hs12.cell 8)
    have t9 := Lib.hid (hs12.cell 9)
    have t10 := Lib.hid (hs12.cell 10)
    have t11 := Lib.hid (hs12.cell 11)
    have hfin := Lib.hid (show Below w.heap.size w (set12 ((w7.setCell ⟨w2.heap.size, 1, none⟩ (.int .u64 EE)).setCell ⟨w2.heap.size, 2, none⟩ (.int .i64 I2)) w.heap.size (.int .i64 6) (.int .u64 EE) (.int .i64 I2) (.slice none 0 0) (.int .u32 0) (.int .u32 0) (.int .i64 0) (.int .u64 0) (.int .i64 0) (.slice none 0 0) (.int .i64 0) (.string ⟨#[]⟩)) from below_set12 (w := ((w7.setCell ⟨w2.heap.size, 1, none⟩ (.int .u64 EE)).setCell ⟨w2.heap.size, 2, none⟩ (.int .i64 I2))) hbY (Nat.le_refl _))
    clear hs12 hprY hbxY hbY
    go_wp2_with fail
    obtain ⟨wf, hwf⟩ : ∃ wf, set12 ((w7.setCell ⟨w2.heap.size, 1, none⟩ (.int .u64 EE)).setCell ⟨w2.heap.size, 2, none⟩ (.int .i64 I2)) w.heap.size (.int .i64 6) (.int .u64 EE) (.int .i64 I2) (.slice none 0 0) (.int .u32 0) (.int .u32 0) (.int .i64 0) (.int .u64 0) (.int .i64 0) (.slice none 0 0) (.int .i64 0) (.string ⟨#[]⟩) = wf := ⟨_, rfl⟩
    have s0 := t0.out
    have s1 := t1.out
    have s2 := t2.out
    have s3 := t3.out
    have s4 := t4.out
    have s5 := t5.out
    have s6 := t6.out
    have s7 := t7.out
    have s8 := t8.out
    have s9 := t9.out
    have s10 := t10.out
    have s11 := t11.out
    have r0 := hfin.out
    rw [hwf] at s0 s1 s2 s3 s4 s5 s6 s7 s8 s9 s10 s11 r0
    rw [show ((((((((((((((w7.setCell ⟨w2.heap.size, 1, none⟩ (.int .u64 EE)).setCell ⟨w2.heap.size, 2, none⟩ (.int .i64 I2)).setCell ⟨w.heap.size, 0, none⟩ (.int .i64 6)).setCell ⟨w.heap.size, 1, none⟩ (.int .u64 EE)).setCell ⟨w.heap.size, 2, none⟩ (.int .i64 I2)).setCell ⟨w.heap.size, 3, none⟩ (.slice none 0 0)).setCell ⟨w.heap.size, 4, none⟩ (.int .u32 0)).setCell ⟨w.heap.size, 5, none⟩ (.int .u32 0)).setCell ⟨w.heap.size, 6, none⟩ (.int .i64 0)).setCell ⟨w.heap.size, 7, none⟩ (.int .u64 0)).setCell ⟨w.heap.size, 8, none⟩ (.int .i64 0)).setCell ⟨w.heap.size, 9, none⟩ (.slice none 0 0)).setCell ⟨w.heap.size, 10, none⟩ (.int .i64 0)).setCell ⟨w.heap.size, 11, none⟩ (.string ⟨#[]⟩)) = wf from hwf]
    (try simp only [Exit.inBlock, Exit.then])
    refine bodyPost_ret (by simp [results, Tryz.results40, go_sem, s0, s1, s2, s3, s4, s5, s6, s7, s8, s9, s10, s11]; try rfl) rfl ?_
    rw [hR2.out]
    exact ⟨⟨none, 0, none, 0, rfl, OwnQ.nil _ _, OwnQ.nil _ _⟩, r0⟩
  by_cases k7 : kd = 7
  · subst k7
    have cQ := qparse_c (text t0) (by rw [text_size]; omega) w4 hg4
    rw [byts_text] at cQ
    unfold qv at cQ
    have hR := hGF.out
    rw [if_neg (fun h => absurd h.1 (by decide))] at hR
    have hR2 := hR.trans (show gO 7 t0 = ⟨7, 0, 0, [], (parseQF t0).1, (parseQF t0).2.1, 0, 0, 0, [], 0, sS⟩ from rfl)
    replace hR2 := Lib.hid hR2
    clear hGF hR hrec
    generalize parseQF t0 = Q at *
    obtain ⟨QA, QN, Qr⟩ := Q
    dsimp only at *
    replace cQ := Lib.hid cQ
    go_wp2_with fail
    refine cQ.out.mono ?_
    rintro x w5 ⟨rfl, hb6⟩
    have hprX := Lib.hid (isC_of hb6 hpr.out)
    have hbxX := Lib.hid (isC_of hb6 hbox.out)
    have hbX := Lib.hid (below_up hb5.out hb5s hb6)
    have hq26 : w2.heap.size < w4.heap.size := hw24
    have hqw : w.heap.size < w4.heap.size := by omega
    have hqle : w.heap.size ≤ w4.heap.size := by omega
    clear hb6 cQ k0
    have e0 := hprX.out.cell 4
    have e1 := hprX.out.f 4
    have e2 := hprX.out.cell 5
    have e3 := hprX.out.f 5
    have hprY : IsC ((w5.setCell ⟨w2.heap.size, 4, none⟩ (.int .u32 QA)).setCell ⟨w2.heap.size, 5, none⟩ (.int .u32 QN)) w2.heap.size 32 #[.int .i64 7, .int .u64 0, .int .i64 0, .slice none 0 0, .int .u32 QA, .int .u32 QN, .int .i64 0, .int .u64 0, .int .i64 0, .slice none 0 0, .int .i64 0, .string ⟨#[]⟩] := ((hprX.out.set 4 (.int .u32 QA)).set 5 (.int .u32 QN))
    have hbxY : IsC ((w5.setCell ⟨w2.heap.size, 4, none⟩ (.int .u32 QA)).setCell ⟨w2.heap.size, 5, none⟩ (.int .u32 QN)) w.heap.size 32 #[.int .i64 0, .int .u64 0, .int .i64 0, .slice none 0 0, .int .u32 0, .int .u32 0, .int .i64 0, .int .u64 0, .int .i64 0, .slice none 0 0, .int .i64 0, .string ⟨#[]⟩] := ((hbxX.out.set_other (c := w2.heap.size) (i := 4) (v := .int .u32 QA) hne26).set_other (c := w2.heap.size) (i := 5) (v := .int .u32 QN) hne26)
    have hbY : Below w.heap.size w ((w5.setCell ⟨w2.heap.size, 4, none⟩ (.int .u32 QA)).setCell ⟨w2.heap.size, 5, none⟩ (.int .u32 QN)) := ((hbX.out.setCell (p := ⟨w2.heap.size, 4, none⟩) hle26 (.int .u32 QA)).setCell (p := ⟨w2.heap.size, 5, none⟩) hle26 (.int .u32 QN))
    have f0 := hbxY.f 0
    have x0 := hbxY.cell 0
    have y0 := hprY.cell 0
    have f1 := hbxY.f 1
    have x1 := hbxY.cell 1
    have y1 := hprY.cell 1
    have f2 := hbxY.f 2
    have x2 := hbxY.cell 2
    have y2 := hprY.cell 2
    have f3 := hbxY.f 3
    have x3 := hbxY.cell 3
    have y3 := hprY.cell 3
    have f4 := hbxY.f 4
    have x4 := hbxY.cell 4
    have y4 := hprY.cell 4
    have f5 := hbxY.f 5
    have x5 := hbxY.cell 5
    have y5 := hprY.cell 5
    have f6 := hbxY.f 6
    have x6 := hbxY.cell 6
    have y6 := hprY.cell 6
    have f7 := hbxY.f 7
    have x7 := hbxY.cell 7
    have y7 := hprY.cell 7
    have f8 := hbxY.f 8
    have x8 := hbxY.cell 8
    have y8 := hprY.cell 8
    have f9 := hbxY.f 9
    have x9 := hbxY.cell 9
    have y9 := hprY.cell 9
    have f10 := hbxY.f 10
    have x10 := hbxY.cell 10
    have y10 := hprY.cell 10
    have f11 := hbxY.f 11
    have x11 := hbxY.cell 11
    have y11 := hprY.cell 11
    have hs12 : IsC (set12 ((w5.setCell ⟨w2.heap.size, 4, none⟩ (.int .u32 QA)).setCell ⟨w2.heap.size, 5, none⟩ (.int .u32 QN)) w.heap.size (.int .i64 7) (.int .u64 0) (.int .i64 0) (.slice none 0 0) (.int .u32 QA) (.int .u32 QN) (.int .i64 0) (.int .u64 0) (.int .i64 0) (.slice none 0 0) (.int .i64 0) (.string ⟨#[]⟩)) w.heap.size 32 #[.int .i64 7, .int .u64 0, .int .i64 0, .slice none 0 0, .int .u32 QA, .int .u32 QN, .int .i64 0, .int .u64 0, .int .i64 0, .slice none 0 0, .int .i64 0, .string ⟨#[]⟩] := isC_set12 (w := ((w5.setCell ⟨w2.heap.size, 4, none⟩ (.int .u32 QA)).setCell ⟨w2.heap.size, 5, none⟩ (.int .u32 QN))) hbxY
    have t0 := Lib.hid (hs12.cell 0)
    have t1 := Lib.hid (hs12.cell 1)
    have t2 := Lib.hid (hs12.cell 2)
    have t3 := Lib.hid (hs12.cell 3)
    have t4 := Lib.hid (hs12.cell 4)
    have t5 := Lib.hid (hs12.cell 5)
    have t6 := Lib.hid (hs12.cell 6)
    have t7 := Lib.hid (hs12.cell 7)
    have t8 := Lib.hid (hs12.cell 8)
    have t9 := Lib.hid (hs12.cell 9)
    have t10 := Lib.hid (hs12.cell 10)
    have t11 := Lib.hid (hs12.cell 11)
    have hfin := Lib.hid (show Below w.heap.size w (set12 ((w5.setCell ⟨w2.heap.size, 4, none⟩ (.int .u32 QA)).setCell ⟨w2.heap.size, 5, none⟩ (.int .u32 QN)) w.heap.size (.int .i64 7) (.int .u64 0) (.int .i64 0) (.slice none 0 0) (.int .u32 QA) (.int .u32 QN) (.int .i64 0) (.int .u64 0) (.int .i64 0) (.slice none 0 0) (.int .i64 0) (.string ⟨#[]⟩)) from below_set12 (w := ((w5.setCell ⟨w2.heap.size, 4, none⟩ (.int .u32 QA)).setCell ⟨w2.heap.size, 5, none⟩ (.int .u32 QN))) hbY (Nat.le_refl _))
    clear hs12 hprY hbxY hbY
    go_wp2_with fail
    obtain ⟨wf, hwf⟩ : ∃ wf, set12 ((w5.setCell ⟨w2.heap.size, 4, none⟩ (.int .u32 QA)).setCell ⟨w2.heap.size, 5, none⟩ (.int .u32 QN)) w.heap.size (.int .i64 7) (.int .u64 0) (.int .i64 0) (.slice none 0 0) (.int .u32 QA) (.int .u32 QN) (.int .i64 0) (.int .u64 0) (.int .i64 0) (.slice none 0 0) (.int .i64 0) (.string ⟨#[]⟩) = wf := ⟨_, rfl⟩
    have s0 := t0.out
    have s1 := t1.out
    have s2 := t2.out
    have s3 := t3.out
    have s4 := t4.out
    have s5 := t5.out
    have s6 := t6.out
    have s7 := t7.out
    have s8 := t8.out
    have s9 := t9.out
    have s10 := t10.out
    have s11 := t11.out
    have r0 := hfin.out
    rw [hwf] at s0 s1 s2 s3 s4 s5 s6 s7 s8 s9 s10 s11 r0
    rw [show ((((((((((((((w5.setCell ⟨w2.heap.size, 4, none⟩ (.int .u32 QA)).setCell ⟨w2.heap.size, 5, none⟩ (.int .u32 QN)).setCell ⟨w.heap.size, 0, none⟩ (.int .i64 7)).setCell ⟨w.heap.size, 1, none⟩ (.int .u64 0)).setCell ⟨w.heap.size, 2, none⟩ (.int .i64 0)).setCell ⟨w.heap.size, 3, none⟩ (.slice none 0 0)).setCell ⟨w.heap.size, 4, none⟩ (.int .u32 QA)).setCell ⟨w.heap.size, 5, none⟩ (.int .u32 QN)).setCell ⟨w.heap.size, 6, none⟩ (.int .i64 0)).setCell ⟨w.heap.size, 7, none⟩ (.int .u64 0)).setCell ⟨w.heap.size, 8, none⟩ (.int .i64 0)).setCell ⟨w.heap.size, 9, none⟩ (.slice none 0 0)).setCell ⟨w.heap.size, 10, none⟩ (.int .i64 0)).setCell ⟨w.heap.size, 11, none⟩ (.string ⟨#[]⟩)) = wf from hwf]
    (try simp only [Exit.inBlock, Exit.then])
    refine bodyPost_ret (by simp [results, Tryz.results40, go_sem, s0, s1, s2, s3, s4, s5, s6, s7, s8, s9, s10, s11]; try rfl) rfl ?_
    rw [hR2.out]
    exact ⟨⟨none, 0, none, 0, rfl, OwnQ.nil _ _, OwnQ.nil _ _⟩, r0⟩
  by_cases k9 : kd = 9
  · subst k9
    have cN := number_c (text t0) (by rw [text_size]; omega) w4 hg4
    rw [byts_text] at cN
    have hR := hGF.out
    rw [if_neg (fun h => absurd h.1 (by decide))] at hR
    have hR2 := hR.trans (show gO 9 t0 = ⟨9, 0, 0, [], 0, 0, 0, 0, 0, [], atoiV t0, sS⟩ from rfl)
    replace hR2 := Lib.hid hR2
    clear hGF hR hrec
    generalize atoiV t0 = I0 at *
    replace cN := Lib.hid cN
    go_wp2_with fail
    refine cN.out.mono ?_
    rintro x w5 ⟨rfl, hb6⟩
    have hprX := Lib.hid (isC_of hb6 hpr.out)
    have hbxX := Lib.hid (isC_of hb6 hbox.out)
    have hbX := Lib.hid (below_up hb5.out hb5s hb6)
    have hq26 : w2.heap.size < w4.heap.size := hw24
    have hqw : w.heap.size < w4.heap.size := by omega
    have hqle : w.heap.size ≤ w4.heap.size := by omega
    clear hb6 cN k0
    have e0 := hprX.out.cell 10
    have e1 := hprX.out.f 10
    have hprY : IsC (w5.setCell ⟨w2.heap.size, 10, none⟩ (.int .i64 I0)) w2.heap.size 32 #[.int .i64 9, .int .u64 0, .int .i64 0, .slice none 0 0, .int .u32 0, .int .u32 0, .int .i64 0, .int .u64 0, .int .i64 0, .slice none 0 0, .int .i64 I0, .string ⟨#[]⟩] := (hprX.out.set 10 (.int .i64 I0))
    have hbxY : IsC (w5.setCell ⟨w2.heap.size, 10, none⟩ (.int .i64 I0)) w.heap.size 32 #[.int .i64 0, .int .u64 0, .int .i64 0, .slice none 0 0, .int .u32 0, .int .u32 0, .int .i64 0, .int .u64 0, .int .i64 0, .slice none 0 0, .int .i64 0, .string ⟨#[]⟩] := (hbxX.out.set_other (c := w2.heap.size) (i := 10) (v := .int .i64 I0) hne26)
    have hbY : Below w.heap.size w (w5.setCell ⟨w2.heap.size, 10, none⟩ (.int .i64 I0)) := (hbX.out.setCell (p := ⟨w2.heap.size, 10, none⟩) hle26 (.int .i64 I0))
    have f0 := hbxY.f 0
    have x0 := hbxY.cell 0
    have y0 := hprY.cell 0
    have f1 := hbxY.f 1
    have x1 := hbxY.cell 1
    have y1 := hprY.cell 1
    have f2 := hbxY.f 2
    have x2 := hbxY.cell 2
    have y2 := hprY.cell 2
    have f3 := hbxY.f 3
    have x3 := hbxY.cell 3
    have y3 := hprY.cell 3
    have f4 := hbxY.f 4
    have x4 := hbxY.cell 4
    have y4 := hprY.cell 4
    have f5 := hbxY.f 5
    have x5 := hbxY.cell 5
    have y5 := hprY.cell 5
    have f6 := hbxY.f 6
    have x6 := hbxY.cell 6
    have y6 := hprY.cell 6
    have f7 := hbxY.f 7
    have x7 := hbxY.cell 7
    have y7 := hprY.cell 7
    have f8 := hbxY.f 8
    have x8 := hbxY.cell 8
    have y8 := hprY.cell 8
    have f9 := hbxY.f 9
    have x9 := hbxY.cell 9
    have y9 := hprY.cell 9
    have f10 := hbxY.f 10
    have x10 := hbxY.cell 10
    have y10 := hprY.cell 10
    have f11 := hbxY.f 11
    have x11 := hbxY.cell 11
    have y11 := hprY.cell 11
    have hs12 : IsC (set12 (w5.setCell ⟨w2.heap.size, 10, none⟩ (.int .i64 I0)) w.heap.size (.int .i64 9) (.int .u64 0) (.int .i64 0) (.slice none 0 0) (.int .u32 0) (.int .u32 0) (.int .i64 0) (.int .u64 0) (.int .i64 0) (.slice none 0 0) (.int .i64 I0) (.string ⟨#[]⟩)) w.heap.size 32 #[.int .i64 9, .int .u64 0, .int .i64 0, .slice none 0 0, .int .u32 0, .int .u32 0, .int .i64 0, .int .u64 0, .int .i64 0, .slice none 0 0, .int .i64 I0, .string ⟨#[]⟩] := isC_set12 (w := (w5.setCell ⟨w2.heap.size, 10, none⟩ (.int .i64 I0))) hbxY
    have t0 := Lib.hid (hs12.cell 0)
    have t1 := Lib.hid (hs12.cell 1)
    have t2 := Lib.hid (hs12.cell 2)
    have t3 := Lib.hid (hs12.cell 3)
    have t4 := Lib.hid (hs12.cell 4)
    have t5 := Lib.hid (hs12.cell 5)
    have t6 := Lib.hid (hs12.cell 6)
    have t7 := Lib.hid (hs12.cell 7)
    have t8 := Lib.hid (hs12.cell 8)
    have t9 := Lib.hid (hs12.cell 9)
    have t10 := Lib.hid (hs12.cell 10)
    have t11 := Lib.hid (hs12.cell 11)
    have hfin := Lib.hid (show Below w.heap.size w (set12 (w5.setCell ⟨w2.heap.size, 10, none⟩ (.int .i64 I0)) w.heap.size (.int .i64 9) (.int .u64 0) (.int .i64 0) (.slice none 0 0) (.int .u32 0) (.int .u32 0) (.int .i64 0) (.int .u64 0) (.int .i64 0) (.slice none 0 0) (.int .i64 I0) (.string ⟨#[]⟩)) from below_set12 (w := (w5.setCell ⟨w2.heap.size, 10, none⟩ (.int .i64 I0))) hbY (Nat.le_refl _))
    clear hs12 hprY hbxY hbY
    go_wp2_with fail
    obtain ⟨wf, hwf⟩ : ∃ wf, set12 (w5.setCell ⟨w2.heap.size, 10, none⟩ (.int .i64 I0)) w.heap.size (.int .i64 9) (.int .u64 0) (.int .i64 0) (.slice none 0 0) (.int .u32 0) (.int .u32 0) (.int .i64 0) (.int .u64 0) (.int .i64 0) (.slice none 0 0) (.int .i64 I0) (.string ⟨#[]⟩) = wf := ⟨_, rfl⟩
    have s0 := t0.out
    have s1 := t1.out
    have s2 := t2.out
    have s3 := t3.out
    have s4 := t4.out
    have s5 := t5.out
    have s6 := t6.out
    have s7 := t7.out
    have s8 := t8.out
    have s9 := t9.out
    have s10 := t10.out
    have s11 := t11.out
    have r0 := hfin.out
    rw [hwf] at s0 s1 s2 s3 s4 s5 s6 s7 s8 s9 s10 s11 r0
    rw [show (((((((((((((w5.setCell ⟨w2.heap.size, 10, none⟩ (.int .i64 I0)).setCell ⟨w.heap.size, 0, none⟩ (.int .i64 9)).setCell ⟨w.heap.size, 1, none⟩ (.int .u64 0)).setCell ⟨w.heap.size, 2, none⟩ (.int .i64 0)).setCell ⟨w.heap.size, 3, none⟩ (.slice none 0 0)).setCell ⟨w.heap.size, 4, none⟩ (.int .u32 0)).setCell ⟨w.heap.size, 5, none⟩ (.int .u32 0)).setCell ⟨w.heap.size, 6, none⟩ (.int .i64 0)).setCell ⟨w.heap.size, 7, none⟩ (.int .u64 0)).setCell ⟨w.heap.size, 8, none⟩ (.int .i64 0)).setCell ⟨w.heap.size, 9, none⟩ (.slice none 0 0)).setCell ⟨w.heap.size, 10, none⟩ (.int .i64 I0)).setCell ⟨w.heap.size, 11, none⟩ (.string ⟨#[]⟩)) = wf from hwf]
    (try simp only [Exit.inBlock, Exit.then])
    refine bodyPost_ret (by simp [results, Tryz.results40, go_sem, s0, s1, s2, s3, s4, s5, s6, s7, s8, s9, s10, s11]; try rfl) rfl ?_
    rw [hR2.out]
    exact ⟨⟨none, 0, none, 0, rfl, OwnQ.nil _ _, OwnQ.nil _ _⟩, r0⟩
  by_cases k10 : kd = 10
  · subst k10
    have cN := bytes_c (text t0) (by rw [text_size]; omega) w4
    rw [byts_text] at cN
    have hR := hGF.out
    rw [if_neg (fun h => absurd h.1 (by decide))] at hR
    have hR2 := hR.trans (show gO 10 t0 = ⟨10, 0, 0, [], 0, 0, 0, 0, 0, [], 0, text (bytesF t0).1⟩ from rfl)
    replace hR2 := Lib.hid hR2
    clear hGF hR hrec
    generalize bytesF t0 = Q at *
    obtain ⟨QB, Qr⟩ := Q
    dsimp only at *
    replace cN := Lib.hid cN
    go_wp2_with fail
    refine cN.out.mono ?_
    rintro x w5 ⟨rfl, hb6⟩
    have hprX := Lib.hid (isC_of hb6 hpr.out)
    have hbxX := Lib.hid (isC_of hb6 hbox.out)
    have hbX := Lib.hid (below_up hb5.out hb5s hb6)
    have hq26 : w2.heap.size < w4.heap.size := hw24
    have hqw : w.heap.size < w4.heap.size := by omega
    have hqle : w.heap.size ≤ w4.heap.size := by omega
    clear hb6 cN k0
    have e0 := hprX.out.cell 11
    have e1 := hprX.out.f 11
    have hprY : IsC (w5.setCell ⟨w2.heap.size, 11, none⟩ (.string (text QB))) w2.heap.size 32 #[.int .i64 10, .int .u64 0, .int .i64 0, .slice none 0 0, .int .u32 0, .int .u32 0, .int .i64 0, .int .u64 0, .int .i64 0, .slice none 0 0, .int .i64 0, .string (text QB)] := (hprX.out.set 11 (.string (text QB)))
    have hbxY : IsC (w5.setCell ⟨w2.heap.size, 11, none⟩ (.string (text QB))) w.heap.size 32 #[.int .i64 0, .int .u64 0, .int .i64 0, .slice none 0 0, .int .u32 0, .int .u32 0, .int .i64 0, .int .u64 0, .int .i64 0, .slice none 0 0, .int .i64 0, .string ⟨#[]⟩] := (hbxX.out.set_other (c := w2.heap.size) (i := 11) (v := .string (text QB)) hne26)
    have hbY : Below w.heap.size w (w5.setCell ⟨w2.heap.size, 11, none⟩ (.string (text QB))) := (hbX.out.setCell (p := ⟨w2.heap.size, 11, none⟩) hle26 (.string (text QB)))
    have f0 := hbxY.f 0
    have x0 := hbxY.cell 0
    have y0 := hprY.cell 0
    have f1 := hbxY.f 1
    have x1 := hbxY.cell 1
    have y1 := hprY.cell 1
    have f2 := hbxY.f 2
    have x2 := hbxY.cell 2
    have y2 := hprY.cell 2
    have f3 := hbxY.f 3
    have x3 := hbxY.cell 3
    have y3 := hprY.cell 3
    have f4 := hbxY.f 4
    have x4 := hbxY.cell 4
    have y4 := hprY.cell 4
    have f5 := hbxY.f 5
    have x5 := hbxY.cell 5
    have y5 := hprY.cell 5
    have f6 := hbxY.f 6
    have x6 := hbxY.cell 6
    have y6 := hprY.cell 6
    have f7 := hbxY.f 7
    have x7 := hbxY.cell 7
    have y7 := hprY.cell 7
    have f8 := hbxY.f 8
    have x8 := hbxY.cell 8
    have y8 := hprY.cell 8
    have f9 := hbxY.f 9
    have x9 := hbxY.cell 9
    have y9 := hprY.cell 9
    have f10 := hbxY.f 10
    have x10 := hbxY.cell 10
    have y10 := hprY.cell 10
    have f11 := hbxY.f 11
    have x11 := hbxY.cell 11
    have y11 := hprY.cell 11
    have hs12 : IsC (set12 (w5.setCell ⟨w2.heap.size, 11, none⟩ (.string (text QB))) w.heap.size (.int .i64 10) (.int .u64 0) (.int .i64 0) (.slice none 0 0) (.int .u32 0) (.int .u32 0) (.int .i64 0) (.int .u64 0) (.int .i64 0) (.slice none 0 0) (.int .i64 0) (.string (text QB))) w.heap.size 32 #[.int .i64 10, .int .u64 0, .int .i64 0, .slice none 0 0, .int .u32 0, .int .u32 0, .int .i64 0, .int .u64 0, .int .i64 0, .slice none 0 0, .int .i64 0, .string (text QB)] := isC_set12 (w := (w5.setCell ⟨w2.heap.size, 11, none⟩ (.string (text QB)))) hbxY
    have t0 := Lib.hid (hs12.cell 0)
    have t1 := Lib.hid (hs12.cell 1)
    have t2 := Lib.hid (hs12.cell 2)
    have t3 := Lib.hid (hs12.cell 3)
    have t4 := Lib.hid (hs12.cell 4)
    have t5 := Lib.hid (hs12.cell 5)
    have t6 := Lib.hid (hs12.cell 6)
    have t7 := Lib.hid (hs12.cell 7)
    have t8 := Lib.hid (hs12.cell 8)
    have t9 := Lib.hid (hs12.cell 9)
    have t10 := Lib.hid (hs12.cell 10)
    have t11 := Lib.hid (hs12.cell 11)
    have hfin := Lib.hid (show Below w.heap.size w (set12 (w5.setCell ⟨w2.heap.size, 11, none⟩ (.string (text QB))) w.heap.size (.int .i64 10) (.int .u64 0) (.int .i64 0) (.slice none 0 0) (.int .u32 0) (.int .u32 0) (.int .i64 0) (.int .u64 0) (.int .i64 0) (.slice none 0 0) (.int .i64 0) (.string (text QB))) from below_set12 (w := (w5.setCell ⟨w2.heap.size, 11, none⟩ (.string (text QB)))) hbY (Nat.le_refl _))
    clear hs12 hprY hbxY hbY
    go_wp2_with fail
    obtain ⟨wf, hwf⟩ : ∃ wf, set12 (w5.setCell ⟨w2.heap.size, 11, none⟩ (.string (text QB))) w.heap.size (.int .i64 10) (.int .u64 0) (.int .i64 0) (.slice none 0 0) (.int .u32 0) (.int .u32 0) (.int .i64 0) (.int .u64 0) (.int .i64 0) (.slice none 0 0) (.int .i64 0) (.string (text QB)) = wf := ⟨_, rfl⟩
    have s0 := t0.out
    have s1 := t1.out
    have s2 := t2.out
    have s3 := t3.out
    have s4 := t4.out
    have s5 := t5.out
    have s6 := t6.out
    have s7 := t7.out
    have s8 := t8.out
    have s9 := t9.out
    have s10 := t10.out
    have s11 := t11.out
    have r0 := hfin.out
    rw [hwf] at s0 s1 s2 s3 s4 s5 s6 s7 s8 s9 s10 s11 r0
    rw [show (((((((((((((w5.setCell ⟨w2.heap.size, 11, none⟩ (.string (text QB))).setCell ⟨w.heap.size, 0, none⟩ (.int .i64 10)).setCell ⟨w.heap.size, 1, none⟩ (.int .u64 0)).setCell ⟨w.heap.size, 2, none⟩ (.int .i64 0)).setCell ⟨w.heap.size, 3, none⟩ (.slice none 0 0)).setCell ⟨w.heap.size, 4, none⟩ (.int .u32 0)).setCell ⟨w.heap.size, 5, none⟩ (.int .u32 0)).setCell ⟨w.heap.size, 6, none⟩ (.int .i64 0)).setCell ⟨w.heap.size, 7, none⟩ (.int .u64 0)).setCell ⟨w.heap.size, 8, none⟩ (.int .i64 0)).setCell ⟨w.heap.size, 9, none⟩ (.slice none 0 0)).setCell ⟨w.heap.size, 10, none⟩ (.int .i64 0)).setCell ⟨w.heap.size, 11, none⟩ (.string (text QB))) = wf from hwf]
    (try simp only [Exit.inBlock, Exit.then])
    refine bodyPost_ret (by simp [results, Tryz.results40, go_sem, s0, s1, s2, s3, s4, s5, s6, s7, s8, s9, s10, s11]; try rfl) rfl ?_
    rw [hR2.out]
    exact ⟨⟨none, 0, none, 0, rfl, OwnQ.nil _ _, OwnQ.nil _ _⟩, r0⟩
  by_cases k8 : kd = 8
  · subst k8
    have cF := cutS_c (text t0) ⟨#[32]⟩ (by rw [text_size]; omega) w4 hg4
    rw [byts_text, show byts ⟨#[32]⟩ = [32] from rfl] at cF
    generalize hF : (Lib.cut t0 [32]).1 = F at *
    generalize (Lib.cut t0 [32]).2.1 = L2 at *
    generalize (Lib.cut t0 [32]).2.2 = b2 at *
    have e9 : ((text F).toList == (text w0).toList) = decide (F = w0) := by
      rw [toList_text, toList_text, Bool.eq_iff_iff, beq_iff_eq, decide_eq_true_iff]
    replace cF := Lib.hid cF
    have hR := hGF.out
    by_cases hFw : F = w0
    · rw [decide_eq_true hFw] at e9
      rw [if_neg (fun h => h.2 hFw)] at hR
      have hR2 := Lib.hid (hR.trans (show gO 8 t0 = ⟨8, 0, 0, [], 0, 0, 0, 0, 0, [], 0, sS⟩ from rfl))
      clear hGF hR hrec hFw
      go_wp2_with fail
      refine cF.out.mono ?_
      rintro x w5 ⟨rfl, hb6⟩
      have hprX := Lib.hid (isC_of hb6 hpr.out)
      have hbxX := Lib.hid (isC_of hb6 hbox.out)
      have hbX := Lib.hid (below_up hb5.out hb5s hb6)
      clear hb6 cF k0
      have hprY : IsC w5 w2.heap.size 32 #[.int .i64 8, .int .u64 0, .int .i64 0, .slice none 0 0, .int .u32 0, .int .u32 0, .int .i64 0, .int .u64 0, .int .i64 0, .slice none 0 0, .int .i64 0, .string ⟨#[]⟩] := hprX.out
      have hbxY : IsC w5 w.heap.size 32 #[.int .i64 0, .int .u64 0, .int .i64 0, .slice none 0 0, .int .u32 0, .int .u32 0, .int .i64 0, .int .u64 0, .int .i64 0, .slice none 0 0, .int .i64 0, .string ⟨#[]⟩] := hbxX.out
      have hbY : Below w.heap.size w w5 := hbX.out
      have f0 := hbxY.f 0
      have x0 := hbxY.cell 0
      have y0 := hprY.cell 0
      have f1 := hbxY.f 1
      have x1 := hbxY.cell 1
      have y1 := hprY.cell 1
      have f2 := hbxY.f 2
      have x2 := hbxY.cell 2
      have y2 := hprY.cell 2
      have f3 := hbxY.f 3
      have x3 := hbxY.cell 3
      have y3 := hprY.cell 3
      have f4 := hbxY.f 4
      have x4 := hbxY.cell 4
      have y4 := hprY.cell 4
      have f5 := hbxY.f 5
      have x5 := hbxY.cell 5
      have y5 := hprY.cell 5
      have f6 := hbxY.f 6
      have x6 := hbxY.cell 6
      have y6 := hprY.cell 6
      have f7 := hbxY.f 7
      have x7 := hbxY.cell 7
      have y7 := hprY.cell 7
      have f8 := hbxY.f 8
      have x8 := hbxY.cell 8
      have y8 := hprY.cell 8
      have f9 := hbxY.f 9
      have x9 := hbxY.cell 9
      have y9 := hprY.cell 9
      have f10 := hbxY.f 10
      have x10 := hbxY.cell 10
      have y10 := hprY.cell 10
      have f11 := hbxY.f 11
      have x11 := hbxY.cell 11
      have y11 := hprY.cell 11
      have hs12 : IsC (set12 w5 w.heap.size (.int .i64 8) (.int .u64 0) (.int .i64 0) (.slice none 0 0) (.int .u32 0) (.int .u32 0) (.int .i64 0) (.int .u64 0) (.int .i64 0) (.slice none 0 0) (.int .i64 0) (.string ⟨#[]⟩)) w.heap.size 32 #[.int .i64 8, .int .u64 0, .int .i64 0, .slice none 0 0, .int .u32 0, .int .u32 0, .int .i64 0, .int .u64 0, .int .i64 0, .slice none 0 0, .int .i64 0, .string ⟨#[]⟩] := isC_set12 (w := w5) hbxY
      have t0 := Lib.hid (hs12.cell 0)
      have t1 := Lib.hid (hs12.cell 1)
      have t2 := Lib.hid (hs12.cell 2)
      have t3 := Lib.hid (hs12.cell 3)
      have t4 := Lib.hid (hs12.cell 4)
      have t5 := Lib.hid (hs12.cell 5)
      have t6 := Lib.hid (hs12.cell 6)
      have t7 := Lib.hid (hs12.cell 7)
      have t8 := Lib.hid (hs12.cell 8)
      have t9 := Lib.hid (hs12.cell 9)
      have t10 := Lib.hid (hs12.cell 10)
      have t11 := Lib.hid (hs12.cell 11)
      have hfin := Lib.hid (show Below w.heap.size w (set12 w5 w.heap.size (.int .i64 8) (.int .u64 0) (.int .i64 0) (.slice none 0 0) (.int .u32 0) (.int .u32 0) (.int .i64 0) (.int .u64 0) (.int .i64 0) (.slice none 0 0) (.int .i64 0) (.string ⟨#[]⟩)) from below_set12 (w := w5) hbY (Nat.le_refl _))
      clear hs12 hprY hbxY hbY
      go_wp2_with fail
      obtain ⟨wf, hwf⟩ : ∃ wf, set12 w5 w.heap.size (.int .i64 8) (.int .u64 0) (.int .i64 0) (.slice none 0 0) (.int .u32 0) (.int .u32 0) (.int .i64 0) (.int .u64 0) (.int .i64 0) (.slice none 0 0) (.int .i64 0) (.string ⟨#[]⟩) = wf := ⟨_, rfl⟩
      have s0 := t0.out
      have s1 := t1.out
      have s2 := t2.out
      have s3 := t3.out
      have s4 := t4.out
      have s5 := t5.out
      have s6 := t6.out
      have s7 := t7.out
      have s8 := t8.out
      have s9 := t9.out
      have s10 := t10.out
      have s11 := t11.out
      have r0 := hfin.out
      rw [hwf] at s0 s1 s2 s3 s4 s5 s6 s7 s8 s9 s10 s11 r0
      rw [show ((((((((((((w5.setCell ⟨w.heap.size, 0, none⟩ (.int .i64 8)).setCell ⟨w.heap.size, 1, none⟩ (.int .u64 0)).setCell ⟨w.heap.size, 2, none⟩ (.int .i64 0)).setCell ⟨w.heap.size, 3, none⟩ (.slice none 0 0)).setCell ⟨w.heap.size, 4, none⟩ (.int .u32 0)).setCell ⟨w.heap.size, 5, none⟩ (.int .u32 0)).setCell ⟨w.heap.size, 6, none⟩ (.int .i64 0)).setCell ⟨w.heap.size, 7, none⟩ (.int .u64 0)).setCell ⟨w.heap.size, 8, none⟩ (.int .i64 0)).setCell ⟨w.heap.size, 9, none⟩ (.slice none 0 0)).setCell ⟨w.heap.size, 10, none⟩ (.int .i64 0)).setCell ⟨w.heap.size, 11, none⟩ (.string ⟨#[]⟩)) = wf from hwf]
      (try simp only [Exit.inBlock, Exit.then])
      refine bodyPost_ret (by simp [results, Tryz.results40, go_sem, s0, s1, s2, s3, s4, s5, s6, s7, s8, s9, s10, s11]; try rfl) rfl ?_
      rw [hR2.out]
      exact ⟨⟨none, 0, none, 0, rfl, OwnQ.nil _ _, OwnQ.nil _ _⟩, r0⟩
    · rw [decide_eq_false hFw] at e9
      rw [if_pos ⟨rfl, hFw⟩] at hR
      have cG := hrec.out ⟨rfl, hFw⟩
      generalize guess1F t0 = y at *
      obtain ⟨yK, yE, yC, yP, yA, yN, ycK, ycE, ycC, ycP, yU, yB⟩ := y
      dsimp only at hR
      unfold Guessed opv at cG
      dsimp only at cG
      have hR2 := Lib.hid hR
      replace cG := Lib.hid cG
      clear hGF hR hrec hFw hF
      go_wp2_with fail
      refine cF.out.mono ?_
      rintro x w5 ⟨rfl, hb6⟩
      have hg5 := hg4.on hb6
      have hprX := Lib.hid (isC_of hb6 hpr.out)
      have hbxX := Lib.hid (isC_of hb6 hbox.out)
      have hbX := Lib.hid (below_up hb5.out hb5s hb6)
      have hbXs := hbX.out.size
      have h45 := hb6.size
      clear hb6 cF k0
      go_wp2_with fail
      refine (cG.out _ hg5).mono ?_
      rintro x w6 ⟨⟨qa, qc, qb, qd, rfl, hQ, _⟩, hb7⟩
      have cA := Lib.hid (asCmd_c ⟨yK, yE, yC, yP, yA, yN, ycK, ycE, ycC, ycP, yU, yB⟩ qa qb yP.length ycP.length qc qd w6)
      unfold opv cmdv at cA
      dsimp only at cA
      replace hprX := Lib.hid (isC_of hb7 hprX.out)
      replace hbxX := Lib.hid (isC_of hb7 hbxX.out)
      replace hbX := Lib.hid (below_up hbX.out hbXs hb7)
      clear hb7 hbXs cG
      have hbXs := hbX.out.size
      generalize asCmdK yK = ck at *
      go_wp2_with fail
      refine cA.out.mono ?_
      rintro x w7 ⟨rfl, hb8⟩
      have hQX := Lib.hid (hQ.below hb8)
      replace hprX := Lib.hid (isC_of hb8 hprX.out)
      replace hbxX := Lib.hid (isC_of hb8 hbxX.out)
      replace hbX := Lib.hid (below_up hbX.out hbXs hb8)
      have hq26 : w2.heap.size < w5.heap.size := by omega
      have hqw : w.heap.size < w5.heap.size := by omega
      have hqle : w.heap.size ≤ w5.heap.size := by omega
      clear hb8 hQ cA hbXs
      have e6 := hprX.out.cell 6
      have d6 := hprX.out.f 6
      have e7 := hprX.out.cell 7
      have d7 := hprX.out.f 7
      have e8 := hprX.out.cell 8
      have d8 := hprX.out.f 8
      have e9 := hprX.out.cell 9
      have d9 := hprX.out.f 9
      have hprY : IsC ((((w7.setCell ⟨w2.heap.size, 6, none⟩ (.int .i64 ck)).setCell ⟨w2.heap.size, 7, none⟩ (.int .u64 yE)).setCell ⟨w2.heap.size, 8, none⟩ (.int .i64 yC)).setCell ⟨w2.heap.size, 9, none⟩ (.slice qa yP.length qc)) w2.heap.size 32 #[.int .i64 8, .int .u64 0, .int .i64 0, .slice none 0 0, .int .u32 0, .int .u32 0, .int .i64 ck, .int .u64 yE, .int .i64 yC, .slice qa yP.length qc, .int .i64 0, .string ⟨#[]⟩] := ((((hprX.out.set 6 (.int .i64 ck)).set 7 (.int .u64 yE)).set 8 (.int .i64 yC)).set 9 (.slice qa yP.length qc))
      have hbxY : IsC ((((w7.setCell ⟨w2.heap.size, 6, none⟩ (.int .i64 ck)).setCell ⟨w2.heap.size, 7, none⟩ (.int .u64 yE)).setCell ⟨w2.heap.size, 8, none⟩ (.int .i64 yC)).setCell ⟨w2.heap.size, 9, none⟩ (.slice qa yP.length qc)) w.heap.size 32 #[.int .i64 0, .int .u64 0, .int .i64 0, .slice none 0 0, .int .u32 0, .int .u32 0, .int .i64 0, .int .u64 0, .int .i64 0, .slice none 0 0, .int .i64 0, .string ⟨#[]⟩] := ((((hbxX.out.set_other (c := w2.heap.size) (i := 6) (v := .int .i64 ck) hne26).set_other (c := w2.heap.size) (i := 7) (v := .int .u64 yE) hne26).set_other (c := w2.heap.size) (i := 8) (v := .int .i64 yC) hne26).set_other (c := w2.heap.size) (i := 9) (v := .slice qa yP.length qc) hne26)
      have hbY : Below w.heap.size w ((((w7.setCell ⟨w2.heap.size, 6, none⟩ (.int .i64 ck)).setCell ⟨w2.heap.size, 7, none⟩ (.int .u64 yE)).setCell ⟨w2.heap.size, 8, none⟩ (.int .i64 yC)).setCell ⟨w2.heap.size, 9, none⟩ (.slice qa yP.length qc)) := ((((hbX.out.setCell (p := ⟨w2.heap.size, 6, none⟩) hle26 (.int .i64 ck)).setCell (p := ⟨w2.heap.size, 7, none⟩) hle26 (.int .u64 yE)).setCell (p := ⟨w2.heap.size, 8, none⟩) hle26 (.int .i64 yC)).setCell (p := ⟨w2.heap.size, 9, none⟩) hle26 (.slice qa yP.length qc))
      have f0 := hbxY.f 0
      have x0 := hbxY.cell 0
      have y0 := hprY.cell 0
      have f1 := hbxY.f 1
      have x1 := hbxY.cell 1
      have y1 := hprY.cell 1
      have f2 := hbxY.f 2
      have x2 := hbxY.cell 2
      have y2 := hprY.cell 2
      have f3 := hbxY.f 3
      have x3 := hbxY.cell 3
      have y3 := hprY.cell 3
      have f4 := hbxY.f 4
      have x4 := hbxY.cell 4
      have y4 := hprY.cell 4
      have f5 := hbxY.f 5
      have x5 := hbxY.cell 5
      have y5 := hprY.cell 5
      have f6 := hbxY.f 6
      have x6 := hbxY.cell 6
      have y6 := hprY.cell 6
      have f7 := hbxY.f 7
      have x7 := hbxY.cell 7
      have y7 := hprY.cell 7
      have f8 := hbxY.f 8
      have x8 := hbxY.cell 8
      have y8 := hprY.cell 8
      have f9 := hbxY.f 9
      have x9 := hbxY.cell 9
      have y9 := hprY.cell 9
      have f10 := hbxY.f 10
      have x10 := hbxY.cell 10
      have y10 := hprY.cell 10
      have f11 := hbxY.f 11
      have x11 := hbxY.cell 11
      have y11 := hprY.cell 11
      have hs12 : IsC (set12 ((((w7.setCell ⟨w2.heap.size, 6, none⟩ (.int .i64 ck)).setCell ⟨w2.heap.size, 7, none⟩ (.int .u64 yE)).setCell ⟨w2.heap.size, 8, none⟩ (.int .i64 yC)).setCell ⟨w2.heap.size, 9, none⟩ (.slice qa yP.length qc)) w.heap.size (.int .i64 8) (.int .u64 0) (.int .i64 0) (.slice none 0 0) (.int .u32 0) (.int .u32 0) (.int .i64 ck) (.int .u64 yE) (.int .i64 yC) (.slice qa yP.length qc) (.int .i64 0) (.string ⟨#[]⟩)) w.heap.size 32 #[.int .i64 8, .int .u64 0, .int .i64 0, .slice none 0 0, .int .u32 0, .int .u32 0, .int .i64 ck, .int .u64 yE, .int .i64 yC, .slice qa yP.length qc, .int .i64 0, .string ⟨#[]⟩] := isC_set12 (w := ((((w7.setCell ⟨w2.heap.size, 6, none⟩ (.int .i64 ck)).setCell ⟨w2.heap.size, 7, none⟩ (.int .u64 yE)).setCell ⟨w2.heap.size, 8, none⟩ (.int .i64 yC)).setCell ⟨w2.heap.size, 9, none⟩ (.slice qa yP.length qc))) hbxY
      have t0 := Lib.hid (hs12.cell 0)
      have t1 := Lib.hid (hs12.cell 1)
      have t2 := Lib.hid (hs12.cell 2)
      have t3 := Lib.hid (hs12.cell 3)
      have t4 := Lib.hid (hs12.cell 4)
      have t5 := Lib.hid (hs12.cell 5)
      have t6 := Lib.hid (hs12.cell 6)
      have t7 := Lib.hid (hs12.cell 7)
      have t8 := Lib.hid (hs12.cell 8)
      have t9 := Lib.hid (hs12.cell 9)
      have t10 := Lib.hid (hs12.cell 10)
      have t11 := Lib.hid (hs12.cell 11)
      have hfin := Lib.hid (show Below w.heap.size w (set12 ((((w7.setCell ⟨w2.heap.size, 6, none⟩ (.int .i64 ck)).setCell ⟨w2.heap.size, 7, none⟩ (.int .u64 yE)).setCell ⟨w2.heap.size, 8, none⟩ (.int .i64 yC)).setCell ⟨w2.heap.size, 9, none⟩ (.slice qa yP.length qc)) w.heap.size (.int .i64 8) (.int .u64 0) (.int .i64 0) (.slice none 0 0) (.int .u32 0) (.int .u32 0) (.int .i64 ck) (.int .u64 yE) (.int .i64 yC) (.slice qa yP.length qc) (.int .i64 0) (.string ⟨#[]⟩)) from below_set12 (w := ((((w7.setCell ⟨w2.heap.size, 6, none⟩ (.int .i64 ck)).setCell ⟨w2.heap.size, 7, none⟩ (.int .u64 yE)).setCell ⟨w2.heap.size, 8, none⟩ (.int .i64 yC)).setCell ⟨w2.heap.size, 9, none⟩ (.slice qa yP.length qc))) hbY (Nat.le_refl _))
      have hq2 := Lib.hid (OwnQ.mono (OwnQ.set12 (w := ((((w7.setCell ⟨w2.heap.size, 6, none⟩ (.int .i64 ck)).setCell ⟨w2.heap.size, 7, none⟩ (.int .u64 yE)).setCell ⟨w2.heap.size, 8, none⟩ (.int .i64 yC)).setCell ⟨w2.heap.size, 9, none⟩ (.slice qa yP.length qc))) (v0 := .int .i64 8) (v1 := .int .u64 0) (v2 := .int .i64 0) (v3 := .slice none 0 0) (v4 := .int .u32 0) (v5 := .int .u32 0) (v6 := .int .i64 ck) (v7 := .int .u64 yE) (v8 := .int .i64 yC) (v9 := .slice qa yP.length qc) (v10 := .int .i64 0) (v11 := .string ⟨#[]⟩) (((((hQX.out.set (i := 6) (v := .int .i64 ck) hq26).set (i := 7) (v := .int .u64 yE) hq26).set (i := 8) (v := .int .i64 yC) hq26).set (i := 9) (v := .slice qa yP.length qc) hq26)) hqw) hqle)
      clear hs12 hprY hbxY hbY
      go_wp2_with fail
      obtain ⟨wf, hwf⟩ : ∃ wf, set12 ((((w7.setCell ⟨w2.heap.size, 6, none⟩ (.int .i64 ck)).setCell ⟨w2.heap.size, 7, none⟩ (.int .u64 yE)).setCell ⟨w2.heap.size, 8, none⟩ (.int .i64 yC)).setCell ⟨w2.heap.size, 9, none⟩ (.slice qa yP.length qc)) w.heap.size (.int .i64 8) (.int .u64 0) (.int .i64 0) (.slice none 0 0) (.int .u32 0) (.int .u32 0) (.int .i64 ck) (.int .u64 yE) (.int .i64 yC) (.slice qa yP.length qc) (.int .i64 0) (.string ⟨#[]⟩) = wf := ⟨_, rfl⟩
      have s0 := t0.out
      have s1 := t1.out
      have s2 := t2.out
      have s3 := t3.out
      have s4 := t4.out
      have s5 := t5.out
      have s6 := t6.out
      have s7 := t7.out
      have s8 := t8.out
      have s9 := t9.out
      have s10 := t10.out
      have s11 := t11.out
      have r0 := hfin.out
      have hq2' := hq2.out
      rw [hwf] at s0 s1 s2 s3 s4 s5 s6 s7 s8 s9 s10 s11 r0 hq2'
      rw [show ((((((((((((((((w7.setCell ⟨w2.heap.size, 6, none⟩ (.int .i64 ck)).setCell ⟨w2.heap.size, 7, none⟩ (.int .u64 yE)).setCell ⟨w2.heap.size, 8, none⟩ (.int .i64 yC)).setCell ⟨w2.heap.size, 9, none⟩ (.slice qa yP.length qc)).setCell ⟨w.heap.size, 0, none⟩ (.int .i64 8)).setCell ⟨w.heap.size, 1, none⟩ (.int .u64 0)).setCell ⟨w.heap.size, 2, none⟩ (.int .i64 0)).setCell ⟨w.heap.size, 3, none⟩ (.slice none 0 0)).setCell ⟨w.heap.size, 4, none⟩ (.int .u32 0)).setCell ⟨w.heap.size, 5, none⟩ (.int .u32 0)).setCell ⟨w.heap.size, 6, none⟩ (.int .i64 ck)).setCell ⟨w.heap.size, 7, none⟩ (.int .u64 yE)).setCell ⟨w.heap.size, 8, none⟩ (.int .i64 yC)).setCell ⟨w.heap.size, 9, none⟩ (.slice qa yP.length qc)).setCell ⟨w.heap.size, 10, none⟩ (.int .i64 0)).setCell ⟨w.heap.size, 11, none⟩ (.string ⟨#[]⟩)) = wf from hwf]
      (try simp only [Exit.inBlock, Exit.then])
      refine bodyPost_ret (by simp [results, Tryz.results40, go_sem, s0, s1, s2, s3, s4, s5, s6, s7, s8, s9, s10, s11]; try rfl) rfl ?_
      rw [hR2.out]
      exact ⟨⟨none, 0, qa, qc, rfl, OwnQ.nil _ _, hq2'⟩, r0⟩
  by_cases kk : True
  · have hR := hGF.out
    rw [if_neg (fun h => k8 h.1)] at hR
    have hgo : gO kd t0 = ⟨kd, 0, 0, [], 0, 0, 0, 0, 0, [], 0, sS⟩ := by
      unfold gO
      rw [if_neg k1, if_neg k2, if_neg k3, if_neg k5, if_neg k4, if_neg k6, if_neg k7, if_neg k9, if_neg k10]
    have hR2 := Lib.hid (hR.trans hgo)
    have b1 : (kd == 1) = false := beq_eq_false_iff_ne.2 k1
    have b2 : (kd == 2) = false := beq_eq_false_iff_ne.2 k2
    have b3 : (kd == 3) = false := beq_eq_false_iff_ne.2 k3
    have b5 : (kd == 5) = false := beq_eq_false_iff_ne.2 k5
    have b4 : (kd == 4) = false := beq_eq_false_iff_ne.2 k4
    have b6 : (kd == 6) = false := beq_eq_false_iff_ne.2 k6
    have b7 : (kd == 7) = false := beq_eq_false_iff_ne.2 k7
    have b9 : (kd == 9) = false := beq_eq_false_iff_ne.2 k9
    have b10 : (kd == 10) = false := beq_eq_false_iff_ne.2 k10
    have b8 : (kd == 8) = false := beq_eq_false_iff_ne.2 k8
    clear hGF hR hrec hgo kk k1 k2 k3 k5 k4 k6 k7 k9 k10 k8
    have hprX := hpr
    have hbxX := hbox
    have hbX := hb5
    have hprY : IsC w4 w2.heap.size 32 #[.int .i64 kd, .int .u64 0, .int .i64 0, .slice none 0 0, .int .u32 0, .int .u32 0, .int .i64 0, .int .u64 0, .int .i64 0, .slice none 0 0, .int .i64 0, .string ⟨#[]⟩] := hprX.out
    have hbxY : IsC w4 w.heap.size 32 #[.int .i64 0, .int .u64 0, .int .i64 0, .slice none 0 0, .int .u32 0, .int .u32 0, .int .i64 0, .int .u64 0, .int .i64 0, .slice none 0 0, .int .i64 0, .string ⟨#[]⟩] := hbxX.out
    have hbY : Below w.heap.size w w4 := hbX.out
    have f0 := hbxY.f 0
    have x0 := hbxY.cell 0
    have y0 := hprY.cell 0
    have f1 := hbxY.f 1
    have x1 := hbxY.cell 1
    have y1 := hprY.cell 1
    have f2 := hbxY.f 2
    have x2 := hbxY.cell 2
    have y2 := hprY.cell 2
    have f3 := hbxY.f 3
    have x3 := hbxY.cell 3
    have y3 := hprY.cell 3
    have f4 := hbxY.f 4
    have x4 := hbxY.cell 4
    have y4 := hprY.cell 4
    have f5 := hbxY.f 5
    have x5 := hbxY.cell 5
    have y5 := hprY.cell 5
    have f6 := hbxY.f 6
    have x6 := hbxY.cell 6
    have y6 := hprY.cell 6
    have f7 := hbxY.f 7
    have x7 := hbxY.cell 7
    have y7 := hprY.cell 7
    have f8 := hbxY.f 8
    have x8 := hbxY.cell 8
    have y8 := hprY.cell 8
    have f9 := hbxY.f 9
    have x9 := hbxY.cell 9
    have y9 := hprY.cell 9
    have f10 := hbxY.f 10
    have x10 := hbxY.cell 10
    have y10 := hprY.cell 10
    have f11 := hbxY.f 11
    have x11 := hbxY.cell 11
    have y11 := hprY.cell 11
    have hs12 : IsC (set12 w4 w.heap.size (.int .i64 kd) (.int .u64 0) (.int .i64 0) (.slice none 0 0) (.int .u32 0) (.int .u32 0) (.int .i64 0) (.int .u64 0) (.int .i64 0) (.slice none 0 0) (.int .i64 0) (.string ⟨#[]⟩)) w.heap.size 32 #[.int .i64 kd, .int .u64 0, .int .i64 0, .slice none 0 0, .int .u32 0, .int .u32 0, .int .i64 0, .int .u64 0, .int .i64 0, .slice none 0 0, .int .i64 0, .string ⟨#[]⟩] := isC_set12 (w := w4) hbxY
    have t0 := Lib.hid (hs12.cell 0)
    have t1 := Lib.hid (hs12.cell 1)
    have t2 := Lib.hid (hs12.cell 2)
    have t3 := Lib.hid (hs12.cell 3)
    have t4 := Lib.hid (hs12.cell 4)
    have t5 := Lib.hid (hs12.cell 5)
    have t6 := Lib.hid (hs12.cell 6)
    have t7 := Lib.hid (hs12.cell 7)
    have t8 := Lib.hid (hs12.cell 8)
    have t9 := Lib.hid (hs12.cell 9)
    have t10 := Lib.hid (hs12.cell 10)
    have t11 := Lib.hid (hs12.cell 11)
    have hfin := Lib.hid (show Below w.heap.size w (set12 w4 w.heap.size (.int .i64 kd) (.int .u64 0) (.int .i64 0) (.slice none 0 0) (.int .u32 0) (.int .u32 0) (.int .i64 0) (.int .u64 0) (.int .i64 0) (.slice none 0 0) (.int .i64 0) (.string ⟨#[]⟩)) from below_set12 (w := w4) hbY (Nat.le_refl _))
    clear hs12 hprY hbxY hbY
    go_wp2_with fail
    obtain ⟨wf, hwf⟩ : ∃ wf, set12 w4 w.heap.size (.int .i64 kd) (.int .u64 0) (.int .i64 0) (.slice none 0 0) (.int .u32 0) (.int .u32 0) (.int .i64 0) (.int .u64 0) (.int .i64 0) (.slice none 0 0) (.int .i64 0) (.string ⟨#[]⟩) = wf := ⟨_, rfl⟩
    have s0 := t0.out
    have s1 := t1.out
    have s2 := t2.out
    have s3 := t3.out
    have s4 := t4.out
    have s5 := t5.out
    have s6 := t6.out
    have s7 := t7.out
    have s8 := t8.out
    have s9 := t9.out
    have s10 := t10.out
    have s11 := t11.out
    have r0 := hfin.out
    rw [hwf] at s0 s1 s2 s3 s4 s5 s6 s7 s8 s9 s10 s11 r0
    rw [show ((((((((((((w4.setCell ⟨w.heap.size, 0, none⟩ (.int .i64 kd)).setCell ⟨w.heap.size, 1, none⟩ (.int .u64 0)).setCell ⟨w.heap.size, 2, none⟩ (.int .i64 0)).setCell ⟨w.heap.size, 3, none⟩ (.slice none 0 0)).setCell ⟨w.heap.size, 4, none⟩ (.int .u32 0)).setCell ⟨w.heap.size, 5, none⟩ (.int .u32 0)).setCell ⟨w.heap.size, 6, none⟩ (.int .i64 0)).setCell ⟨w.heap.size, 7, none⟩ (.int .u64 0)).setCell ⟨w.heap.size, 8, none⟩ (.int .i64 0)).setCell ⟨w.heap.size, 9, none⟩ (.slice none 0 0)).setCell ⟨w.heap.size, 10, none⟩ (.int .i64 0)).setCell ⟨w.heap.size, 11, none⟩ (.string ⟨#[]⟩)) = wf from hwf]
    (try simp only [Exit.inBlock, Exit.then])
    refine bodyPost_ret (by simp [results, Tryz.results40, go_sem, s0, s1, s2, s3, s4, s5, s6, s7, s8, s9, s10, s11]; try rfl) rfl ?_
    rw [hR2.out]
    exact ⟨⟨none, 0, none, 0, rfl, OwnQ.nil _ _, OwnQ.nil _ _⟩, r0⟩
  exact absurd trivial kk
theorem guess1_c (s : ByteArray) (hs : s.size ≤ 99500) (w : World) (hg : GlobT w) (hn : ¬ (kindOf (Lib.cut (byts s) [32]).1 = 8 ∧ (Lib.cut (Lib.cut (byts s) [32]).2.1 [32]).1 ≠ (Lib.cut (byts s) [32]).1)) :
    Calls Tryz.prog 40 #[.string s] w fun e w' => Guessed w (guess1F (byts s)) e w' := by
  have h := guessG s hs w hg _ _ rfl rfl (fun h => absurd h hn)
  have e : guessF (byts s) = guess1F (byts s) := by
    unfold guessF
    exact if_neg hn
  rw [e] at h
  exact h
/-- an op guessed of a line -/
theorem guess_c (s : ByteArray) (hs : s.size ≤ 99500) (w : World) (hg : GlobT w) :
    Calls Tryz.prog 40 #[.string s] w fun e w' => Guessed w (guessF (byts s)) e w' := by
  refine guessG s hs w hg _ _ rfl rfl (fun h w' hg' => ?_)
  have hl := (cut_le (byts s) [32]).2
  rw [byts_length] at hl
  have h1 := guess1_c (text (Lib.cut (byts s) [32]).2.1) (by rw [text_size]; omega) w' hg' (by
    rw [byts_text]
    rintro ⟨h8, _⟩
    refine h.2 ?_
    exact kind_inj (h8.trans h.1.symm) (by rw [h8]; decide))
  rw [byts_text] at h1
  exact h1
end Go.Proofs.YtjjgbillihedgaaGreatDoor
