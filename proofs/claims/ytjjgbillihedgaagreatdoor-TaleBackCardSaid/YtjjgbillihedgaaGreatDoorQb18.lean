/- parts of the proof, merged: TlC4 -/
import Derived.Deep.CutBlock
import Derived.Test.YtjjgbillihedgaaGreatDoorQb17
set_option linter.unusedSimpArgs false
set_option linter.unusedVariables false
set_option maxHeartbeats 64000000
set_option maxRecDepth 100000
namespace Go.Proofs.YtjjgbillihedgaaGreatDoor
open Go.RowKit
open Rf
open Sg
open Wide
open Tl
theorem index_words (x : ByteArray) (w : World) (b : Nat) (h : ∀ k : Nat, k < 12 → w.cell? ⟨b, k, none⟩ = some (.string (text (wordB k)))) :
 Calls Tryz.prog 70 #[.slice (some ⟨b, 1, none⟩) 11 11, .string x] w fun e w' => e = .returned (.int .i64 (Lib.idxOfS (wordL.drop 1) x)) ∧ w = w' := by
 refine (Any.slices_Index_string Tryz.lays109 b 1 11 11 (wordL.drop 1) x w (by decide) (by decide) (fun j hj => ?_)).mono fun e w' h => ⟨h.1, h.2.symm⟩
 have hj' : j < 11 := hj
 rw [h (1 + j) (by omega)]
 unfold wordB
 rw [text_byts]
 have hl : 1 + j < wordL.length := by show 1 + j < 12; omega
 rw [show ((((1 + j : Nat) : Int)).toNat) = 1 + j by omega]
 simp only [List.getD_eq_getElem?_getD, List.getElem?_drop, List.getElem?_eq_getElem hl]
 rfl
/-- twelve cells of a block, filled anew -/
def set12 (w : World) (b : Nat) (v0 v1 v2 v3 v4 v5 v6 v7 v8 v9 v10 v11 : Value) : World :=
 (((((((((((w.setCell ⟨b, 0, none⟩ v0).setCell ⟨b, 1, none⟩ v1).setCell ⟨b, 2, none⟩ v2).setCell ⟨b, 3, none⟩ v3).setCell ⟨b, 4, none⟩ v4).setCell ⟨b, 5, none⟩ v5).setCell ⟨b, 6, none⟩ v6).setCell ⟨b, 7, none⟩ v7).setCell ⟨b, 8, none⟩ v8).setCell ⟨b, 9, none⟩ v9).setCell ⟨b, 10, none⟩ v10).setCell ⟨b, 11, none⟩ v11
section
variable {w : World} {b : Nat} {v0 v1 v2 v3 v4 v5 v6 v7 v8 v9 v10 v11 : Value}
theorem isC_set12 {T : TypeId} {z0 z1 z2 z3 z4 z5 z6 z7 z8 z9 z10 z11 : Value} (h : IsC w b T #[z0, z1, z2, z3, z4, z5, z6, z7, z8, z9, z10, z11]) :
 IsC (set12 w b v0 v1 v2 v3 v4 v5 v6 v7 v8 v9 v10 v11) b T #[v0, v1, v2, v3, v4, v5, v6, v7, v8, v9, v10, v11] := by
 have h0 : IsC (w.setCell ⟨b, 0, none⟩ v0) b T #[v0, z1, z2, z3, z4, z5, z6, z7, z8, z9, z10, z11] := h.set 0 v0
 have h1 : IsC ((w.setCell ⟨b, 0, none⟩ v0).setCell ⟨b, 1, none⟩ v1) b T #[v0, v1, z2, z3, z4, z5, z6, z7, z8, z9, z10, z11] := h0.set 1 v1
 have h2 : IsC (((w.setCell ⟨b, 0, none⟩ v0).setCell ⟨b, 1, none⟩ v1).setCell ⟨b, 2, none⟩ v2) b T #[v0, v1, v2, z3, z4, z5, z6, z7, z8, z9, z10, z11] := h1.set 2 v2
 have h3 : IsC ((((w.setCell ⟨b, 0, none⟩ v0).setCell ⟨b, 1, none⟩ v1).setCell ⟨b, 2, none⟩ v2).setCell ⟨b, 3, none⟩ v3) b T #[v0, v1, v2, v3, z4, z5, z6, z7, z8, z9, z10, z11] := h2.set 3 v3
 have h4 : IsC (((((w.setCell ⟨b, 0, none⟩ v0).setCell ⟨b, 1, none⟩ v1).setCell ⟨b, 2, none⟩ v2).setCell ⟨b, 3, none⟩ v3).setCell ⟨b, 4, none⟩ v4) b T #[v0, v1, v2, v3, v4, z5, z6, z7, z8, z9, z10, z11] := h3.set 4 v4
 have h5 : IsC ((((((w.setCell ⟨b, 0, none⟩ v0).setCell ⟨b, 1, none⟩ v1).setCell ⟨b, 2, none⟩ v2).setCell ⟨b, 3, none⟩ v3).setCell ⟨b, 4, none⟩ v4).setCell ⟨b, 5, none⟩ v5) b T #[v0, v1, v2, v3, v4, v5, z6, z7, z8, z9, z10, z11] := h4.set 5 v5
 have h6 : IsC (((((((w.setCell ⟨b, 0, none⟩ v0).setCell ⟨b, 1, none⟩ v1).setCell ⟨b, 2, none⟩ v2).setCell ⟨b, 3, none⟩ v3).setCell ⟨b, 4, none⟩ v4).setCell ⟨b, 5, none⟩ v5).setCell ⟨b, 6, none⟩ v6) b T #[v0, v1, v2, v3, v4, v5, v6, z7, z8, z9, z10, z11] := h5.set 6 v6
 have h7 : IsC ((((((((w.setCell ⟨b, 0, none⟩ v0).setCell ⟨b, 1, none⟩ v1).setCell ⟨b, 2, none⟩ v2).setCell ⟨b, 3, none⟩ v3).setCell ⟨b, 4, none⟩ v4).setCell ⟨b, 5, none⟩ v5).setCell ⟨b, 6, none⟩ v6).setCell ⟨b, 7, none⟩ v7) b T #[v0, v1, v2, v3, v4, v5, v6, v7, z8, z9, z10, z11] := h6.set 7 v7
 have h8 : IsC (((((((((w.setCell ⟨b, 0, none⟩ v0).setCell ⟨b, 1, none⟩ v1).setCell ⟨b, 2, none⟩ v2).setCell ⟨b, 3, none⟩ v3).setCell ⟨b, 4, none⟩ v4).setCell ⟨b, 5, none⟩ v5).setCell ⟨b, 6, none⟩ v6).setCell ⟨b, 7, none⟩ v7).setCell ⟨b, 8, none⟩ v8) b T #[v0, v1, v2, v3, v4, v5, v6, v7, v8, z9, z10, z11] := h7.set 8 v8
 have h9 : IsC ((((((((((w.setCell ⟨b, 0, none⟩ v0).setCell ⟨b, 1, none⟩ v1).setCell ⟨b, 2, none⟩ v2).setCell ⟨b, 3, none⟩ v3).setCell ⟨b, 4, none⟩ v4).setCell ⟨b, 5, none⟩ v5).setCell ⟨b, 6, none⟩ v6).setCell ⟨b, 7, none⟩ v7).setCell ⟨b, 8, none⟩ v8).setCell ⟨b, 9, none⟩ v9) b T #[v0, v1, v2, v3, v4, v5, v6, v7, v8, v9, z10, z11] := h8.set 9 v9
 have h10 : IsC (((((((((((w.setCell ⟨b, 0, none⟩ v0).setCell ⟨b, 1, none⟩ v1).setCell ⟨b, 2, none⟩ v2).setCell ⟨b, 3, none⟩ v3).setCell ⟨b, 4, none⟩ v4).setCell ⟨b, 5, none⟩ v5).setCell ⟨b, 6, none⟩ v6).setCell ⟨b, 7, none⟩ v7).setCell ⟨b, 8, none⟩ v8).setCell ⟨b, 9, none⟩ v9).setCell ⟨b, 10, none⟩ v10) b T #[v0, v1, v2, v3, v4, v5, v6, v7, v8, v9, v10, z11] := h9.set 10 v10
 have h11 : IsC ((((((((((((w.setCell ⟨b, 0, none⟩ v0).setCell ⟨b, 1, none⟩ v1).setCell ⟨b, 2, none⟩ v2).setCell ⟨b, 3, none⟩ v3).setCell ⟨b, 4, none⟩ v4).setCell ⟨b, 5, none⟩ v5).setCell ⟨b, 6, none⟩ v6).setCell ⟨b, 7, none⟩ v7).setCell ⟨b, 8, none⟩ v8).setCell ⟨b, 9, none⟩ v9).setCell ⟨b, 10, none⟩ v10).setCell ⟨b, 11, none⟩ v11) b T #[v0, v1, v2, v3, v4, v5, v6, v7, v8, v9, v10, v11] := h10.set 11 v11
 exact h11
theorem below_set12 {B : Nat} {a : World} (h : Below B a w) (hb : B ≤ b) : Below B a (set12 w b v0 v1 v2 v3 v4 v5 v6 v7 v8 v9 v10 v11) :=
 (((((((((((h.setCell (p := ⟨b, 0, none⟩) hb v0).setCell (p := ⟨b, 1, none⟩) hb v1).setCell (p := ⟨b, 2, none⟩) hb v2).setCell (p := ⟨b, 3, none⟩) hb v3).setCell (p := ⟨b, 4, none⟩) hb v4).setCell (p := ⟨b, 5, none⟩) hb v5).setCell (p := ⟨b, 6, none⟩) hb v6).setCell (p := ⟨b, 7, none⟩) hb v7).setCell (p := ⟨b, 8, none⟩) hb v8).setCell (p := ⟨b, 9, none⟩) hb v9).setCell (p := ⟨b, 10, none⟩) hb v10).setCell (p := ⟨b, 11, none⟩) hb v11
theorem OwnV.set {B : Nat} {a : Option Addr} {c i : Nat} {l : List WI} {v : Value} (h : OwnV w B a c l) (hb : b < B) : OwnV (w.setCell ⟨b, i, none⟩ v) B a c l := ownsRow_setCell_below h (a := ⟨b, i, none⟩) hb v
theorem OwnQ.set {B : Nat} {a : Option Addr} {c i : Nat} {l : List PartD} {v : Value} (h : OwnQ w B a c l) (hb : b < B) : OwnQ (w.setCell ⟨b, i, none⟩ v) B a c l := by
 obtain ⟨q, h1, h2, h3⟩ := h
 exact ⟨q, h1, ownsRow_setCell_below h2 (a := ⟨b, i, none⟩) hb v, fun x hx => (h3 x hx).set hb⟩
theorem OwnQ.mono {B B' : Nat} {a : Option Addr} {c : Nat} {l : List PartD} (h : OwnQ w B a c l) (hB : B' ≤ B) : OwnQ w B' a c l := by
 obtain ⟨q, h1, h2, h3⟩ := h
 refine ⟨q, h1, ⟨h2.1, ?_⟩, fun x hx => (h3 x hx).mono hB⟩
 rcases h2.2 with h' | ⟨g, cap, cur, e1, e2, e3⟩
 ·exact .inl h'
 ·exact .inr ⟨g, cap, cur, e1, by omega, e3⟩
theorem OwnQ.set12 {B : Nat} {a : Option Addr} {c : Nat} {l : List PartD} (h : OwnQ w B a c l) (hb : b < B) : OwnQ (set12 w b v0 v1 v2 v3 v4 v5 v6 v7 v8 v9 v10 v11) B a c l :=
 (((((((((((h.set hb).set hb).set hb).set hb).set hb).set hb).set hb).set hb).set hb).set hb).set hb).set hb
end
theorem own_ne {w : World} {B c g b : Nat} {l : List (List UInt8)} {T : TypeId} {cs : Array Value} (h : OwnS w B (some ⟨g, 0, none⟩) c l) (hb : IsC w b T cs) (hT : T ≠ 9) : g ≠ b := by
 rintro rfl
 rcases h.2 with ⟨hv, _⟩ | ⟨g', cap, cur, hv, _, hg, _⟩
 ·cases hv
 ·cases hv
  unfold IsC at hb
  rw [hg] at hb
  cases hb
  exact hT rfl
theorem idxS_at (x : ByteArray) : ∀ (l : List ByteArray) (i : Nat), Lib.idxFromS l x i ≠ -1 → l[(Lib.idxFromS l x i - i).toNat]? = some x
 | [], i, h => absurd rfl h
 | y :: l, i, h => by
   unfold Lib.idxFromS at h ⊢
   split
   ·rename_i e
    rw [show ((i : Int) - (i : Int)).toNat = 0 by omega]
    simp [e]
   ·rename_i e
    rw [if_neg e] at h
    have h1 := idxS_at x l (i + 1) h
    have h2 := idxS_bd x l (i + 1)
    rcases h2 with h2 | ⟨h2, _⟩
    ·exact absurd h2 h
    ·rw [show (Lib.idxFromS l x (i + 1) - (i : Int)).toNat = (Lib.idxFromS l x (i + 1) - ((i + 1 : Nat) : Int)).toNat + 1 by omega, List.getElem?_cons_succ]
     exact h1
theorem kind_inj {a b : List UInt8} (h : kindOf a = kindOf b) (h0 : kindOf a ≠ 0) : a = b := by
 unfold kindOf Lib.idxOfS at h h0
 have e1 := idxS_at (text a) (wordL.drop 1) 0 (by omega)
 have e2 := idxS_at (text b) (wordL.drop 1) 0 (by omega)
 have e : Lib.idxFromS (wordL.drop 1) (text a) 0 = Lib.idxFromS (wordL.drop 1) (text b) 0 := by omega
 rw [e, e2] at e1
 have := Option.some.inj e1
 rw [← byts_text a, ← byts_text b, this]
/-- what a guess hands back -/
def Guessed (w : World) (x : OpD) (e : Ending) (w' : World) : Prop := (∃ a c b d, e = .returned (opv x (.slice a x.P.length c) (.slice b x.cP.length d)) ∧ OwnQ w' w.heap.size a c x.P ∧ OwnQ w' w.heap.size b d x.cP) ∧ Below w.heap.size w w'
theorem src_str3 (w : World) (x y z : ByteArray) : Src Tryz.prog 1 76 (.slice (some ⟨w.heap.size, 0, none⟩) 3 3) 3 [.string x, .string y, .string z] (w.alloc (.cells #[.string x, .string y, .string z] 9)) :=
 Src.ofSlice _ Tryz.underlying76 ⟨w.heap.size, 0, none⟩ 3 3 _ rfl (by
  intro j u hj
  have hc := (IsC.new w 9 #[.string x, .string y, .string z]).cell j
  rw [addr_add, Nat.zero_add, hc]
  simpa using hj) (by intro u hu; simp at hu; rcases hu with rfl | rfl | rfl <;> rfl)
theorem pad_get (l : List (List UInt8)) (j : Nat) (hj : j < 3) (hl : 0 < l.length) : (l ++ [[], [], []])[j]? = some (l.getD j []) := by
 rw [List.getD_eq_getElem?_getD]
 rcases Nat.lt_or_ge j l.length with h | h
 ·rw [List.getElem?_append_left h, List.getElem?_eq_getElem h]; rfl
 ·rw [List.getElem?_eq_none h, List.getElem?_append_right h]
  have : j - l.length = 0 ∨ j - l.length = 1 := by omega
  rcases this with h | h <;> rw [h] <;> rfl
theorem behF_len (l : List UInt8) : (behF l).length ≤ l.length + 1 := by
 unfold behF
 split <;> simp
theorem guessG (s : ByteArray) (hs : s.size ≤ 99500) (w : World) (hg : GlobT w) (w0 t0 : List UInt8) (hw0 : (Lib.cut (byts s) [32]).1 = w0) (ht0 : (Lib.cut (byts s) [32]).2.1 = t0)
 (hrec : kindOf w0 = 8 ∧ (Lib.cut t0 [32]).1 ≠ w0 → ∀ w', GlobT w' → Calls Tryz.prog 40 #[.string (text t0)] w' fun e w'' => Guessed w' (guess1F t0) e w'') :
 Calls Tryz.prog 40 #[.string s] w fun e w' => Guessed w (guessF (byts s)) e w' := by
 obtain ⟨i0, hi, hz0, hz1, hz2'⟩ := info_parts infoStr
 have hb0 := below1 w (.cells #[.int .i64 0, .int .u64 0, .int .i64 0, .slice none 0 0, .int .u32 0, .int .u32 0, .int .i64 0, .int .u64 0, .int .i64 0, .slice none 0 0, .int .i64 0, .string ⟨#[]⟩] 32)
 have hbox := IsC.new w 32 #[.int .i64 0, .int .u64 0, .int .i64 0, .slice none 0 0, .int .u32 0, .int .u32 0, .int .i64 0, .int .u64 0, .int .i64 0, .slice none 0 0, .int .i64 0, .string ⟨#[]⟩]
 have hg0 := hg.on hb0
 have cc := cutS_c s ⟨#[32]⟩ (by omega) _ hg0
 rw [show byts ⟨#[32]⟩ = [32] from rfl] at cc
 obtain ⟨hl1, hl2⟩ := cut_le (byts s) [32]
 rw [byts_length] at hl1 hl2
 have hGF : guessF (byts s) = (if kindOf w0 = 8 ∧ (Lib.cut t0 [32]).1 ≠ w0 then ⟨8, 0, 0, [], 0, 0, asCmdK (guess1F t0).K, (guess1F t0).E, (guess1F t0).C, (guess1F t0).P, 0, sS⟩ else gO (kindOf w0) t0) := by
  unfold guessF
  conv => lhs; unfold guess1F
  simp only [hw0, ht0]
  rfl
 rw [hw0, ht0] at cc
 rw [hw0] at hl1
 rw [ht0] at hl2
 generalize (Lib.cut (byts s) [32]).2.2 = bb at *
 obtain ⟨R, hR⟩ : ∃ R, guessF (byts s) = R := ⟨_, rfl⟩
 rw [hR] at hGF ⊢
 clear hw0 ht0 hR
 have hk := kindOf_bd w0
 have cI := fun (w' : World) (b : Nat) h => index_words (text w0) w' b h
 have hidx : Lib.idxOfS (wordL.drop 1) (text w0) + 1 = kindOf w0 := rfl
 have cS := fun w' (hg : GlobT w') => splitF_c 32 (text t0) (by rw [text_size]; omega) w' hg
 rw [byts_text] at cS
 have hne := List.length_pos_iff.2 (segsQ_ne 32 t0)
 have hml := segsQ_mem 32 t0
 have hWl := segsQ_len 32 t0
 obtain ⟨kd, hkd⟩ : ∃ kd, kindOf w0 = kd := ⟨_, rfl⟩
 obtain ⟨ix, hix⟩ : ∃ ix, Lib.idxOfS (wordL.drop 1) (text w0) = ix := ⟨_, rfl⟩
 rw [hix] at cI hidx
 rw [hkd] at hk hidx hGF hrec
 have hxk : ix + 1 = kd := hidx
 obtain ⟨n, hn⟩ : ∃ n, (segsQ 32 t0).length = n := ⟨_, rfl⟩
 have hWW : (segsQ 32 t0 ++ [[], [], []]).length = n + 3 := by rw [List.length_append, hn]; rfl
 have hsvl : (sv (segsQ 32 t0)).length = n * 1 := by rw [sv_length, hn, Nat.mul_one]
 have p0 := pad_get (segsQ 32 t0) 0 (by decide) hne
 have p1 := pad_get (segsQ 32 t0) 1 (by decide) hne
 have p2 := pad_get (segsQ 32 t0) 2 (by decide) hne
 rw [hn] at cS hne hWl
 replace cc := Hd cc
 replace cI := Hd cI
 replace cS := Hd cS
 replace hrec := Hd hrec
 replace hGF := Hd hGF
 replace hml := Hd hml
 replace hn := Hd hn
 replace hWW := Hd hWW
 replace hsvl := Hd hsvl
 replace p0 := Hd p0
 replace p1 := Hd p1
 replace p2 := Hd p2
 replace hb0 := Hd hb0
 replace hbox := Hd hbox
 replace hkd := Hd hkd
 clear hix hidx
 have hb0s := hb0.out.size
 go_enter Tryz.func40, Tryz.ntmps40
 go_wp2_with fail
 refine cc.out.mono ?_
 rintro x w1 ⟨rfl, hb1⟩
 have hg1 := hg0.on hb1
 replace hb0 := Hd (below_up hb0.out hb0s hb1)
 replace hbox := Hd (isC_of hb1 hbox.out)
 clear cc hb1 hb0s hg0
 have hb0s := hb0.out.size
 go_wp2_with fail
 refine (words_b _).mono ?_
 rintro x w2 ⟨rfl, hb2, hcells⟩
 have hg2 := (hg1.on hb2).on (below1 w2 (.cells #[.int .i64 kd, .int .u64 0, .int .i64 0, .slice none 0 0, .int .u32 0, .int .u32 0, .int .i64 0, .int .u64 0, .int .i64 0, .slice none 0 0, .int .i64 0, .string ⟨#[]⟩] 32))
 have hbx2 := isC_of hb2 hbox.out
 have hlt2 := hbx2.lt
 have hb3 := below_up hb0.out hb0s hb2
 replace hbox := Hd (hbx2.alloc (.cells #[.int .i64 kd, .int .u64 0, .int .i64 0, .slice none 0 0, .int .u32 0, .int .u32 0, .int .i64 0, .int .u64 0, .int .i64 0, .slice none 0 0, .int .i64 0, .string ⟨#[]⟩] 32))
 have hpr := Hd (IsC.new w2 32 #[.int .i64 kd, .int .u64 0, .int .i64 0, .slice none 0 0, .int .u32 0, .int .u32 0, .int .i64 0, .int .u64 0, .int .i64 0, .slice none 0 0, .int .i64 0, .string ⟨#[]⟩])
 replace hb0 := Hd (hb3.alloc hb3.size (.cells #[.int .i64 kd, .int .u64 0, .int .i64 0, .slice none 0 0, .int .u32 0, .int .u32 0, .int .i64 0, .int .u64 0, .int .i64 0, .slice none 0 0, .int .i64 0, .string ⟨#[]⟩] 32))
 have cI2 := Hd (cI.out w2 w1.heap.size hcells)
 have cS2 := Hd (cS.out _ hg2)
 clear hb2 hcells hb0s hbx2 hb3 hg1 cI cS
 have hb0s := hb0.out.size
 go_wp2_with fail
 refine cI2.out.mono ?_
 rintro x w' ⟨rfl, rfl⟩
 have hlt6 := hpr.out.lt
 have hz2 := size_alloc w2 (.cells #[.int .i64 kd, .int .u64 0, .int .i64 0, .slice none 0 0, .int .u32 0, .int .u32 0, .int .i64 0, .int .u64 0, .int .i64 0, .slice none 0 0, .int .i64 0, .string ⟨#[]⟩] 32)
 go_wp2_with fail
 refine cS2.out.mono ?_
 rintro x w3 ⟨rfl, hown, hb3⟩
 rw [hz2] at hown
 have hsrc := src_str3 w3 ⟨#[]⟩ ⟨#[]⟩ ⟨#[]⟩
 have hob := below1 w3 (.cells #[.string ⟨#[]⟩, .string ⟨#[]⟩, .string ⟨#[]⟩] 9)
 have hIn1 := inT_cells ((OwnS.in (by rw [← hn.out] at hown; exact hown)).below hob)
 have hb3s := hb3.size
 go_wp2_with (at_builtin; refine wpList_append_full_src rfl (.tmp 24) (.tmp 25) 76 76 rfl 9 i0 (.string ⟨#[]⟩) 1 16 Tryz.underlying76 hi hz0 hz1 hz2' rfl (w2.heap.size + 1) 0 n (sv (segsQ 32 t0)) hsvl.out hIn1 rfl rfl hsrc ?_ ?_ ?_ w.heap.size ?_ ?_)
 ·decide
 ·unfold maxLen; omega
 ·omega
 ·(try rw [size_alloc]); omega
 intro b' c' w4 hown2 hb4
 have hb34 := hob.trans (hb4.mono (by (try rw [size_alloc]); omega))
 have hg4 := (hg2.on hb3).on hb34
 replace hbox := Hd (isC_of hb34 (isC_of hb3 hbox.out))
 replace hpr := Hd (isC_of hb34 (isC_of hb3 hpr.out))
 have hO : OwnS w4 w.heap.size b' c' (segsQ 32 t0 ++ [[], [], []]) := by
  unfold OwnS
  rw [hWW.out, sv_append]
  exact hown2
 have hb5 := below_up (below_up hb0.out hb0s hb3) (Nat.le_trans hb0s hb3s) hb34
 obtain ⟨g, rfl, hcap⟩ := hO.addr (by simp)
 rw [hWW.out] at hcap
 have hgt : ∀ j (hj : j < 3), w4.cell? ⟨g, j, none⟩ = some (.string (text (wAt t0 j))) := by
  intro j hj
  have h := OwnS.cell hO j (by rw [hWW.out]; omega)
  have h2 := pad_get (segsQ 32 t0) j hj (by rw [hn.out]; omega)
  rw [List.getElem?_eq_getElem (by rw [hWW.out]; omega)] at h2
  rw [Option.some.inj h2] at h
  exact h
 have hwl : ∀ j, (wAt t0 j).length ≤ 99500 := by
  intro j
  unfold wAt
  rw [List.getD_eq_getElem?_getD]
  cases hh : (segsQ 32 t0)[j]? with
  | none => simp
  | some x => have := hml.out x (List.mem_of_getElem? hh); simp; omega
 have b6 := hpr.out.lt
 have hb5s := hb5.size
 have hw24 : w2.heap.size < w4.heap.size := by have := hb34.size; omega
 have hgne : g ≠ w2.heap.size := own_ne hO hpr.out (by decide)
 clear hown hob hIn1 hown2 hb4 hb3 hb34 hsrc hO cI2 cS2 hb0 hb0s hml p0 p1 p2 hWW hsvl hg2 hb3s
 replace hb5 := Hd hb5
 have k0 := hpr.out.cell 0
 have hne26 : w.heap.size ≠ w2.heap.size := by omega
 have hle26 : w.heap.size ≤ w2.heap.size := by omega
 go_upto_block 0 with fail
 go_cut [8] from 9 to 110 (fun _ wx => ∃ qa qc qb qd, IsC wx w2.heap.size 32 #[.int .i64 R.K, .int .u64 R.E, .int .i64 R.C, .slice qa R.P.length qc, .int .u32 R.A, .int .u32 R.N, .int .i64 R.cK, .int .u64 R.cE, .int .i64 R.cC, .slice qb R.cP.length qd, .int .i64 R.U, .string R.B] ∧ IsC wx w.heap.size 32 #[.int .i64 0, .int .u64 0, .int .i64 0, .slice none 0 0, .int .u32 0, .int .u32 0, .int .i64 0, .int .u64 0, .int .i64 0, .slice none 0 0, .int .i64 0, .string ⟨#[]⟩] ∧ Below w.heap.size w wx ∧ OwnQ wx (w.heap.size + 1) qa qc R.P ∧ OwnQ wx (w.heap.size + 1) qb qd R.cP)
 case first =>
  by_cases k1 : kd = 1
  ·subst k1
   have cb := behind_c (text t0) (by rw [text_size]; omega)
   rw [byts_text] at cb
   have cC := cut_c (⟨#[101, 32, 49, 32, 49]⟩ ++ text (behF t0)) (by rw [ByteArray.size_append, text_size]; have := behF_len t0; show 5 + _ ≤ _; omega) w4 hg4
   rw [byts_append, byts_text, show byts ⟨#[101, 32, 49, 32, 49]⟩ = [101, 32, 49, 32, 49] from rfl] at cC
   have q9 : ¬ 9223372036854775807 < 5 + (text (behF t0)).size := by rw [text_size]; have := behF_len t0; omega
   have hR := hGF.out
   rw [if_neg (fun h => absurd h.1 (by decide))] at hR
   have hR2 := hR.trans (show gO 1 t0 = ⟨1, 0, 0, (cutF ([101, 32, 49, 32, 49] ++ behF t0)).2.1, 0, 0, 0, 0, 0, [], 0, sS⟩ from rfl)
   replace hR2 := Hd hR2
   clear hGF hR hrec
   generalize behF t0 = bt at *
   generalize cutF ([101, 32, 49, 32, 49] ++ bt) = Q at *
   obtain ⟨QE, QP, Qr⟩ := Q
   dsimp only at *
   replace cb := Hd cb
   replace cC := Hd cC
   go_wp2_with fail
   refine (cb.out.on _).mono ?_
   rintro x w' ⟨rfl, rfl⟩
   go_wp2_with fail
   refine cC.out.mono ?_
   rintro x w5 ⟨⟨qa, qc, rfl, hQ⟩, hb6⟩
   have hQX := Hd hQ
   have hprX := Hd (isC_of hb6 hpr.out)
   have hbxX := Hd (isC_of hb6 hbox.out)
   have hbX := Hd (below_up hb5.out hb5s hb6)
   have hq26 : w2.heap.size < w4.heap.size := hw24
   have hqw : w.heap.size < w4.heap.size := by omega
   have hqle : w.heap.size + 1 ≤ w4.heap.size := by omega
   clear hb6 hQ cC cb k0
   have e0 := hprX.out.cell 3
   have e1 := hprX.out.f 3
   have hprY : IsC (w5.setCell ⟨w2.heap.size, 3, none⟩ (.slice qa QP.length qc)) w2.heap.size 32 #[.int .i64 1, .int .u64 0, .int .i64 0, .slice qa QP.length qc, .int .u32 0, .int .u32 0, .int .i64 0, .int .u64 0, .int .i64 0, .slice none 0 0, .int .i64 0, .string ⟨#[]⟩] := (hprX.out.set 3 (.slice qa QP.length qc))
   have hbxY : IsC (w5.setCell ⟨w2.heap.size, 3, none⟩ (.slice qa QP.length qc)) w.heap.size 32 #[.int .i64 0, .int .u64 0, .int .i64 0, .slice none 0 0, .int .u32 0, .int .u32 0, .int .i64 0, .int .u64 0, .int .i64 0, .slice none 0 0, .int .i64 0, .string ⟨#[]⟩] := (hbxX.out.set_other (c := w2.heap.size) (i := 3) (v := .slice qa QP.length qc) hne26)
   have hbY : Below w.heap.size w (w5.setCell ⟨w2.heap.size, 3, none⟩ (.slice qa QP.length qc)) := (hbX.out.setCell (p := ⟨w2.heap.size, 3, none⟩) hle26 (.slice qa QP.length qc))
   have hqY := OwnQ.mono ((hQX.out.set (i := 3) (v := .slice qa QP.length qc) hq26)) hqle
   replace hprY := Hd hprY
   replace hbxY := Hd hbxY
   replace hbY := Hd hbY
   go_wp2_with fail
   go_meet
   rw [hR2.out]
   exact ⟨qa, qc, none, 0, hprY.out, hbxY.out, hbY.out, hqY, OwnQ.nil _ _⟩
  by_cases k2 : kd = 2 ∨ kd = 3 ∨ kd = 5
  ·rcases k2 with rfl | rfl | rfl
   all_goals
    have cC := cut_c (⟨#[101, 32]⟩ ++ text t0) (by rw [ByteArray.size_append, text_size]; show 2 + _ ≤ _; omega) w4 hg4
    rw [byts_append, byts_text, show byts ⟨#[101, 32]⟩ = [101, 32] from rfl] at cC
    have q9 : ¬ 9223372036854775807 < 2 + (text t0).size := by rw [text_size]; omega
    have hR := hGF.out
    rw [if_neg (fun h => absurd h.1 (by decide))] at hR
    have hR2 := hR.trans (show gO _ t0 = ⟨_, (cutF ([101, 32] ++ t0)).1, 0, (cutF ([101, 32] ++ t0)).2.1, 0, 0, 0, 0, 0, [], 0, sS⟩ from rfl)
    replace hR2 := Hd hR2
    clear hGF hR hrec
    generalize cutF ([101, 32] ++ t0) = Q at *
    obtain ⟨QE, QP, Qr⟩ := Q
    dsimp only at *
    replace cC := Hd cC
    go_wp2_with fail
    refine cC.out.mono ?_
    rintro x w5 ⟨⟨qa, qc, rfl, hQ⟩, hb6⟩
    have hQX := Hd hQ
    have hprX := Hd (isC_of hb6 hpr.out)
    have hbxX := Hd (isC_of hb6 hbox.out)
    have hbX := Hd (below_up hb5.out hb5s hb6)
    have hq26 : w2.heap.size < w4.heap.size := hw24
    have hqw : w.heap.size < w4.heap.size := by omega
    have hqle : w.heap.size + 1 ≤ w4.heap.size := by omega
    clear hb6 hQ cC k0
    have e0 := hprX.out.cell 3
    have e1 := hprX.out.f 3
    have e2 := hprX.out.cell 1
    have e3 := hprX.out.f 1
    have hprY : IsC ((w5.setCell ⟨w2.heap.size, 1, none⟩ (.int .u64 QE)).setCell ⟨w2.heap.size, 3, none⟩ (.slice qa QP.length qc)) w2.heap.size 32 #[.int .i64 _, .int .u64 QE, .int .i64 0, .slice qa QP.length qc, .int .u32 0, .int .u32 0, .int .i64 0, .int .u64 0, .int .i64 0, .slice none 0 0, .int .i64 0, .string ⟨#[]⟩] := ((hprX.out.set 1 (.int .u64 QE)).set 3 (.slice qa QP.length qc))
    have hbxY : IsC ((w5.setCell ⟨w2.heap.size, 1, none⟩ (.int .u64 QE)).setCell ⟨w2.heap.size, 3, none⟩ (.slice qa QP.length qc)) w.heap.size 32 #[.int .i64 0, .int .u64 0, .int .i64 0, .slice none 0 0, .int .u32 0, .int .u32 0, .int .i64 0, .int .u64 0, .int .i64 0, .slice none 0 0, .int .i64 0, .string ⟨#[]⟩] := ((hbxX.out.set_other (c := w2.heap.size) (i := 1) (v := .int .u64 QE) hne26).set_other (c := w2.heap.size) (i := 3) (v := .slice qa QP.length qc) hne26)
    have hbY : Below w.heap.size w ((w5.setCell ⟨w2.heap.size, 1, none⟩ (.int .u64 QE)).setCell ⟨w2.heap.size, 3, none⟩ (.slice qa QP.length qc)) := ((hbX.out.setCell (p := ⟨w2.heap.size, 1, none⟩) hle26 (.int .u64 QE)).setCell (p := ⟨w2.heap.size, 3, none⟩) hle26 (.slice qa QP.length qc))
    have hqY := OwnQ.mono (((hQX.out.set (i := 1) (v := .int .u64 QE) hq26).set (i := 3) (v := .slice qa QP.length qc) hq26)) hqle
    replace hprY := Hd hprY
    replace hbxY := Hd hbxY
    replace hbY := Hd hbY
    go_wp2_with fail
    go_meet
    rw [hR2.out]
    exact ⟨qa, qc, none, 0, hprY.out, hbxY.out, hbY.out, hqY, OwnQ.nil _ _⟩
  simp only [not_or] at k2
  obtain ⟨k2, k3, k5⟩ := k2
  by_cases k4 : kd = 4 ∨ kd = 6
  ·rcases k4 with rfl | rfl
   all_goals
    have cN0 := fun w' (hg : GlobT w') => number_c (text (wAt t0 0)) (by rw [text_size]; have := hwl 0; omega) w' hg
    have cN1 := fun w' (hg : GlobT w') => number_c (text (wAt t0 1)) (by rw [text_size]; have := hwl 1; omega) w' hg
    have cN2 := fun w' (hg : GlobT w') => number_c (text (wAt t0 2)) (by rw [text_size]; have := hwl 2; omega) w' hg
    rw [byts_text] at cN0 cN1 cN2
    have cO := ent_c (atoiV (wAt t0 0)) (atoiV (wAt t0 1)) (atoi_bd _) (atoi_bd _)
    have u0 := hgt 0 (by decide)
    have u1 := hgt 1 (by decide)
    have u2 := hgt 2 (by decide)
    have hR := hGF.out
    rw [if_neg (fun h => absurd h.1 (by decide))] at hR
    have hR2 := hR.trans (show gO _ t0 = ⟨_, entF (atoiV (wAt t0 0)) (atoiV (wAt t0 1)), atoiV (wAt t0 2), [], 0, 0, 0, 0, 0, [], 0, sS⟩ from rfl)
    replace hR2 := Hd hR2
    clear hGF hR hrec
    generalize entF (atoiV (wAt t0 0)) (atoiV (wAt t0 1)) = EE at *
    generalize atoiV (wAt t0 0) = I0 at *
    generalize atoiV (wAt t0 1) = I1 at *
    generalize atoiV (wAt t0 2) = I2 at *
    have m1 : (1 : Int) < (n : Int) + 3 := by omega
    have m2 : (2 : Int) < (n : Int) + 3 := by omega
    have m0 : (0 : Int) < (n : Int) + 3 := by omega
    replace cN0 := Hd cN0
    replace cN1 := Hd cN1
    replace cN2 := Hd cN2
    replace cO := Hd cO
    clear hgt hwl
    go_wp2_with fail
    refine wp_region_held_at (S := fun w1 => w1.cell? ⟨g, 0, none⟩ = some (.string (text (wAt t0 0))) ∧ w1.cell? ⟨g, 1, none⟩ = some (.string (text (wAt t0 1))) ∧ w1.cell? ⟨g, 2, none⟩ = some (.string (text (wAt t0 2)))) 17 rfl (by kernel_rfl) (by go_keep) (fun hH => ?_)
    refine wpU 0 ?_ rfl ?_ ?_
    rotate_left
    ·intro u h; (try simp only [ls3]); go_simp; try with_reducible rfl
    try simp only [ls7, Act.put]
    refine wpU 1 ?_ rfl ?_ ?_
    rotate_left
    ·intro u h; (try simp only [ls3]); go_simp; try with_reducible rfl
    try simp only [ls7, Act.put]
    refine wpU 2 ?_ rfl ?_ ?_
    rotate_left
    ·intro u h; (try simp only [ls3]); go_simp; try with_reducible rfl
    try simp only [ls7, Act.put]
    refine wpU 4 ?_ rfl ?_ ?_
    rotate_left
    ·intro u h; (try simp only [ls3]); go_simp; try with_reducible rfl
    try simp only [ls7, Act.put]
    refine wpU 5 ?_ rfl ?_ ?_
    rotate_left
    ·intro u h; (try simp only [ls3]); go_simp; try with_reducible rfl
    try simp only [ls7, Act.put]
    refine wpU 6 ?_ rfl ?_ ?_
    rotate_left
    ·intro u h; (try simp only [ls3]); go_simp; try with_reducible rfl
    try simp only [ls7, Act.put]
    refine wpU 9 ?_ rfl ?_ ?_
    rotate_left
    ·intro u h; (try simp only [ls3]); go_simp; try with_reducible rfl
    try simp only [ls7, Act.put]
    refine wpU 10 ?_ rfl ?_ ?_
    rotate_left
    ·intro u h; (try simp only [ls3]); go_simp; try with_reducible rfl
    try simp only [ls7, Act.put]
    refine wpU 11 ?_ rfl ?_ ?_
    rotate_left
    ·intro u h; (try simp only [ls3]); go_simp; try with_reducible rfl
    try simp only [ls7, Act.put]
    refine wpAnyH_ready (rs := [3]) (by decide +kernel) (by simp) ?_
    refine AllReadyH.cons rfl (fun K hK => ?_) AllReadyH.nil
    (try simp only [ls3])
    go_simp
    refine Calls.mono (cN0.out _ (hg4.on (below_drewed (Below.refl _ _)))) ?_
    rintro e w5 ⟨rfl, hb6⟩
    replace u0 := cell_up (show w4.drew.cell? ⟨g, 0, none⟩ = some (.string (text (wAt t0 0))) from u0) hb6
    replace u1 := cell_up (show w4.drew.cell? ⟨g, 1, none⟩ = some (.string (text (wAt t0 1))) from u1) hb6
    replace u2 := cell_up (show w4.drew.cell? ⟨g, 2, none⟩ = some (.string (text (wAt t0 2))) from u2) hb6
    have hprX := Hd (isC_of (w := w4.drew) hb6 hpr.out)
    have hbxX := Hd (isC_of (w := w4.drew) hb6 hbox.out)
    have hbX := Hd (below_up (below_drewed hb5.out) hb5s hb6)
    have hg5 := Hd ((hg4.on (below_drewed (Below.refl _ _))).on hb6)
    have hbXs := hbX.out.size
    clear hb6
    (try go_simp)
    refine hK.out _ _ (by go_keep) (fun hH => ?_)
    clear hK K
    try simp only [ls7, Act.put]
    refine wpAnyH_ready (rs := [7]) (by decide +kernel) (by simp) ?_
    refine AllReadyH.cons rfl (fun K hK => ?_) AllReadyH.nil
    (try simp only [ls3])
    go_simp
    refine Calls.mono (cN1.out _ hg5.out) ?_
    rintro e w6 ⟨rfl, hb7⟩
    replace u0 := cell_up u0 hb7
    replace u1 := cell_up u1 hb7
    replace u2 := cell_up u2 hb7
    replace hprX := Hd (isC_of hb7 hprX.out)
    replace hbxX := Hd (isC_of hb7 hbxX.out)
    replace hbX := Hd (below_up hbX.out hbXs hb7)
    have hg6 := Hd (hg5.out.on hb7)
    clear hb7 hbXs
    have hbXs := hbX.out.size
    (try go_simp)
    refine hK.out _ _ (by go_keep) (fun hH => ?_)
    clear hK K
    try simp only [ls7, Act.put]
    refine wpAnyH_ready (rs := [8]) (by decide +kernel) (by simp) ?_
    refine AllReadyH.cons rfl (fun K hK => ?_) AllReadyH.nil
    (try simp only [ls3])
    go_simp
    refine Calls.mono (cO.out.on _) ?_
    rintro e w7 ⟨rfl, rfl⟩
    (try go_simp)
    refine hK.out _ _ (by go_keep) (fun hH => ?_)
    clear hK K
    try simp only [ls7, Act.put]
    refine wpU 13 ?_ rfl ?_ ?_
    rotate_left
    ·intro u h; (try simp only [ls3]); go_simp; try with_reducible rfl
    try simp only [ls7, Act.put]
    refine wpAnyH_ready (rs := [12]) (by decide +kernel) (by simp) ?_
    refine AllReadyH.cons rfl (fun K hK => ?_) AllReadyH.nil
    (try simp only [ls3])
    go_simp
    refine Calls.mono (cN2.out _ hg6.out) ?_
    rintro e w7 ⟨rfl, hb8⟩
    replace u0 := cell_up u0 hb8
    replace u1 := cell_up u1 hb8
    replace u2 := cell_up u2 hb8
    replace hprX := Hd (isC_of hb8 hprX.out)
    replace hbxX := Hd (isC_of hb8 hbxX.out)
    replace hbX := Hd (below_up hbX.out hbXs hb8)
    clear hb8 hbXs
    have e0 := hprX.out.cell 1
    have e1 := hprX.out.f 1
    have e2 := hprX.out.cell 2
    have e3 := hprX.out.f 2
    have e4 : (w7.setCell ⟨w2.heap.size, 1, none⟩ (.int .u64 EE)).frozen? ⟨w2.heap.size, 2, none⟩ = false := (hprX.out.set 1 (.int .u64 EE)).f 2
    have e5 : (w7.setCell ⟨w2.heap.size, 1, none⟩ (.int .u64 EE)).cell? ⟨w2.heap.size, 2, none⟩ = _ := (hprX.out.set 1 (.int .u64 EE)).cell 2
    (try go_simp)
    refine hK.out _ _ (by go_keep) (fun hH => ?_)
    clear hK K
    try simp only [ls7, Act.put]
    refine wpAnyH_ready (rs := [14]) (by decide +kernel) (by simp) ?_
    refine AllReadyH.cons rfl (fun K hK => ?_) AllReadyH.nil
    (try simp only [ls3])
    go_simp
    refine hK.out _ _ (by exact ⟨cell_set_ne hgne u0, cell_set_ne hgne u1, cell_set_ne hgne u2⟩) (fun hH => ?_)
    clear hK K
    try simp only [ls7, Act.put]
    refine wpU 15 ?_ rfl ?_ ?_
    rotate_left
    ·intro u h; (try simp only [ls3]); go_simp; try with_reducible rfl
    try simp only [ls7, Act.put]
    refine wpAnyH_ready (rs := [16]) (by decide +kernel) (by simp) ?_
    refine AllReadyH.cons rfl (fun K hK => ?_) AllReadyH.nil
    (try simp only [ls3])
    go_simp
    refine hK.out _ _ (by exact ⟨cell_set_ne hgne (cell_set_ne hgne u0), cell_set_ne hgne (cell_set_ne hgne u1), cell_set_ne hgne (cell_set_ne hgne u2)⟩) (fun hH => ?_)
    clear hK K
    try simp only [ls7, Act.put]
    refine wpAnyH_done (by decide +kernel) ?_ _
    have hprY : IsC ((w7.setCell ⟨w2.heap.size, 1, none⟩ (.int .u64 EE)).setCell ⟨w2.heap.size, 2, none⟩ (.int .i64 I2)) w2.heap.size 32 #[.int .i64 _, .int .u64 EE, .int .i64 I2, .slice none 0 0, .int .u32 0, .int .u32 0, .int .i64 0, .int .u64 0, .int .i64 0, .slice none 0 0, .int .i64 0, .string ⟨#[]⟩] := ((hprX.out.set 1 (.int .u64 EE)).set 2 (.int .i64 I2))
    have hbxY : IsC ((w7.setCell ⟨w2.heap.size, 1, none⟩ (.int .u64 EE)).setCell ⟨w2.heap.size, 2, none⟩ (.int .i64 I2)) w.heap.size 32 #[.int .i64 0, .int .u64 0, .int .i64 0, .slice none 0 0, .int .u32 0, .int .u32 0, .int .i64 0, .int .u64 0, .int .i64 0, .slice none 0 0, .int .i64 0, .string ⟨#[]⟩] := ((hbxX.out.set_other (c := w2.heap.size) (i := 1) (v := .int .u64 EE) hne26).set_other (c := w2.heap.size) (i := 2) (v := .int .i64 I2) hne26)
    have hbY : Below w.heap.size w ((w7.setCell ⟨w2.heap.size, 1, none⟩ (.int .u64 EE)).setCell ⟨w2.heap.size, 2, none⟩ (.int .i64 I2)) := ((hbX.out.setCell (p := ⟨w2.heap.size, 1, none⟩) hle26 (.int .u64 EE)).setCell (p := ⟨w2.heap.size, 2, none⟩) hle26 (.int .i64 I2))
    replace hprY := Hd hprY
    replace hbxY := Hd hbxY
    replace hbY := Hd hbY
    go_wp2_with fail
    go_meet
    rw [hR2.out]
    exact ⟨none, 0, none, 0, hprY.out, hbxY.out, hbY.out, OwnQ.nil _ _, OwnQ.nil _ _⟩
  simp only [not_or] at k4
  obtain ⟨k4, k6⟩ := k4
  by_cases k7 : kd = 7
  ·subst k7
   have cQ := qparse_c (text t0) (by rw [text_size]; omega) w4 hg4
   rw [byts_text] at cQ
   unfold qv at cQ
   have hR := hGF.out
   rw [if_neg (fun h => absurd h.1 (by decide))] at hR
   have hR2 := hR.trans (show gO 7 t0 = ⟨7, 0, 0, [], (parseQF t0).1, (parseQF t0).2.1, 0, 0, 0, [], 0, sS⟩ from rfl)
   replace hR2 := Hd hR2
   clear hGF hR hrec
   generalize parseQF t0 = Q at *
   obtain ⟨QA, QN, Qr⟩ := Q
   dsimp only at *
   replace cQ := Hd cQ
   go_wp2_with fail
   refine cQ.out.mono ?_
   rintro x w5 ⟨rfl, hb6⟩
   have hprX := Hd (isC_of hb6 hpr.out)
   have hbxX := Hd (isC_of hb6 hbox.out)
   have hbX := Hd (below_up hb5.out hb5s hb6)
   have hq26 : w2.heap.size < w4.heap.size := hw24
   have hqw : w.heap.size < w4.heap.size := by omega
   have hqle : w.heap.size + 1 ≤ w4.heap.size := by omega
   clear hb6 cQ k0
   have e0 := hprX.out.cell 4
   have e1 := hprX.out.f 4
   have e2 := hprX.out.cell 5
   have e3 := hprX.out.f 5
   have hprY : IsC ((w5.setCell ⟨w2.heap.size, 4, none⟩ (.int .u32 QA)).setCell ⟨w2.heap.size, 5, none⟩ (.int .u32 QN)) w2.heap.size 32 #[.int .i64 7, .int .u64 0, .int .i64 0, .slice none 0 0, .int .u32 QA, .int .u32 QN, .int .i64 0, .int .u64 0, .int .i64 0, .slice none 0 0, .int .i64 0, .string ⟨#[]⟩] := ((hprX.out.set 4 (.int .u32 QA)).set 5 (.int .u32 QN))
   have hbxY : IsC ((w5.setCell ⟨w2.heap.size, 4, none⟩ (.int .u32 QA)).setCell ⟨w2.heap.size, 5, none⟩ (.int .u32 QN)) w.heap.size 32 #[.int .i64 0, .int .u64 0, .int .i64 0, .slice none 0 0, .int .u32 0, .int .u32 0, .int .i64 0, .int .u64 0, .int .i64 0, .slice none 0 0, .int .i64 0, .string ⟨#[]⟩] := ((hbxX.out.set_other (c := w2.heap.size) (i := 4) (v := .int .u32 QA) hne26).set_other (c := w2.heap.size) (i := 5) (v := .int .u32 QN) hne26)
   have hbY : Below w.heap.size w ((w5.setCell ⟨w2.heap.size, 4, none⟩ (.int .u32 QA)).setCell ⟨w2.heap.size, 5, none⟩ (.int .u32 QN)) := ((hbX.out.setCell (p := ⟨w2.heap.size, 4, none⟩) hle26 (.int .u32 QA)).setCell (p := ⟨w2.heap.size, 5, none⟩) hle26 (.int .u32 QN))
   replace hprY := Hd hprY
   replace hbxY := Hd hbxY
   replace hbY := Hd hbY
   go_wp2_with fail
   go_meet
   rw [hR2.out]
   exact ⟨none, 0, none, 0, hprY.out, hbxY.out, hbY.out, OwnQ.nil _ _, OwnQ.nil _ _⟩
  by_cases k9 : kd = 9
  ·subst k9
   have cN := number_c (text t0) (by rw [text_size]; omega) w4 hg4
   rw [byts_text] at cN
   have hR := hGF.out
   rw [if_neg (fun h => absurd h.1 (by decide))] at hR
   have hR2 := hR.trans (show gO 9 t0 = ⟨9, 0, 0, [], 0, 0, 0, 0, 0, [], atoiV t0, sS⟩ from rfl)
   replace hR2 := Hd hR2
   clear hGF hR hrec
   generalize atoiV t0 = I0 at *
   replace cN := Hd cN
   go_wp2_with fail
   refine cN.out.mono ?_
   rintro x w5 ⟨rfl, hb6⟩
   have hprX := Hd (isC_of hb6 hpr.out)
   have hbxX := Hd (isC_of hb6 hbox.out)
   have hbX := Hd (below_up hb5.out hb5s hb6)
   have hq26 : w2.heap.size < w4.heap.size := hw24
   have hqw : w.heap.size < w4.heap.size := by omega
   have hqle : w.heap.size + 1 ≤ w4.heap.size := by omega
   clear hb6 cN k0
   have e0 := hprX.out.cell 10
   have e1 := hprX.out.f 10
   have hprY : IsC (w5.setCell ⟨w2.heap.size, 10, none⟩ (.int .i64 I0)) w2.heap.size 32 #[.int .i64 9, .int .u64 0, .int .i64 0, .slice none 0 0, .int .u32 0, .int .u32 0, .int .i64 0, .int .u64 0, .int .i64 0, .slice none 0 0, .int .i64 I0, .string ⟨#[]⟩] := (hprX.out.set 10 (.int .i64 I0))
   have hbxY : IsC (w5.setCell ⟨w2.heap.size, 10, none⟩ (.int .i64 I0)) w.heap.size 32 #[.int .i64 0, .int .u64 0, .int .i64 0, .slice none 0 0, .int .u32 0, .int .u32 0, .int .i64 0, .int .u64 0, .int .i64 0, .slice none 0 0, .int .i64 0, .string ⟨#[]⟩] := (hbxX.out.set_other (c := w2.heap.size) (i := 10) (v := .int .i64 I0) hne26)
   have hbY : Below w.heap.size w (w5.setCell ⟨w2.heap.size, 10, none⟩ (.int .i64 I0)) := (hbX.out.setCell (p := ⟨w2.heap.size, 10, none⟩) hle26 (.int .i64 I0))
   replace hprY := Hd hprY
   replace hbxY := Hd hbxY
   replace hbY := Hd hbY
   go_wp2_with fail
   go_meet
   rw [hR2.out]
   exact ⟨none, 0, none, 0, hprY.out, hbxY.out, hbY.out, OwnQ.nil _ _, OwnQ.nil _ _⟩
  by_cases k10 : kd = 10
  ·subst k10
   have cN := bytes_c (text t0) (by rw [text_size]; omega) w4
   rw [byts_text] at cN
   have hR := hGF.out
   rw [if_neg (fun h => absurd h.1 (by decide))] at hR
   have hR2 := hR.trans (show gO 10 t0 = ⟨10, 0, 0, [], 0, 0, 0, 0, 0, [], 0, text (bytesF t0).1⟩ from rfl)
   replace hR2 := Hd hR2
   clear hGF hR hrec
   generalize bytesF t0 = Q at *
   obtain ⟨QB, Qr⟩ := Q
   dsimp only at *
   replace cN := Hd cN
   go_wp2_with fail
   refine cN.out.mono ?_
   rintro x w5 ⟨rfl, hb6⟩
   have hprX := Hd (isC_of hb6 hpr.out)
   have hbxX := Hd (isC_of hb6 hbox.out)
   have hbX := Hd (below_up hb5.out hb5s hb6)
   have hq26 : w2.heap.size < w4.heap.size := hw24
   have hqw : w.heap.size < w4.heap.size := by omega
   have hqle : w.heap.size + 1 ≤ w4.heap.size := by omega
   clear hb6 cN k0
   have e0 := hprX.out.cell 11
   have e1 := hprX.out.f 11
   have hprY : IsC (w5.setCell ⟨w2.heap.size, 11, none⟩ (.string (text QB))) w2.heap.size 32 #[.int .i64 10, .int .u64 0, .int .i64 0, .slice none 0 0, .int .u32 0, .int .u32 0, .int .i64 0, .int .u64 0, .int .i64 0, .slice none 0 0, .int .i64 0, .string (text QB)] := (hprX.out.set 11 (.string (text QB)))
   have hbxY : IsC (w5.setCell ⟨w2.heap.size, 11, none⟩ (.string (text QB))) w.heap.size 32 #[.int .i64 0, .int .u64 0, .int .i64 0, .slice none 0 0, .int .u32 0, .int .u32 0, .int .i64 0, .int .u64 0, .int .i64 0, .slice none 0 0, .int .i64 0, .string ⟨#[]⟩] := (hbxX.out.set_other (c := w2.heap.size) (i := 11) (v := .string (text QB)) hne26)
   have hbY : Below w.heap.size w (w5.setCell ⟨w2.heap.size, 11, none⟩ (.string (text QB))) := (hbX.out.setCell (p := ⟨w2.heap.size, 11, none⟩) hle26 (.string (text QB)))
   replace hprY := Hd hprY
   replace hbxY := Hd hbxY
   replace hbY := Hd hbY
   go_wp2_with fail
   go_meet
   rw [hR2.out]
   exact ⟨none, 0, none, 0, hprY.out, hbxY.out, hbY.out, OwnQ.nil _ _, OwnQ.nil _ _⟩
  by_cases k8 : kd = 8
  ·subst k8
   have cF := cutS_c (text t0) ⟨#[32]⟩ (by rw [text_size]; omega) w4 hg4
   rw [byts_text, show byts ⟨#[32]⟩ = [32] from rfl] at cF
   generalize hF : (Lib.cut t0 [32]).1 = F at *
   generalize (Lib.cut t0 [32]).2.1 = L2 at *
   generalize (Lib.cut t0 [32]).2.2 = b2 at *
   have e9 : ((text F).toList == (text w0).toList) = decide (F = w0) := by
    rw [toList_text, toList_text, Bool.eq_iff_iff, beq_iff_eq, decide_eq_true_iff]
   replace cF := Hd cF
   have hR := hGF.out
   by_cases hFw : F = w0
   ·rw [decide_eq_true hFw] at e9
    rw [if_neg (fun h => h.2 hFw)] at hR
    have hR2 := Hd (hR.trans (show gO 8 t0 = ⟨8, 0, 0, [], 0, 0, 0, 0, 0, [], 0, sS⟩ from rfl))
    clear hGF hR hrec hFw
    go_wp2_with fail
    refine cF.out.mono ?_
    rintro x w5 ⟨rfl, hb6⟩
    have hprX := Hd (isC_of hb6 hpr.out)
    have hbxX := Hd (isC_of hb6 hbox.out)
    have hbX := Hd (below_up hb5.out hb5s hb6)
    clear hb6 cF k0
    have hprY : IsC w5 w2.heap.size 32 #[.int .i64 8, .int .u64 0, .int .i64 0, .slice none 0 0, .int .u32 0, .int .u32 0, .int .i64 0, .int .u64 0, .int .i64 0, .slice none 0 0, .int .i64 0, .string ⟨#[]⟩] := hprX.out
    have hbxY : IsC w5 w.heap.size 32 #[.int .i64 0, .int .u64 0, .int .i64 0, .slice none 0 0, .int .u32 0, .int .u32 0, .int .i64 0, .int .u64 0, .int .i64 0, .slice none 0 0, .int .i64 0, .string ⟨#[]⟩] := hbxX.out
    have hbY : Below w.heap.size w w5 := hbX.out
    replace hprY := Hd hprY
    replace hbxY := Hd hbxY
    replace hbY := Hd hbY
    go_wp2_with fail
    go_meet
    rw [hR2.out]
    exact ⟨none, 0, none, 0, hprY.out, hbxY.out, hbY.out, OwnQ.nil _ _, OwnQ.nil _ _⟩
   ·rw [decide_eq_false hFw] at e9
    rw [if_pos ⟨rfl, hFw⟩] at hR
    have cG := hrec.out ⟨rfl, hFw⟩
    generalize guess1F t0 = y at *
    obtain ⟨yK, yE, yC, yP, yA, yN, ycK, ycE, ycC, ycP, yU, yB⟩ := y
    dsimp only at hR
    unfold Guessed opv at cG
    dsimp only at cG
    have hR2 := Hd hR
    replace cG := Hd cG
    clear hGF hR hrec hFw hF
    go_wp2_with fail
    refine cF.out.mono ?_
    rintro x w5 ⟨rfl, hb6⟩
    have hg5 := hg4.on hb6
    have hprX := Hd (isC_of hb6 hpr.out)
    have hbxX := Hd (isC_of hb6 hbox.out)
    have hbX := Hd (below_up hb5.out hb5s hb6)
    have hbXs := hbX.out.size
    have h45 := hb6.size
    clear hb6 cF k0
    go_wp2_with fail
    refine (cG.out _ hg5).mono ?_
    rintro x w6 ⟨⟨qa, qc, qb, qd, rfl, hQ, _⟩, hb7⟩
    have cA := Hd (asCmd_c ⟨yK, yE, yC, yP, yA, yN, ycK, ycE, ycC, ycP, yU, yB⟩ qa qb yP.length ycP.length qc qd w6)
    unfold opv cmdv at cA
    dsimp only at cA
    replace hprX := Hd (isC_of hb7 hprX.out)
    replace hbxX := Hd (isC_of hb7 hbxX.out)
    replace hbX := Hd (below_up hbX.out hbXs hb7)
    clear hb7 hbXs cG
    have hbXs := hbX.out.size
    generalize asCmdK yK = ck at *
    go_wp2_with fail
    refine cA.out.mono ?_
    rintro x w7 ⟨rfl, hb8⟩
    have hQX := Hd (hQ.below hb8)
    replace hprX := Hd (isC_of hb8 hprX.out)
    replace hbxX := Hd (isC_of hb8 hbxX.out)
    replace hbX := Hd (below_up hbX.out hbXs hb8)
    have hq26 : w2.heap.size < w5.heap.size := by omega
    have hqw : w.heap.size < w5.heap.size := by omega
    have hqle : w.heap.size + 1 ≤ w5.heap.size := by omega
    clear hb8 hQ cA hbXs
    have e6 := hprX.out.cell 6
    have e7 := hprX.out.cell 7
    have e8 := hprX.out.cell 8
    have e9 := hprX.out.cell 9
    have d6 := hprX.out.f 6
    have d7 := hprX.out.f 7
    have d8 := hprX.out.f 8
    have d9 := hprX.out.f 9
    have hprY : IsC ((((w7.setCell ⟨w2.heap.size, 6, none⟩ (.int .i64 ck)).setCell ⟨w2.heap.size, 7, none⟩ (.int .u64 yE)).setCell ⟨w2.heap.size, 8, none⟩ (.int .i64 yC)).setCell ⟨w2.heap.size, 9, none⟩ (.slice qa yP.length qc)) w2.heap.size 32 #[.int .i64 8, .int .u64 0, .int .i64 0, .slice none 0 0, .int .u32 0, .int .u32 0, .int .i64 ck, .int .u64 yE, .int .i64 yC, .slice qa yP.length qc, .int .i64 0, .string ⟨#[]⟩] := ((((hprX.out.set 6 (.int .i64 ck)).set 7 (.int .u64 yE)).set 8 (.int .i64 yC)).set 9 (.slice qa yP.length qc))
    have hbxY : IsC ((((w7.setCell ⟨w2.heap.size, 6, none⟩ (.int .i64 ck)).setCell ⟨w2.heap.size, 7, none⟩ (.int .u64 yE)).setCell ⟨w2.heap.size, 8, none⟩ (.int .i64 yC)).setCell ⟨w2.heap.size, 9, none⟩ (.slice qa yP.length qc)) w.heap.size 32 #[.int .i64 0, .int .u64 0, .int .i64 0, .slice none 0 0, .int .u32 0, .int .u32 0, .int .i64 0, .int .u64 0, .int .i64 0, .slice none 0 0, .int .i64 0, .string ⟨#[]⟩] := ((((hbxX.out.set_other (c := w2.heap.size) (i := 6) (v := .int .i64 ck) hne26).set_other (c := w2.heap.size) (i := 7) (v := .int .u64 yE) hne26).set_other (c := w2.heap.size) (i := 8) (v := .int .i64 yC) hne26).set_other (c := w2.heap.size) (i := 9) (v := .slice qa yP.length qc) hne26)
    have hbY : Below w.heap.size w ((((w7.setCell ⟨w2.heap.size, 6, none⟩ (.int .i64 ck)).setCell ⟨w2.heap.size, 7, none⟩ (.int .u64 yE)).setCell ⟨w2.heap.size, 8, none⟩ (.int .i64 yC)).setCell ⟨w2.heap.size, 9, none⟩ (.slice qa yP.length qc)) := ((((hbX.out.setCell (p := ⟨w2.heap.size, 6, none⟩) hle26 (.int .i64 ck)).setCell (p := ⟨w2.heap.size, 7, none⟩) hle26 (.int .u64 yE)).setCell (p := ⟨w2.heap.size, 8, none⟩) hle26 (.int .i64 yC)).setCell (p := ⟨w2.heap.size, 9, none⟩) hle26 (.slice qa yP.length qc))
    have hqY := OwnQ.mono (((((hQX.out.set (i := 6) (v := .int .i64 ck) hq26).set (i := 7) (v := .int .u64 yE) hq26).set (i := 8) (v := .int .i64 yC) hq26).set (i := 9) (v := .slice qa yP.length qc) hq26)) hqle
    replace hprY := Hd hprY
    replace hbxY := Hd hbxY
    replace hbY := Hd hbY
    go_wp2_with fail
    go_meet
    rw [hR2.out]
    exact ⟨none, 0, qa, qc, hprY.out, hbxY.out, hbY.out, OwnQ.nil _ _, hqY⟩
  by_cases kk : True
  ·have hR := hGF.out
   rw [if_neg (fun h => k8 h.1)] at hR
   have hgo : gO kd t0 = ⟨kd, 0, 0, [], 0, 0, 0, 0, 0, [], 0, sS⟩ := by
    unfold gO
    rw [if_neg k1, if_neg k2, if_neg k3, if_neg k5, if_neg k4, if_neg k6, if_neg k7, if_neg k9, if_neg k10]
   have hR2 := Hd (hR.trans hgo)
   have b1 : (kd == 1) = false := beq_eq_false_iff_ne.2 k1
   have b2 : (kd == 2) = false := beq_eq_false_iff_ne.2 k2
   have b3 : (kd == 3) = false := beq_eq_false_iff_ne.2 k3
   have b5 : (kd == 5) = false := beq_eq_false_iff_ne.2 k5
   have b4 : (kd == 4) = false := beq_eq_false_iff_ne.2 k4
   have b6 : (kd == 6) = false := beq_eq_false_iff_ne.2 k6
   have b7 : (kd == 7) = false := beq_eq_false_iff_ne.2 k7
   have b9 : (kd == 9) = false := beq_eq_false_iff_ne.2 k9
   have b10 : (kd == 10) = false := beq_eq_false_iff_ne.2 k10
   have b8 : (kd == 8) = false := beq_eq_false_iff_ne.2 k8
   clear hGF hR hrec hgo kk k1 k2 k3 k5 k4 k6 k7 k9 k10 k8
   have hprX := hpr
   have hbxX := hbox
   have hbX := hb5
   have hprY : IsC w4 w2.heap.size 32 #[.int .i64 kd, .int .u64 0, .int .i64 0, .slice none 0 0, .int .u32 0, .int .u32 0, .int .i64 0, .int .u64 0, .int .i64 0, .slice none 0 0, .int .i64 0, .string ⟨#[]⟩] := hprX.out
   have hbxY : IsC w4 w.heap.size 32 #[.int .i64 0, .int .u64 0, .int .i64 0, .slice none 0 0, .int .u32 0, .int .u32 0, .int .i64 0, .int .u64 0, .int .i64 0, .slice none 0 0, .int .i64 0, .string ⟨#[]⟩] := hbxX.out
   have hbY : Below w.heap.size w w4 := hbX.out
   replace hprY := Hd hprY
   replace hbxY := Hd hbxY
   replace hbY := Hd hbY
   go_wp2_with fail
   go_meet
   rw [hR2.out]
   exact ⟨none, 0, none, 0, hprY.out, hbxY.out, hbY.out, OwnQ.nil _ _, OwnQ.nil _ _⟩
  exact absurd trivial kk
 case rest =>
  clear hpr hbox hb5 hGF hrec k0
  obtain ⟨qa, qc, qb, qd, hprX, hbxX, hbX, hQ1, hQ2⟩ := hcut
  obtain ⟨rK, rE, rC, rP, rA, rN, rcK, rcE, rcC, rcP, rU, rB⟩ := R
  dsimp only at *
  have hs12 := Hd (cells12 (isC_set12 (w := wc) (v0 := .int .i64 rK) (v1 := .int .u64 rE) (v2 := .int .i64 rC) (v3 := .slice qa rP.length qc) (v4 := .int .u32 rA) (v5 := .int .u32 rN) (v6 := .int .i64 rcK) (v7 := .int .u64 rcE) (v8 := .int .i64 rcC) (v9 := .slice qb rcP.length qd) (v10 := .int .i64 rU) (v11 := .string rB) hbxX))
  have hfin := Hd (show Below w.heap.size w (set12 wc w.heap.size (.int .i64 rK) (.int .u64 rE) (.int .i64 rC) (.slice qa rP.length qc) (.int .u32 rA) (.int .u32 rN) (.int .i64 rcK) (.int .u64 rcE) (.int .i64 rcC) (.slice qb rcP.length qd) (.int .i64 rU) (.string rB)) from below_set12 (w := wc) hbX (Nat.le_refl _))
  have hq1 := Hd (OwnQ.mono (OwnQ.set12 (w := wc) (b := w.heap.size) (v0 := .int .i64 rK) (v1 := .int .u64 rE) (v2 := .int .i64 rC) (v3 := .slice qa rP.length qc) (v4 := .int .u32 rA) (v5 := .int .u32 rN) (v6 := .int .i64 rcK) (v7 := .int .u64 rcE) (v8 := .int .i64 rcC) (v9 := .slice qb rcP.length qd) (v10 := .int .i64 rU) (v11 := .string rB) hQ1 (Nat.lt_succ_self _)) (Nat.le_succ _))
  have hq2 := Hd (OwnQ.mono (OwnQ.set12 (w := wc) (b := w.heap.size) (v0 := .int .i64 rK) (v1 := .int .u64 rE) (v2 := .int .i64 rC) (v3 := .slice qa rP.length qc) (v4 := .int .u32 rA) (v5 := .int .u32 rN) (v6 := .int .i64 rcK) (v7 := .int .u64 rcE) (v8 := .int .i64 rcC) (v9 := .slice qb rcP.length qd) (v10 := .int .i64 rU) (v11 := .string rB) hQ2 (Nat.lt_succ_self _)) (Nat.le_succ _))
  obtain ⟨f0, f1, f2, f3, f4, f5, f6, f7, f8, f9, f10, f11⟩ := fr12 hbxX
  obtain ⟨x0, x1, x2, x3, x4, x5, x6, x7, x8, x9, x10, x11⟩ := cells12 hbxX
  obtain ⟨y0, y1, y2, y3, y4, y5, y6, y7, y8, y9, y10, y11⟩ := cells12 hprX
  clear hprX hbxX hbX hQ1 hQ2
  go_wp2_with fail
  obtain ⟨wf, hwf⟩ : ∃ wf, set12 wc w.heap.size (.int .i64 rK) (.int .u64 rE) (.int .i64 rC) (.slice qa rP.length qc) (.int .u32 rA) (.int .u32 rN) (.int .i64 rcK) (.int .u64 rcE) (.int .i64 rcC) (.slice qb rcP.length qd) (.int .i64 rU) (.string rB) = wf := ⟨_, rfl⟩
  obtain ⟨s0, s1, s2, s3, s4, s5, s6, s7, s8, s9, s10, s11⟩ := hs12.out
  have r0 := hfin.out
  have r1 := hq1.out
  have r2 := hq2.out
  rw [hwf] at s0 s1 s2 s3 s4 s5 s6 s7 s8 s9 s10 s11 r0 r1 r2
  unfold set12 at hwf
  rw [hwf]
  (try simp only [Exit.inBlock, Exit.then])
  refine bodyPost_ret (by simp [results, Tryz.results40, go_sem, s0, s1, s2, s3, s4, s5, s6, s7, s8, s9, s10, s11]; try rfl) rfl ?_
  exact ⟨⟨qa, qc, qb, qd, rfl, r1, r2⟩, r0⟩
theorem guess1_c (s : ByteArray) (hs : s.size ≤ 99500) (w : World) (hg : GlobT w) (hn : ¬ (kindOf (Lib.cut (byts s) [32]).1 = 8 ∧ (Lib.cut (Lib.cut (byts s) [32]).2.1 [32]).1 ≠ (Lib.cut (byts s) [32]).1)) :
 Calls Tryz.prog 40 #[.string s] w fun e w' => Guessed w (guess1F (byts s)) e w' := by
 have h := guessG s hs w hg _ _ rfl rfl (fun h => absurd h hn)
 have e : guessF (byts s) = guess1F (byts s) := by
  unfold guessF
  exact if_neg hn
 rw [e] at h
 exact h
/-- an op guessed of a line -/
theorem guess_c (s : ByteArray) (hs : s.size ≤ 99500) (w : World) (hg : GlobT w) :
 Calls Tryz.prog 40 #[.string s] w fun e w' => Guessed w (guessF (byts s)) e w' := by
 refine guessG s hs w hg _ _ rfl rfl (fun h w' hg' => ?_)
 have hl := (cut_le (byts s) [32]).2
 rw [byts_length] at hl
 have h1 := guess1_c (text (Lib.cut (byts s) [32]).2.1) (by rw [text_size]; omega) w' hg' (by
  rw [byts_text]
  rintro ⟨h8, _⟩
  refine h.2 ?_
  exact kind_inj (h8.trans h.1.symm) (by rw [h8]; decide))
 rw [byts_text] at h1
 exact h1
end Go.Proofs.YtjjgbillihedgaaGreatDoor
