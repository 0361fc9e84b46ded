/- parts of the proof, merged: TlL, TlN -/
import Derived.Lib.IndexMore
import Derived.Test.YtjjgbillihedgaaGreatDoorQy21
set_option linter.unusedSimpArgs false
set_option linter.unusedVariables false
set_option maxHeartbeats 4000000
set_option maxRecDepth 100000
namespace Go.Proofs.YtjjgbillihedgaaGreatDoor
open Go.RowKit
open Rf
open Sg
open Wide
open Tl
namespace Tl
/-- a text tells its number -/
theorem text_form' (x : WI) (ho : x.Ok) (hf : x.form = true) : parseF (textF x) = (x, 0) := by
 obtain ⟨s, hs, ex, vx⟩ := words x ho hf
 have hz : x.sz.toNat = s := by
  rw [ex]
  have := nw_sz s
  unfold WI.sz at *
  dsimp only at *
  omega
 have hnz : x.n = true → s ≠ 0 := by
  intro hn h0
  have h1 := form_neg hf hn
  rw [ex] at h1
  dsimp only at h1
  rw [nil2_nw, h0] at h1
  cases h1
 have hd : digOf (textF x) = digs s ∧ decide ((textF x).head? = some 45) = x.n := by
  unfold textF
  rw [if_pos hf, hz]
  cases hn : x.n with
  | true => exact ⟨rfl, rfl⟩
  | false =>
    rw [if_neg (by decide), List.nil_append]
    have hne : ¬ (digs s).head? = some 45 := by
     intro h
     have hall := digs_all s
     cases hd : digs s with
     | nil => exact digs_ne s hd
     | cons c r =>
       rw [hd] at h hall
       have : c = 45 := by simpa using h
       subst this
       rw [List.all_cons] at hall
       have : isDig 45 = false := by decide
       rw [this] at hall
       cases hall
    refine ⟨?_, decide_eq_false hne⟩
    unfold digOf
    rw [if_neg hne]
 have hi : isDigs (digs s) = true := by
  unfold isDigs
  rw [digs_all]
  cases h : digs s with
  | nil => exact absurd h (digs_ne s)
  | cons c r => rfl
 unfold parseF
 rw [hd.1, hd.2, hi, digs_val, if_neg, if_neg, if_pos hs, ← vx, mk_of ho hf]
 ·have := digs_len 38 s (Nat.lt_trans hs (by decide))
  omega
 ·rintro (h | ⟨h1, h2⟩)
  ·cases h
  ·have h0 : s = 0 := Classical.byContradiction fun hh => digs_head s hh h1
   refine h2 ?_
   unfold textF
   rw [if_pos hf, hz]
   cases hn : x.n with
   | true => exact absurd h0 (hnz hn)
   | false =>
     rw [h0, digs]
     rfl
def Dg (c : UInt8) : Prop := c.toNat = 45 ∨ (48 ≤ c.toNat ∧ c.toNat ≤ 57)
theorem digs_dg (n : Nat) : ∀ c ∈ digs n, Dg c := by
 intro c hc
 have h := List.all_eq_true.1 (digs_all n) c hc
 unfold isDig at h
 simp at h
 exact .inr h
theorem itoa_eq (n : Int) : Lib.itoa n = if n < 0 then 45 :: digs n.natAbs else digs n.toNat := by
 unfold Lib.itoa
 rw [dec_digs, dec_digs]
theorem itoa_dg (n : Int) : ∀ c ∈ Lib.itoa n, Dg c := by
 intro c hc
 rw [itoa_eq] at hc
 split at hc
 ·rcases List.mem_cons.1 hc with rfl | hc
  ·exact .inl rfl
  ·exact digs_dg _ c hc
 ·exact digs_dg _ c hc
theorem textF_dg (x : WI) : ∀ c ∈ textF x, Dg c := by
 intro c hc
 unfold textF at hc
 split at hc
 ·rcases List.mem_append.1 hc with hc | hc
  ·split at hc
   ·rw [List.mem_singleton.1 hc]; exact .inl rfl
   ·cases hc
  ·exact digs_dg _ c hc
 ·cases hc
theorem dg_ne {l : List UInt8} (h : ∀ c ∈ l, Dg c) (q : UInt8) (hq : ¬ Dg q) : q ∉ l := fun hm => hq (h q hm)
theorem not_dg {q : UInt8} (h : q.toNat ≠ 45) (h2 : q.toNat < 48 ∨ 57 < q.toNat) : ¬ Dg q := by
 unfold Dg
 omega
theorem mem_joinQ {q c : UInt8} : ∀ {l : List (List UInt8)}, c ∈ Lib.join l [q] → c = q ∨ ∃ x ∈ l, c ∈ x := by
 intro l hc
 cases l with
 | nil => cases hc
 | cons x r =>
   rw [Lib.join_cons] at hc
   rcases List.mem_append.1 hc with hc | hc
   ·exact .inr ⟨x, List.mem_cons_self .., hc⟩
   ·unfold Lib.joinTail at hc
    obtain ⟨y, hy, hcy⟩ := List.mem_flatten.1 hc
    obtain ⟨z, hz, rfl⟩ := List.mem_map.1 hy
    rcases List.mem_append.1 hcy with h | h
    ·exact .inl (List.mem_singleton.1 h)
    ·exact .inr ⟨z, List.mem_cons_of_mem _ hz, h⟩
theorem valF_mem {v : List WI} {c : UInt8} (h : c ∈ valF v) : c.toNat = 44 ∨ Dg c := by
 unfold valF at h
 split at h
 ·rw [List.mem_singleton.1 h]; exact .inr (.inl rfl)
 ·rcases mem_joinQ h with rfl | ⟨x, hx, hc⟩
  ·exact .inl rfl
  ·obtain ⟨y, _, rfl⟩ := List.mem_map.1 hx
   exact .inr (textF_dg y c hc)
theorem partT_mem {p : PartD} {c : UInt8} (h : c ∈ partT p) : c.toNat = 61 ∨ c.toNat = 44 ∨ Dg c := by
 unfold partT at h
 rcases List.mem_append.1 h with h | h
 ·rcases List.mem_append.1 h with h | h
  ·exact .inr (.inr (itoa_dg _ c h))
  ·rw [List.mem_singleton.1 h]; exact .inl rfl
 ·rcases valF_mem h with h | h
  ·exact .inr (.inl h)
  ·exact .inr (.inr h)
theorem partT_blank (p : PartD) : (32 : UInt8) ∉ partT p := fun h => by
 rcases partT_mem h with h | h | h
 ·exact absurd h (by decide)
 ·exact absurd h (by decide)
 ·exact not_dg (by decide) (by decide) h
theorem itoa_blank (n : Int) : (32 : UInt8) ∉ Lib.itoa n := dg_ne (itoa_dg n) 32 (not_dg (by decide) (by decide))
theorem itoa_eqs (n : Int) : (61 : UInt8) ∉ Lib.itoa n := dg_ne (itoa_dg n) 61 (not_dg (by decide) (by decide))
theorem textF_comma (x : WI) : (44 : UInt8) ∉ textF x := dg_ne (textF_dg x) 44 (not_dg (by decide) (by decide))
theorem partT_ne (p : PartD) : partT p ≠ [] := by
 unfold partT
 simp
theorem pu_app (l m : List UInt8) (acc v : Nat) (h : Lib.parseUint10 acc l = .ok v) : Lib.parseUint10 acc (l ++ m) = Lib.parseUint10 v m := by
 induction l generalizing acc with
 | nil =>
   rw [Lib.parseUint10] at h
   cases h
   rfl
 | cons c r ih =>
   rw [Lib.parseUint10] at h
   rw [List.cons_append, Lib.parseUint10]
   split at h
   ·rename_i h1
    rw [if_pos h1]
    split at h
    ·cases h
    ·rename_i h2
     rw [if_neg h2]
     split at h
     ·cases h
     ·rename_i h3
      rw [if_neg h3]
      exact ih _ h
   ·cases h
theorem pu_digs (n : Nat) (h : n < 18446744073709551616) : Lib.parseUint10 0 (digs n) = .ok n := by
 induction n using Nat.strongRecOn with
 | _ n ih =>
   have hd : (UInt8.ofNat (48 + n % 10)).toNat = 48 + n % 10 := dig_toNat (Nat.mod_lt _ (by decide))
   by_cases h1 : n < 10
   ·rw [digs, if_pos h1]
    unfold Lib.parseUint10
    rw [dig_toNat h1, if_pos (by omega), if_neg (by omega), if_neg (by omega)]
    unfold Lib.parseUint10
    congr 1
    omega
   ·rw [digs, if_neg h1, pu_app _ _ _ _ (ih (n / 10) (by omega) (by omega))]
    unfold Lib.parseUint10
    rw [hd, if_pos (by omega), if_neg (by omega), if_neg (by omega)]
    unfold Lib.parseUint10
    congr 1
    omega
theorem atoi_itoa (n : Int) (h : i64 n) : atoiV (Lib.itoa n) = n := by
 obtain ⟨h0, h1⟩ := h
 have e : Lib.atoiAll (Lib.itoa n) = .ok n := by
  rw [itoa_eq]
  by_cases hn : n < 0
  ·rw [if_pos hn]
   unfold Lib.atoiAll Lib.parseMag
   have e1 : ((45 : UInt8).toNat = 43 ∨ (45 : UInt8).toNat = 45) := .inr rfl
   simp only [if_pos e1]
   rw [if_neg (digs_ne _), pu_digs _ (by omega)]
   have e2 : (45 : UInt8).toNat = 45 := rfl
   simp only [e2]
   rw [if_neg (by rintro ⟨h, _⟩; exact h trivial), if_neg (by rintro ⟨_, h⟩; omega), if_pos trivial]
   congr 1
   omega
  ·rw [if_neg hn]
   have hd := digs_all n.toNat
   have hne := digs_ne n.toNat
   have hp := pu_digs n.toNat (by omega)
   cases hc : digs n.toNat with
   | nil => exact absurd hc hne
   | cons c r =>
     rw [hc] at hd hp
     rw [List.all_cons, Bool.and_eq_true] at hd
     have hd1 := hd.1
     unfold isDig at hd1
     simp at hd1
     unfold Lib.atoiAll Lib.parseMag
     have e1 : ¬ (c.toNat = 43 ∨ c.toNat = 45) := by omega
     have e2 : ¬ (c.toNat = 45) := by omega
     simp only [if_neg e1]
     rw [if_neg (by simp), hp]
     simp only [e2]
     rw [if_neg (by omega), if_neg (by omega), if_neg (by simp)]
     congr 1
     omega
 unfold atoiV
 rw [e]
theorem cut_app (x y sp : List UInt8) (c : UInt8) (t : List UInt8) (hs : sp = c :: t) (h : c ∉ x) : Lib.cut (x ++ sp ++ y) sp = (x, y, true) := by
 have hi : Lib.index (x ++ sp ++ y) sp = x.length := by
  induction x with
  | nil =>
    rw [List.nil_append, hs]
    unfold Lib.index
    have : (c :: t).isPrefixOf (c :: t ++ y) = true := by simp
    show (if (c :: t).isPrefixOf (c :: t ++ y) = true then (0 : Int) else _) = _
    rw [if_pos this]
    rfl
  | cons b r ih =>
    simp only [List.mem_cons, not_or] at h
    have ih := ih h.2
    rw [List.cons_append, List.cons_append]
    unfold Lib.index
    have hp : sp.isPrefixOf (b :: (r ++ sp ++ y)) = false := by
     rw [hs]
     simp [List.isPrefixOf, h.1]
    rw [hp, ih]
    rw [if_neg (by decide), if_neg (by rw [beq_iff_eq]; omega)]
    simp
 unfold Lib.cut
 rw [hi, if_pos (by omega)]
 have e : ((x.length : Int)).toNat = x.length := by omega
 rw [e]
 refine Prod.ext ?_ (Prod.ext ?_ rfl)
 ·simp
 ·show (x ++ sp ++ y).drop (x.length + sp.length) = y
  rw [← List.length_append, List.drop_left]
theorem cut_no (x : List UInt8) (c : UInt8) (h : c ∉ x) : Lib.cut x [c] = (x, [], false) := by
 have hi : Lib.index x [c] = -1 := by
  rw [Lib.index_one]
  induction x with
  | nil => rfl
  | cons b r ih =>
    simp only [List.mem_cons, not_or] at h
    unfold Lib.indexByte
    rw [if_neg (fun e => h.1 (beq_iff_eq.1 e).symm), ih h.2]
    rfl
 unfold Lib.cut
 rw [hi, if_neg (by decide)]
theorem cut_one (x y : List UInt8) (c : UInt8) (h : c ∉ x) : Lib.cut (x ++ c :: y) [c] = (x, y, true) := by
 have := cut_app x y [c] c [] rfl h
 rw [List.append_assoc] at this
 exact this
theorem join_two (q : UInt8) (x y : List UInt8) (r : List (List UInt8)) : Lib.join (x :: y :: r) [q] = x ++ q :: Lib.join (y :: r) [q] := by
 rw [Lib.join_cons, Lib.join_cons]
 unfold Lib.joinTail
 simp
/-- a row's first word, and the rest -/
theorem cut_join (w : List UInt8) (r : List (List UInt8)) (h : (32 : UInt8) ∉ w) : Lib.cut (Lib.join (w :: r) [32]) [32] = (w, Lib.join r [32], !r.isEmpty) := by
 cases r with
 | nil =>
   rw [Lib.join_one, cut_no _ _ h]
   rfl
 | cons y r =>
   rw [join_two, cut_one _ _ _ h]
   rfl
def cutPartF (s : List UInt8) : PartD × Bool :=
 let c := Lib.cut s [61]
 let p : PartD := ⟨atoiV c.1, if c.2.1 = [45] then [] else (segsQ 44 c.2.1).map fun t => (parseF t).1⟩
 (p, decide (p.V.length ≤ 100) && decide (partT p = s))
def cutF (s : List UInt8) : Int × List PartD × Int :=
 let w := segsQ 32 s
 let e := entF (atoiV (w.getD 1 [])) (atoiV (w.getD 2 []))
 let ps := (w.drop 3).map cutPartF
 let l := ps.map Prod.fst
 if (decide (e ≠ 0) && ps.all Prod.snd) = true ∧ risF l = true ∧ whoT e l = s then (e, l, 0) else (0, [], 4)
theorem valF_minus {v : List WI} (hv : ∀ x ∈ v, x.form = true) : valF v = [45] ↔ v = [] := by
 constructor
 ·intro h
  cases v with
  | nil => rfl
  | cons x r =>
    exfalso
    unfold valF at h
    rw [if_neg (by simp), List.map_cons, Lib.join_cons] at h
    have hf := hv x (List.mem_cons_self ..)
    unfold textF at h
    rw [if_pos hf] at h
    have hd := digs_ne x.sz.toNat
    have hda := digs_dg x.sz.toNat
    have hal := digs_all x.sz.toNat
    cases hc : digs x.sz.toNat with
    | nil => exact hd hc
    | cons c t =>
      rw [hc] at h hal
      rw [List.all_cons, Bool.and_eq_true] at hal
      have h1 := hal.1
      unfold isDig at h1
      simp at h1
      split at h
      ·have := congrArg List.length h
       simp at this
      ·rw [List.nil_append, List.cons_append] at h
       have := (List.cons.inj h).1
       rw [this] at h1
       exact absurd h1 (by decide)
 ·rintro rfl
  rfl
theorem map_parse {v : List WI} (hv : ∀ x ∈ v, x.Ok ∧ x.form = true) : (v.map textF).map (fun t => (parseF t).1) = v := by
 rw [List.map_map]
 conv => rhs; rw [← List.map_id v]
 refine List.map_congr_left fun x hx => ?_
 show (parseF (textF x)).1 = x
 rw [text_form' x (hv x hx).1 (hv x hx).2]
theorem part_form {p : PartD} (h : isPartF p.V = true) : p.V.length ≤ 100 ∧ ∀ x ∈ p.V, x.form = true := by
 unfold isPartF at h
 rw [Bool.and_eq_true] at h
 exact ⟨of_decide_eq_true h.1, fun x hx => List.all_eq_true.1 h.2 x hx⟩
theorem cutPart_back (p : PartD) (hp : p.Ok) (hf : isPartF p.V = true) : cutPartF (partT p) = (p, true) := by
 obtain ⟨C, v⟩ := p
 obtain ⟨p0, p1, hv⟩ := hp
 obtain ⟨hl, hvf⟩ := part_form hf
 dsimp only at *
 have hc : Lib.cut (partT ⟨C, v⟩) [61] = (Lib.itoa C, valF v, true) := by
  unfold partT
  dsimp only
  exact cut_app _ _ [61] 61 [] rfl (itoa_eqs C)
 have hV : (if valF v = [45] then [] else (segsQ 44 (valF v)).map fun t => (parseF t).1) = v := by
  by_cases h0 : v = []
  ·subst h0; rfl
  ·rw [if_neg (fun e => h0 ((valF_minus hvf).1 e))]
   have h1 : valF v = Lib.join (v.map textF) [44] := if_neg (fun e => h0 (List.eq_nil_of_length_eq_zero e))
   rw [h1]
   have h2 : segsQ 44 (Lib.join (v.map textF) [44]) = v.map textF := by
    cases hv2 : v.map textF with
    | nil => exact absurd (List.map_eq_nil_iff.1 hv2) h0
    | cons x xs =>
      refine segsQ_join 44 x xs fun y hy => ?_
      rw [← hv2] at hy
      obtain ⟨z, _, rfl⟩ := List.mem_map.1 hy
      exact textF_comma z
   rw [h2, map_parse (fun x hx => ⟨hv x hx, hvf x hx⟩)]
 unfold cutPartF
 simp only [hc, hV, atoi_itoa C ⟨p0, p1⟩]
 simp [hl]
theorem whoL_blank (e : Int) (ps : List PartD) : ∀ y ∈ whoL e ps, (32 : UInt8) ∉ y := by
 intro y hy
 unfold whoL at hy
 rcases List.mem_append.1 hy with hy | hy
 ·simp only [List.mem_cons, List.not_mem_nil, or_false] at hy
  rcases hy with rfl | rfl | rfl
  ·decide
  ·exact itoa_blank _
  ·exact itoa_blank _
 ·obtain ⟨p, _, rfl⟩ := List.mem_map.1 hy
  exact partT_blank p
theorem segs_who (e : Int) (ps : List PartD) : segsQ 32 (whoT e ps) = whoL e ps := by
 have hb := whoL_blank e ps
 unfold whoT
 cases h : whoL e ps with
 | nil => unfold whoL at h; cases h
 | cons x xs =>
   rw [h] at hb
   exact segsQ_join 32 x xs hb
theorem ent_back {e : Int} (h : isEntF e = true) (hu : u64 e) : entF (idF e) (genF e) = e ∧ e ≠ 0 ∧ i64 (idF e) ∧ i64 (genF e) := by
 unfold isEntF at h
 rw [Bool.and_eq_true] at h
 have h1 := of_decide_eq_true h.1
 have h2 := of_decide_eq_true h.2
 unfold idF at *
 unfold genF at *
 unfold u64 at hu
 unfold i64
 refine ⟨?_, by omega, by omega, by omega⟩
 unfold entF
 rw [if_pos (by omega)]
 omega
theorem isParts_part {ps : List PartD} (h : isPartsF ps = true) : risF ps = true ∧ ∀ p ∈ ps, isPartF p.V = true := by
 unfold isPartsF at h
 rw [Bool.and_eq_true] at h
 refine ⟨h.1, fun p hp => ?_⟩
 have h2 := h.2
 rw [Bool.not_eq_true'] at h2
 have h3 := (List.any_eq_false.1 h2) p hp
 simpa using h3
theorem cut_back (e : Int) (he : isEntF e = true) (hu : u64 e) (ps : List PartD) (hp : isPartsF ps = true) (hok : ∀ p ∈ ps, p.Ok) : cutF (whoT e ps) = (e, ps, 0) := by
 obtain ⟨h1, h2, h3, h4⟩ := ent_back he hu
 obtain ⟨hr, hpf⟩ := isParts_part hp
 have hL : whoL e ps = [101] :: Lib.itoa (idF e) :: Lib.itoa (genF e) :: ps.map partT := rfl
 have hm : ((ps.map partT).map cutPartF) = ps.map (fun p => (p, true)) := by
  rw [List.map_map]
  refine List.map_congr_left fun p hpm => ?_
  exact cutPart_back p (hok p hpm) (hpf p hpm)
 have hm1 : (ps.map (fun p => (p, true))).map Prod.fst = ps := by
  rw [List.map_map]
  conv => rhs; rw [← List.map_id ps]
  exact List.map_congr_left fun p _ => rfl
 have hm2 : (ps.map (fun p => (p, true))).all Prod.snd = true := by
  rw [List.all_eq_true]
  intro x hx
  obtain ⟨p, _, rfl⟩ := List.mem_map.1 hx
  rfl
 unfold cutF
 simp only [segs_who, hL, List.getD_cons_succ, List.getD_cons_zero, List.drop_succ_cons, List.drop_zero, atoi_itoa _ h3, atoi_itoa _ h4, h1, hm, hm1, hm2]
 rw [if_pos ⟨by rw [decide_eq_true h2]; rfl, hr, trivial⟩]
def notL : List UInt8 := [32, 110, 111, 116, 32]
def qText (a n : Int) : List UInt8 := textS a.toNat ++ notL ++ textS n.toNat
def wordB (k : Int) : List UInt8 := byts (wordL.getD k.toNat sS)
def handF (e : Int) (ps : List PartD) : List (List UInt8) := Lib.itoa (idF e) :: Lib.itoa (genF e) :: ps.map partT
/-- the words behind an op's first one -/
def rest1F (o : OpD) : List (List UInt8) :=
 if o.K = 1 then o.P.map partT else if o.K = 2 then handF o.E o.P else if o.K = 3 then handF o.E o.P else if o.K = 5 then handF o.E o.P
 else if o.K = 4 then handF o.E [] ++ [Lib.itoa o.C] else if o.K = 6 then handF o.E [] ++ [Lib.itoa o.C] else if o.K = 7 then [qText o.A o.N]
 else if o.K = 9 then [Lib.itoa o.U] else if o.K = 10 then (if o.B.size = 0 then [] else [hexF (byts o.B)]) else []
def told1F (o : OpD) : List UInt8 := Lib.join (wordB o.K :: rest1F o) [32]
def line1F (o : OpD) : List UInt8 := if is1F o = true then told1F o else []
def restF (o : OpD) : List (List UInt8) := if o.K = 8 then [line1F (asOpF o.cK o.cE o.cC o.cP)] else rest1F o
def lineF (o : OpD) : List UInt8 := if isOpF o = true then Lib.join (wordB o.K :: restF o) [32] else []
def parseQF (l : List UInt8) : Int × Int × Int :=
 let c := Lib.cut l notL
 let a := (parseS (text c.1)).1
 let n := (parseS (text c.2.1)).1
 if textS a ++ notL ++ textS n = l then ((a : Int), (n : Int), 0) else (0, 0, 4)
def kindOf (w : List UInt8) : Int := Lib.idxOfS (wordL.drop 1) (text w) + 1
def wAt (t : List UInt8) (i : Nat) : List UInt8 := (segsQ 32 t).getD i []
def gO (k : Int) (t : List UInt8) : OpD :=
 if k = 1 then ⟨k, 0, 0, (cutF ([101, 32, 49, 32, 49] ++ behF t)).2.1, 0, 0, 0, 0, 0, [], 0, sS⟩
 else if k = 2 then ⟨k, (cutF ([101, 32] ++ t)).1, 0, (cutF ([101, 32] ++ t)).2.1, 0, 0, 0, 0, 0, [], 0, sS⟩
 else if k = 3 then ⟨k, (cutF ([101, 32] ++ t)).1, 0, (cutF ([101, 32] ++ t)).2.1, 0, 0, 0, 0, 0, [], 0, sS⟩
 else if k = 5 then ⟨k, (cutF ([101, 32] ++ t)).1, 0, (cutF ([101, 32] ++ t)).2.1, 0, 0, 0, 0, 0, [], 0, sS⟩
 else if k = 4 then ⟨k, entF (atoiV (wAt t 0)) (atoiV (wAt t 1)), atoiV (wAt t 2), [], 0, 0, 0, 0, 0, [], 0, sS⟩
 else if k = 6 then ⟨k, entF (atoiV (wAt t 0)) (atoiV (wAt t 1)), atoiV (wAt t 2), [], 0, 0, 0, 0, 0, [], 0, sS⟩
 else if k = 7 then ⟨k, 0, 0, [], (parseQF t).1, (parseQF t).2.1, 0, 0, 0, [], 0, sS⟩
 else if k = 9 then ⟨k, 0, 0, [], 0, 0, 0, 0, 0, [], atoiV t, sS⟩
 else if k = 10 then ⟨k, 0, 0, [], 0, 0, 0, 0, 0, [], 0, text (bytesF t).1⟩
 else ⟨k, 0, 0, [], 0, 0, 0, 0, 0, [], 0, sS⟩
def guess1F (l : List UInt8) : OpD := gO (kindOf (Lib.cut l [32]).1) (Lib.cut l [32]).2.1
def asCmdK (k : Int) : Int := Lib.idxOf [0, 1, 2, 3, 5, 4] k
def guessF (l : List UInt8) : OpD :=
 let t := (Lib.cut l [32]).2.1
 if kindOf (Lib.cut l [32]).1 = 8 ∧ (Lib.cut t [32]).1 ≠ (Lib.cut l [32]).1 then ⟨8, 0, 0, [], 0, 0, asCmdK (guess1F t).K, (guess1F t).E, (guess1F t).C, (guess1F t).P, 0, sS⟩ else guess1F l
theorem kind_word (k : Int) (h0 : 1 ≤ k) (h1 : k ≤ 11) : kindOf (wordB k) = k ∧ (32 : UInt8) ∉ wordB k := by
 have h : ∀ n : Fin 11, kindOf (wordB ((n.val : Int) + 1)) = (n.val : Int) + 1 ∧ (32 : UInt8) ∉ wordB ((n.val : Int) + 1) := by decide +kernel
 have := h ⟨(k - 1).toNat, by omega⟩
 have e : (((k - 1).toNat : Int)) + 1 = k := by omega
 dsimp only at this
 rw [e] at this
 exact this
theorem guess_told (k : Int) (r : List (List UInt8)) (h0 : 1 ≤ k) (h1 : k ≤ 11) : guess1F (Lib.join (wordB k :: r) [32]) = gO k (Lib.join r [32]) := by
 obtain ⟨h, hb⟩ := kind_word k h0 h1
 unfold guess1F
 rw [cut_join _ _ hb]
 dsimp only
 rw [h]
theorem tail_beh (r : List (List UInt8)) (h : ∀ x ∈ r, x ≠ []) : Lib.joinTail [32] r = behF (Lib.join r [32]) := by
 cases r with
 | nil => rfl
 | cons y r =>
   have hy := h y (List.mem_cons_self ..)
   rw [Lib.join_cons]
   unfold behF
   rw [if_neg (by intro e; exact hy (List.append_eq_nil_iff.1 e).1)]
   unfold Lib.joinTail
   simp
theorem who_spawn (ps : List PartD) : [101, 32, 49, 32, 49] ++ behF (Lib.join (ps.map partT) [32]) = whoT 4294967297 ps := by
 rw [← tail_beh _ (fun x hx => by obtain ⟨p, _, rfl⟩ := List.mem_map.1 hx; exact partT_ne p)]
 have e : whoL 4294967297 ps = [101] :: [49] :: [49] :: ps.map partT := by
  have h1 : Lib.itoa (idF 4294967297) = [49] := by decide +kernel
  have h2 : Lib.itoa (genF 4294967297) = [49] := by decide +kernel
  unfold whoL
  rw [h1, h2]
  rfl
 unfold whoT
 rw [e, join_two, join_two, Lib.join_cons]
 rfl
theorem who_hand (e : Int) (ps : List PartD) : [101, 32] ++ Lib.join (handF e ps) [32] = whoT e ps := by
 unfold whoT
 have h : whoL e ps = [101] :: Lib.itoa (idF e) :: (Lib.itoa (genF e) :: ps.map partT) := rfl
 rw [h, join_two]
 rfl
theorem segs_hand (e C : Int) : segsQ 32 (Lib.join (handF e [] ++ [Lib.itoa C]) [32]) = [Lib.itoa (idF e), Lib.itoa (genF e), Lib.itoa C] := by
 refine segsQ_join 32 _ [Lib.itoa (genF e), Lib.itoa C] fun y hy => ?_
 simp only [List.mem_cons, List.not_mem_nil, or_false] at hy
 rcases hy with rfl | rfl | rfl <;> exact itoa_blank _
theorem textS_blank (s : Nat) : (32 : UInt8) ∉ textS s := by
 intro h
 unfold textS at h
 split at h
 ·exact absurd h (by decide)
 ·rcases mem_joinQ h with h | ⟨x, hx, hc⟩
  ·exact absurd h (by decide)
  ·obtain ⟨i, _, rfl⟩ := List.mem_map.1 hx
   exact not_dg (by decide) (by decide) (digs_dg _ _ hc)
theorem query_back (a n : Int) (ha : u32 a) (hn : u32 n) (h1 : Sg.isF a.toNat = true) (h2 : Sg.isF n.toNat = true) : parseQF (qText a n) = (a, n, 0) := by
 unfold u32 at ha hn
 have hc : Lib.cut (qText a n) notL = (textS a.toNat, textS n.toNat, true) := cut_app _ _ notL 32 [110, 111, 116, 32] rfl (textS_blank _)
 unfold parseQF
 simp only [hc, Sg.parse_text (show a.toNat < 4294967296 by omega) h1, Sg.parse_text (show n.toNat < 4294967296 by omega) h2]
 rw [if_pos (show textS a.toNat ++ notL ++ textS n.toNat = qText a n from rfl)]
 refine Prod.ext ?_ (Prod.ext ?_ rfl) <;> dsimp only <;> omega
theorem hx_dgt (n : Nat) (h : n < 16) : dgtF (hx n) = n := by
 have : ∀ k : Fin 16, dgtF (hx k.val) = k.val := by decide +kernel
 exact this ⟨n, h⟩
theorem unhex_hex : ∀ l : List UInt8, unhexF (hexF l) = some l
 | [] => rfl
 | c :: r => by
   have hc := c.toNat_lt
   have e : hexF (c :: r) = hx (c.toNat / 16) :: hx (c.toNat % 16) :: hexF r := rfl
   rw [e, unhexF, hx_dgt _ (by omega), hx_dgt _ (by omega), if_neg (by omega), unhex_hex r]
   show some (_ :: r) = some (c :: r)
   congr 2
   have : 16 * ((c.toNat / 16 : Nat) : Int).toNat + ((c.toNat % 16 : Nat) : Int).toNat = c.toNat := by omega
   rw [this]
   simp
theorem bytes_hex (l : List UInt8) : bytesF (hexF l) = (l, 0) := by
 unfold bytesF
 rw [unhex_hex]
theorem ba_nil {B : ByteArray} (h : B.size = 0) : B = sS := by
 have : byts B = [] := List.eq_nil_of_length_eq_zero (by rw [byts_length, h])
 rw [← text_byts B, this]
 rfl
theorem OpD.ext' {x o : OpD} (h0 : x.K = o.K) (h1 : x.E = o.E) (h2 : x.C = o.C) (h3 : x.P = o.P) (h4 : x.A = o.A) (h5 : x.N = o.N) (h6 : x.cK = o.cK) (h7 : x.cE = o.cE) (h8 : x.cC = o.cC) (h9 : x.cP = o.cP) (ha : x.U = o.U) (hb : x.B = o.B) : x = o := by
 cases x; cases o; simp_all
theorem named_eq {o : OpD} (h : isNamedF o = true) : namedF o = o := by
 unfold isNamedF at h
 have hs := of_decide_eq_true h
 obtain ⟨h1, h2, h3, h4, h5, ⟨h6, h7, h8, h9⟩, h10, h11⟩ := hs
 refine OpD.ext' ?_ h1 h2 ?_ h4 h5 h6 h7 h8 h9 h10 (byts_inj h11)
 ·unfold namedF; repeat' split
  all_goals rfl
 ·have h0 : (namedF o).P = o.P ∨ (namedF o).P = [] := by
   by_cases g : o.K = 1 ∨ o.K = 3 ∨ o.K = 5
   ·left
    unfold namedF
    rcases g with g | g | g <;> simp [g]
   ·right
    unfold namedF
    repeat' split
    all_goals first | rfl | (exfalso; omega)
  rcases h0 with h0 | h0
  ·exact h0
  ·rw [h0] at h3 ⊢
   exact (List.eq_nil_of_length_eq_zero h3.symm).symm
theorem told_back (o : OpD) (ok : o.Ok) (h : is1F o = true) : guess1F (told1F o) = o := by
 unfold is1F at h
 rw [Bool.and_eq_true, Bool.and_eq_true] at h
 obtain ⟨⟨hn, hp⟩, ha⟩ := h
 have hne := named_eq hn
 have hE := ok.E
 have hC := ok.C
 have hU := ok.U
 unfold told1F
 unfold askF at ha
 unfold rest1F
 by_cases k1 : o.K = 1
 ·rw [guess_told _ _ (by omega) (by omega), k1]
  conv => rhs; rw [← hne]
  unfold gO namedF
  simp only [k1, if_true]
  rw [who_spawn, cut_back 4294967297 (by decide) (by unfold u64; omega) o.P hp ok.P]
 rw [if_neg k1] at ha
 by_cases k11 : o.K = 11
 ·rw [guess_told _ _ (by omega) (by omega), k11]
  conv => rhs; rw [← hne]
  unfold gO namedF
  simp [k11]
 rw [if_neg k11] at ha
 by_cases k2 : o.K = 2
 ·rw [if_pos k2] at ha
  have hP : o.P = [] := by
   rw [← hne]; unfold namedF; simp [k2]
  rw [guess_told _ _ (by omega) (by omega), k2]
  conv => rhs; rw [← hne]
  unfold gO namedF
  simp only [k2]
  simp
  rw [hP] at hp ⊢
  have hw := who_hand o.E []
  simp only [List.cons_append, List.nil_append] at hw
  rw [hw, cut_back o.E ha hE [] hp (by simp)]
  exact ⟨rfl, rfl⟩
 rw [if_neg k2] at ha
 by_cases k3 : o.K = 3
 ·rw [if_pos k3, Bool.and_eq_true] at ha
  rw [guess_told _ _ (by omega) (by omega), k3]
  conv => rhs; rw [← hne]
  unfold gO namedF
  simp only [k3]
  simp
  have hw := who_hand o.E o.P
  simp only [List.cons_append, List.nil_append] at hw
  rw [hw, cut_back o.E ha.1 hE o.P hp ok.P]
  exact ⟨rfl, rfl⟩
 rw [if_neg k3] at ha
 by_cases k5 : o.K = 5
 ·rw [if_pos k5, Bool.and_eq_true] at ha
  rw [guess_told _ _ (by omega) (by omega), k5]
  conv => rhs; rw [← hne]
  unfold gO namedF
  simp only [k5]
  simp
  have hw := who_hand o.E o.P
  simp only [List.cons_append, List.nil_append] at hw
  rw [hw, cut_back o.E ha.1 hE o.P hp ok.P]
  exact ⟨rfl, rfl⟩
 rw [if_neg k5] at ha
 by_cases k4 : o.K = 4
 ·rw [if_pos k4, Bool.and_eq_true] at ha
  obtain ⟨e1, e2, e3, e4⟩ := ent_back ha.1 hE
  rw [guess_told _ _ (by omega) (by omega), k4]
  conv => rhs; rw [← hne]
  unfold gO namedF
  simp only [k4]
  simp
  unfold wAt
  rw [show handF o.E [] ++ [Lib.itoa o.C] = handF o.E [] ++ [Lib.itoa o.C] from rfl, segs_hand]
  simp [atoi_itoa _ e3, atoi_itoa _ e4, atoi_itoa _ hC, e1]
 rw [if_neg k4] at ha
 by_cases k6 : o.K = 6
 ·rw [if_pos k6, Bool.and_eq_true] at ha
  obtain ⟨e1, e2, e3, e4⟩ := ent_back ha.1 hE
  rw [guess_told _ _ (by omega) (by omega), k6]
  conv => rhs; rw [← hne]
  unfold gO namedF
  simp only [k6]
  simp
  unfold wAt
  rw [segs_hand]
  simp [atoi_itoa _ e3, atoi_itoa _ e4, atoi_itoa _ hC, e1]
 rw [if_neg k6] at ha
 by_cases k7 : o.K = 7
 ·rw [if_pos k7, Bool.and_eq_true] at ha
  rw [guess_told _ _ (by omega) (by omega), k7]
  conv => rhs; rw [← hne]
  unfold gO namedF
  simp only [k7]
  simp [Lib.join_one, query_back o.A o.N ok.A ok.N ha.1 ha.2]
 rw [if_neg k7] at ha
 by_cases k9 : o.K = 9
 ·rw [guess_told _ _ (by omega) (by omega), k9]
  conv => rhs; rw [← hne]
  unfold gO namedF
  simp only [k9]
  simp [Lib.join_one, atoi_itoa _ hU]
 rw [if_neg k9] at ha
 by_cases k10 : o.K = 10
 ·rw [guess_told _ _ (by omega) (by omega), k10]
  conv => rhs; rw [← hne]
  unfold gO namedF
  simp only [k10]
  simp
  by_cases hB : o.B.size = 0
  ·rw [if_pos (by rw [ba_nil hB]; rfl), ba_nil hB]
   rfl
  ·rw [if_neg (by intro e; rw [e] at hB; exact hB rfl), Lib.join_one, bytes_hex, text_byts]
 rw [if_neg k10] at ha
 cases ha
theorem is1_kind {o : OpD} (h : is1F o = true) : 1 ≤ o.K ∧ o.K ≤ 11 := by
 unfold is1F at h
 rw [Bool.and_eq_true] at h
 have ha := h.2
 unfold askF at ha
 by_cases g : 1 ≤ o.K ∧ o.K ≤ 11
 ·exact g
 ·exfalso
  rw [if_neg (by omega), if_neg (by omega), if_neg (by omega), if_neg (by omega), if_neg (by omega), if_neg (by omega), if_neg (by omega), if_neg (by omega), if_neg (by omega), if_neg (by omega)] at ha
  cases ha
theorem word_ne (k : Int) (h0 : 1 ≤ k) (h1 : k ≤ 11) (h8 : k ≠ 8) : wordB k ≠ wordB 8 := by
 intro e
 have h := (kind_word k h0 h1).1
 rw [e, (kind_word 8 (by decide) (by decide)).1] at h
 exact h8 h.symm
theorem told_cut (o : OpD) (h : is1F o = true) : (Lib.cut (told1F o) [32]).1 = wordB o.K := by
 obtain ⟨h0, h1⟩ := is1_kind h
 unfold told1F
 rw [cut_join _ _ (kind_word _ h0 h1).2]
theorem cmd_kind (k : Int) (h : isCmd k = true) : asCmdK (kindF k) = k := by
 unfold isCmd at h
 rw [Bool.and_eq_true] at h
 have h1 := of_decide_eq_true h.1
 have h2 := of_decide_eq_true h.2
 have hh : ∀ n : Fin 5, asCmdK (kindF ((n.val : Int) + 1)) = (n.val : Int) + 1 := by decide +kernel
 have := hh ⟨(k - 1).toNat, by omega⟩
 have e : (((k - 1).toNat : Int)) + 1 = k := by omega
 dsimp only at this
 rw [e] at this
 exact this
theorem asOp_ok {o : OpD} (ok : o.Ok) : (asOpF o.cK o.cE o.cC o.cP).Ok := by
 have hz : i64 0 ∧ u64 0 ∧ u32 0 := by unfold i64 u64 u32; omega
 unfold asOpF
 split
 ·refine ⟨?_, ok.cE, ok.cC, ok.cP, hz.2.2, hz.2.2, hz.1, hz.2.1, hz.1, by simp, hz.1⟩
  have := ok.cK
  unfold kindF
  dsimp only
  split
  ·unfold i64; omega
  split
  ·unfold i64; omega
  ·exact this
 ·unfold zeroO
  exact ⟨hz.1, hz.2.1, hz.1, by simp, hz.2.2, hz.2.2, hz.1, hz.2.1, hz.1, by simp, hz.1⟩
/-- WHAT WAS TOLD IS READ AS IT WAS -/
theorem line_back (o : OpD) (ok : o.Ok) (h : isOpF o = true) : guessF (lineF o) = o := by
 unfold lineF
 rw [if_pos h]
 unfold restF
 by_cases k8 : o.K = 8
 ·rw [if_pos k8]
  unfold isOpF at h
  rw [if_pos k8, Bool.and_eq_true, Bool.and_eq_true, Bool.and_eq_true] at h
  obtain ⟨⟨hn, hp⟩, hc, h1⟩ := h
  have hne := named_eq hn
  have hx := told_back _ (asOp_ok ok) h1
  have hk := is1_kind h1
  have hw := told_cut _ h1
  have hk8 := asOp_kind o.cK o.cE o.cC o.cP
  have hl : line1F (asOpF o.cK o.cE o.cC o.cP) = told1F (asOpF o.cK o.cE o.cC o.cP) := if_pos h1
  have hcut : Lib.cut (Lib.join [wordB o.K, line1F (asOpF o.cK o.cE o.cC o.cP)] [32]) [32] = (wordB 8, told1F (asOpF o.cK o.cE o.cC o.cP), true) := by
   rw [cut_join _ _ (kind_word _ (by omega) (by omega)).2, Lib.join_one, hl, k8]
   rfl
  unfold guessF
  simp only [hcut, hw, hx]
  rw [if_pos ⟨(kind_word 8 (by decide) (by decide)).1, word_ne _ hk.1 hk.2 hk8⟩]
  have e : asOpF o.cK o.cE o.cC o.cP = ⟨kindF o.cK, o.cE, o.cC, o.cP, 0, 0, 0, 0, 0, [], 0, sS⟩ := if_pos hc
  rw [e]
  dsimp only
  rw [cmd_kind _ hc]
  conv => rhs; rw [← hne]
  unfold namedF
  simp [k8]
 ·rw [if_neg k8]
  rw [show isOpF o = is1F o from if_neg k8] at h
  have hk := is1_kind h
  have hb := told_back o ok h
  have hcut := told_cut o h
  unfold told1F at hb hcut
  unfold guessF
  simp only [hcut]
  rw [if_neg (by rw [(kind_word _ hk.1 hk.2).1]; exact fun e => k8 e.1), hb]
end Tl
theorem text_not (a b : List UInt8) : text a ++ ⟨#[32, 110, 111, 116, 32]⟩ ++ text b = text (a ++ notL ++ b) := by
 rw [show (⟨#[32, 110, 111, 116, 32]⟩ : ByteArray) = text notL from rfl, text_append, text_append]
/-- a query as a value -/
def qv (a n : Int) : Value := .agg #[.int .u32 a, .int .u32 n]
theorem qtext_c (a n : Nat) (ha : a < 4294967296) (hn : n < 4294967296) (w : World) :
 Calls Tryz.prog 67 #[qv a n] w fun e w' => e = .returned (.string (text (textS a ++ notL ++ textS n))) ∧ Below w.heap.size w w' := by
 have hb0 := below1 w (.cells #[.int .u32 (a : Int), .int .u32 (n : Int)] 28)
 have hbox := IsC.new w 28 #[.int .u32 (a : Int), .int .u32 (n : Int)]
 have c0 := hbox.cell 0
 have c1 := hbox.cell 1
 have cA := text_c a ha
 have cB := text_c n hn
 have hl1 := text_len a
 have hl2 := text_len n
 unfold qv
 generalize hW : w.alloc (.cells #[.int .u32 (a : Int), .int .u32 (n : Int)] 28) = W at *
 obtain ⟨A, hA⟩ : ∃ A, textS a = A := ⟨_, rfl⟩
 obtain ⟨B, hB⟩ : ∃ B, textS n = B := ⟨_, rfl⟩
 rw [hA] at cA hl1
 rw [hB] at cB hl2
 rw [hA, hB]
 have hs1 := text_size A
 have hs2 := text_size B
 clear hA hB hbox
 have e9 := text_not A B
 have n1 : ¬ 9223372036854775807 < A.length + 5 := by omega
 have n2 : ¬ 9223372036854775807 < A.length + 5 + B.length := by omega
 replace cA := Hd cA
 replace cB := Hd cB
 replace hb0 := Hd hb0
 replace e9 := Hd e9
 replace hW := Hd hW
 go_enter Tryz.func67, Tryz.ntmps67
 go_wp2_with fail
 rw [hW.out]
 have d0 : W.drew.cell? ⟨w.heap.size, 0, none⟩ = some (.int .u32 (a : Int)) := c0
 have d1 : W.drew.cell? ⟨w.heap.size, 1, none⟩ = some (.int .u32 (n : Int)) := c1
 refine wp_region_held_at (S := fun w1 => w1.cell? ⟨w.heap.size, 0, none⟩ = some (.int .u32 (a : Int)) ∧ w1.cell? ⟨w.heap.size, 1, none⟩ = some (.int .u32 (n : Int))) 9 rfl (by kernel_rfl) (by go_keep) (fun hH => ?_)
 refine wpU 0 ?_ rfl ?_ ?_
 rotate_left
 ·intro u h; (try simp only [ls3]); go_simp; try with_reducible rfl
 try simp only [ls7, Act.put]
 refine wpU 1 ?_ rfl ?_ ?_
 rotate_left
 ·intro u h; (try simp only [ls3]); go_simp; try with_reducible rfl
 try simp only [ls7, Act.put]
 refine wpU 4 ?_ rfl ?_ ?_
 rotate_left
 ·intro u h; (try simp only [ls3]); go_simp; try with_reducible rfl
 try simp only [ls7, Act.put]
 refine wpU 5 ?_ rfl ?_ ?_
 rotate_left
 ·intro u h; (try simp only [ls3]); go_simp; try with_reducible rfl
 try simp only [ls7, Act.put]
 refine wpAnyH_ready (rs := [2]) (by decide +kernel) (by simp) ?_
 refine AllReadyH.cons rfl (fun K hK => ?_) AllReadyH.nil
 (try simp only [ls3])
 go_simp
 refine Calls.mono (cA.out.on _) ?_
 rintro e w4 ⟨rfl, hb4⟩
 have y0 := cell_up d0 hb4
 have y1 := cell_up d1 hb4
 (try go_simp)
 refine hK.out _ _ (by go_keep) (fun hH => ?_)
 clear hK K
 try simp only [ls7, Act.put]
 refine wpU 3 ?_ rfl ?_ ?_
 rotate_left
 ·intro u h; (try simp only [ls3]); go_simp; try with_reducible rfl
 try simp only [ls7, Act.put]
 refine wpAnyH_ready (rs := [6]) (by decide +kernel) (by simp) ?_
 refine AllReadyH.cons rfl (fun K hK => ?_) AllReadyH.nil
 (try simp only [ls3])
 go_simp
 refine Calls.mono (cB.out.on _) ?_
 rintro e w5 ⟨rfl, hb5⟩
 have z0 := cell_up y0 hb5
 have z1 := cell_up y1 hb5
 (try go_simp)
 refine hK.out _ _ (by go_keep) (fun hH => ?_)
 clear hK K
 try simp only [ls7, Act.put]
 refine wpU 7 ?_ rfl ?_ ?_
 rotate_left
 ·intro u h; (try simp only [ls3]); go_simp; try with_reducible rfl
 try simp only [ls7, Act.put]
 refine wpU 8 ?_ rfl ?_ ?_
 rotate_left
 ·intro u h; (try simp only [ls3]); go_simp; try with_reducible rfl
 try simp only [ls7, Act.put]
 refine wpAnyH_done (by decide +kernel) ?_ _
 have hfin := Hd (below_up (below_up hb0.out hb0.out.size (below_d hb4)) (Nat.le_trans hb0.out.size (below_d hb4).size) hb5)
 clear hb4 hb5
 go_wp2_with fail
 go_ret
 exact ⟨congrArg (fun x => Ending.returned (.string x)) e9.out, hfin.out⟩
/-- strings.Cut -/
theorem cutS_c (s sp : ByteArray) (hs : s.size < 4294967281) (w : World) (hg : GlobT w) :
 Calls Tryz.prog 47 #[.string s, .string sp] w fun e w' => e = .returned (.tuple #[.string (text (Lib.cut (byts s) (byts sp)).1), .string (text (Lib.cut (byts s) (byts sp)).2.1), .bool (Lib.cut (byts s) (byts sp)).2.2]) ∧ Below w.heap.size w w' := by
 obtain ⟨m, hc⟩ := hg.1.mx
 exact (Any.strings_Cut Tryz.lays145 s sp m w hs hc).mono fun e w' ⟨h1, n, h2⟩ => ⟨h1, by rw [h2]; exact below_drewN (Below.refl _ _)⟩
theorem parseS_lt (s : ByteArray) : (parseS s).1 < 4294967296 := by
 unfold parseS
 split
 ·exact setOf_lt _
 ·decide
theorem cut_le (l sp : List UInt8) : (Lib.cut l sp).1.length ≤ l.length ∧ (Lib.cut l sp).2.1.length ≤ l.length := by
 unfold Lib.cut
 split
 ·simp only [List.length_take, List.length_drop]
  omega
 ·exact ⟨Nat.le_refl _, Nat.zero_le _⟩
theorem qparse_c (s : ByteArray) (hs : s.size ≤ 100000) (w : World) (hg : GlobT w) :
 Calls Tryz.prog 75 #[.string s] w fun e w' => e = .returned (.tuple #[qv (parseQF (byts s)).1 (parseQF (byts s)).2.1, .int .i64 (parseQF (byts s)).2.2]) ∧ Below w.heap.size w w' := by
 have hb0 := below1 w (.cells #[.int .u32 0, .int .u32 0] 28)
 have hg0 := hg.on hb0
 have cc := cutS_c s ⟨#[32, 110, 111, 116, 32]⟩ (by omega) _ hg0
 rw [show byts ⟨#[32, 110, 111, 116, 32]⟩ = notL from rfl] at cc
 obtain ⟨R, hR⟩ : ∃ R, parseQF (byts s) = R := ⟨_, rfl⟩
 rw [hR]
 unfold parseQF at hR
 obtain ⟨hl1, hl2⟩ := cut_le (byts s) notL
 rw [byts_length] at hl1 hl2
 generalize Lib.cut (byts s) notL = C at *
 obtain ⟨L, r, b⟩ := C
 dsimp only at *
 have hls := text_size L
 have hrs := text_size r
 have cA := fun w' (h : GlobT w') => parse_c (text L) (by rw [hls]; omega) w' h.1
 have cB := fun w' (h : GlobT w') => parse_c (text r) (by rw [hrs]; omega) w' h.1
 have hA := parseS_lt (text L)
 have hB := parseS_lt (text r)
 obtain ⟨⟨a, e1⟩, ha⟩ : ∃ p, parseS (text L) = p := ⟨_, rfl⟩
 obtain ⟨⟨n, e2⟩, hn⟩ : ∃ p, parseS (text r) = p := ⟨_, rfl⟩
 rw [ha] at cA hA hR
 rw [hn] at cB hB hR
 dsimp only at *
 have cT := fun w' => qtext_c a n hA hB w'
 unfold qv at *
 have hT := bytes_eq (text (textS a ++ notL ++ textS n)) s
 rw [byts_text] at hT
 clear ha hn hl1 hl2
 generalize textS a ++ notL ++ textS n = T at *
 have hbox := IsC.new w 28 #[.int .u32 0, .int .u32 0]
 replace cc := Hd cc
 replace cA := Hd cA
 replace cB := Hd cB
 replace cT := Hd cT
 replace hb0 := Hd hb0
 replace hbox := Hd hbox
 have hb0s := hb0.out.size
 by_cases hE : T = byts s
 ·rw [if_pos hE] at hR
  rw [decide_eq_true hE] at hT
  subst hR
  clear hE
  go_enter Tryz.func75, Tryz.ntmps75
  go_wp2_with fail
  refine cc.out.mono ?_
  rintro e w1 ⟨rfl, hb1⟩
  have cA1 := Hd (cA.out w1 (hg0.on hb1))
  have hg1 := hg0.on hb1
  replace hb0 := Hd (below_up hb0.out hb0s hb1)
  replace hbox := Hd (isC_of hb1 hbox.out)
  clear cc hb1 cA hb0s
  have hb0s := hb0.out.size
  go_wp2_with fail
  refine cA1.out.mono ?_
  rintro e w2 ⟨rfl, hb2⟩
  have cB1 := Hd (cB.out w2 (hg1.on hb2))
  replace hb0 := Hd (below_up hb0.out hb0s hb2)
  replace hbox := Hd (isC_of hb2 hbox.out)
  clear cA1 hb2 cB hb0s
  have hb0s := hb0.out.size
  go_wp2_with fail
  refine cB1.out.mono ?_
  rintro e w3 ⟨rfl, hb3⟩
  replace hb0 := Hd (below_up hb0.out hb0s hb3)
  replace hbox := Hd (isC_of hb3 hbox.out)
  clear cB1 hb3 hb0s
  have hb0s := hb0.out.size
  replace hb0 := Hd (hb0.out.alloc hb0s (.cells #[.int .u32 (a : Int), .int .u32 (n : Int)] 28))
  replace hbox := Hd (hbox.out.alloc (.cells #[.int .u32 (a : Int), .int .u32 (n : Int)] 28))
  have hq := Hd (IsC.new w3 28 #[.int .u32 (a : Int), .int .u32 (n : Int)])
  clear hb0s
  have hb0s := hb0.out.size
  go_wp2_with fail
  refine (cT.out _).mono ?_
  rintro e w4 ⟨rfl, hb4⟩
  have hbf := Hd (below_up hb0.out hb0s hb4)
  have hbx := isC_of hb4 hbox.out
  have hqx := isC_of hb4 hq.out
  have k0 := hqx.cell 0
  have k1 := hqx.cell 1
  have f0 := hbx.f 0
  have f1 := hbx.f 1
  have x0 := hbx.cell 0
  have x1 := hbx.cell 1
  have hlt := hbx.lt
  have hs2 := (hbx.set 0 (.int .u32 (a : Int))).set 1 (.int .u32 (n : Int))
  have r0 : ((w4.setCell ⟨w.heap.size, 0, none⟩ (.int .u32 (a : Int))).setCell ⟨w.heap.size, 1, none⟩ (.int .u32 (n : Int))).cell? ⟨w.heap.size, 0, none⟩ = some (.int .u32 (a : Int)) := hs2.cell 0
  have r1 : ((w4.setCell ⟨w.heap.size, 0, none⟩ (.int .u32 (a : Int))).setCell ⟨w.heap.size, 1, none⟩ (.int .u32 (n : Int))).cell? ⟨w.heap.size, 1, none⟩ = some (.int .u32 (n : Int)) := hs2.cell 1
  have hfin := ((hbf.out.setCell (p := ⟨w.heap.size, 0, none⟩) (Nat.le_refl _) (.int .u32 (a : Int))).setCell (p := ⟨w.heap.size, 1, none⟩) (Nat.le_refl _) (.int .u32 (n : Int)))
  clear hb4 hb0 hbox hq hs2 hbx hqx
  replace hfin := Hd hfin
  replace r0 := Hd r0
  replace r1 := Hd r1
  go_wp2_with fail
  obtain ⟨wf, hwf⟩ : ∃ wf, (w4.setCell ⟨w.heap.size, 0, none⟩ (.int .u32 (a : Int))).setCell ⟨w.heap.size, 1, none⟩ (.int .u32 (n : Int)) = wf := ⟨_, rfl⟩
  have t0 := r0.out
  have t1 := r1.out
  have t2 := hfin.out
  rw [hwf] at t0 t1 t2 ⊢
  (try simp only [Exit.inBlock, Exit.then])
  refine bodyPost_ret (by simp [results, Tryz.results75, go_sem, t0, t1]; try rfl) rfl ?_
  exact ⟨rfl, t2⟩
 ·rw [if_neg hE] at hR
  rw [decide_eq_false hE] at hT
  subst hR
  clear hE
  go_enter Tryz.func75, Tryz.ntmps75
  go_wp2_with fail
  refine cc.out.mono ?_
  rintro e w1 ⟨rfl, hb1⟩
  have cA1 := Hd (cA.out w1 (hg0.on hb1))
  have hg1 := hg0.on hb1
  replace hb0 := Hd (below_up hb0.out hb0s hb1)
  replace hbox := Hd (isC_of hb1 hbox.out)
  clear cc hb1 cA hb0s
  have hb0s := hb0.out.size
  go_wp2_with fail
  refine cA1.out.mono ?_
  rintro e w2 ⟨rfl, hb2⟩
  have cB1 := Hd (cB.out w2 (hg1.on hb2))
  replace hb0 := Hd (below_up hb0.out hb0s hb2)
  replace hbox := Hd (isC_of hb2 hbox.out)
  clear cA1 hb2 cB hb0s
  have hb0s := hb0.out.size
  go_wp2_with fail
  refine cB1.out.mono ?_
  rintro e w3 ⟨rfl, hb3⟩
  replace hb0 := Hd (below_up hb0.out hb0s hb3)
  replace hbox := Hd (isC_of hb3 hbox.out)
  clear cB1 hb3 hb0s
  have hb0s := hb0.out.size
  replace hb0 := Hd (hb0.out.alloc hb0s (.cells #[.int .u32 (a : Int), .int .u32 (n : Int)] 28))
  replace hbox := Hd (hbox.out.alloc (.cells #[.int .u32 (a : Int), .int .u32 (n : Int)] 28))
  clear hb0s
  have hb0s := hb0.out.size
  go_wp2_with fail
  refine (cT.out _).mono ?_
  rintro e w4 ⟨rfl, hb4⟩
  have hbf := Hd (below_up hb0.out hb0s hb4)
  have hbx := isC_of hb4 hbox.out
  have f0 := hbx.f 0
  have f1 := hbx.f 1
  have t0 := hbx.cell 0
  have t1 := hbx.cell 1
  have hlt := hbx.lt
  clear hb4 hb0 hbox hbx
  go_wp2_with fail
  (try simp only [Exit.inBlock, Exit.then])
  refine bodyPost_ret (by simp [results, Tryz.results75, go_sem, t0, t1]; try rfl) rfl ?_
  exact ⟨rfl, (hbf.out.setCell (p := ⟨w.heap.size, 0, none⟩) (Nat.le_refl _) (.int .u32 0)).setCell (p := ⟨w.heap.size, 1, none⟩) (Nat.le_refl _) (.int .u32 0)⟩
end Go.Proofs.YtjjgbillihedgaaGreatDoor
