/- parts of the proof, merged: TlV6, TlV7 -/
import Derived.Test.YtjjgbillihedgaaGreatDoorQy38
set_option linter.unusedSimpArgs false
set_option linter.unusedVariables false
set_option maxHeartbeats 8000000
set_option maxRecDepth 100000
namespace Go.Proofs.YtjjgbillihedgaaGreatDoor
open Go.RowKit
open Rf
open Sg
open Wide
open Tl
namespace Tl
def rqBoth (a b : List UInt8) : Nat × Nat × Bool := if (refP a).2 = true ∧ (refP b).2 = true then ((refP a).1, (refP b).1, true) else (0, 0, false)
def rqFrom (l : List UInt8) : Nat → Nat → Nat × Nat × Bool
 | 0, _ => (0, 0, false)
 | f + 1, i => if i + 5 ≤ l.length then (if (l.drop i).take 5 = notL then rqBoth (l.take i) (l.drop (i + 5)) else rqFrom l f (i + 1)) else (0, 0, false)
def rqF (l : List UInt8) : Nat × Nat × Bool := rqFrom l (l.length + 1) 0
theorem rq_skip (x y : List UInt8) (hx : (32 : UInt8) ∉ x) : ∀ (f i : Nat), i ≤ x.length → x.length < f + i → rqFrom (x ++ notL ++ y) f i = rqBoth x y
 | 0, i, hi, hf => by omega
 | f + 1, i, hi, hf => by
   have hl : (x ++ notL ++ y).length = x.length + 5 + y.length := by rw [List.length_append, List.length_append]; rfl
   rw [rqFrom, if_pos (by omega)]
   by_cases h : i = x.length
   ·subst h
    have e1 : ((x ++ notL ++ y).drop x.length).take 5 = notL := by rw [List.append_assoc, List.drop_left]; rfl
    have e2 : (x ++ notL ++ y).take x.length = x := by rw [List.append_assoc, List.take_left]
    have e3 : (x ++ notL ++ y).drop (x.length + 5) = y := by
     rw [show x.length + 5 = (x ++ notL).length by rw [List.length_append]; rfl, List.drop_left]
    rw [if_pos e1, e2, e3]
   ·have hlt : i < x.length := by omega
    have hne : ((x ++ notL ++ y).drop i).take 5 ≠ notL := by
     intro e
     have h0 := congrArg (·[0]?) e
     have h1 : (((x ++ notL ++ y).drop i).take 5)[0]? = some x[i] := by
      rw [List.getElem?_take, if_pos (by omega), List.getElem?_drop, Nat.add_zero, List.append_assoc, List.getElem?_append_left hlt, List.getElem?_eq_getElem hlt]
     have h2 : some x[i] = some (32 : UInt8) := h1.symm.trans h0
     exact hx (by rw [← Option.some.inj h2]; exact List.getElem_mem hlt)
    rw [if_neg hne]
    exact rq_skip x y hx f (i + 1) (by omega) (by omega)
theorem refP_back (s : Nat) (hs : s < 4294967296) (h : Sg.isF s = true) : refP (textS s) = (s, true) := by
 have h1 := parse_ref (text (textS s))
 rw [Sg.parse_text hs h, byts_text] at h1
 obtain ⟨e1, e2⟩ := Prod.mk.inj h1
 refine Prod.ext e1.symm ?_
 show (refP (textS s)).2 = true
 cases hb : (refP (textS s)).2 with
 | true => rfl
 | false => rw [hb] at e2; exact absurd e2 (by decide)
theorem rq_back (a n : Int) (ha : u32 a) (hn : u32 n) (h1 : Sg.isF a.toNat = true) (h2 : Sg.isF n.toNat = true) : rqF (qText a n) = (a.toNat, n.toNat, true) := by
 unfold rqF qText
 rw [rq_skip _ _ (textS_blank _) _ 0 (Nat.zero_le _) (by rw [List.length_append, List.length_append]; omega)]
 unfold rqBoth
 unfold u32 at ha hn
 rw [refP_back a.toNat (by omega) h1, refP_back n.toNat (by omega) h2, if_pos ⟨rfl, rfl⟩]
end Tl
theorem ext_mid (s : ByteArray) (i j : Nat) : s.extract i j = text (((byts s).drop i).take (j - i)) := by
 rw [← text_byts (s.extract i j)]
 congr 1
 show (s.extract i j).data.toList = _
 rw [ByteArray.data_extract, Array.toList_extract, List.extract_eq_take_drop]
 rfl
theorem rq_c (s : ByteArray) (hs : s.size ≤ 100000) : Ret 80 #[.string s] (.tuple #[.int .u32 (((rqF (byts s)).1 : Nat) : Int), .int .u32 (((rqF (byts s)).2.1 : Nat) : Int), .bool (rqF (byts s)).2.2]) := fun w => by
 obtain ⟨R, hR⟩ : ∃ R, rqF (byts s) = R := ⟨_, rfl⟩
 rw [hR]
 unfold rqF at hR
 rw [byts_length] at hR
 replace hR := Hd hR
 go_enter Tryz.func80, Tryz.ntmps80
 go_wp2_with fail
 go_loopw [5] (fun i wr => ∃ (k f : Nat), k ≤ s.size ∧ i = .int .i64 k ∧ rqFrom (byts s) f k = R ∧ s.size < f + k ∧ wr = w) (fun i _ => s.size + 1 - (intOf i).toNat)
 case atStart => exact ⟨0, s.size + 1, Nat.zero_le _, rfl, hR.out, by omega, rfl⟩
 case round =>
  clear hR
  obtain ⟨k, f, hk, rfl, hgo, hf, rfl⟩ := hrel
  obtain ⟨f, rfl⟩ : ∃ m, f = m + 1 := ⟨f - 1, by omega⟩
  rw [rqFrom, byts_length] at hgo
  by_cases hlt : k + 5 ≤ s.size
  ·rw [if_pos hlt] at hgo
   have hltI : (k : Int) + 5 ≤ (s.size : Int) := by omega
   have hk1 : (k : Int) ≤ (k : Int) + 5 := by omega
   have hcmp := bytes_eq (s.extract k (k + 5)) ⟨#[32, 110, 111, 116, 32]⟩
   rw [show byts ⟨#[32, 110, 111, 116, 32]⟩ = notL from rfl, show (⟨#[32, 110, 111, 116, 32]⟩ : ByteArray).toList = [32, 110, 111, 116, 32] by rw [toList_byts]; rfl] at hcmp
   have hmid : byts (s.extract k (k + 5)) = ((byts s).drop k).take 5 := by rw [ext_mid, byts_text, show k + 5 - k = 5 by omega]
   rw [hmid] at hcmp
   by_cases he : ((byts s).drop k).take 5 = notL
   ·rw [if_pos he] at hgo
    rw [decide_eq_true he] at hcmp
    have c1 := refParse_c (s.extract 0 k) (by rw [ByteArray.size_extract]; omega)
    have c2 := refParse_c (s.extract (k + 5) s.size) (by rw [ByteArray.size_extract]; omega)
    rw [show byts (s.extract 0 k) = (byts s).take k by rw [ext_take, byts_text]] at c1
    rw [show byts (s.extract (k + 5) s.size) = (byts s).drop (k + 5) by rw [ext_drop, byts_text]] at c2
    unfold rqBoth at hgo
    generalize refP ((byts s).take k) = A at *
    generalize refP ((byts s).drop (k + 5)) = B at *
    obtain ⟨A1, A2⟩ := A
    obtain ⟨B1, B2⟩ := B
    dsimp only at *
    have hk5 : (k : Int) + 5 ≤ (s.size : Int) := hltI
    replace c1 := Hd c1
    replace c2 := Hd c2
    clear he hmid
    go_wp2_with fail
    refine (c1.out _).mono ?_
    rintro e w2 ⟨rfl, hb2⟩
    replace hb2 := Hd hb2
    have hb2s := hb2.out.size
    go_wp2_with fail
    refine (c2.out _).mono ?_
    rintro e w3 ⟨rfl, hb3⟩
    have hb4 := Hd (below_up hb2.out hb2s hb3)
    clear hb3 hb2 c1 c2 hcmp
    cases A2 with
    | false =>
      rw [if_neg (by rintro ⟨h, _⟩; cases h)] at hgo
      subst hgo
      go_wp2_with fail
      (try simp only [Exit.inBlock, Exit.then])
      refine bodyPost_ret (by simp [results, Tryz.results80, go_sem]; try rfl) rfl ?_
      exact ⟨rfl, hb4.out⟩
    | true =>
      cases B2 with
      | false =>
        rw [if_neg (by rintro ⟨_, h⟩; cases h)] at hgo
        subst hgo
        go_wp2_with fail
        (try simp only [Exit.inBlock, Exit.then])
        refine bodyPost_ret (by simp [results, Tryz.results80, go_sem]; try rfl) rfl ?_
        exact ⟨rfl, hb4.out⟩
      | true =>
        rw [if_pos ⟨rfl, rfl⟩] at hgo
        subst hgo
        go_wp2_with fail
        (try simp only [Exit.inBlock, Exit.then])
        refine bodyPost_ret (by simp [results, Tryz.results80, go_sem]; try rfl) rfl ?_
        exact ⟨rfl, hb4.out⟩
   ·rw [if_neg he] at hgo
    rw [decide_eq_false he] at hcmp
    replace hgo := Hd hgo
    clear he hmid
    go_wp2_with fail
    go_roundw
    case rel => exact ⟨k + 1, f, by omega, by go_num, hgo.out, by omega, trivial⟩
    case measure => simp [intOf]; omega
  ·rw [if_neg hlt] at hgo
   subst hgo
   have hltI : ¬ (k : Int) + 5 ≤ (s.size : Int) := by omega
   go_wp2_with fail
   (try simp only [Exit.inBlock, Exit.then])
   refine bodyPost_ret (by simp [results, Tryz.results80, go_sem]; try rfl) rfl ?_
   exact ⟨rfl, Below.refl _ _⟩
namespace Tl
def entR (a b : Int) : Int := b % 4294967296 * 4294967296 + a % 4294967296
def rgO (k : Int) (t : List UInt8) : OpD :=
 if k = 1 then ⟨k, 0, 0, (match rcutF ([101, 32, 49, 32, 49] ++ behF t) with | none => [] | some p => p.2), 0, 0, 0, 0, 0, [], 0, sS⟩
 else if k = 2 ∨ k = 3 ∨ k = 5 then ⟨k, (match rcutF ([101, 32] ++ t) with | none => 0 | some p => p.1), 0, (match rcutF ([101, 32] ++ t) with | none => [] | some p => p.2), 0, 0, 0, 0, 0, [], 0, sS⟩
 else if k = 4 ∨ k = 6 then ⟨k, entR (numGo 0 (bcut t).1) (numGo 0 (bcut (bcut t).2).1), numGo 0 (bcut (bcut t).2).2, [], 0, 0, 0, 0, 0, [], 0, sS⟩
 else if k = 7 then ⟨k, 0, 0, [], ((rqF t).1 : Int), ((rqF t).2.1 : Int), 0, 0, 0, [], 0, sS⟩
 else if k = 9 then ⟨k, 0, 0, [], 0, 0, 0, 0, 0, [], numGo 0 t, sS⟩
 else if k = 10 then ⟨k, 0, 0, [], 0, 0, 0, 0, 0, [], 0, text (bytesF t).1⟩
 else ⟨k, 0, 0, [], 0, 0, 0, 0, 0, [], 0, sS⟩
def rguess1F (l : List UInt8) : OpD := rgO (kindOf (bcut l).1) (bcut l).2
def rcmdK (k : Int) : Int := ([0, 1, 2, 3, 5, 4] : List Int).getD k.toNat 0
def rguessF (l : List UInt8) : OpD :=
 if kindOf (bcut l).1 = 8 then ⟨8, 0, 0, [], 0, 0, rcmdK (rguess1F (bcut l).2).K, (rguess1F (bcut l).2).E, (rguess1F (bcut l).2).C, (rguess1F (bcut l).2).P, 0, sS⟩ else rguess1F l
theorem bcut_join (w : List UInt8) (r : List (List UInt8)) (h : (32 : UInt8) ∉ w) : bcut (Lib.join (w :: r) [32]) = (w, Lib.join r [32]) := by
 cases r with
 | nil =>
   rw [Lib.join_one]
   have := bcut_app w h []
   rw [List.append_nil] at this
   rw [this]
   simp [bcut, Lib.join]
 | cons y r =>
   rw [join_two, bcut_app w h]
   simp [bcut]
theorem numGo_val : ∀ (l : List UInt8) (acc : Nat), l.all isDig = true → l.foldl (fun a c => a * 10 + (c.toNat - 48)) acc ≤ 9223372036854775807 → numGo acc l = ((l.foldl (fun a c => a * 10 + (c.toNat - 48)) acc : Nat) : Int)
 | [], acc, _, _ => rfl
 | c :: r, acc, h, hb => by
   rw [List.all_cons, Bool.and_eq_true] at h
   have hd := h.1
   unfold isDig at hd
   rw [Bool.and_eq_true] at hd
   have h0 := of_decide_eq_true hd.1
   have h1 := of_decide_eq_true hd.2
   have hge : ∀ (m : List UInt8) (a : Nat), a ≤ m.foldl (fun a c => a * 10 + (c.toNat - 48)) a := by
    intro m
    induction m with
    | nil => intro a; exact Nat.le_refl _
    | cons x m ih => intro a; rw [List.foldl_cons]; exact Nat.le_trans (by omega) (ih _)
   rw [List.foldl_cons] at hb ⊢
   have := hge r (acc * 10 + (c.toNat - 48))
   rw [numGo, if_neg (by omega)]
   exact numGo_val r _ h.2 hb
theorem numGo_itoa (n : Int) (h0 : 0 ≤ n) (h1 : i64 n) : numGo 0 (Lib.itoa n) = n := by
 obtain ⟨m, rfl⟩ := Int.eq_ofNat_of_zero_le h0
 have e : Lib.itoa (m : Int) = digs m := by rw [itoa_eq, if_neg (by omega)]; rfl
 have hv := digs_val m
 unfold valD at hv
 unfold i64 at h1
 rw [e, numGo_val (digs m) 0 (digs_all m) (by rw [hv]; omega), hv]
theorem ent_backR {e : Int} (h : isEntF e = true) (hu : u64 e) : entR (idF e) (genF e) = e ∧ 0 ≤ idF e ∧ 0 ≤ genF e := by
 unfold isEntF at h
 rw [Bool.and_eq_true] at h
 have h1 := of_decide_eq_true h.1
 have h2 := of_decide_eq_true h.2
 unfold idF genF u64 entR at *
 refine ⟨by omega, by omega, by omega⟩
theorem rguess_told (k : Int) (r : List (List UInt8)) (h0 : 1 ≤ k) (h1 : k ≤ 11) : rguess1F (Lib.join (wordB k :: r) [32]) = rgO k (Lib.join r [32]) := by
 obtain ⟨h, hb⟩ := kind_word k h0 h1
 unfold rguess1F
 rw [bcut_join _ _ hb]
 dsimp only
 rw [h]
theorem rtold_back (o : OpD) (ok : o.Ok) (h : is1F o = true) : rguess1F (told1F o) = o := by
 unfold is1F at h
 rw [Bool.and_eq_true, Bool.and_eq_true] at h
 obtain ⟨⟨hn, hp⟩, ha⟩ := h
 have hne := named_eq hn
 have hE := ok.E
 have hC := ok.C
 have hU := ok.U
 unfold told1F
 unfold askF at ha
 unfold rest1F
 by_cases k1 : o.K = 1
 ·rw [rguess_told _ _ (by omega) (by omega), k1]
  conv => rhs; rw [← hne]
  unfold rgO namedF
  simp only [k1, if_true]
  rw [who_spawn, rcut_back 4294967297 (by decide) (by unfold u64; omega) o.P hp ok.P]
 rw [if_neg k1] at ha
 by_cases k11 : o.K = 11
 ·rw [rguess_told _ _ (by omega) (by omega), k11]
  conv => rhs; rw [← hne]
  unfold rgO namedF
  simp [k11]
 rw [if_neg k11] at ha
 by_cases k2 : o.K = 2
 ·rw [if_pos k2] at ha
  have hP : o.P = [] := by
   rw [← hne]; unfold namedF; simp [k2]
  rw [rguess_told _ _ (by omega) (by omega), k2]
  conv => rhs; rw [← hne]
  unfold rgO namedF
  simp only [k2]
  simp
  rw [hP] at hp ⊢
  have hw := who_hand o.E []
  simp only [List.cons_append, List.nil_append] at hw
  rw [hw, rcut_back o.E ha hE [] hp (by simp)]
  exact ⟨rfl, rfl⟩
 rw [if_neg k2] at ha
 by_cases k3 : o.K = 3
 ·rw [if_pos k3, Bool.and_eq_true] at ha
  rw [rguess_told _ _ (by omega) (by omega), k3]
  conv => rhs; rw [← hne]
  unfold rgO namedF
  simp only [k3]
  simp
  have hw := who_hand o.E o.P
  simp only [List.cons_append, List.nil_append] at hw
  rw [hw, rcut_back o.E ha.1 hE o.P hp ok.P]
  exact ⟨rfl, rfl⟩
 rw [if_neg k3] at ha
 by_cases k5 : o.K = 5
 ·rw [if_pos k5, Bool.and_eq_true] at ha
  rw [rguess_told _ _ (by omega) (by omega), k5]
  conv => rhs; rw [← hne]
  unfold rgO namedF
  simp only [k5]
  simp
  have hw := who_hand o.E o.P
  simp only [List.cons_append, List.nil_append] at hw
  rw [hw, rcut_back o.E ha.1 hE o.P hp ok.P]
  exact ⟨rfl, rfl⟩
 rw [if_neg k5] at ha
 have hb46 : o.K = 4 ∨ o.K = 6 → isEntF o.E = true → 0 ≤ o.C → bcut (Lib.join (handF o.E [] ++ [Lib.itoa o.C]) [32]) = (Lib.itoa (idF o.E), Lib.join [Lib.itoa (genF o.E), Lib.itoa o.C] [32]) ∧ bcut (Lib.join [Lib.itoa (genF o.E), Lib.itoa o.C] [32]) = (Lib.itoa (genF o.E), Lib.itoa o.C) := by
  intro _ _ _
  refine ⟨bcut_join _ _ (itoa_blank _), ?_⟩
  rw [bcut_join _ _ (itoa_blank _), Lib.join_one]
 by_cases k4 : o.K = 4
 ·rw [if_pos k4, Bool.and_eq_true] at ha
  obtain ⟨e1, e2, e3⟩ := ent_backR ha.1 hE
  have hc0 : 0 ≤ o.C := of_decide_eq_true ha.2
  obtain ⟨b1, b2⟩ := hb46 (.inl k4) ha.1 hc0
  rw [rguess_told _ _ (by omega) (by omega), k4]
  conv => rhs; rw [← hne]
  unfold rgO namedF
  simp only [k4]
  simp
  rw [b1]
  dsimp only
  rw [b2]
  dsimp only
  rw [numGo_itoa _ e2 (idF_i64 hE), numGo_itoa _ e3 (genF_i64 hE), numGo_itoa _ hc0 hC, e1]
  exact ⟨rfl, rfl⟩
 rw [if_neg k4] at ha
 by_cases k6 : o.K = 6
 ·rw [if_pos k6, Bool.and_eq_true] at ha
  obtain ⟨e1, e2, e3⟩ := ent_backR ha.1 hE
  have hc0 : 0 ≤ o.C := of_decide_eq_true ha.2
  obtain ⟨b1, b2⟩ := hb46 (.inr k6) ha.1 hc0
  rw [rguess_told _ _ (by omega) (by omega), k6]
  conv => rhs; rw [← hne]
  unfold rgO namedF
  simp only [k6]
  simp
  rw [b1]
  dsimp only
  rw [b2]
  dsimp only
  rw [numGo_itoa _ e2 (idF_i64 hE), numGo_itoa _ e3 (genF_i64 hE), numGo_itoa _ hc0 hC, e1]
  exact ⟨rfl, rfl⟩
 rw [if_neg k6] at ha
 by_cases k7 : o.K = 7
 ·rw [if_pos k7, Bool.and_eq_true] at ha
  rw [rguess_told _ _ (by omega) (by omega), k7]
  conv => rhs; rw [← hne]
  have u1 := ok.A
  have u2 := ok.N
  unfold rgO namedF
  simp only [k7]
  simp [Lib.join_one, rq_back o.A o.N ok.A ok.N ha.1 ha.2]
  unfold u32 at u1 u2
  omega
 rw [if_neg k7] at ha
 by_cases k9 : o.K = 9
 ·rw [if_pos k9] at ha
  rw [rguess_told _ _ (by omega) (by omega), k9]
  conv => rhs; rw [← hne]
  unfold rgO namedF
  simp only [k9]
  simp [Lib.join_one, numGo_itoa _ (of_decide_eq_true ha) hU]
 rw [if_neg k9] at ha
 by_cases k10 : o.K = 10
 ·rw [rguess_told _ _ (by omega) (by omega), k10]
  conv => rhs; rw [← hne]
  unfold rgO namedF
  simp only [k10]
  simp
  by_cases hB : o.B.size = 0
  ·rw [if_pos (by rw [ba_nil hB]; rfl), ba_nil hB]
   rfl
  ·rw [if_neg (by intro e; rw [e] at hB; exact hB rfl), Lib.join_one, bytes_hex, text_byts]
 rw [if_neg k10] at ha
 cases ha
end Tl
end Go.Proofs.YtjjgbillihedgaaGreatDoor
