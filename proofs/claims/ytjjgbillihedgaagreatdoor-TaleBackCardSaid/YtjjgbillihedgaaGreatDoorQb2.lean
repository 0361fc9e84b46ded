/- parts of the proof, merged: SgM, SgBk, SgQ, SgTw, WvW, Tl0, TlP1, TlA, TlB, TlC, TlD, WvW2 -/
import Derived.Lib.SmallJoins
import Derived.OpenShut
import Derived.Test.YtjjgbillihedgaaGreatDoorQb1
set_option linter.unusedVariables false
set_option maxHeartbeats 8000000
set_option maxRecDepth 100000
namespace Go.Proofs.YtjjgbillihedgaaGreatDoor
open Go.RowKit
open Rf
open Wide
namespace Sg
/-- the pieces between the plusses, byte by byte -/
def segs : List UInt8 → List (List UInt8)
 | [] => [[]]
 | c :: r => if c = 43 then [] :: segs r else match segs r with
   | [] => [[c]]
   | x :: t => (c :: x) :: t
theorem segs_ne (l : List UInt8) : segs l ≠ [] := by
 cases l with
 | nil => simp [segs]
 | cons c r =>
   unfold segs
   split
   ·simp
   ·split <;> simp
theorem segs_plus (r : List UInt8) : segs (43 :: r) = [] :: segs r := by rw [segs, if_pos rfl]
theorem segs_cons (c : UInt8) (r : List UInt8) (h : c ≠ 43) : ∃ x t, segs r = x :: t ∧ segs (c :: r) = (c :: x) :: t := by
 cases hs : segs r with
 | nil => exact absurd hs (segs_ne r)
 | cons x t => exact ⟨x, t, rfl, by rw [segs, if_neg h, hs]⟩
theorem splitK_segs : ∀ (k : Nat) (l : List UInt8), Lib.count l [43] = k → Lib.splitK [43] 0 k l = segs l := by
 intro k l
 induction l generalizing k with
 | nil =>
   intro h
   rw [Lib.count_one] at h
   obtain rfl : k = 0 := by simpa using h.symm
   rfl
 | cons c r ih =>
   intro h
   by_cases hc : c = 43
   ·subst hc
    rw [Lib.count_cons_eq] at h
    obtain ⟨j, rfl⟩ : ∃ j, k = j + 1 := ⟨k - 1, by omega⟩
    have hix : Lib.index (43 :: r) [43] = 0 := by rw [Lib.index]; simp [List.isPrefixOf]
    rw [segs_plus, Lib.splitK, hix, if_neg (by decide), ← ih j (by omega)]
    rfl
   ·rw [Lib.count_cons_ne c 43 r hc] at h
    have ih := ih k h
    obtain ⟨x, t, h1, h2⟩ := segs_cons c r hc
    rw [h2]
    rw [h1] at ih
    cases k with
    | zero =>
      rw [Lib.splitK] at ih ⊢
      cases ih
      rfl
    | succ k =>
      have hp : ([43] : List UInt8).isPrefixOf (c :: r) = false := by simp [List.isPrefixOf, Ne.symm hc]
      have hix : Lib.index (c :: r) [43] = if Lib.index r [43] == -1 then -1 else Lib.index r [43] + 1 := by rw [Lib.index, hp]; simp
      rw [Lib.splitK] at ih ⊢
      by_cases hm : Lib.index r [43] = -1
      ·rw [if_pos (by rw [hm]; rfl)] at ih
       rw [hix, if_pos (by rw [hm]; rfl)]
       cases ih
       rfl
      ·have hge := Lib.index_ge r [43]
       obtain ⟨j, hj⟩ : ∃ j : Nat, Lib.index r [43] = j := ⟨(Lib.index r [43]).toNat, by omega⟩
       rw [if_neg (fun e => hm (beq_iff_eq.1 e)), hj] at ih
       rw [hix, if_neg (fun e => hm (beq_iff_eq.1 e)), hj, if_neg (fun e => by have := beq_iff_eq.1 e; omega)]
       have e1 : ((j : Int) + 1).toNat = j + 1 := by omega
       rw [e1]
       simp only [Int.toNat_natCast, Nat.add_zero, List.length_cons, List.length_nil] at ih ⊢
       rw [List.take_succ_cons, List.drop_succ_cons]
       have ih1 := (List.cons.inj ih).1
       have ih2 := (List.cons.inj ih).2
       rw [ih1, ih2]
theorem count_byts (s : ByteArray) : Lib.countB s ⟨#[43]⟩ = Lib.count (byts s) [43] := rfl
theorem pieces_segs (s : ByteArray) : (pieces s).map (·.data.toList) = segs (byts s) := by
 unfold pieces
 rw [Lib.splitB_data, count_byts]
 exact splitK_segs _ _ rfl
theorem out_segs (s : ByteArray) : outOf s = setOf ((segs (byts s)).map atoiV) := by
 unfold outOf
 rw [← pieces_segs, List.map_map]
 rfl
theorem segs_app (x l : List UInt8) (h : (43 : UInt8) ∉ x) : segs (x ++ 43 :: l) = x :: segs l := by
 induction x with
 | nil => exact segs_plus l
 | cons c r ih =>
   simp only [List.mem_cons, not_or] at h
   obtain ⟨y, t, h1, h2⟩ := segs_cons c (r ++ 43 :: l) (fun e => h.1 e.symm)
   rw [List.cons_append, h2]
   rw [ih h.2] at h1
   cases h1
   rfl
/-- pieces with a plus behind each -/
def behind (xs : List (List UInt8)) : List UInt8 := (xs.map (· ++ [43])).flatten
theorem behind_nil : behind [] = [] := rfl
theorem behind_cons (x : List UInt8) (xs : List (List UInt8)) : behind (x :: xs) = x ++ 43 :: behind xs := by simp [behind]
theorem join_behind (x : List UInt8) (xs : List (List UInt8)) : Lib.join (x :: xs) [43] ++ [43] = behind (x :: xs) := by
 rw [Lib.join_cons, behind_cons]
 unfold Lib.joinTail
 induction xs generalizing x with
 | nil => simp [behind_nil]
 | cons y r ih =>
   have := ih y
   rw [List.append_assoc] at this ⊢
   rw [List.map_cons, List.flatten_cons, List.append_assoc, List.append_assoc, behind_cons, ← List.append_cancel_left this]
   simp
theorem segs_behind (xs : List (List UInt8)) (l : List UInt8) (h : ∀ x ∈ xs, (43 : UInt8) ∉ x) : segs (behind xs ++ l) = xs ++ segs l := by
 induction xs with
 | nil => rfl
 | cons x r ih =>
   rw [behind_cons, List.append_assoc, List.cons_append, segs_app x _ (h x (by simp)), ih (fun y hy => h y (by simp [hy])), List.cons_append]
theorem segs_join (x : List UInt8) (xs : List (List UInt8)) (h : ∀ y ∈ x :: xs, (43 : UInt8) ∉ y) : segs (Lib.join (x :: xs) [43]) = x :: xs := by
 have h1 : segs (Lib.join (x :: xs) [43] ++ 43 :: []) = x :: xs ++ [[]] := by
  rw [join_behind, ← List.append_nil (behind (x :: xs)), segs_behind _ _ h]
  rfl
 suffices hh : ∀ l : List UInt8, segs (l ++ [43]) = segs l ++ [[]] by
  rw [hh] at h1
  exact List.append_cancel_right h1
 intro l
 induction l with
 | nil => rfl
 | cons c r ih =>
   by_cases hc : c = 43
   ·subst hc
    rw [List.cons_append, segs_plus, segs_plus, ih, List.cons_append]
   ·obtain ⟨y, t, h1, h2⟩ := segs_cons c r hc
    obtain ⟨y', t', h3, h4⟩ := segs_cons c (r ++ [43]) hc
    rw [List.cons_append, h4, h2]
    rw [ih, h1, List.cons_append] at h3
    cases h3
    rfl
/-- an id's text -/
def dg2 (n : Nat) : List UInt8 := if n < 10 then [UInt8.ofNat (48 + n)] else [UInt8.ofNat (48 + n / 10), UInt8.ofNat (48 + n % 10)]
theorem digs_dg2 (n : Nat) (h : n < 100) : digs n = dg2 n := by
 unfold dg2
 rw [digs]
 by_cases h1 : n < 10
 ·rw [if_pos h1, if_pos h1]
 ·rw [if_neg h1, if_neg h1, digs, if_pos (by omega)]
  rfl
theorem dg2_fine : ∀ n < 25, atoiV (dg2 n) = (n : Int) ∧ (43 : UInt8) ∉ dg2 n ∧ (1 ≤ n → (dg2 n).head? ≠ some 48) := by decide +kernel
theorem dgt_dg2 {i : Int} (h1 : 1 ≤ i) (h2 : i ≤ 24) : dgt i = dg2 i.toNat := digs_dg2 _ (by omega)
theorem dgt_atoi {i : Int} (h1 : 1 ≤ i) (h2 : i ≤ 24) : atoiV (dgt i) = i := by
 rw [dgt_dg2 h1 h2, (dg2_fine i.toNat (by omega)).1]
 omega
theorem dgt_plus {i : Int} (h1 : 1 ≤ i) (h2 : i ≤ 24) : (43 : UInt8) ∉ dgt i := by
 rw [dgt_dg2 h1 h2]
 exact (dg2_fine i.toNat (by omega)).2.1
theorem ids_dgts (s : Nat) : ∀ y ∈ (ids s).map dgt, (43 : UInt8) ∉ y := by
 intro y hy
 obtain ⟨i, hi, rfl⟩ := List.mem_map.1 hy
 exact dgt_plus (ids_id hi).1 (ids_id hi).2
theorem map_atoi (l : List Int) (h : ∀ i ∈ l, 1 ≤ i ∧ i ≤ 24) : (l.map dgt).map atoiV = l := by
 rw [List.map_map]
 conv => rhs; rw [← List.map_id l]
 exact List.map_congr_left fun i hi => dgt_atoi (h i hi).1 (h i hi).2
theorem text_nil {s : Nat} (h : ids s = []) : textS s = [45] := by unfold textS; rw [h]; rfl
theorem text_join {s : Nat} (h : ids s ≠ []) : textS s = Lib.join ((ids s).map dgt) [43] := by
 unfold textS
 rw [if_neg (fun e => h (List.eq_nil_of_length_eq_zero e))]
theorem segs_text {s : Nat} (h : ids s ≠ []) : segs (textS s) = (ids s).map dgt := by
 rw [text_join h]
 have hd := ids_dgts s
 cases hm : (ids s).map dgt with
 | nil => exact absurd (List.map_eq_nil_iff.1 hm) h
 | cons x xs =>
   rw [hm] at hd
   exact segs_join x xs hd
theorem out_text (s : Nat) : setOf ((segs (textS s)).map atoiV) = setOf (ids s) := by
 by_cases h : ids s = []
 ·rw [text_nil h, h]
  decide +kernel
 ·rw [segs_text h, map_atoi _ (fun i hi => ids_id hi)]
theorem bits_ext {a b : Nat} (h : ∀ j, a.testBit j = b.testBit j) : a = b := Nat.eq_of_testBit_eq h
theorem set_ids_bit (s : Nat) (j : Nat) : (setOf (ids s)).testBit j = (decide (1 ≤ j ∧ j ≤ 24) && s.testBit j) := by
 rw [set_bit, Bool.eq_iff_iff, decide_eq_true_iff, mem_ids]
 unfold has isId
 simp
 omega
theorem set_ids_is {s : Nat} (hs : s < 4294967296) (h : isF s = true) : setOf (ids s) = s := by
 refine bits_ext fun j => ?_
 rw [set_ids_bit]
 cases hj : s.testBit j
 ·simp
 ·rw [decide_eq_true ((is_iff hs).1 h j hj)]
  rfl
end Sg
open Sg
namespace Sg
theorem parse_text {s : Nat} (hs : s < 4294967296) (h : isF s = true) : parseS (text (textS s)) = (s, 0) := by
 have e : outOf (text (textS s)) = s := by rw [out_segs, byts_text, out_text, set_ids_is hs h]
 unfold parseS
 rw [e, byts_text, if_pos rfl]
theorem text_len (s : Nat) : (textS s).length ≤ 100 := by
 unfold textS
 split
 ·decide
 ·have h := join_bd ((ids s).map dgt) (fun x hx => by
   obtain ⟨i, hi, rfl⟩ := List.mem_map.1 hx
   exact dgt_len (ids_id hi).1 (ids_id hi).2)
  rw [List.length_map] at h
  have := ids_le s
  omega
end Sg
end Go.Proofs.YtjjgbillihedgaaGreatDoor
namespace Go.Proofs.YtjjgbillihedgaaGreatDoor
open Go.RowKit
open Rf
open Wide
namespace Sg
/-- what is read so far is the ids, and the digits of the next -/
def Inv (pre : List UInt8) (d : List Int) (n : Int) : Prop := pre = behind (d.map dgt) ++ (if n < 0 then [] else digs n.toNat) ∧ (n = -1 ∨ 1 ≤ n ∧ n ≤ 999) ∧ (∀ i ∈ d, 1 ≤ i ∧ i ≤ 24) ∧ d.Pairwise (· < ·)
theorem Inv.nil : Inv [] [] (-1) := ⟨rfl, .inl rfl, by simp, List.Pairwise.nil⟩
end Sg
end Go.Proofs.YtjjgbillihedgaaGreatDoor
namespace Go.Proofs.YtjjgbillihedgaaGreatDoor
open Go.RowKit
open Rf
open Sg
namespace Sg
end Sg
/-- ints ahead in a row -/
theorem InI.take {w : World} {a : Option Addr} {l : List Int} (h : InI w a l) (j : Nat) : InI w a (l.take j) := by
 rcases h with rfl | ⟨g, o, rfl, hg, hc⟩
 ·exact .inl (by simp)
 ·refine .inr ⟨g, o, rfl, hg, fun i hi => ?_⟩
  rw [List.length_take] at hi
  rw [List.getElem_take]
  exact hc i (by omega)
/-- parts without values, as cells -/
def pv (l : List Int) : List Value := l.flatMap fun x => [.int .i64 x, .slice none 0 0]
/-- a slice of such parts of the call's own -/
def OwnP (w : World) (B : Nat) (a : Option Addr) (c : Nat) (l : List Int) : Prop := w.ownsRow B 65 2 (.slice a l.length c) l.length (pv l)
theorem OwnP.alloc {w : World} {B : Nat} {a : Option Addr} {c : Nat} {l : List Int} (h : OwnP w B a c l) (o : Obj) : OwnP (w.alloc o) B a c l := World.ownsRow.alloc h o
theorem OwnP.nil (w : World) : OwnP (w.alloc (.cells #[] 65)) w.heap.size (some ⟨w.heap.size, 0, none⟩) 0 [] := ⟨rfl, .inr ⟨w.heap.size, 0, #[], rfl, Nat.le_refl _, heap_alloc_new w _, Nat.le_refl _, by unfold maxLen; omega, rfl, rfl⟩⟩
theorem OwnP.mono {w : World} {B B' : Nat} {a : Option Addr} {c : Nat} {l : List Int} (h : OwnP w B a c l) (hB : B' ≤ B) : OwnP w B' a c l := by
 refine ⟨h.1, ?_⟩
 rcases h.2 with h' | ⟨g, cap, cur, h1, h2, h3⟩
 ·exact .inl h'
 ·exact .inr ⟨g, cap, cur, h1, by omega, h3⟩
theorem OwnP.below {w w' : World} {B : Nat} {a : Option Addr} {c : Nat} {l : List Int} (h : OwnP w B a c l) (hb : Below w.heap.size w w') : OwnP w' B a c l :=
 World.ownsRow.kept (row := none) h ⟨hb.os, hb.tape, hb.output, hb.size, fun k hk _ => hb.block k hk⟩ (by cases (Value.slice a l.length c).ownBlock <;> simp)
theorem infoPart : (Tryz.prog.info? 65).map (fun i => (i.zero, i.size, i.bytes)) = some (some (.agg #[.int .i64 0, .slice none 0 0]), 2, 32) := by kernel_rfl
end Go.Proofs.YtjjgbillihedgaaGreatDoor
namespace Go.Proofs.YtjjgbillihedgaaGreatDoor
open Go.RowKit
open Rf
open Wide
def wv (x : WI) : Value := .agg #[.bool x.n, .int .u64 x.h, .int .u64 x.l]
/-- block b is a number of the call's own -/
def IsN (w : World) (b : Nat) (x : WI) : Prop := w.heap[b]? = some (.cells #[.bool x.n, .int .u64 x.h, .int .u64 x.l] 61 (0, 0))
section
variable {w w' : World} {b : Nat} {x : WI}
theorem IsN.lt (h : IsN w b x) : b < w.heap.size := lt_of_block h
theorem IsN.c0 (h : IsN w b x) : w.cell? ⟨b, 0, none⟩ = some (.bool x.n) := by unfold IsN at h; simp [World.cell?, h]
theorem IsN.c1 (h : IsN w b x) : w.cell? ⟨b, 1, none⟩ = some (.int .u64 x.h) := by unfold IsN at h; simp [World.cell?, h]
theorem IsN.c2 (h : IsN w b x) : w.cell? ⟨b, 2, none⟩ = some (.int .u64 x.l) := by unfold IsN at h; simp [World.cell?, h]
theorem IsN.f (h : IsN w b x) (i : Nat) : w.frozen? ⟨b, i, none⟩ = false := by unfold IsN at h; simp [World.frozen?, h]
theorem IsN.below (h : IsN w b x) (hb : Below w.heap.size w w') : IsN w' b x := (hb.block b h.lt).trans h
theorem IsN.new (w : World) (x : WI) : IsN (w.alloc (.cells #[.bool x.n, .int .u64 x.h, .int .u64 x.l] 61)) w.heap.size x := heap_alloc_new w _
theorem IsN.alloc (h : IsN w b x) (o : Obj) : IsN (w.alloc o) b x := h.below ((Below.refl _ _).alloc (Nat.le_refl _) o)
end
theorem wsize_alloc (w : World) (o : Obj) : (w.alloc o).heap.size = w.heap.size + 1 := by simp
theorem wbelow1 (w : World) (o : Obj) : Below w.heap.size w (w.alloc o) := (Below.refl _ _).alloc (Nat.le_refl _) _
theorem below2 (w : World) (o p : Obj) : Below w.heap.size w ((w.alloc o).alloc p) := (wbelow1 w o).alloc (by rw [wsize_alloc]; omega) _
theorem below3 (w : World) (o p q : Obj) : Below w.heap.size w (((w.alloc o).alloc p).alloc q) := (below2 w o p).alloc (by rw [wsize_alloc, wsize_alloc]; omega) _
theorem or_nil (h l : Int) (h0 : 0 ≤ h) (h1 : h ≤ 18446744073709551615) (l0 : 0 ≤ l) (l1 : l ≤ 18446744073709551615) : (bits .or .u64 h l == 0) = nil2 h l := by
 obtain ⟨m, rfl⟩ := Int.eq_ofNat_of_zero_le h0
 obtain ⟨k, rfl⟩ := Int.eq_ofNat_of_zero_le l0
 rw [u64_or_nat m k (by omega) (by omega)]
 cases e : nil2 (m : Int) (k : Int) with
 | true =>
   obtain ⟨a, b⟩ := nil2_true e
   have : m = 0 := by omega
   have : k = 0 := by omega
   subst m; subst k; rfl
 | false =>
   have := nil2_false e
   refine beq_eq_false_iff_ne.2 fun hh => ?_
   have h2 : m ||| k = 0 := by exact_mod_cast hh
   have := Nat.or_eq_zero_iff.1 h2
   omega
theorem form_c (x : WI) (ho : x.Ok) (w : World) : Calls Tryz.prog 92 #[wv x] w fun e w' => e = .returned (.bool x.form) ∧ Below w.heap.size w w' := by
 obtain ⟨n, h, l⟩ := x
 obtain ⟨o1, o2, o3, o4⟩ := ho
 dsimp only at o1 o2 o3 o4
 have t : (bits .or .u64 h l != 0) = !nil2 h l := by rw [bne, or_nil h l o1 o2 o3 o4]
 unfold wv WI.form
 dsimp only
 by_cases h1 : h < 9223372036854775808
 ·rw [decide_eq_true h1]
  cases n with
  | false =>
    go_enter Tryz.func92, Tryz.ntmps92
    go_wp2
    go_ret
    exact ⟨rfl, (Below.refl _ _).alloc (Nat.le_refl _) _⟩
  | true =>
    generalize nil2 h l = z at *
    cases z <;>
    ·go_enter Tryz.func92, Tryz.ntmps92
     go_wp2
     go_ret
     exact ⟨rfl, (Below.refl _ _).alloc (Nat.le_refl _) _⟩
 ·rw [decide_eq_false h1]
  go_enter Tryz.func92, Tryz.ntmps92
  go_wp2
  go_ret
  exact ⟨rfl, (Below.refl _ _).alloc (Nat.le_refl _) _⟩
theorem made_c (n : Bool) (h l : Int) (o1 : 0 ≤ h) (o2 : h ≤ 18446744073709551615) (o3 : 0 ≤ l) (o4 : l ≤ 18446744073709551615) (w : World) :
 Calls Tryz.prog 48 #[.bool n, .int .u64 h, .int .u64 l] w fun e w' => e = .returned (wv (made n h l)) ∧ Below w.heap.size w w' := by
 have t : (bits .or .u64 h l != 0) = !nil2 h l := by rw [bne, or_nil h l o1 o2 o3 o4]
 unfold wv made
 dsimp only
 generalize nil2 h l = z at *
 cases n <;> cases z <;>
 ·go_enter Tryz.func48, Tryz.ntmps48
  go_wp2
  go_returns
  exact ⟨rfl, (Below.refl _ _).alloc (Nat.le_refl _) _⟩
theorem ofWord_c (n : Int) (w : World) : Calls Tryz.prog 49 #[.int .u64 n] w fun e w' => e = .returned (wv ⟨false, 0, n⟩) ∧ Below w.heap.size w w' := by
 unfold wv
 go_enter Tryz.func49, Tryz.ntmps49
 go_wp2
 go_returns
 exact ⟨rfl, (Below.refl _ _).alloc (Nat.le_refl _) _⟩
end Go.Proofs.YtjjgbillihedgaaGreatDoor
namespace Go.Proofs.YtjjgbillihedgaaGreatDoor
open Go.RowKit
open Rf
open Sg
open Wide
namespace Tl
/-- a component and its numbers -/
structure PartD where
 C : Int
 V : List WI
def PartD.Ok (p : PartD) : Prop := -9223372036854775808 ≤ p.C ∧ p.C ≤ 9223372036854775807 ∧ ∀ x ∈ p.V, x.Ok
/-- what is done -/
structure OpD where
 K : Int
 E : Int
 C : Int
 P : List PartD
 A : Int
 N : Int
 cK : Int
 cE : Int
 cC : Int
 cP : List PartD
 U : Int
 B : ByteArray
def i64 (n : Int) : Prop := -9223372036854775808 ≤ n ∧ n ≤ 9223372036854775807
def u64 (n : Int) : Prop := 0 ≤ n ∧ n ≤ 18446744073709551615
def u32 (n : Int) : Prop := 0 ≤ n ∧ n ≤ 4294967295
structure OpD.Ok (o : OpD) : Prop where
 K : i64 o.K
 E : u64 o.E
 C : i64 o.C
 P : ∀ p ∈ o.P, p.Ok
 A : u32 o.A
 N : u32 o.N
 cK : i64 o.cK
 cE : u64 o.cE
 cC : i64 o.cC
 cP : ∀ p ∈ o.cP, p.Ok
 U : i64 o.U
end Tl
open Tl
/-- numbers that can be read at a slice -/
def InV (w : World) (s : Value) (v : List WI) : Prop := ∃ a c, s = .slice a v.length c ∧ (v = [] ∨ ∃ g o, a = some ⟨g, o, none⟩ ∧ g < w.heap.size ∧ ∀ j (hj : j < v.length), w.cell? ⟨g, o + j * 3, none⟩ = some (.bool v[j].n) ∧ w.cell? ⟨g, o + j * 3 + 1, none⟩ = some (.int .u64 v[j].h) ∧ w.cell? ⟨g, o + j * 3 + 2, none⟩ = some (.int .u64 v[j].l))
theorem InV.below {w w' : World} {s : Value} {v : List WI} (h : InV w s v) (hb : Below w.heap.size w w') : InV w' s v := by
 obtain ⟨a, c, rfl, h⟩ := h
 refine ⟨a, c, rfl, ?_⟩
 rcases h with rfl | ⟨g, o, rfl, hg, hc⟩
 ·exact .inl rfl
 ·refine .inr ⟨g, o, rfl, Nat.lt_of_lt_of_le hg hb.size, fun j hj => ?_⟩
  obtain ⟨h0, h1, h2⟩ := hc j hj
  exact ⟨(hb.cell (p := ⟨g, o + j * 3, none⟩) hg).trans h0, (hb.cell (p := ⟨g, o + j * 3 + 1, none⟩) hg).trans h1, (hb.cell (p := ⟨g, o + j * 3 + 2, none⟩) hg).trans h2⟩
theorem InV.nil (w : World) (c : Nat) (a : Option Addr) : InV w (.slice a 0 c) [] := ⟨a, c, rfl, .inl rfl⟩
/-- parts that can be read at a slice -/
def InS (w : World) (s : Value) (l : List PartD) : Prop := ∃ a c, s = .slice a l.length c ∧ (l = [] ∨ ∃ g o, a = some ⟨g, o, none⟩ ∧ g < w.heap.size ∧ ∀ j (hj : j < l.length), w.cell? ⟨g, o + j * 2, none⟩ = some (.int .i64 l[j].C) ∧ ∃ t, w.cell? ⟨g, o + j * 2 + 1, none⟩ = some t ∧ InV w t l[j].V)
theorem InS.below {w w' : World} {s : Value} {l : List PartD} (h : InS w s l) (hb : Below w.heap.size w w') : InS w' s l := by
 obtain ⟨a, c, rfl, h⟩ := h
 refine ⟨a, c, rfl, ?_⟩
 rcases h with rfl | ⟨g, o, rfl, hg, hc⟩
 ·exact .inl rfl
 ·refine .inr ⟨g, o, rfl, Nat.lt_of_lt_of_le hg hb.size, fun j hj => ?_⟩
  obtain ⟨h0, t, h1, h2⟩ := hc j hj
  exact ⟨(hb.cell (p := ⟨g, o + j * 2, none⟩) hg).trans h0, t, (hb.cell (p := ⟨g, o + j * 2 + 1, none⟩) hg).trans h1, h2.below hb⟩
theorem InS.nil (w : World) (c : Nat) (a : Option Addr) : InS w (.slice a 0 c) [] := ⟨a, c, rfl, .inl rfl⟩
/-- an element -/
theorem InV.at {w : World} {a : Option Addr} {n c : Nat} {v : List WI} (h : InV w (.slice a n c) v) (j : Nat) (hj : j < v.length) : ∃ g o, a = some ⟨g, o, none⟩ ∧ g < w.heap.size ∧ w.cell? ⟨g, o + j * 3, none⟩ = some (.bool v[j].n) ∧ w.cell? ⟨g, o + j * 3 + 1, none⟩ = some (.int .u64 v[j].h) ∧ w.cell? ⟨g, o + j * 3 + 2, none⟩ = some (.int .u64 v[j].l) := by
 obtain ⟨a', c', e, h⟩ := h
 cases e
 rcases h with rfl | ⟨g, o, h1, h2, h3⟩
 ·cases hj
 ·exact ⟨g, o, h1, h2, h3 j hj⟩
theorem InS.at {w : World} {a : Option Addr} {n c : Nat} {l : List PartD} (h : InS w (.slice a n c) l) (j : Nat) (hj : j < l.length) : ∃ g o t, a = some ⟨g, o, none⟩ ∧ g < w.heap.size ∧ w.cell? ⟨g, o + j * 2, none⟩ = some (.int .i64 l[j].C) ∧ w.cell? ⟨g, o + j * 2 + 1, none⟩ = some t ∧ InV w t l[j].V := by
 obtain ⟨a', c', e, h⟩ := h
 cases e
 rcases h with rfl | ⟨g, o, h1, h2, h3⟩
 ·cases hj
 ·obtain ⟨k0, t, k1, k2⟩ := h3 j hj
  exact ⟨g, o, t, h1, h2, k0, k1, k2⟩
/-- a part as a value -/
def partv (C : Int) (t : Value) : Value := .agg #[.int .i64 C, t]
/-- an op as a value: its two rows of parts at s and t -/
def opv (o : OpD) (s t : Value) : Value := .agg #[.int .i64 o.K, .int .u64 o.E, .int .i64 o.C, s, .int .u32 o.A, .int .u32 o.N, .int .i64 o.cK, .int .u64 o.cE, .int .i64 o.cC, t, .int .i64 o.U, .string o.B]
def opc (o : OpD) (s t : Value) : Array Value := #[.int .i64 o.K, .int .u64 o.E, .int .i64 o.C, s, .int .u32 o.A, .int .u32 o.N, .int .i64 o.cK, .int .u64 o.cE, .int .i64 o.cC, t, .int .i64 o.U, .string o.B]
def OpIn (w : World) (o : OpD) (s t : Value) : Prop := InS w s o.P ∧ InS w t o.cP
theorem OpIn.below {w w' : World} {o : OpD} {s t : Value} (h : OpIn w o s t) (hb : Below w.heap.size w w') : OpIn w' o s t := ⟨h.1.below hb, h.2.below hb⟩
end Go.Proofs.YtjjgbillihedgaaGreatDoor
namespace Go.Proofs.YtjjgbillihedgaaGreatDoor
open Go.ChangeShapes Go.WideShapes Go.RowKit Go.Deep
open Rf
open Sg
open Wide
open Tl
theorem pick_list {α : Type} (Q : Nat → α → Prop) : ∀ n : Nat, (∀ i, i < n → ∃ y, Q i y) → ∃ l : List α, l.length = n ∧ ∀ j (hj : j < l.length), Q j l[j]
 | 0, _ => ⟨[], rfl, fun j hj => absurd hj (Nat.not_lt_zero _)⟩
 | n + 1, h => by
   obtain ⟨l, hl, hq⟩ := pick_list Q n (fun i hi => h i (by omega))
   obtain ⟨y, hy⟩ := h n (by omega)
   refine ⟨l ++ [y], by simp [hl], fun j hj => ?_⟩
   rcases Nat.lt_or_ge j l.length with h' | h'
   ·rw [List.getElem_append_left h']; exact hq j h'
   ·have hj' : j = l.length := by rw [List.length_append] at hj; simp at hj; omega
    subst hj'
    rw [List.getElem_append_right (Nat.le_refl _)]
    simpa [hl] using hy
theorem list2 : ∀ {cs : List Value}, cs.length = 2 → ∃ v0 v1, cs = [v0, v1]
 | [v0, v1], _ => ⟨_, _, rfl⟩
theorem list3 : ∀ {cs : List Value}, cs.length = 3 → ∃ v0 v1 v2, cs = [v0, v1, v2]
 | [v0, v1, v2], _ => ⟨_, _, _, rfl⟩
theorem list12 : ∀ {cs : List Value}, cs.length = 12 → ∃ v0 v1 v2 v3 v4 v5 v6 v7 v8 v9 v10 v11, cs = [v0, v1, v2, v3, v4, v5, v6, v7, v8, v9, v10, v11]
 | [v0, v1, v2, v3, v4, v5, v6, v7, v8, v9, v10, v11], _ => ⟨_, _, _, _, _, _, _, _, _, _, _, _, rfl⟩
def shapeOf (P : Program) (t : TypeId) : List (Nat × TypeId) := match P.underlying t with | some (.struct fs) => fs.toList.map (fun f => (f.offset, f.type)) | _ => []
section
variable {H : Type} {enc : TypeId × Value → H} {w : World} {base : Nat} {spare : Nat → Bool} {held : Bool} {fuel : Nat}
theorem struct_open {t : TypeId} (L : List (Nat × TypeId)) (hL : shapeOf Tryz.prog t = L) (hne : L ≠ []) {cs : List Value} {x : DataW H × List MemPlace} (h : DataW.trod enc Tryz.prog w base spare held fuel t cs = some x) :
 ∃ n, cs.length = Tryz.prog.cellsOf t ∧ ∀ (i o : Nat) (T : TypeId), L[i]? = some (o, T) → ∃ y, DataW.trod enc Tryz.prog w base spare held n T ((cs.drop o).take (Tryz.prog.cellsOf T)) = some y := by
 unfold shapeOf at hL
 split at hL
 ·rename_i fs hu
  obtain ⟨xs, n, _, _, hlen, hxl, hg⟩ := DataW.trod_struct hu h
  refine ⟨n, hlen, fun i o T hi => ?_⟩
  rw [← hL] at hi
  rw [List.getElem?_map] at hi
  obtain ⟨f, hf, he⟩ := Option.map_eq_some_iff.1 hi
  cases he
  have hf' : fs[i]? = some f := by simpa using hf
  have := hg i f hf'
  have hlt : i < xs.length := by rw [hxl]; exact (Array.getElem?_eq_some_iff.1 hf').1
  exact ⟨xs[i], this.trans (List.getElem?_eq_getElem hlt)⟩
 ·exact absurd hL.symm hne
theorem shape_Int : shapeOf Tryz.prog 61 = [(0, 4), (1, 22), (2, 22)] := by kernel_rfl
theorem shape_Part : shapeOf Tryz.prog 65 = [(0, 3), (1, 63)] := by kernel_rfl
theorem shape_Op : shapeOf Tryz.prog 32 = [(0, 3), (1, 23), (2, 3), (3, 24), (4, 28), (6, 30), (10, 3), (11, 9)] := by kernel_rfl
theorem shape_Query : shapeOf Tryz.prog 28 = [(0, 26), (1, 26)] := by kernel_rfl
theorem shape_Cmd : shapeOf Tryz.prog 30 = [(0, 3), (1, 23), (2, 3), (3, 24)] := by kernel_rfl
theorem cells_Int : Tryz.prog.cellsOf 61 = 3 := by kernel_rfl
theorem cells_Part : Tryz.prog.cellsOf 65 = 2 := by kernel_rfl
theorem cells_Op : Tryz.prog.cellsOf 32 = 12 := by kernel_rfl
theorem cells_Query : Tryz.prog.cellsOf 28 = 2 := by kernel_rfl
theorem cells_Cmd : Tryz.prog.cellsOf 30 = 4 := by kernel_rfl
theorem cells_1a : Tryz.prog.cellsOf 4 = 1 ∧ Tryz.prog.cellsOf 22 = 1 ∧ Tryz.prog.cellsOf 3 = 1 ∧ Tryz.prog.cellsOf 23 = 1 ∧ Tryz.prog.cellsOf 26 = 1 ∧ Tryz.prog.cellsOf 9 = 1 ∧ Tryz.prog.cellsOf 24 = 1 ∧ Tryz.prog.cellsOf 63 = 1 := by
 refine ⟨?_, ?_, ?_, ?_, ?_, ?_, ?_, ?_⟩ <;> kernel_rfl
theorem row_Int : Tryz.prog.underlying 63 = some (.slice 61) := by kernel_rfl
theorem row_Part : Tryz.prog.underlying 24 = some (.slice 65) := by kernel_rfl
theorem row_Op : Tryz.prog.underlying 55 = some (.slice 32) := by kernel_rfl
theorem in_int {cs : List Value} {x : DataW H × List MemPlace} (h : DataW.trod enc Tryz.prog w base spare held fuel 3 cs = some x) : ∃ n : Int, cs = [.int .i64 n] ∧ i64 n := by
 obtain ⟨n, h0, _, h1⟩ := DataW.trod_int (k := .i64) (by kernel_rfl) h
 have := bounds_i64 h1
 exact ⟨n, h0, by unfold i64; omega⟩
theorem in_u64 {cs : List Value} {x : DataW H × List MemPlace} (h : DataW.trod enc Tryz.prog w base spare held fuel 22 cs = some x) : ∃ n : Int, cs = [.int .u64 n] ∧ u64 n := by
 obtain ⟨n, h0, _, h1⟩ := DataW.trod_int (k := .u64) (by kernel_rfl) h
 have := bounds_u64 h1
 exact ⟨n, h0, by unfold u64; omega⟩
theorem in_ent {cs : List Value} {x : DataW H × List MemPlace} (h : DataW.trod enc Tryz.prog w base spare held fuel 23 cs = some x) : ∃ n : Int, cs = [.int .u64 n] ∧ u64 n := by
 obtain ⟨n, h0, _, h1⟩ := DataW.trod_int (k := .u64) (by kernel_rfl) h
 have := bounds_u64 h1
 exact ⟨n, h0, by unfold u64; omega⟩
theorem in_sig {cs : List Value} {x : DataW H × List MemPlace} (h : DataW.trod enc Tryz.prog w base spare held fuel 26 cs = some x) : ∃ n : Int, cs = [.int .u32 n] ∧ u32 n := by
 obtain ⟨n, h0, _, h1⟩ := DataW.trod_int (k := .u32) (by kernel_rfl) h
 have := bounds_u32 h1
 exact ⟨n, h0, by unfold u32; omega⟩
theorem in_WI {cs : List Value} {x : DataW H × List MemPlace} (h : DataW.trod enc Tryz.prog w base spare held fuel 61 cs = some x) : ∃ y : WI, y.Ok ∧ cs = [.bool y.n, .int .u64 y.h, .int .u64 y.l] := by
 obtain ⟨n, hl, hf⟩ := struct_open _ shape_Int (by simp) h
 rw [cells_Int] at hl
 obtain ⟨k0, k1, _⟩ := cells_1a
 obtain ⟨v0, v1, v2, rfl⟩ : ∃ v0 v1 v2, cs = [v0, v1, v2] := list3 hl
 obtain ⟨y0, g0⟩ := hf 0 _ _ rfl
 obtain ⟨y1, g1⟩ := hf 1 _ _ rfl
 obtain ⟨y2, g2⟩ := hf 2 _ _ rfl
 rw [k0] at g0
 rw [k1] at g1 g2
 change DataW.trod enc _ w base spare held n _ [v0] = _ at g0
 change DataW.trod enc _ w base spare held n _ [v1] = _ at g1
 change DataW.trod enc _ w base spare held n _ [v2] = _ at g2
 obtain ⟨b, e0, _⟩ := DataW.trod_bool (by kernel_rfl) g0
 obtain ⟨p, e1, q1⟩ := in_u64 g1
 obtain ⟨q, e2, q2⟩ := in_u64 g2
 cases e0
 cases e1
 cases e2
 exact ⟨⟨b, p, q⟩, ⟨q1.1, q1.2, q2.1, q2.2⟩, rfl⟩
theorem in_vals {v : Value} {x : DataW H × List MemPlace} (h : DataW.trod enc Tryz.prog w base spare held fuel 63 [v] = some x) : ∃ l : List WI, (∀ y ∈ l, y.Ok) ∧ InV w v l := by
 rcases open_slice row_Int h with ⟨hcs, _⟩ | ⟨x, n, c, m, f, D, Pl, hcs, _, hl, hm, hmm, _, hi⟩
 ·cases hcs
  exact ⟨[], by simp, ⟨none, 0, rfl, .inl rfl⟩⟩
 ·cases hcs
  have hlm : n ≤ m := by rw [hmm]; split <;> omega
  have key : ∀ i, i < n → ∃ y : WI, y.Ok ∧ w.cell? (x.add (i * 3)) = some (.bool y.n) ∧ w.cell? ((x.add (i * 3)).add 1) = some (.int .u64 y.h) ∧ w.cell? ((x.add (i * 3)).add 2) = some (.int .u64 y.l) := by
   intro i hin
   obtain ⟨cs', hc, ht'⟩ := hi i (by omega)
   rw [cells_Int] at hc
   obtain ⟨y, hy, rfl⟩ := in_WI ht'
   obtain ⟨_, _, hat⟩ := World.cells?_some hc
   have e0 := hat 0 (by omega)
   have e1 := hat 1 (by omega)
   have e2 := hat 2 (by omega)
   exact ⟨y, hy, by simpa [Addr.add] using e0, by simpa using e1, by simpa using e2⟩
  obtain ⟨l, hll, hq⟩ := pick_list _ n key
  refine ⟨l, fun y hy => ?_, some x, c, by rw [hll], ?_⟩
  ·obtain ⟨j, hj, rfl⟩ := List.getElem_of_mem hy
   exact (hq j hj).1
  ·rcases Nat.eq_zero_or_pos n with h0 | h0
   ·exact .inl (List.eq_nil_of_length_eq_zero (by omega))
   ·obtain ⟨b, off, spot⟩ := x
    obtain ⟨_, hc0, _⟩ := hq 0 (by omega)
    have hspot : spot = none := by simpa [Addr.add] using World.cell?_spot hc0
    subst hspot
    have hlt := World.block_lt_of_cell? _ _ hc0
    refine .inr ⟨b, off, rfl, by simpa [Addr.add] using hlt, fun j hj => ?_⟩
    obtain ⟨_, f0, f1, f2⟩ := hq j hj
    simp only [Addr.add_lit] at f0 f1 f2
    exact ⟨f0, f1, f2⟩
theorem in_part {cs : List Value} {x : DataW H × List MemPlace} (h : DataW.trod enc Tryz.prog w base spare held fuel 65 cs = some x) : ∃ y : PartD, y.Ok ∧ ∃ t, cs = [.int .i64 y.C, t] ∧ InV w t y.V := by
 obtain ⟨n, hl, hf⟩ := struct_open _ shape_Part (by simp) h
 rw [cells_Part] at hl
 obtain ⟨_, _, k0, _, _, _, _, k1⟩ := cells_1a
 obtain ⟨v0, v1, rfl⟩ : ∃ v0 v1, cs = [v0, v1] := list2 hl
 obtain ⟨y0, g0⟩ := hf 0 _ _ rfl
 obtain ⟨y1, g1⟩ := hf 1 _ _ rfl
 rw [k0] at g0
 rw [k1] at g1
 change DataW.trod enc _ w base spare held n _ [v0] = _ at g0
 change DataW.trod enc _ w base spare held n _ [v1] = _ at g1
 obtain ⟨p, e1, q1⟩ := in_int g0
 obtain ⟨l, q2, q3⟩ := in_vals g1
 cases e1
 exact ⟨⟨p, l⟩, ⟨q1.1, q1.2, q2⟩, v1, rfl, q3⟩
theorem in_parts {v : Value} {x : DataW H × List MemPlace} (h : DataW.trod enc Tryz.prog w base spare held fuel 24 [v] = some x) : ∃ l : List PartD, (∀ y ∈ l, y.Ok) ∧ InS w v l := by
 rcases open_slice row_Part h with ⟨hcs, _⟩ | ⟨x, n, c, m, f, D, Pl, hcs, _, hl, hm, hmm, _, hi⟩
 ·cases hcs
  exact ⟨[], by simp, ⟨none, 0, rfl, .inl rfl⟩⟩
 ·cases hcs
  have hlm : n ≤ m := by rw [hmm]; split <;> omega
  have key : ∀ i, i < n → ∃ y : PartD, y.Ok ∧ w.cell? (x.add (i * 2)) = some (.int .i64 y.C) ∧ ∃ t, w.cell? ((x.add (i * 2)).add 1) = some t ∧ InV w t y.V := by
   intro i hin
   obtain ⟨cs', hc, ht'⟩ := hi i (by omega)
   rw [cells_Part] at hc
   obtain ⟨y, hy, t, rfl, hv⟩ := in_part ht'
   obtain ⟨_, _, hat⟩ := World.cells?_some hc
   have e0 := hat 0 (by omega)
   have e1 := hat 1 (by omega)
   exact ⟨y, hy, by simpa [Addr.add] using e0, t, by simpa using e1, hv⟩
  obtain ⟨l, hll, hq⟩ := pick_list _ n key
  refine ⟨l, fun y hy => ?_, some x, c, by rw [hll], ?_⟩
  ·obtain ⟨j, hj, rfl⟩ := List.getElem_of_mem hy
   exact (hq j hj).1
  ·rcases Nat.eq_zero_or_pos n with h0 | h0
   ·exact .inl (List.eq_nil_of_length_eq_zero (by omega))
   ·obtain ⟨b, off, spot⟩ := x
    obtain ⟨_, hc0, _⟩ := hq 0 (by omega)
    have hspot : spot = none := by simpa [Addr.add] using World.cell?_spot hc0
    subst hspot
    have hlt := World.block_lt_of_cell? _ _ hc0
    refine .inr ⟨b, off, rfl, by simpa [Addr.add] using hlt, fun j hj => ?_⟩
    obtain ⟨_, f0, t, f1, f2⟩ := hq j hj
    simp only [Addr.add_lit] at f0 f1
    exact ⟨f0, t, f1, f2⟩
theorem in_op {cs : List Value} {x : DataW H × List MemPlace} (h : DataW.trod enc Tryz.prog w base spare held fuel 32 cs = some x) : ∃ y : OpD, y.Ok ∧ ∃ s t, cs = (opc y s t).toList ∧ OpIn w y s t ∧ y.B.size ≤ maxLen := by
 obtain ⟨n, hl, hf⟩ := struct_open _ shape_Op (by simp) h
 rw [cells_Op] at hl
 obtain ⟨_, _, kI, kE, kS, kB, kP, _⟩ := cells_1a
 obtain ⟨v0, v1, v2, v3, v4, v5, v6, v7, v8, v9, v10, v11, rfl⟩ : ∃ v0 v1 v2 v3 v4 v5 v6 v7 v8 v9 v10 v11, cs = [v0, v1, v2, v3, v4, v5, v6, v7, v8, v9, v10, v11] := list12 hl
 obtain ⟨y0, g0⟩ := hf 0 _ _ rfl
 obtain ⟨y1, g1⟩ := hf 1 _ _ rfl
 obtain ⟨y2, g2⟩ := hf 2 _ _ rfl
 obtain ⟨y3, g3⟩ := hf 3 _ _ rfl
 obtain ⟨y4, g4⟩ := hf 4 _ _ rfl
 obtain ⟨y5, g5⟩ := hf 5 _ _ rfl
 obtain ⟨y6, g6⟩ := hf 6 _ _ rfl
 obtain ⟨y7, g7⟩ := hf 7 _ _ rfl
 rw [kI] at g0 g2 g6
 rw [kE] at g1
 rw [kP] at g3
 rw [cells_Query] at g4
 rw [cells_Cmd] at g5
 rw [kB] at g7
 change DataW.trod enc _ w base spare held n _ [v0] = _ at g0
 change DataW.trod enc _ w base spare held n _ [v1] = _ at g1
 change DataW.trod enc _ w base spare held n _ [v2] = _ at g2
 change DataW.trod enc _ w base spare held n _ [v3] = _ at g3
 change DataW.trod enc _ w base spare held n _ [v4, v5] = _ at g4
 change DataW.trod enc _ w base spare held n _ [v6, v7, v8, v9] = _ at g5
 change DataW.trod enc _ w base spare held n _ [v10] = _ at g6
 change DataW.trod enc _ w base spare held n _ [v11] = _ at g7
 obtain ⟨n2, _, hf2⟩ := struct_open _ shape_Query (by simp) g4
 obtain ⟨y8, g8⟩ := hf2 0 _ _ rfl
 obtain ⟨y9, g9⟩ := hf2 1 _ _ rfl
 rw [kS] at g8 g9
 change DataW.trod enc _ w base spare held n2 _ [v4] = _ at g8
 change DataW.trod enc _ w base spare held n2 _ [v5] = _ at g9
 obtain ⟨n3, _, hf3⟩ := struct_open _ shape_Cmd (by simp) g5
 obtain ⟨z0, j0⟩ := hf3 0 _ _ rfl
 obtain ⟨z1, j1⟩ := hf3 1 _ _ rfl
 obtain ⟨z2, j2⟩ := hf3 2 _ _ rfl
 obtain ⟨z3, j3⟩ := hf3 3 _ _ rfl
 rw [kI] at j0 j2
 rw [kE] at j1
 rw [kP] at j3
 change DataW.trod enc _ w base spare held n3 _ [v6] = _ at j0
 change DataW.trod enc _ w base spare held n3 _ [v7] = _ at j1
 change DataW.trod enc _ w base spare held n3 _ [v8] = _ at j2
 change DataW.trod enc _ w base spare held n3 _ [v9] = _ at j3
 obtain ⟨a0, e0, b0⟩ := in_int g0
 obtain ⟨a1, e1, b1⟩ := in_ent g1
 obtain ⟨a2, e2, b2⟩ := in_int g2
 obtain ⟨P, q3, r3⟩ := in_parts g3
 obtain ⟨a4, e4, b4⟩ := in_sig g8
 obtain ⟨a5, e5, b5⟩ := in_sig g9
 obtain ⟨a6, e6, b6⟩ := in_int j0
 obtain ⟨a7, e7, b7⟩ := in_ent j1
 obtain ⟨a8, e8, b8⟩ := in_int j2
 obtain ⟨Q, q9, r9⟩ := in_parts j3
 obtain ⟨a10, e10, b10⟩ := in_int g6
 obtain ⟨a11, e11, _, b11⟩ := DataW.trod_string (by kernel_rfl) g7
 cases e0
 cases e1
 cases e2
 cases e4
 cases e5
 cases e6
 cases e7
 cases e8
 cases e10
 cases e11
 exact ⟨⟨a0, a1, a2, P, a4, a5, a6, a7, a8, Q, a10, a11⟩, ⟨b0, b1, b2, q3, b4, b5, b6, b7, b8, q9, b10⟩, v3, v9, rfl, ⟨r3, r9⟩, b11⟩
end
end Go.Proofs.YtjjgbillihedgaaGreatDoor
namespace Go.Proofs.YtjjgbillihedgaaGreatDoor
open Go.RowKit
open Rf
open Sg
open Wide
open Tl
namespace Tl
def idF (e : Int) : Int := e % 4294967296
def genF (e : Int) : Int := e / 4294967296
def entF (a b : Int) : Int := if 1 ≤ a ∧ 1 ≤ b ∧ a ≤ 4294967295 ∧ b ≤ 4294967295 then b * 4294967296 + a else 0
def isEntF (e : Int) : Bool := decide (1 ≤ idF e) && decide (1 ≤ genF e)
end Tl
theorem id_c (e : Int) (he : u64 e) : Still 58 #[.int .u64 e] (.int .i64 (idF e)) := fun w => by
 obtain ⟨e0, e1⟩ := he
 obtain ⟨n, rfl⟩ := Int.eq_ofNat_of_zero_le e0
 have h : bits .and .u64 (n : Int) 4294967295 = idF n := by
  rw [show (4294967295 : Int) = ((4294967295 : Nat) : Int) from rfl, u64_and_nat n 4294967295 (by omega) (by omega)]
  unfold idF
  rw [show (4294967295 : Nat) = 2 ^ 32 - 1 from rfl, Nat.and_two_pow_sub_one_eq_mod]
  omega
 have hb : 0 ≤ idF n ∧ idF n ≤ 4294967295 := by unfold idF; omega
 go_enter Tryz.func58, Tryz.ntmps58
 go_wp2_with fail
 go_ret
 exact ⟨rfl, rfl⟩
theorem gen_c (e : Int) (he : u64 e) : Still 59 #[.int .u64 e] (.int .i64 (genF e)) := fun w => by
 obtain ⟨e0, e1⟩ := he
 unfold genF
 go_enter Tryz.func59, Tryz.ntmps59
 go_wp2_with fail
 go_ret
 exact ⟨rfl, rfl⟩
theorem ent_c (a b : Int) (ha : i64 a) (hb : i64 b) : Still 65 #[.int .i64 a, .int .i64 b] (.int .u64 (entF a b)) := fun w => by
 obtain ⟨a0, a1⟩ := ha
 obtain ⟨b0, b1⟩ := hb
 by_cases h1 : 1 ≤ a ∧ 1 ≤ b
 ·by_cases h2 : a ≤ 4294967295 ∧ b ≤ 4294967295
  ·obtain ⟨p1, p2⟩ := h1
   obtain ⟨q1, q2⟩ := h2
   rw [show entF a b = b * 4294967296 + a from if_pos ⟨p1, p2, q1, q2⟩]
   have ho : bits .or .u64 (b * 4294967296) a = b * 4294967296 + a := by
    obtain ⟨n, rfl⟩ := Int.eq_ofNat_of_zero_le (show 0 ≤ a by omega)
    obtain ⟨m, rfl⟩ := Int.eq_ofNat_of_zero_le (show 0 ≤ b by omega)
    rw [show (m : Int) * 4294967296 = ((m * 4294967296 : Nat) : Int) by omega, u64_or_nat (m * 4294967296) n (by omega) (by omega), nat_join 32 (m * 4294967296) n (by omega) (by omega)]
    omega
   go_enter Tryz.func65, Tryz.ntmps65
   go_wp2_with fail
   go_ret
   exact ⟨rfl, rfl⟩
  ·rw [show entF a b = 0 from if_neg (fun h => h2 ⟨h.2.2.1, h.2.2.2⟩)]
   have h3 : 4294967295 < max a b := by omega
   have h4 : ¬ (min a b < 1) := by omega
   clear h1 h2
   go_enter Tryz.func65, Tryz.ntmps65
   go_wp2_with fail
   go_ret
   exact ⟨rfl, rfl⟩
 ·rw [show entF a b = 0 from if_neg (fun h => h1 ⟨h.1, h.2.1⟩)]
  have h4 : min a b < 1 := by omega
  clear h1
  go_enter Tryz.func65, Tryz.ntmps65
  go_wp2_with fail
  go_ret
  exact ⟨rfl, rfl⟩
theorem isEnt_c (e : Int) (he : u64 e) : Still 25 #[.int .u64 e] (.bool (isEntF e)) := fun w => by
 have c1 := id_c e he
 have c2 := gen_c e he
 unfold isEntF
 replace c1 := Hd c1
 replace c2 := Hd c2
 have hm : decide (1 ≤ min (idF e) (genF e)) = (decide (1 ≤ idF e) && decide (1 ≤ genF e)) := by
  rw [Bool.eq_iff_iff]
  simp only [decide_eq_true_iff, Bool.and_eq_true]
  omega
 rw [← hm]
 generalize idF e = x at *
 generalize genF e = y at *
 clear hm
 go_enter Tryz.func25, Tryz.ntmps25
 go_wp2_with fail
 refine (c1.out.on _).mono ?_
 rintro e w' ⟨rfl, rfl⟩
 go_wp2_with fail
 refine (c2.out.on _).mono ?_
 rintro e w' ⟨rfl, rfl⟩
 go_wp2_with fail
 go_ret
 exact ⟨by simp, rfl⟩
theorem kinds_c (w : World) : Calls Tryz.prog 60 #[] w fun e w' => e = .returned (.slice (some ⟨w.heap.size, 0, none⟩) 6 6) ∧ w' = w.alloc (.cells #[.int .i64 0, .int .i64 1, .int .i64 2, .int .i64 3, .int .i64 5, .int .i64 4] 3) := by
 go_enter Tryz.func60, Tryz.ntmps60
 go_wp2_with fail
 go_ret
 exact ⟨rfl, rfl⟩
namespace Tl
def sS : ByteArray := ⟨#[]⟩
/-- the words, by kind -/
def wordL : List ByteArray := [⟨#[]⟩, ⟨#[115, 112, 97, 119, 110]⟩, ⟨#[100, 101, 115, 112, 97, 119, 110]⟩, ⟨#[97, 100, 100]⟩, ⟨#[114, 101, 109, 111, 118, 101]⟩, ⟨#[115, 101, 116]⟩, ⟨#[103, 101, 116]⟩, ⟨#[113, 117, 101, 114, 121]⟩, ⟨#[100, 101, 102, 101, 114]⟩, ⟨#[102, 114, 97, 109, 101]⟩, ⟨#[98, 101, 103, 105, 110]⟩, ⟨#[97, 98, 111, 114, 116]⟩]
end Tl
theorem words_c (w : World) : Calls Tryz.prog 35 #[] w fun e w' => e = .returned (.slice (some ⟨w.heap.size, 0, none⟩) 12 12) ∧ w' = w.alloc (.cells (wordL.map Value.string).toArray 9) := by
 go_enter Tryz.func35, Tryz.ntmps35
 go_wp2_with fail
 go_ret
 exact ⟨rfl, rfl⟩
/-- a function as a value -/
def fnv (f : FuncId) : Value := .func (.func f) #[] #[]
theorem isPart1_c (x : WI) (ho : x.Ok) : Ret 91 #[wv x] (.bool (!x.form)) := fun w => by
 have c := fun w => form_c x ho w
 unfold wv at c ⊢
 replace c := Hd c
 have hb0 := Hd (below1 w (.cells #[.bool x.n, .int .u64 x.h, .int .u64 x.l] 61))
 go_enter Tryz.func91, Tryz.ntmps91
 go_wp2_with fail
 refine (c.out _).mono ?_
 rintro e w1 ⟨rfl, hb1⟩
 have hb := Hd (below_up hb0.out hb0.out.size hb1)
 clear hb1 hb0
 go_wp2_with fail
 go_ret
 exact ⟨rfl, hb.out⟩
theorem indexV_c (v : List WI) (hv : ∀ x ∈ v, x.Ok) (hL : v.length ≤ 1000000) (s : Value) (w : World) (hin : InV w s v) :
 Calls Tryz.prog 117 #[s, fnv 91] w fun e w' => (∃ r, e = .returned (.int .i64 r) ∧ decide (0 ≤ r) = v.any (fun x => !x.form)) ∧ Below w.heap.size w w' := by
 obtain ⟨a, c, rfl, _⟩ := id hin
 obtain ⟨R, hR⟩ : ∃ R, v.any (fun x => !x.form) = R := ⟨_, rfl⟩
 rw [hR]
 replace hR := Hd hR
 replace hin := Hd hin
 replace hv := Hd hv
 unfold fnv
 go_enter Tryz.func117, Tryz.ntmps117
 go_wp2_with fail
 go_loopw [8] (fun i wr => ∃ j : Nat, j ≤ v.length ∧ i = .int .i64 j ∧ (v.take j).any (fun x => !x.form) = false ∧ Below w.heap.size w wr) (fun i _ => v.length - (intOf i).toNat)
 case atStart => exact ⟨0, Nat.zero_le _, rfl, rfl, Below.refl _ _⟩
 case round =>
  obtain ⟨j, hj, rfl, hno, hb⟩ := hrel
  by_cases hlt : j < v.length
  ·obtain ⟨g, o, hga, hg, h0, h1, h2⟩ := (hin.out.below hb).at j hlt
   subst hga
   have hltI : (j : Int) < (v.length : Int) := by omega
   have hst : v.take (j + 1) = v.take j ++ [v[j]] := List.take_succ_eq_append_getElem hlt
   have hmem : v[j] ∈ v := List.getElem_mem hlt
   have ho := hv.out _ hmem
   generalize v[j] = x at *
   have c1 := isPart1_c x ho
   unfold wv at c1
   have hbz := hb.size
   cases hx : x.form with
   | false =>
     rw [hx] at c1
     have hr := hR.out
     rw [List.any_eq_true.2 ⟨x, hmem, by rw [hx]; rfl⟩] at hr
     subst hr
     clear hst hno hmem hR hx ho
     replace c1 := Hd c1
     replace hb := Hd hb
     go_wp2_with fail
     refine (c1.out.on _).mono ?_
     rintro e w1 ⟨rfl, hb1⟩
     have hb2 := Hd (below_up hb.out hbz hb1)
     clear hb1 hb
     go_wp2_with fail
     go_ret
     exact ⟨⟨_, rfl, by simp⟩, hb2.out⟩
   | true =>
     rw [hx] at c1
     have hno' : (v.take (j + 1)).any (fun x => !x.form) = false := by
      rw [hst, List.any_append, hno]
      simp [hx]
     clear hst hno hmem hx ho
     replace hno' := Hd hno'
     replace c1 := Hd c1
     replace hb := Hd hb
     go_wp2_with fail
     refine (c1.out.on _).mono ?_
     rintro e w1 ⟨rfl, hb1⟩
     have hb2 := Hd (below_up hb.out hbz hb1)
     clear hb1 hb
     go_wp2_with fail
     go_roundw
     case rel => exact ⟨j + 1, by omega, by go_num, hno'.out, hb2.out⟩
     case measure => simp [intOf]; omega
  ·obtain rfl : j = v.length := by omega
   rw [List.take_length] at hno
   have hr := hR.out
   rw [hno] at hr
   subst hr
   clear hno hR
   replace hb := Hd hb
   go_wp2_with fail
   go_ret
   exact ⟨⟨_, rfl, by simp⟩, hb.out⟩
theorem containsV_c (v : List WI) (hv : ∀ x ∈ v, x.Ok) (hL : v.length ≤ 1000000) (s : Value) (w : World) (hin : InV w s v) :
 Calls Tryz.prog 90 #[s, fnv 91] w fun e w' => e = .returned (.bool (v.any (fun x => !x.form))) ∧ Below w.heap.size w w' := by
 have c := Hd (indexV_c v hv hL s w hin)
 obtain ⟨a, cp, rfl, _⟩ := hin
 clear hv
 unfold fnv at *
 go_enter Tryz.func90, Tryz.ntmps90
 go_wp2_with fail
 refine c.out.mono ?_
 rintro e w1 ⟨⟨r, rfl, hr⟩, hb⟩
 replace hr := Hd hr
 replace hb := Hd hb
 clear c
 go_wp2_with fail
 go_ret
 exact ⟨by rw [← hr.out]; rfl, hb.out⟩
namespace Tl
def isPartF (v : List WI) : Bool := decide (v.length ≤ 100) && v.all WI.form
end Tl
theorem any_not (v : List WI) : v.any (fun x => !x.form) = !v.all WI.form := by
 induction v with
 | nil => rfl
 | cons x v ih => rw [List.any_cons, List.all_cons, ih, Bool.not_and]
theorem isPart_c (C : Int) (v : List WI) (hv : ∀ x ∈ v, x.Ok) (hL : v.length ≤ 1000000) (t : Value) (w : World) (hin : InV w t v) :
 Calls Tryz.prog 57 #[partv C t] w fun e w' => e = .returned (.bool (isPartF v)) ∧ Below w.heap.size w w' := by
 have hb0 := below1 w (.cells #[.int .i64 C, t] 65)
 have c := containsV_c v hv hL t _ (hin.below hb0)
 rw [any_not] at c
 obtain ⟨a, cp, rfl, _⟩ := hin
 unfold partv isPartF
 generalize v.all WI.form = f at *
 unfold fnv at c
 replace c := Hd c
 replace hb0 := Hd hb0
 clear hv
 by_cases h : (v.length : Int) ≤ 100
 ·rw [decide_eq_true (show v.length ≤ 100 by omega)]
  go_enter Tryz.func57, Tryz.ntmps57
  go_wp2_with fail
  refine c.out.mono ?_
  rintro e w1 ⟨rfl, hb1⟩
  have hb := Hd (below_up hb0.out hb0.out.size hb1)
  clear hb1 hb0 c
  go_wp2_with fail
  go_ret
  exact ⟨by simp, hb.out⟩
 ·rw [decide_eq_false (show ¬ v.length ≤ 100 by omega)]
  clear c
  go_enter Tryz.func57, Tryz.ntmps57
  go_wp2_with fail
  go_ret
  exact ⟨by simp, hb0.out⟩
theorem isParts1_c (C : Int) (v : List WI) (hv : ∀ x ∈ v, x.Ok) (hL : v.length ≤ 1000000) (t : Value) (w : World) (hin : InV w t v) :
 Calls Tryz.prog 56 #[partv C t] w fun e w' => e = .returned (.bool (!isPartF v)) ∧ Below w.heap.size w w' := by
 have hb0 := below1 w (.cells #[.int .i64 C, t] 65)
 have c := isPart_c C v hv hL t _ (hin.below hb0)
 obtain ⟨a, cp, rfl, _⟩ := hin
 unfold partv at *
 generalize isPartF v = f at *
 replace c := Hd c
 replace hb0 := Hd hb0
 clear hv
 go_enter Tryz.func56, Tryz.ntmps56
 go_wp2_with fail
 refine c.out.mono ?_
 rintro e w1 ⟨rfl, hb1⟩
 have hb := Hd (below_up hb0.out hb0.out.size hb1)
 clear hb1 hb0 c
 go_wp2_with fail
 go_ret
 exact ⟨rfl, hb.out⟩
namespace Tl
/-- what is asked of parts' sizes -/
def Small (l : List PartD) : Prop := l.length ≤ 1000000 ∧ ∀ p ∈ l, p.Ok ∧ p.V.length ≤ 1000000
end Tl
theorem indexS_c (l : List PartD) (hl : Small l) (s : Value) (w : World) (hin : InS w s l) :
 Calls Tryz.prog 89 #[s, fnv 56] w fun e w' => (∃ r, e = .returned (.int .i64 r) ∧ decide (0 ≤ r) = l.any (fun p => !isPartF p.V)) ∧ Below w.heap.size w w' := by
 obtain ⟨a, c, rfl, _⟩ := id hin
 obtain ⟨hL, hv⟩ := hl
 obtain ⟨R, hR⟩ : ∃ R, l.any (fun p => !isPartF p.V) = R := ⟨_, rfl⟩
 rw [hR]
 replace hR := Hd hR
 replace hin := Hd hin
 replace hv := Hd hv
 unfold fnv
 go_enter Tryz.func89, Tryz.ntmps89
 go_wp2_with fail
 go_loopw [8] (fun i wr => ∃ j : Nat, j ≤ l.length ∧ i = .int .i64 j ∧ (l.take j).any (fun p => !isPartF p.V) = false ∧ Below w.heap.size w wr) (fun i _ => l.length - (intOf i).toNat)
 case atStart => exact ⟨0, Nat.zero_le _, rfl, rfl, Below.refl _ _⟩
 case round =>
  obtain ⟨j, hj, rfl, hno, hb⟩ := hrel
  by_cases hlt : j < l.length
  ·obtain ⟨g, o, t, hga, hg, h0, h1, h2⟩ := (hin.out.below hb).at j hlt
   subst hga
   have hltI : (j : Int) < (l.length : Int) := by omega
   have hst : l.take (j + 1) = l.take j ++ [l[j]] := List.take_succ_eq_append_getElem hlt
   have hmem : l[j] ∈ l := List.getElem_mem hlt
   obtain ⟨ho, hvl⟩ := hv.out _ hmem
   generalize l[j] = x at *
   have c1 := isParts1_c x.C x.V ho.2.2 hvl t wr h2
   unfold partv at c1
   obtain ⟨ta, tc, rfl, _⟩ := h2
   have hbz := hb.size
   cases hx : isPartF x.V with
   | false =>
     rw [hx] at c1
     have hr := hR.out
     rw [List.any_eq_true.2 ⟨x, hmem, by rw [hx]; rfl⟩] at hr
     subst hr
     clear hst hno hmem hR hx ho
     replace c1 := Hd c1
     replace hb := Hd hb
     go_wp2_with fail
     refine c1.out.mono ?_
     rintro e w1 ⟨rfl, hb1⟩
     have hb2 := Hd (below_up hb.out hbz hb1)
     clear hb1 hb
     go_wp2_with fail
     go_ret
     exact ⟨⟨_, rfl, by simp⟩, hb2.out⟩
   | true =>
     rw [hx] at c1
     have hno' : (l.take (j + 1)).any (fun p => !isPartF p.V) = false := by
      rw [hst, List.any_append, hno]
      simp [hx]
     clear hst hno hmem hx ho
     replace hno' := Hd hno'
     replace c1 := Hd c1
     replace hb := Hd hb
     go_wp2_with fail
     refine c1.out.mono ?_
     rintro e w1 ⟨rfl, hb1⟩
     have hb2 := Hd (below_up hb.out hbz hb1)
     clear hb1 hb
     go_wp2_with fail
     go_roundw
     case rel => exact ⟨j + 1, by omega, by go_num, hno'.out, hb2.out⟩
     case measure => simp [intOf]; omega
  ·obtain rfl : j = l.length := by omega
   rw [List.take_length] at hno
   have hr := hR.out
   rw [hno] at hr
   subst hr
   clear hno hR
   replace hb := Hd hb
   go_wp2_with fail
   go_ret
   exact ⟨⟨_, rfl, by simp⟩, hb.out⟩
theorem containsS_c (l : List PartD) (hl : Small l) (s : Value) (w : World) (hin : InS w s l) :
 Calls Tryz.prog 55 #[s, fnv 56] w fun e w' => e = .returned (.bool (l.any (fun p => !isPartF p.V))) ∧ Below w.heap.size w w' := by
 have c := Hd (indexS_c l hl s w hin)
 obtain ⟨a, cp, rfl, _⟩ := hin
 clear hl
 unfold fnv at *
 go_enter Tryz.func55, Tryz.ntmps55
 go_wp2_with fail
 refine c.out.mono ?_
 rintro e w1 ⟨⟨r, rfl, hr⟩, hb⟩
 replace hr := Hd hr
 replace hb := Hd hb
 clear c
 go_wp2_with fail
 go_ret
 exact ⟨by rw [← hr.out]; rfl, hb.out⟩
theorem WI.ext' {x y : WI} (h1 : x.n = y.n) (h2 : x.h = y.h) (h3 : x.l = y.l) : x = y := by
 cases x; cases y; simp_all
namespace Tl
def eqI (x y : WI) : Bool := (x.n == y.n) && ((x.h == y.h) && (x.l == y.l))
end Tl
theorem eqI_iff (x y : WI) : eqI x y = true ↔ x = y := by
 unfold eqI
 simp only [Bool.and_eq_true, beq_iff_eq]
 constructor
 ·rintro ⟨h1, h2, h3⟩; exact WI.ext' h1 h2 h3
 ·rintro rfl; exact ⟨rfl, rfl, rfl⟩
instance : DecidableEq WI := fun x y => decidable_of_iff _ (eqI_iff x y)
theorem take_ne {α : Type} {v u : List α} {j : Nat} (h : j < v.length) (k : j < u.length) (hne : v[j] ≠ u[j]) : v ≠ u := by
 rintro rfl
 exact hne rfl
theorem equalV_c (v u : List WI) (hL : v.length ≤ 1000000) (s t : Value) (w : World) (hin : InV w s v) (hjn : InV w t u) :
 Calls Tryz.prog 113 #[s, t] w fun e w' => e = .returned (.bool (decide (v = u))) ∧ Below w.heap.size w w' := by
 obtain ⟨a, c, rfl, _⟩ := id hin
 obtain ⟨b, d, rfl, _⟩ := id hjn
 obtain ⟨R, hR⟩ : ∃ R, decide (v = u) = R := ⟨_, rfl⟩
 rw [hR]
 replace hR := Hd hR
 replace hin := Hd hin
 replace hjn := Hd hjn
 by_cases hlen : v.length = u.length
 ·have e0 : ((v.length : Int) != (u.length : Int)) = false := by rw [hlen]; simp
  go_enter Tryz.func113, Tryz.ntmps113
  go_wp2_with fail
  go_loopw [13] (fun i wr => ∃ j : Nat, j ≤ v.length ∧ i = .int .i64 j ∧ v.take j = u.take j ∧ Below w.heap.size w wr) (fun i _ => v.length - (intOf i).toNat)
  case atStart => exact ⟨0, Nat.zero_le _, rfl, rfl, Below.refl _ _⟩
  case round =>
   obtain ⟨j, hj, rfl, hno, hb⟩ := hrel
   by_cases hlt : j < v.length
   ·have hlt2 : j < u.length := by omega
    obtain ⟨g, o, hga, hg, h0, h1, h2⟩ := (hin.out.below hb).at j hlt
    obtain ⟨g', o', hga', hg', h0', h1', h2'⟩ := (hjn.out.below hb).at j hlt2
    subst hga
    subst hga'
    have hltI : (j : Int) < (v.length : Int) := by omega
    have hltJ : (j : Int) < (u.length : Int) := by omega
    have hst : v.take (j + 1) = v.take j ++ [v[j]] := List.take_succ_eq_append_getElem hlt
    have hsu : u.take (j + 1) = u.take j ++ [u[j]] := List.take_succ_eq_append_getElem hlt2
    have hne : v[j] ≠ u[j] → v ≠ u := take_ne hlt hlt2
    generalize v[j] = x at *
    generalize u[j] = y at *
    by_cases hxy : x = y
    ·subst hxy
     have hno' : v.take (j + 1) = u.take (j + 1) := by rw [hst, hsu, hno]
     clear hst hsu hno hne
     replace hno' := Hd hno'
     replace hb := Hd hb
     go_wp2_with fail
     go_quiet (fail)
     go_wp2_with fail
     go_roundw
     case rel => exact ⟨j + 1, by omega, by go_num, hno'.out, below_drewN hb.out⟩
     case measure => simp [intOf]; omega
    ·have hr := hR.out
     rw [decide_eq_false (hne hxy)] at hr
     subst hr
     clear hst hsu hno hne hR
     replace hb := Hd hb
     by_cases e1 : x.n = y.n
     ·by_cases e2 : x.h = y.h
      ·have e3 : ¬ x.l = y.l := fun e3 => hxy (WI.ext' e1 e2 e3)
       clear hxy
       obtain ⟨xn, xh, xl⟩ := x
       obtain ⟨yn, yh, yl⟩ := y
       dsimp only at *
       subst e1 e2
       go_wp2_with fail
       go_quiet (fail)
       go_wp2_with fail
       go_ret
       exact ⟨rfl, below_drewN hb.out⟩
      ·clear hxy
       obtain ⟨xn, xh, xl⟩ := x
       obtain ⟨yn, yh, yl⟩ := y
       dsimp only at *
       subst e1
       go_wp2_with fail
       go_quiet (fail)
       go_wp2_with fail
       go_ret
       exact ⟨rfl, below_drewN hb.out⟩
     ·clear hxy
      obtain ⟨xn, xh, xl⟩ := x
      obtain ⟨yn, yh, yl⟩ := y
      dsimp only at *
      go_wp2_with fail
      go_quiet (fail)
      go_wp2_with fail
      go_ret
      exact ⟨rfl, below_drewN hb.out⟩
   ·obtain rfl : j = v.length := by omega
    rw [List.take_length, hlen, List.take_length] at hno
    have hr := hR.out
    rw [decide_eq_true hno] at hr
    subst hr
    clear hno hR
    replace hb := Hd hb
    go_wp2_with fail
    go_ret
    exact ⟨rfl, hb.out⟩
 ·have e0 : ((v.length : Int) != (u.length : Int)) = true := bne_iff_ne.2 (by omega)
  have hr := hR.out
  rw [decide_eq_false (fun e => hlen (by rw [e]))] at hr
  subst hr
  clear hR
  go_enter Tryz.func113, Tryz.ntmps113
  go_wp2_with fail
  go_ret
  exact ⟨rfl, Below.refl _ _⟩
namespace Tl
theorem PartD.ext' {p q : PartD} (h1 : p.C = q.C) (h2 : p.V = q.V) : p = q := by cases p; cases q; simp_all
instance : DecidableEq PartD := fun p q => decidable_of_iff (p.C = q.C ∧ p.V = q.V) ⟨fun h => PartD.ext' h.1 h.2, fun h => by rw [h]; exact ⟨rfl, rfl⟩⟩
end Tl
theorem samePart_c (C D : Int) (v u : List WI) (hL : v.length ≤ 1000000) (s t : Value) (w : World) (hin : InV w s v) (hjn : InV w t u) :
 Calls Tryz.prog 85 #[partv C s, partv D t] w fun e w' => e = .returned (.bool (decide (C = D) && decide (v = u))) ∧ Below w.heap.size w w' := by
 have hb1 := (below1 w (.cells #[.int .i64 C, s] 65)).alloc (by rw [size_alloc]; omega) (.cells #[.int .i64 D, t] 65)
 have c := equalV_c v u hL s t _ (hin.below hb1) (hjn.below hb1)
 obtain ⟨a, cp, rfl, _⟩ := hin
 obtain ⟨b, cq, rfl, _⟩ := hjn
 unfold partv
 generalize decide (v = u) = f at *
 replace c := Hd c
 replace hb1 := Hd hb1
 have hs1 := hb1.out.size
 by_cases h : C = D
 ·subst h
  rw [decide_eq_true rfl, Bool.true_and]
  have e1 : (C == C) = true := beq_self_eq_true C
  go_enter Tryz.func85, Tryz.ntmps85
  go_wp2_with fail
  refine c.out.mono ?_
  rintro e w1 ⟨rfl, hb2⟩
  have hb := Hd (below_up hb1.out hs1 hb2)
  clear hb2 hb1 c
  go_wp2_with fail
  go_ret
  exact ⟨rfl, hb.out⟩
 ·rw [decide_eq_false h, Bool.false_and]
  have e1 : (C == D) = false := beq_eq_false_iff_ne.2 h
  clear c
  go_enter Tryz.func85, Tryz.ntmps85
  go_wp2_with fail
  go_ret
  exact ⟨rfl, hb1.out⟩
theorem equalS_c (l m : List PartD) (hl : Small l) (s t : Value) (w : World) (hin : InS w s l) (hjn : InS w t m) :
 Calls Tryz.prog 84 #[s, t, fnv 85] w fun e w' => e = .returned (.bool (decide (l = m))) ∧ Below w.heap.size w w' := by
 obtain ⟨a, c, rfl, _⟩ := id hin
 obtain ⟨b, d, rfl, _⟩ := id hjn
 obtain ⟨hL, hv⟩ := hl
 obtain ⟨R, hR⟩ : ∃ R, decide (l = m) = R := ⟨_, rfl⟩
 rw [hR]
 replace hR := Hd hR
 replace hin := Hd hin
 replace hjn := Hd hjn
 replace hv := Hd hv
 unfold fnv
 by_cases hlen : l.length = m.length
 ·have e0 : ((l.length : Int) != (m.length : Int)) = false := by rw [hlen]; simp
  replace hlen := Hd hlen
  go_enter Tryz.func84, Tryz.ntmps84
  go_wp2_with fail
  go_loopw [17] (fun i wr => ∃ j : Nat, j ≤ l.length ∧ i = .int .i64 j ∧ l.take j = m.take j ∧ Below w.heap.size w wr) (fun i _ => l.length - (intOf i).toNat)
  case atStart => exact ⟨0, Nat.zero_le _, rfl, rfl, Below.refl _ _⟩
  case round =>
   obtain ⟨j, hj, rfl, hno, hb⟩ := hrel
   by_cases hlt : j < l.length
   ·have hlt2 : j < m.length := by have := hlen.out; omega
    obtain ⟨g, o, ts, hga, hg, h0, h1, h2⟩ := (hin.out.below hb).at j hlt
    obtain ⟨g', o', tt, hga', hg', h0', h1', h2'⟩ := (hjn.out.below hb).at j hlt2
    subst hga
    subst hga'
    have hltI : (j : Int) < (l.length : Int) := by omega
    have hltJ : (j : Int) < (m.length : Int) := by omega
    have hst : l.take (j + 1) = l.take j ++ [l[j]] := List.take_succ_eq_append_getElem hlt
    have hsu : m.take (j + 1) = m.take j ++ [m[j]] := List.take_succ_eq_append_getElem hlt2
    have hne : l[j] ≠ m[j] → l ≠ m := take_ne hlt hlt2
    have hvl := (hv.out _ (List.getElem_mem hlt)).2
    generalize l[j] = x at *
    generalize m[j] = y at *
    have hbz := hb.size
    have hba := hb.alloc hbz (.cells #[.int .i64 x.C, ts] 65)
    have hb1 := hba.alloc hba.size (.cells #[.int .i64 y.C, tt] 65)
    have hbw := (below1 wr (.cells #[.int .i64 x.C, ts] 65)).alloc (by rw [size_alloc]; omega) (.cells #[.int .i64 y.C, tt] 65)
    have cs := samePart_c x.C y.C x.V y.V hvl ts tt _ (h2.below hbw) (h2'.below hbw)
    have h1'' : (wr.alloc (.cells #[.int .i64 x.C, ts] 65)).cell? ⟨g', o' + j * 2 + 1, none⟩ = some tt := ((below1 wr _).cell (p := ⟨g', o' + j * 2 + 1, none⟩) hg').trans h1'
    have h0'' : (wr.alloc (.cells #[.int .i64 x.C, ts] 65)).cell? ⟨g', o' + j * 2, none⟩ = some (.int .i64 y.C) := ((below1 wr _).cell (p := ⟨g', o' + j * 2, none⟩) hg').trans h0'
    have hbs1 := hb1.size
    obtain ⟨a1, cp1, rfl, _⟩ := h2
    obtain ⟨b1, cq1, rfl, _⟩ := h2'
    clear hba hbw
    unfold partv at cs
    by_cases hxy : x = y
    ·subst hxy
     rw [decide_eq_true rfl, decide_eq_true rfl, Bool.true_and] at cs
     have hno' : l.take (j + 1) = m.take (j + 1) := by rw [hst, hsu, hno]
     clear hst hsu hno hne
     replace hno' := Hd hno'
     replace hb1 := Hd hb1
     replace hb := Hd hb
     replace cs := Hd cs
     go_wp2_with fail
     refine cs.out.mono ?_
     rintro e w1 ⟨rfl, hb2⟩
     have hb3 := Hd (below_up hb1.out hbs1 hb2)
     clear hb2 hb1 cs hb
     go_wp2_with fail
     go_roundw
     case rel => exact ⟨j + 1, by omega, by go_num, hno'.out, hb3.out⟩
     case measure => simp [intOf]; omega
    ·have hr := hR.out
     rw [decide_eq_false (hne hxy)] at hr
     subst hr
     have e9 : (decide (x.C = y.C) && decide (x.V = y.V)) = false := by
      rw [Bool.and_eq_false_iff, decide_eq_false_iff_not, decide_eq_false_iff_not]
      by_cases hc : x.C = y.C
      ·exact .inr fun hv => hxy (PartD.ext' hc hv)
      ·exact .inl hc
     rw [e9] at cs
     clear hst hsu hno hne hR e9 hxy
     replace hb1 := Hd hb1
     replace hb := Hd hb
     replace cs := Hd cs
     go_wp2_with fail
     refine cs.out.mono ?_
     rintro e w1 ⟨rfl, hb2⟩
     have hb3 := Hd (below_up hb1.out hbs1 hb2)
     clear hb2 hb1 cs hb
     go_wp2_with fail
     go_ret
     exact ⟨rfl, hb3.out⟩
   ·obtain rfl : j = l.length := by omega
    rw [List.take_length, hlen.out, List.take_length] at hno
    have hr := hR.out
    rw [decide_eq_true hno] at hr
    subst hr
    clear hno hR
    replace hb := Hd hb
    go_wp2_with fail
    go_ret
    exact ⟨rfl, hb.out⟩
 ·have e0 : ((l.length : Int) != (m.length : Int)) = true := bne_iff_ne.2 (by omega)
  have hr := hR.out
  rw [decide_eq_false (fun e => hlen (by rw [e]))] at hr
  subst hr
  clear hR
  go_enter Tryz.func84, Tryz.ntmps84
  go_wp2_with fail
  go_ret
  exact ⟨rfl, Below.refl _ _⟩
/-- a command as a value -/
def cmdv (K E C : Int) (t : Value) : Value := .agg #[.int .i64 K, .int .u64 E, .int .i64 C, t]
theorem same_c (K E C K' E' C' : Int) (l m : List PartD) (hl : Small l) (s t : Value) (w : World) (hin : InS w s l) (hjn : InS w t m) :
 Calls Tryz.prog 51 #[cmdv K E C s, cmdv K' E' C' t] w fun e w' => e = .returned (.bool (decide (K = K' ∧ E = E' ∧ C = C' ∧ l = m))) ∧ Below w.heap.size w w' := by
 have hb1 := (below1 w (.cells #[.int .i64 K, .int .u64 E, .int .i64 C, s] 30)).alloc (by rw [size_alloc]; omega) (.cells #[.int .i64 K', .int .u64 E', .int .i64 C', t] 30)
 have c := equalS_c l m hl s t _ (hin.below hb1) (hjn.below hb1)
 obtain ⟨a, cp, rfl, _⟩ := hin
 obtain ⟨b, cq, rfl, _⟩ := hjn
 unfold cmdv
 have hR : decide (K = K' ∧ E = E' ∧ C = C' ∧ l = m) = ((K == K') && ((E == E') && ((C == C') && decide (l = m)))) := by
  rw [Bool.eq_iff_iff]
  simp [Bool.and_eq_true]
 rw [hR]
 clear hR
 generalize decide (l = m) = f at *
 unfold fnv at c
 replace c := Hd c
 replace hb1 := Hd hb1
 have hs1 := hb1.out.size
 generalize hk : (K == K') = k at *
 generalize he : (E == E') = e at *
 generalize hc : (C == C') = cc at *
 cases k with
 | false =>
   clear c
   go_enter Tryz.func51, Tryz.ntmps51
   go_wp2_with fail
   go_ret
   exact ⟨rfl, hb1.out⟩
 | true =>
   cases e with
   | false =>
     clear c
     go_enter Tryz.func51, Tryz.ntmps51
     go_wp2_with fail
     go_ret
     exact ⟨rfl, hb1.out⟩
   | true =>
     cases cc with
     | false =>
       clear c
       go_enter Tryz.func51, Tryz.ntmps51
       go_wp2_with fail
       go_ret
       exact ⟨rfl, hb1.out⟩
     | true =>
       go_enter Tryz.func51, Tryz.ntmps51
       go_wp2_with fail
       refine c.out.mono ?_
       rintro e w1 ⟨rfl, hb2⟩
       have hb := Hd (below_up hb1.out hs1 hb2)
       clear hb2 hb1 c
       go_wp2_with fail
       go_ret
       exact ⟨rfl, hb.out⟩
theorem partsS_c (ps : List PartD) (hL0 : ps.length ≤ 100000) (s : Value) (w : World) (hin0 : InS w s ps) :
 Calls Tryz.prog 52 #[s] w fun e w' => e = .returned (.tuple #[.int .u32 (((partsF (ps.map (·.C))).1 : Nat) : Int), .int .i64 (partsF (ps.map (·.C))).2]) ∧ Below w.heap.size w w' := by
 obtain ⟨i0, hi, hz0, hz1, hz2⟩ := info_parts infoInt
 obtain ⟨l, hlp⟩ : ∃ l, ps.map (·.C) = l := ⟨_, rfl⟩
 rw [hlp]
 have hL : l.length ≤ 100000 := by rw [← hlp, List.length_map]; exact hL0
 obtain ⟨a, c, rfl, _⟩ := id hin0
 have hpl : ps.length = l.length := by rw [← hlp, List.length_map]
 rw [hpl] at hin0 ⊢
 have hin : ∀ wr, Below w.heap.size w wr → ∀ j (hj : j < l.length), ∃ g o ta tn tc, a = some ⟨g, o, none⟩ ∧ g < wr.heap.size ∧ wr.cell? ⟨g, o + j * 2, none⟩ = some (.int .i64 l[j]) ∧ wr.cell? ⟨g, o + j * 2 + 1, none⟩ = some (.slice ta tn tc) := by
  intro wr hb j hj
  obtain ⟨g, o, t, h1, h2, h3, h4, h5⟩ := (hin0.below hb).at j (by omega)
  obtain ⟨ta, tc, rfl, _⟩ := h5
  refine ⟨g, o, ta, _, tc, h1, h2, ?_, h4⟩
  subst hlp
  rw [List.getElem_map]
  exact h3
 clear hin0 hlp hpl hL0
 obtain ⟨R, hR⟩ : ∃ r, partsF l = r := ⟨_, rfl⟩
 rw [hR]
 replace hR := Hd hR
 replace hin := Hd hin
 go_enter Tryz.func52, Tryz.ntmps52
 go_wp2_with fail
 go_loopw [4, 11] (fun b i wr => ∃ j : Nat, j ≤ l.length ∧ i = .int .i64 j ∧ (∃ a c, b = .slice a (l.take j).length c ∧ OwnI wr w.heap.size a c (l.take j)) ∧ Below w.heap.size w wr) (fun _ i _ => l.length - (intOf i).toNat)
 case atStart => exact ⟨0, Nat.zero_le _, rfl, ⟨none, 0, rfl, OwnI.nil w _⟩, Below.refl _ _⟩
 case round =>
  obtain ⟨j, hj, rfl, ⟨b, d, rfl, hown⟩, hb⟩ := hrel
  have hsz := hb.size
  by_cases hlt : j < l.length
  ·obtain ⟨g, o, ta, tn, tc, hga, hg, hc0, hc1⟩ := hin.out wr hb j hlt
   subst hga
   have hst : l.take (j + 1) = l.take j ++ [l[j]] := List.take_succ_eq_append_getElem hlt
   have hlen : (l.take j).length = j := by rw [List.length_take]; omega
   have hltI : (j : Int) < (l.length : Int) := by omega
   generalize l[j] = x at *
   generalize l.take j = L at *
   generalize hL' : l.take (j + 1) = L' at *
   replace hL' := Hd hL'
   have hb2 := hb.alloc hsz (.cells #[.int .i64 x, .slice ta tn tc] 65)
   have hown2 := hown.alloc (.cells #[.int .i64 x, .slice ta tn tc] 65)
   replace hst := Hd hst
   replace hown := Hd hown
   replace hb := Hd hb
   replace hb2 := Hd hb2
   replace hown2 := Hd hown2
   replace hlen := Hd hlen
   go_upto_region 5 with fail
   obtain ⟨W, hW⟩ : ∃ W, wr.alloc (.cells #[.int .i64 x, .slice ta tn tc] 65) = W := ⟨_, rfl⟩
   have hnc : W.cell? ⟨wr.heap.size, 0, none⟩ = some (.int .i64 x) := by rw [← hW]; exact (IsC.new wr 65 #[.int .i64 x, .slice ta tn tc]).cell 0
   rw [hW] at hb2 hown2
   rw [hW]
   replace hW := Hd hW
   have hsz2 := hb2.out.size
   have hsrc := src_one W x
   go_wp2_with (at_builtin; refine wpList_append_own_src _ rfl (.tmp 15) (.tmp 18) 105 105 rfl w.heap.size 3 i0 (.int .i64 0) 1 8 Tryz.underlying105 hi hz0 hz1 hz2 rfl rfl (hown2.out.alloc _) rfl hsrc ?_ ?_ ?_ ?_)
   ·have := hlen.out; unfold maxLen; omega
   ·have := hlen.out; omega
   ·(try rw [size_alloc]); omega
   intro b' c' w2 hown3 hg1
   have hfin := Hd (Below.grown (hb2.out.alloc hsz2 (.cells #[.int .i64 x] 3)) hg1 (by rw [size_alloc]; omega) (fun q hq => by have := World.ownsRow.lt hown2.out q hq; omega))
   rw [show ([.int .i64 x] : List Value) = iv [x] from rfl, ← iv_append] at hown3
   have hown4 : OwnI w2 w.heap.size b' c' (L ++ [x]) := by
    unfold OwnI
    rw [List.length_append]
    exact hown3
   replace hown4 := Hd hown4
   clear hown3 hg1 hsrc hown hown2 hb hb2
   go_wp2_with fail
   go_roundw
   case rel => exact ⟨j + 1, by omega, by go_num, ⟨b', c', by rw [hL'.out, hst.out, List.length_append]; rfl, by rw [hL'.out, hst.out]; exact hown4.out⟩, hfin.out⟩
   case measure => simp [intOf]; omega
  ·obtain rfl : j = l.length := by omega
   rw [List.take_length] at hown ⊢
   have co := of_c l (by omega) b d wr hown.in
   have hsl := setOf_lt l
   have hr := hR.out
   unfold partsF at hr
   cases hok : okL l with
   | false =>
     rw [hok] at hr co
     rw [if_neg (by decide)] at hr co
     rw [if_neg (by decide)] at co
     subst hr
     clear hR hown hok
     replace hb := Hd hb
     replace co := Hd co
     go_wp2_with fail
     refine co.out.mono ?_
     rintro e w2 ⟨rfl, hb2⟩
     have hfin := below_up hb.out hsz hb2
     go_wp2_with fail
     (try simp only [Exit.inBlock, Exit.then])
     refine bodyPost_ret (by simp [results, Tryz.results52, go_sem]; try rfl) rfl ?_
     exact ⟨rfl, hfin⟩
   | true =>
     rw [hok] at hr co
     rw [if_pos rfl] at hr co
     rw [if_pos rfl] at co
     have cl := len_c (setOf l) hsl
     generalize setOf l = S at *
     by_cases hn : (ids S).length = l.length
     ·rw [if_pos hn] at hr
      rw [hn] at cl
      subst hr
      have e1 : ((l.length : Int) != (l.length : Int)) = false := by simp
      clear hR hown hok hn
      replace hb := Hd hb
      replace co := Hd co
      replace cl := Hd cl
      go_wp2_with fail
      refine co.out.mono ?_
      rintro e w2 ⟨rfl, hb2⟩
      have hfin := below_up hb.out hsz hb2
      have hq := hfin.size
      go_wp2_with fail
      refine (cl.out.on _).mono ?_
      rintro e w3 ⟨rfl, hb3⟩
      have hfin2 := below_up hfin hq hb3
      go_wp2_with fail
      (try simp only [Exit.inBlock, Exit.then])
      refine bodyPost_ret (by simp [results, Tryz.results52, go_sem]; try rfl) rfl ?_
      exact ⟨rfl, hfin2⟩
     ·rw [if_neg hn] at hr
      subst hr
      generalize (ids S).length = q at *
      have e1 : ((q : Int) != (l.length : Int)) = true := bne_iff_ne.2 (by omega)
      clear hR hown hok hn
      replace hb := Hd hb
      replace co := Hd co
      replace cl := Hd cl
      go_wp2_with fail
      refine co.out.mono ?_
      rintro e w2 ⟨rfl, hb2⟩
      have hfin := below_up hb.out hsz hb2
      have hq := hfin.size
      go_wp2_with fail
      refine (cl.out.on _).mono ?_
      rintro e w3 ⟨rfl, hb3⟩
      have hfin2 := below_up hfin hq hb3
      go_wp2_with fail
      (try simp only [Exit.inBlock, Exit.then])
      refine bodyPost_ret (by simp [results, Tryz.results52, go_sem]; try rfl) rfl ?_
      exact ⟨rfl, hfin2⟩
/-- slices.Equal of rows of ints -/
theorem eqInts_c (l m : List Int) (hl : l.length ≤ 100000) (hm : m.length ≤ 100000) (a b : Option Addr) (c d : Nat) (w : World) (hin : InI w a l) (hjn : InI w b m) :
 Calls Tryz.prog 53 #[.slice a l.length c, .slice b m.length d] w fun e w' => e = .returned (.bool (decide (l = m))) ∧ Below w.heap.size w w' := by
 by_cases hlen : l.length = m.length
 ·rcases Nat.eq_zero_or_pos l.length with h0 | h0
  ·have e1 : l = [] := List.eq_nil_of_length_eq_zero h0
   have e2 : m = [] := List.eq_nil_of_length_eq_zero (by omega)
   subst e1 e2
   exact (Any.slices_Equal_int_empty Tryz.lays111 a b c 0 d w (by decide)).mono fun e w' ⟨h1, h2⟩ => ⟨h1, by rw [h2]; exact Below.refl _ _⟩
  ·obtain ⟨g, o, rfl, _, _⟩ := hin.at 0 h0
   obtain ⟨g', o', rfl, _, _⟩ := hjn.at 0 (by omega)
   refine (Any.slices_Equal_int Tryz.lays111 g o l.length c g' o' m.length d l m w (Nat.le_refl _) (Nat.le_refl _) (by omega) (by omega) ?_ ?_).mono fun e w' ⟨h1, q, h2⟩ => ⟨?_, by rw [h2]; exact below_drewN (Below.refl _ _)⟩
   ·intro j hj
    obtain ⟨g2, o2, e, _, hc⟩ := hin.at j hj
    cases e
    rw [hc]
    simp [hj]
   ·intro j hj
    obtain ⟨g2, o2, e, _, hc⟩ := hjn.at j hj
    cases e
    rw [hc]
    simp [hj]
   ·rw [h1, List.take_length, List.take_length]
    congr 2
    rw [Bool.eq_iff_iff]
    simp
 ·exact (Any.slices_Equal_int_lens Tryz.lays111 a b l.length c m.length d w hlen).mono fun e w' ⟨h1, h2⟩ => ⟨by rw [h1, decide_eq_false (fun e => hlen (by rw [e]))], by rw [h2]; exact Below.refl _ _⟩
namespace Tl
def idsOf (ps : List PartD) : List Int := ps.map (·.C)
theorem idsOf_get (ps : List PartD) (j : Nat) (hj : j < ps.length) (h : j < (idsOf ps).length) : (idsOf ps)[j] = ps[j].C := List.getElem_map (fun p : PartD => p.C)
/-- parts' components rise, from 1 to 24 -/
def risF (ps : List PartD) : Bool := decide ((partsF (idsOf ps)).2 = 0) && decide (idsOf ps = ids (partsF (idsOf ps)).1)
def isPartsF (ps : List PartD) : Bool := risF ps && !(ps.any fun p => !isPartF p.V)
theorem partsF_lt (l : List Int) : (partsF l).1 < 4294967296 := by
 unfold partsF
 split
 ·split
  ·exact setOf_lt l
  ·decide
 ·decide
end Tl
theorem rising_c (ps : List PartD) (hs : Small ps) (hL0 : ps.length ≤ 100000) (s : Value) (w : World) (hin0 : InS w s ps) :
 Calls Tryz.prog 103 #[s] w fun e w' => e = .returned (.bool (risF ps)) ∧ Below w.heap.size w w' := by
 obtain ⟨i0, hi, hz0, hz1, hz2⟩ := info_parts infoInt
 have cP := partsS_c ps hL0 s w hin0
 have hlt32 := partsF_lt (idsOf ps)
 change Calls _ _ _ _ (fun e w' => e = .returned (.tuple #[.int .u32 (((partsF (idsOf ps)).1 : Nat) : Int), .int .i64 (partsF (idsOf ps)).2]) ∧ _) at cP
 unfold risF
 obtain ⟨l, hlp⟩ : ∃ l, idsOf ps = l := ⟨_, rfl⟩
 rw [hlp] at cP hlt32
 rw [hlp]
 have hL : l.length ≤ 100000 := by rw [← hlp]; unfold idsOf; rw [List.length_map]; exact hL0
 obtain ⟨a, c, rfl, _⟩ := id hin0
 have hpl : ps.length = l.length := by rw [← hlp]; unfold idsOf; rw [List.length_map]
 rw [hpl] at hin0 cP ⊢
 have hin : ∀ wr, Below w.heap.size w wr → ∀ j (hj : j < l.length), ∃ g o ta tn tc, a = some ⟨g, o, none⟩ ∧ g < wr.heap.size ∧ wr.cell? ⟨g, o + j * 2, none⟩ = some (.int .i64 l[j]) ∧ wr.cell? ⟨g, o + j * 2 + 1, none⟩ = some (.slice ta tn tc) := by
  intro wr hb j hj
  obtain ⟨g, o, t, h1, h2, h3, h4, h5⟩ := (hin0.below hb).at j (by omega)
  obtain ⟨ta, tc, rfl, _⟩ := h5
  refine ⟨g, o, ta, _, tc, h1, h2, ?_, h4⟩
  subst hlp
  rw [idsOf_get ps j (by omega) hj]
  exact h3
 clear hlp hL0
 obtain ⟨S, hS⟩ : ∃ S, (partsF l).1 = S := ⟨_, rfl⟩
 obtain ⟨E, hE⟩ : ∃ E, (partsF l).2 = E := ⟨_, rfl⟩
 rw [hS, hE] at cP
 rw [hS] at hlt32
 rw [hS, hE]
 clear hS hE
 have cI := ids_c S hlt32
 have hIl := ids_le S
 generalize ids S = m at *
 replace cP := Hd cP
 replace cI := Hd cI
 replace hin := Hd hin
 obtain ⟨R, hR⟩ : ∃ R, (decide (E = 0) && decide (l = m)) = R := ⟨_, rfl⟩
 rw [hR]
 replace hR := Hd hR
 clear hin0 hpl hlt32
 go_enter Tryz.func103, Tryz.ntmps103
 go_wp2_with fail
 refine cP.out.mono ?_
 rintro e w1 ⟨rfl, hb1⟩
 replace hb1 := Hd hb1
 clear cP
 go_wp2_with fail
 have hs1 := hb1.out.size
 go_loopw [5, 15] (fun b i wr => ∃ j : Nat, j ≤ l.length ∧ i = .int .i64 j ∧ (∃ a c, b = .slice a (l.take j).length c ∧ OwnI wr w.heap.size a c (l.take j)) ∧ Below w.heap.size w wr) (fun _ i _ => l.length - (intOf i).toNat)
 case atStart => exact ⟨0, Nat.zero_le _, rfl, ⟨none, 0, rfl, OwnI.nil _ _⟩, hb1.out⟩
 case round =>
  obtain ⟨j, hj, rfl, ⟨b, d, rfl, hown⟩, hb⟩ := hrel
  have hsz := hb.size
  by_cases hlt : j < l.length
  ·obtain ⟨g, o, ta, tn, tc, hga, hg, hc0, hc1⟩ := hin.out wr hb j hlt
   subst hga
   have hst : l.take (j + 1) = l.take j ++ [l[j]] := List.take_succ_eq_append_getElem hlt
   have hlen : (l.take j).length = j := by rw [List.length_take]; omega
   have hltI : (j : Int) < (l.length : Int) := by omega
   generalize l[j] = x at *
   generalize l.take j = L at *
   generalize hL' : l.take (j + 1) = L' at *
   replace hL' := Hd hL'
   have hb2 := hb.alloc hsz (.cells #[.int .i64 x, .slice ta tn tc] 65)
   have hown2 := hown.alloc (.cells #[.int .i64 x, .slice ta tn tc] 65)
   replace hst := Hd hst
   replace hown := Hd hown
   replace hb := Hd hb
   replace hb2 := Hd hb2
   replace hown2 := Hd hown2
   replace hlen := Hd hlen
   go_upto_region 6 with fail
   obtain ⟨W, hW⟩ : ∃ W, wr.alloc (.cells #[.int .i64 x, .slice ta tn tc] 65) = W := ⟨_, rfl⟩
   have hnc : W.cell? ⟨wr.heap.size, 0, none⟩ = some (.int .i64 x) := by rw [← hW]; exact (IsC.new wr 65 #[.int .i64 x, .slice ta tn tc]).cell 0
   rw [hW] at hb2 hown2
   rw [hW]
   replace hW := Hd hW
   have hsz2 := hb2.out.size
   have hsrc := src_one W x
   go_wp2_with (at_builtin; refine wpList_append_own_src _ rfl (.tmp 19) (.tmp 22) 105 105 rfl w.heap.size 3 i0 (.int .i64 0) 1 8 Tryz.underlying105 hi hz0 hz1 hz2 rfl rfl (hown2.out.alloc _) rfl hsrc ?_ ?_ ?_ ?_)
   ·have := hlen.out; unfold maxLen; omega
   ·have := hlen.out; omega
   ·(try rw [size_alloc]); omega
   intro b' c' w2 hown3 hg1
   have hfin := Hd (Below.grown (hb2.out.alloc hsz2 (.cells #[.int .i64 x] 3)) hg1 (by rw [size_alloc]; omega) (fun q hq => by have := World.ownsRow.lt hown2.out q hq; omega))
   rw [show ([.int .i64 x] : List Value) = iv [x] from rfl, ← iv_append] at hown3
   have hown4 : OwnI w2 w.heap.size b' c' (L ++ [x]) := by
    unfold OwnI
    rw [List.length_append]
    exact hown3
   replace hown4 := Hd hown4
   clear hown3 hg1 hsrc hown hown2 hb hb2
   go_wp2_with fail
   go_roundw
   case rel => exact ⟨j + 1, by omega, by go_num, ⟨b', c', by rw [hL'.out, hst.out, List.length_append]; rfl, by rw [hL'.out, hst.out]; exact hown4.out⟩, hfin.out⟩
   case measure => simp [intOf]; omega
  ·obtain rfl : j = l.length := by omega
   rw [List.take_length] at hown ⊢
   clear hin
   by_cases hE : E = 0
   ·have hR2 := hR.out
    rw [decide_eq_true hE, Bool.true_and] at hR2
    replace hR2 := Hd hR2
    clear hR
    have e1 : (E == 0) = true := beq_iff_eq.2 hE
    clear hE
    replace hb := Hd hb
    replace hown := Hd hown
    go_wp2_with fail
    refine (cI.out.on _).mono ?_
    rintro e w2 ⟨a2, c2, rfl, hown2, hb2⟩
    have hb3 := below_up hb.out hsz hb2
    have hs3 := hb3.size
    have cq := eqInts_c m l (by omega) hL a2 b c2 d w2 hown2.in (hown.out.in.below hb2)
    clear hb2 hb hown hown2 cI
    replace hb3 := Hd hb3
    replace cq := Hd cq
    go_wp2_with fail
    refine cq.out.mono ?_
    rintro e w3 ⟨rfl, hb4⟩
    have hb5 := Hd (below_up hb3.out hs3 hb4)
    clear hb4 hb3
    go_wp2_with fail
    go_ret
    exact ⟨by rw [← hR2.out, show decide (l = m) = decide (m = l) from by rw [decide_eq_decide]; exact eq_comm]; rfl, hb5.out⟩
   ·have hR2 := hR.out
    rw [decide_eq_false hE, Bool.false_and] at hR2
    subst hR2
    clear hR
    have e1 : (E == 0) = false := beq_eq_false_iff_ne.2 hE
    clear hE hown
    replace hb := Hd hb
    go_wp2_with fail
    go_ret
    exact ⟨rfl, hb.out⟩
theorem isPartsS_c (ps : List PartD) (hs : Small ps) (hL0 : ps.length ≤ 100000) (s : Value) (w : World) (hin0 : InS w s ps) :
 Calls Tryz.prog 24 #[s] w fun e w' => e = .returned (.bool (isPartsF ps)) ∧ Below w.heap.size w w' := by
 obtain ⟨i0, hi, hz0, hz1, hz2⟩ := info_parts infoInt
 have cP := partsS_c ps hL0 s w hin0
 have cC := fun w' (hb : Below w.heap.size w w') => containsS_c ps hs s w' (hin0.below hb)
 unfold fnv at cC
 have hlt32 := partsF_lt (idsOf ps)
 change Calls _ _ _ _ (fun e w' => e = .returned (.tuple #[.int .u32 (((partsF (idsOf ps)).1 : Nat) : Int), .int .i64 (partsF (idsOf ps)).2]) ∧ _) at cP
 unfold isPartsF risF
 obtain ⟨l, hlp⟩ : ∃ l, idsOf ps = l := ⟨_, rfl⟩
 rw [hlp] at cP hlt32
 rw [hlp]
 have hL : l.length ≤ 100000 := by rw [← hlp]; unfold idsOf; rw [List.length_map]; exact hL0
 obtain ⟨a, c, rfl, _⟩ := id hin0
 have hpl : ps.length = l.length := by rw [← hlp]; unfold idsOf; rw [List.length_map]
 rw [hpl] at hin0 cP cC ⊢
 have hin : ∀ wr, Below w.heap.size w wr → ∀ j (hj : j < l.length), ∃ g o ta tn tc, a = some ⟨g, o, none⟩ ∧ g < wr.heap.size ∧ wr.cell? ⟨g, o + j * 2, none⟩ = some (.int .i64 l[j]) ∧ wr.cell? ⟨g, o + j * 2 + 1, none⟩ = some (.slice ta tn tc) := by
  intro wr hb j hj
  obtain ⟨g, o, t, h1, h2, h3, h4, h5⟩ := (hin0.below hb).at j (by omega)
  obtain ⟨ta, tc, rfl, _⟩ := h5
  refine ⟨g, o, ta, _, tc, h1, h2, ?_, h4⟩
  subst hlp
  rw [idsOf_get ps j (by omega) hj]
  exact h3
 replace cC := Hd cC
 clear hlp hL0
 obtain ⟨S, hS⟩ : ∃ S, (partsF l).1 = S := ⟨_, rfl⟩
 obtain ⟨E, hE⟩ : ∃ E, (partsF l).2 = E := ⟨_, rfl⟩
 rw [hS, hE] at cP
 rw [hS] at hlt32
 rw [hS, hE]
 clear hS hE
 have cI := ids_c S hlt32
 have hIl := ids_le S
 generalize ids S = m at *
 replace cP := Hd cP
 replace cI := Hd cI
 replace hin := Hd hin
 obtain ⟨R, hR⟩ : ∃ R, (decide (E = 0) && decide (l = m) && !(ps.any fun p => !isPartF p.V)) = R := ⟨_, rfl⟩
 rw [hR]
 replace hR := Hd hR
 clear hin0 hpl hlt32
 go_enter Tryz.func24, Tryz.ntmps24
 go_wp2_with fail
 refine cP.out.mono ?_
 rintro e w1 ⟨rfl, hb1⟩
 replace hb1 := Hd hb1
 clear cP
 go_wp2_with fail
 have hs1 := hb1.out.size
 go_loopw [5, 15] (fun b i wr => ∃ j : Nat, j ≤ l.length ∧ i = .int .i64 j ∧ (∃ a c, b = .slice a (l.take j).length c ∧ OwnI wr w.heap.size a c (l.take j)) ∧ Below w.heap.size w wr) (fun _ i _ => l.length - (intOf i).toNat)
 case atStart => exact ⟨0, Nat.zero_le _, rfl, ⟨none, 0, rfl, OwnI.nil _ _⟩, hb1.out⟩
 case round =>
  obtain ⟨j, hj, rfl, ⟨b, d, rfl, hown⟩, hb⟩ := hrel
  have hsz := hb.size
  by_cases hlt : j < l.length
  ·obtain ⟨g, o, ta, tn, tc, hga, hg, hc0, hc1⟩ := hin.out wr hb j hlt
   subst hga
   have hst : l.take (j + 1) = l.take j ++ [l[j]] := List.take_succ_eq_append_getElem hlt
   have hlen : (l.take j).length = j := by rw [List.length_take]; omega
   have hltI : (j : Int) < (l.length : Int) := by omega
   generalize l[j] = x at *
   generalize l.take j = L at *
   generalize hL' : l.take (j + 1) = L' at *
   replace hL' := Hd hL'
   have hb2 := hb.alloc hsz (.cells #[.int .i64 x, .slice ta tn tc] 65)
   have hown2 := hown.alloc (.cells #[.int .i64 x, .slice ta tn tc] 65)
   replace hst := Hd hst
   replace hown := Hd hown
   replace hb := Hd hb
   replace hb2 := Hd hb2
   replace hown2 := Hd hown2
   replace hlen := Hd hlen
   go_upto_region 6 with fail
   obtain ⟨W, hW⟩ : ∃ W, wr.alloc (.cells #[.int .i64 x, .slice ta tn tc] 65) = W := ⟨_, rfl⟩
   have hnc : W.cell? ⟨wr.heap.size, 0, none⟩ = some (.int .i64 x) := by rw [← hW]; exact (IsC.new wr 65 #[.int .i64 x, .slice ta tn tc]).cell 0
   rw [hW] at hb2 hown2
   rw [hW]
   replace hW := Hd hW
   have hsz2 := hb2.out.size
   have hsrc := src_one W x
   go_wp2_with (at_builtin; refine wpList_append_own_src _ rfl (.tmp 19) (.tmp 22) 105 105 rfl w.heap.size 3 i0 (.int .i64 0) 1 8 Tryz.underlying105 hi hz0 hz1 hz2 rfl rfl (hown2.out.alloc _) rfl hsrc ?_ ?_ ?_ ?_)
   ·have := hlen.out; unfold maxLen; omega
   ·have := hlen.out; omega
   ·(try rw [size_alloc]); omega
   intro b' c' w2 hown3 hg1
   have hfin := Hd (Below.grown (hb2.out.alloc hsz2 (.cells #[.int .i64 x] 3)) hg1 (by rw [size_alloc]; omega) (fun q hq => by have := World.ownsRow.lt hown2.out q hq; omega))
   rw [show ([.int .i64 x] : List Value) = iv [x] from rfl, ← iv_append] at hown3
   have hown4 : OwnI w2 w.heap.size b' c' (L ++ [x]) := by
    unfold OwnI
    rw [List.length_append]
    exact hown3
   replace hown4 := Hd hown4
   clear hown3 hg1 hsrc hown hown2 hb hb2
   go_wp2_with fail
   go_roundw
   case rel => exact ⟨j + 1, by omega, by go_num, ⟨b', c', by rw [hL'.out, hst.out, List.length_append]; rfl, by rw [hL'.out, hst.out]; exact hown4.out⟩, hfin.out⟩
   case measure => simp [intOf]; omega
  ·obtain rfl : j = l.length := by omega
   rw [List.take_length] at hown ⊢
   clear hin
   by_cases hE : E = 0
   ·have hR2 := hR.out
    rw [decide_eq_true hE, Bool.true_and] at hR2
    replace hR2 := Hd hR2
    clear hR
    have e1 : (E == 0) = true := beq_iff_eq.2 hE
    clear hE
    replace hb := Hd hb
    replace hown := Hd hown
    go_wp2_with fail
    refine (cI.out.on _).mono ?_
    rintro e w2 ⟨a2, c2, rfl, hown2, hb2⟩
    have hb3 := below_up hb.out hsz hb2
    have hs3 := hb3.size
    have cq := eqInts_c l m hL (by omega) b a2 d c2 w2 (hown.out.in.below hb2) hown2.in
    clear hb2 hb hown hown2 cI
    replace hb3 := Hd hb3
    replace cq := Hd cq
    go_wp2_with fail
    refine cq.out.mono ?_
    rintro e w3 ⟨rfl, hb4⟩
    have hb5 := below_up hb3.out hs3 hb4
    have hs5 := hb5.size
    have cC1 := Hd (cC.out w3 hb5)
    clear hb4 hb3 cC
    generalize decide (l = m) = g1 at *
    generalize (ps.any fun p => !isPartF p.V) = g2 at *
    replace hb5 := Hd hb5
    cases g1 with
    | false =>
      go_wp2_with fail
      go_ret
      exact ⟨by rw [← hR2.out]; rfl, hb5.out⟩
    | true =>
      go_wp2_with fail
      refine cC1.out.mono ?_
      rintro e w4 ⟨rfl, hb6⟩
      have hb7 := Hd (below_up hb5.out hs5 hb6)
      clear hb6 hb5 cC1
      go_wp2_with fail
      go_ret
      exact ⟨by rw [← hR2.out]; rfl, hb7.out⟩
   ·have hR2 := hR.out
    rw [decide_eq_false hE, Bool.false_and, Bool.false_and] at hR2
    subst hR2
    clear hR
    have e1 : (E == 0) = false := beq_eq_false_iff_ne.2 hE
    clear hE hown
    replace hb := Hd hb
    go_wp2_with fail
    go_ret
    exact ⟨rfl, hb.out⟩
end Go.Proofs.YtjjgbillihedgaaGreatDoor
namespace Go.Proofs.YtjjgbillihedgaaGreatDoor
open Go.RowKit
open Rf
open Wide
abbrev oN (x : WI) : Obj := .cells #[.bool x.n, .int .u64 x.h, .int .u64 x.l] 61
theorem IsN.all {w : World} {b : Nat} {x : WI} (h : IsN w b x) : w.cell? ⟨b, 0, none⟩ = some (.bool x.n) ∧ w.cell? ⟨b, 1, none⟩ = some (.int .u64 x.h) ∧ w.cell? ⟨b, 2, none⟩ = some (.int .u64 x.l) := ⟨h.c0, h.c1, h.c2⟩
theorem one_new {w w1 : World} {x : WI} (hb : Below (w.alloc (oN x)).heap.size (w.alloc (oN x)) w1) : IsN w1 w.heap.size x ∧ Below w.heap.size w w1 :=
 ⟨(IsN.new w x).below hb, (wbelow1 w _).trans (hb.mono (by rw [wsize_alloc]; omega))⟩
theorem two_new {w w1 : World} {x y : WI} (hb : Below ((w.alloc (oN x)).alloc (oN y)).heap.size ((w.alloc (oN x)).alloc (oN y)) w1) :
 IsN w1 w.heap.size x ∧ IsN w1 (w.heap.size + 1) y ∧ Below w.heap.size w w1 := by
 refine ⟨((IsN.new w x).alloc _).below hb, ?_, (below2 w _ _).trans (hb.mono (by rw [wsize_alloc, wsize_alloc]; omega))⟩
 have := (IsN.new (w.alloc (oN x)) y).below hb
 rwa [wsize_alloc] at this
theorem three_new {w w1 : World} {x y z : WI} (hb : Below (((w.alloc (oN x)).alloc (oN y)).alloc (oN z)).heap.size (((w.alloc (oN x)).alloc (oN y)).alloc (oN z)) w1) :
 IsN w1 w.heap.size x ∧ IsN w1 (w.heap.size + 1) y ∧ IsN w1 (w.heap.size + 2) z ∧ Below w.heap.size w w1 := by
 refine ⟨(((IsN.new w x).alloc _).alloc _).below hb, ?_, ?_, (below3 w _ _ _).trans (hb.mono (by rw [wsize_alloc, wsize_alloc, wsize_alloc]; omega))⟩
 ·have := ((IsN.new (w.alloc (oN x)) y).alloc _).below hb
  rwa [wsize_alloc] at this
 ·have := (IsN.new ((w.alloc (oN x)).alloc (oN y)) z).below hb
  rwa [wsize_alloc, wsize_alloc] at this
theorem sgn_pos {v : Int} (h : 0 < v) : sgn v = 1 := by unfold sgn; rw [if_neg (by omega), if_neg (by omega)]
theorem sgn_neg {v : Int} (h : v < 0) : sgn v = -1 := by unfold sgn; rw [if_pos h]
theorem sgn_nil : sgn 0 = 0 := rfl
theorem size_c (x y : WI) (ho : x.Ok) (hp : y.Ok) (w : World) : Calls Tryz.prog 172 #[wv x, wv y] w fun e w' => e = .returned (.int .i64 (sgn (x.sz - y.sz))) ∧ Below w.heap.size w w' := by
 obtain ⟨n, h, l⟩ := x
 obtain ⟨m, g, k⟩ := y
 obtain ⟨o1, o2, o3, o4⟩ := ho
 obtain ⟨p1, p2, p3, p4⟩ := hp
 dsimp only at o1 o2 o3 o4 p1 p2 p3 p4
 unfold wv WI.sz
 dsimp only
 rcases Int.lt_trichotomy h g with hh | hh | hh
 ·have t : (h == g) = false := beq_eq_false_iff_ne.2 (by omega)
  rw [sgn_neg (by omega)]
  go_enter Tryz.func172, Tryz.ntmps172
  go_wp2
  go_ret
  exact ⟨rfl, below2 _ _ _⟩
 ·subst hh
  rcases Int.lt_trichotomy l k with hl | hl | hl
  ·have t : (l == k) = false := beq_eq_false_iff_ne.2 (by omega)
   rw [sgn_neg (by omega)]
   go_enter Tryz.func172, Tryz.ntmps172
   go_wp2
   go_ret
   exact ⟨rfl, below2 _ _ _⟩
  ·subst hl
   rw [Int.sub_self, sgn_nil]
   go_enter Tryz.func172, Tryz.ntmps172
   go_wp2
   go_ret
   exact ⟨rfl, below2 _ _ _⟩
  ·rw [sgn_pos (by omega)]
   go_enter Tryz.func172, Tryz.ntmps172
   go_wp2
   go_ret
   exact ⟨rfl, below2 _ _ _⟩
 ·rw [sgn_pos (by omega)]
  go_enter Tryz.func172, Tryz.ntmps172
  go_wp2
  go_ret
  exact ⟨rfl, below2 _ _ _⟩
end Go.Proofs.YtjjgbillihedgaaGreatDoor
