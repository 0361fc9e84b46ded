/- parts of the proof, merged: WvF, TlE, TlF, TlG, TlS -/
import Derived.Lib.AppendIntMem
import Derived.Lib.ItoaLen
import Derived.Test.YtjjgbillihedgaaGreatDoorQb9
set_option linter.unusedVariables false
set_option maxHeartbeats 8000000
set_option maxRecDepth 100000
namespace Go.Proofs.YtjjgbillihedgaaGreatDoor
open Go.RowKit
open Rf
open Wide
theorem parse_bad1 (s : ByteArray) (T : ByteArray)
 (ct : ∀ w, Calls Tryz.prog 148 #[.string s, .string ⟨#[45]⟩] w fun e w' => e = .returned (.string T) ∧ w' = w)
 (ci : ∀ w, Calls Tryz.prog 149 #[.string T] w fun e w' => e = .returned (.bool false) ∧ Below w.heap.size w w') (w : World) :
 Calls Tryz.prog 129 #[.string s] w fun e w' => e = .returned (.tuple #[wv zero, .int .i64 4]) ∧ Below w.heap.size w w' := by
 replace ct := Hd ct
 replace ci := Hd ci
 unfold wv zero
 dsimp only
 go_enter Tryz.func129, Tryz.ntmps129
 go_wp2_with fail
 refine (ct.out _).mono ?_
 rintro e w1 ⟨rfl, rfl⟩
 go_wp2_with fail
 refine (ci.out _).mono ?_
 rintro e w2 ⟨rfl, hb2⟩
 obtain ⟨gz, hb⟩ := one_new (x := ⟨false, 0, 0⟩) hb2
 obtain ⟨z0, z1, z2⟩ := gz.all
 have zf := gz.f
 obtain ⟨t0, t1, t2, hfin⟩ := last_set (w := w) (B := w.heap.size) gz ⟨false, 0, 0⟩ hb (Nat.le_refl _)
 dsimp only at t0 t1 t2 z0 z1 z2 hfin
 replace hfin := Hd hfin
 clear gz hb hb2
 go_wp2_with fail
 (try simp only [Exit.inBlock, Exit.then])
 refine bodyPost_ret (by simp [results, Tryz.results129, go_sem, t0, t1, t2]; try rfl) rfl ?_
 exact ⟨rfl, hfin.out⟩
theorem parse_bad2 (s : ByteArray) (T : ByteArray)
 (ct : ∀ w, Calls Tryz.prog 148 #[.string s, .string ⟨#[45]⟩] w fun e w' => e = .returned (.string T) ∧ w' = w)
 (ci : ∀ w, Calls Tryz.prog 149 #[.string T] w fun e w' => e = .returned (.bool true) ∧ Below w.heap.size w w')
 (hl0 : 0 < T.size) (h0 : (T[0].toNat : Int) = 48) (h48 : (!s.toList == [48]) = true) (w : World) :
 Calls Tryz.prog 129 #[.string s] w fun e w' => e = .returned (.tuple #[wv zero, .int .i64 4]) ∧ Below w.heap.size w w' := by
 replace ct := Hd ct
 replace ci := Hd ci
 unfold wv zero
 dsimp only
 go_enter Tryz.func129, Tryz.ntmps129
 go_wp2_with fail
 refine (ct.out _).mono ?_
 rintro e w1 ⟨rfl, rfl⟩
 go_wp2_with fail
 refine (ci.out _).mono ?_
 rintro e w2 ⟨rfl, hb2⟩
 obtain ⟨gz, hb⟩ := one_new (x := ⟨false, 0, 0⟩) hb2
 obtain ⟨z0, z1, z2⟩ := gz.all
 have zf := gz.f
 obtain ⟨t0, t1, t2, hfin⟩ := last_set (w := w) (B := w.heap.size) gz ⟨false, 0, 0⟩ hb (Nat.le_refl _)
 dsimp only at t0 t1 t2 z0 z1 z2 hfin
 replace hfin := Hd hfin
 clear gz hb hb2
 go_wp2_with fail
 (try simp only [Exit.inBlock, Exit.then])
 refine bodyPost_ret (by simp [results, Tryz.results129, go_sem, t0, t1, t2]; try rfl) rfl ?_
 exact ⟨rfl, hfin.out⟩
theorem parse_long (s : ByteArray) (T : ByteArray)
 (ct : ∀ w, Calls Tryz.prog 148 #[.string s, .string ⟨#[45]⟩] w fun e w' => e = .returned (.string T) ∧ w' = w)
 (ci : ∀ w, Calls Tryz.prog 149 #[.string T] w fun e w' => e = .returned (.bool true) ∧ Below w.heap.size w w')
 (hl : 39 < T.size) (h0 : ¬ (T[0].toNat : Int) = 48 ∨ (!s.toList == [48]) = false) (w : World) :
 Calls Tryz.prog 129 #[.string s] w fun e w' => e = .returned (.tuple #[wv zero, .int .i64 3]) ∧ Below w.heap.size w w' := by
 replace ct := Hd ct
 replace ci := Hd ci
 have hl0 : 0 < T.size := by omega
 unfold wv zero
 dsimp only
 by_cases hz : (T[0].toNat : Int) = 48
 ·replace h0 := h0.resolve_left (fun h => h hz)
  go_enter Tryz.func129, Tryz.ntmps129
  go_wp2_with fail
  refine (ct.out _).mono ?_
  rintro e w1 ⟨rfl, rfl⟩
  go_wp2_with fail
  refine (ci.out _).mono ?_
  rintro e w2 ⟨rfl, hb2⟩
  obtain ⟨gz, hb⟩ := one_new (x := ⟨false, 0, 0⟩) hb2
  obtain ⟨z0, z1, z2⟩ := gz.all
  have zf := gz.f
  obtain ⟨t0, t1, t2, hfin⟩ := last_set (w := w) (B := w.heap.size) gz ⟨false, 0, 0⟩ hb (Nat.le_refl _)
  dsimp only at t0 t1 t2 z0 z1 z2 hfin
  replace hfin := Hd hfin
  clear gz hb hb2
  go_wp2_with fail
  (try simp only [Exit.inBlock, Exit.then])
  refine bodyPost_ret (by simp [results, Tryz.results129, go_sem, t0, t1, t2]; try rfl) rfl ?_
  exact ⟨rfl, hfin.out⟩
 ·clear h0
  have hz' : ((T[0].toNat : Int) == 48) = false := by simpa using hz
  go_enter Tryz.func129, Tryz.ntmps129
  go_wp2_with fail
  refine (ct.out _).mono ?_
  rintro e w1 ⟨rfl, rfl⟩
  go_wp2_with fail
  refine (ci.out _).mono ?_
  rintro e w2 ⟨rfl, hb2⟩
  obtain ⟨gz, hb⟩ := one_new (x := ⟨false, 0, 0⟩) hb2
  obtain ⟨z0, z1, z2⟩ := gz.all
  have zf := gz.f
  obtain ⟨t0, t1, t2, hfin⟩ := last_set (w := w) (B := w.heap.size) gz ⟨false, 0, 0⟩ hb (Nat.le_refl _)
  dsimp only at t0 t1 t2 z0 z1 z2 hfin
  replace hfin := Hd hfin
  clear gz hb hb2
  go_wp2_with fail
  (try simp only [Exit.inBlock, Exit.then])
  refine bodyPost_ret (by simp [results, Tryz.results129, go_sem, t0, t1, t2]; try rfl) rfl ?_
  exact ⟨rfl, hfin.out⟩
theorem head_of {T : ByteArray} {D : List UInt8} (hT : byts T = D) (h : 0 < T.size) : D.head? = some T[0] := by
 subst hT
 have e : byts T = T.data.toList := rfl
 rw [e, List.head?_eq_getElem?]
 have : 0 < T.data.toList.length := by simpa using h
 rw [List.getElem?_eq_getElem this]
 rfl
/-- the number of a text -/
theorem wparse_c (s : ByteArray) (hs : s.size ≤ maxLen) (w : World) : Calls Tryz.prog 129 #[.string s] w fun e w' => e = .returned (.tuple #[wv (parseF (byts s)).1, .int .i64 (parseF (byts s)).2]) ∧ Below w.heap.size w w' := by
 obtain ⟨D, hD⟩ : ∃ D, digOf (byts s) = D := ⟨_, rfl⟩
 have ct : ∀ w, Calls Tryz.prog 148 #[.string s, .string ⟨#[45]⟩] w fun e w' => e = .returned (.string (text D)) ∧ w' = w := by
  intro w
  have h := Go.Proofs.Any.strings_TrimPrefix Tryz.lays101 s ⟨#[45]⟩ w
  have e : Lib.trimPrefix s.data.toList (⟨#[45]⟩ : ByteArray).data.toList = D := by
   show Lib.trimPrefix (byts s) [45] = D
   rw [trimPrefix_dig, hD]
  rw [e] at h
  exact h
 have hDl : D.length ≤ s.size := by
  rw [← hD, ← byts_length]
  unfold digOf
  split
  ·rw [List.length_tail]; omega
  ·exact Nat.le_refl _
 have ci := fun w => isDigits_c (text D) (by rw [text_size]; omega) w
 rw [byts_text] at ci
 have hng := digOf_lt (byts s)
 rw [hD, byts_length, ← text_size D] at hng
 have hTD : byts (text D) = D := byts_text D
 have hsz := text_size D
 unfold parseF
 rw [hD]
 generalize text D = T at *
 by_cases h1 : isDigs D = false
 ·rw [if_pos (.inl h1)]
  rw [h1] at ci
  exact parse_bad1 s T ct ci w
 ·have h1' : isDigs D = true := by simpa using h1
  rw [h1'] at ci
  have hall : D.all isDig = true ∧ D ≠ [] := by
   unfold isDigs at h1'
   rw [Bool.and_eq_true] at h1'
   refine ⟨h1'.2, fun h => ?_⟩
   rw [h] at h1'
   cases h1'.1
  have hpos : 0 < T.size := by
   rw [hsz]
   exact List.length_pos_iff.2 hall.2
  have hhd := head_of hTD hpos
  have hbyte : ∀ c : UInt8, (c.toNat : Int) = 48 ↔ c = 48 := fun c => ⟨fun h => UInt8.toNat_inj.1 (by have : (48 : UInt8).toNat = 48 := rfl; omega), fun h => by rw [h]; rfl⟩
  have hstr : (s.toList == [48]) = decide (byts s = [48]) := by
   rw [toList_byts]
   cases h : decide (byts s = [48]) with
   | true => rw [of_decide_eq_true h]; rfl
   | false => exact beq_eq_false_iff_ne.2 (of_decide_eq_false h)
  by_cases h2 : D.head? = some 48 ∧ byts s ≠ [48]
  ·rw [if_pos (.inr h2)]
   refine parse_bad2 s T ct ci hpos ((hbyte _).2 ?_) (by rw [hstr, decide_eq_false h2.2]; rfl) w
   have := h2.1
   rw [hhd] at this
   exact Option.some.inj this
  ·rw [if_neg (fun h => h.elim h1 h2)]
   have h48 : ((T[0].toNat : Int) == 48) = true → (s.toList == [48]) = true := by
    intro h
    have hc : T[0] = 48 := (hbyte _).1 (by simpa using h)
    rw [hstr]
    exact decide_eq_true (Classical.byContradiction fun hh => h2 ⟨by rw [hhd, hc], hh⟩)
   by_cases h3 : 39 < D.length
   ·rw [if_pos h3]
    refine parse_long s T ct ci (by omega) ?_ w
    by_cases hz : (T[0].toNat : Int) = 48
    ·exact .inr (by rw [h48 (by simpa using hz)]; rfl)
    ·exact .inl hz
   ·rw [if_neg h3]
    by_cases hz : (T[0].toNat : Int) = 48
    ·exact parse_ok s D T _ hTD hall.1 hpos (by omega) ct ci hng (.inl ⟨hz, by rw [h48 (by simpa using hz)]; rfl⟩) _ _ (fun h => by rw [if_pos h]; exact ⟨rfl, rfl⟩) (fun h => by rw [if_neg h]; exact ⟨rfl, rfl⟩) w
    ·exact parse_ok s D T _ hTD hall.1 hpos (by omega) ct ci hng (.inr (by simpa using hz)) _ _ (fun h => by rw [if_pos h]; exact ⟨rfl, rfl⟩) (fun h => by rw [if_neg h]; exact ⟨rfl, rfl⟩) w
open Sg
open Tl
/-- what the library's variables hold, the table of powers too -/
def GlobT (w : World) : Prop := Glob w ∧ Lib.TabIs Tryz.prog w "internal/strconv.uint64pow10" .u64 Lib.pow10Tab
theorem pow_named : ∃ g, Tryz.prog.globalNamed "internal/strconv.uint64pow10" = some g := by
 have h : (Tryz.prog.globalNamed "internal/strconv.uint64pow10").isSome = true := by kernel_rfl
 exact Option.isSome_iff_exists.1 h
theorem GlobT.on {w w' : World} (h : GlobT w) (hb : Below w.heap.size w w') : GlobT w' := by
 refine ⟨h.1.on hb, ?_⟩
 obtain ⟨g, hg⟩ := pow_named
 have h2 := h.2
 unfold Lib.TabIs World.var? at h2 ⊢
 rw [hg] at h2 ⊢
 simp only [Option.bind_some] at h2 ⊢
 have hlt : g < w.heap.size := by
  rcases Nat.lt_or_ge g w.heap.size with h' | h'
  ·exact h'
  ·rw [Array.getElem?_eq_none h'] at h2; cases h2
 rw [hb.block g hlt]
 exact h2
theorem GlobT.drewN {w : World} {n : Nat} (h : GlobT w) : GlobT (w.drewN n) := h.on (below_drewN (Below.refl _ _))
/-- strconv.Itoa -/
theorem itoaT_c (n : Int) (hn : i64 n) (w : World) (hg : GlobT w) : Calls Tryz.prog 66 #[.int .i64 n] w fun e w' => e = .returned (.string (text (Lib.itoa n))) ∧ Below w.heap.size w w' :=
 (Any.strconv_Itoa Tryz.laysM171 n hn.1 hn.2 w hg.2).mono fun e w' ⟨h1, k, os, h2⟩ => ⟨h1, by rw [h2]; exact Go.Lib.below_grow _ w (Nat.le_refl _) k os⟩
/-- a slice of texts of the call's own -/
def OwnS (w : World) (B : Nat) (a : Option Addr) (c : Nat) (l : List (List UInt8)) : Prop := w.ownsRow B 9 1 (.slice a l.length c) l.length (sv l)
theorem sv_append (l m : List (List UInt8)) : sv (l ++ m) = sv l ++ sv m := by unfold sv; rw [List.map_append]
theorem OwnS.alloc {w : World} {B : Nat} {a : Option Addr} {c : Nat} {l : List (List UInt8)} (h : OwnS w B a c l) (o : Obj) : OwnS (w.alloc o) B a c l := World.ownsRow.alloc h o
theorem OwnS.below {w w' : World} {B : Nat} {a : Option Addr} {c : Nat} {l : List (List UInt8)} (h : OwnS w B a c l) (hb : Below w.heap.size w w') : OwnS w' B a c l :=
 World.ownsRow.kept (row := none) h ⟨hb.os, hb.tape, hb.output, hb.size, fun k hk _ => hb.block k hk⟩ (by cases (Value.slice a l.length c).ownBlock <;> simp)
theorem OwnS.nil (w : World) (B : Nat) : OwnS w B none 0 [] := World.ownsRow_nil w B 9 1
theorem OwnS.mono {w : World} {B B' : Nat} {a : Option Addr} {c : Nat} {l : List (List UInt8)} (h : OwnS w B a c l) (hB : B' ≤ B) : OwnS w B' a c l := by
 refine ⟨h.1, ?_⟩
 rcases h.2 with h' | ⟨g, cap, cur, h1, h2, h3⟩
 ·exact .inl h'
 ·exact .inr ⟨g, cap, cur, h1, by omega, h3⟩
/-- texts that can be read at a slice -/
def InT (w : World) (a : Option Addr) (c : Nat) (l : List (List UInt8)) : Prop := l.length ≤ c ∧ (l = [] ∨ ∃ g o, a = some ⟨g, o, none⟩ ∧ g < w.heap.size ∧ ∀ j (hj : j < l.length), w.cell? ⟨g, o + j, none⟩ = some (.string (text l[j])))
theorem InT.below {w w' : World} {a : Option Addr} {c : Nat} {l : List (List UInt8)} (h : InT w a c l) (hb : Below w.heap.size w w') : InT w' a c l := by
 refine ⟨h.1, ?_⟩
 rcases h.2 with rfl | ⟨g, o, rfl, hg, hc⟩
 ·exact .inl rfl
 ·exact .inr ⟨g, o, rfl, Nat.lt_of_lt_of_le hg hb.size, fun j hj => (hb.cell (p := ⟨g, o + j, none⟩) hg).trans (hc j hj)⟩
theorem InT.at {w : World} {a : Option Addr} {c : Nat} {l : List (List UInt8)} (h : InT w a c l) (j : Nat) (hj : j < l.length) : ∃ g o, a = some ⟨g, o, none⟩ ∧ g < w.heap.size ∧ w.cell? ⟨g, o + j, none⟩ = some (.string (text l[j])) := by
 rcases h.2 with rfl | ⟨g, o, h1, h2, h3⟩
 ·cases hj
 ·exact ⟨g, o, h1, h2, h3 j hj⟩
theorem sv_get (l : List (List UInt8)) (j : Nat) (hj : j < l.length) : (sv l)[j]? = some (.string (text l[j])) := by
 unfold sv
 rw [List.getElem?_map, List.getElem?_eq_getElem hj]
 rfl
theorem OwnS.in {w : World} {B : Nat} {a : Option Addr} {c : Nat} {l : List (List UInt8)} (h : OwnS w B a c l) : InT w a c l := by
 rcases h.2 with ⟨hv, hn⟩ | ⟨g, cap, cur, hv, hb, hg, hc⟩
 ·have : l = [] := List.eq_nil_of_length_eq_zero hn
  subst this
  exact ⟨Nat.zero_le _, .inl rfl⟩
 ·obtain ⟨rfl, rfl⟩ : a = some ⟨g, 0, none⟩ ∧ c = cap := by cases hv; exact ⟨rfl, rfl⟩
  refine ⟨hc.1, .inr ⟨g, 0, rfl, lt_of_block hg, fun j hj => ?_⟩⟩
  have h1 := World.ownsRow.cells h (g := g) rfl j _ (sv_get l j hj)
  rw [show (⟨g, 0, none⟩ : Addr).add j = ⟨g, 0 + j, none⟩ by unfold Addr.add; split <;> simp_all] at h1
  exact h1
/-- strings.Join -/
theorem joinT_c (q : UInt8) (l : List (List UInt8)) (h0 : 0 < l.length) (hl : l.length ≤ 140737488355328) (hj : (Lib.join l [q]).length ≤ 140737488355328) (a : Option Addr) (c : Nat) (w : World) (h : InT w a c l) :
 Calls Tryz.prog 34 #[.slice a l.length c, .string ⟨#[q]⟩] w fun e w' => e = .returned (.string (text (Lib.join l [q]))) ∧ Below w.heap.size w w' := by
 obtain ⟨hc, rfl | ⟨g, o, rfl, hg, hcell⟩⟩ := h
 ·cases h0
 ·have hcells : ∀ (j : Nat) x, (l.map text)[j]? = some x → w.cell? ⟨g, o + j, none⟩ = some (.string x) := fun j x hx => by
   rw [List.getElem?_map] at hx
   rcases Nat.lt_or_ge j l.length with hlt | hge
   ·rw [List.getElem?_eq_getElem hlt] at hx
    obtain rfl : text l[j] = x := by simpa using hx
    exact hcell j hlt
   ·rw [List.getElem?_eq_none hge] at hx
    cases hx
  have hm : ((l.map text).map (·.data.toList)) = l := by
   rw [List.map_map]
   have : ((fun x : ByteArray => x.data.toList) ∘ text) = id := by funext x; exact byts_text x
   rw [this, List.map_id]
  have hs : (⟨#[q]⟩ : ByteArray).data.toList = [q] := rfl
  have hJ := Any.strings_Join Tryz.lays156 Tryz.Builder_Extra_156 g o c (l.map text) ⟨#[q]⟩ w hcells hg (by rw [List.length_map]; omega) (by rw [List.length_map]; exact hc) (by rw [hm, hs]; omega)
  rw [hm, hs, List.length_map] at hJ
  exact hJ
theorem lens_le (k : Nat) (l : List (List UInt8)) (h : ∀ x ∈ l, x.length ≤ k) : Lib.lens l ≤ k * l.length := by
 induction l with
 | nil => exact Nat.zero_le _
 | cons x r ih =>
   have h1 := h x (List.mem_cons_self ..)
   have h2 := ih (fun y hy => h y (List.mem_cons_of_mem _ hy))
   unfold Lib.lens at *
   rw [List.map_cons, List.sum_cons, List.length_cons, Nat.mul_add]
   omega
theorem join_le (k : Nat) (q : UInt8) (l : List (List UInt8)) (h : ∀ x ∈ l, x.length ≤ k) : (Lib.join l [q]).length ≤ (k + 1) * l.length := by
 cases l with
 | nil => exact Nat.zero_le _
 | cons x r =>
   have h1 := h x (List.mem_cons_self ..)
   have h2 := lens_le k r (fun y hy => h y (List.mem_cons_of_mem _ hy))
   rw [Lib.join_cons, List.length_append, Lib.joinTail_length]
   simp only [List.length_cons, List.length_nil]
   have h3 : (k + 1) * (r.length + 1) = k * r.length + r.length + k + 1 := by rw [Nat.add_mul, Nat.mul_add]; omega
   omega
namespace Tl
theorem textF_len (x : WI) (ho : x.Ok) : (textF x).length ≤ 40 := by
 unfold textF
 split
 ·rw [List.length_append]
  have h : x.sz.toNat < 10 ^ 39 := by
   obtain ⟨o1, o2, o3, o4⟩ := ho
   unfold WI.sz
   have : (10 : Nat) ^ 39 = 1000000000000000000000000000000000000000 := by decide
   omega
  have := digs_len 38 x.sz.toNat h
  split <;> simp <;> omega
 ·simp
/-- a value's text -/
def valF (v : List WI) : List UInt8 := if v.length = 0 then [45] else Lib.join (v.map textF) [44]
theorem valF_len (v : List WI) (hv : ∀ x ∈ v, x.Ok) : (valF v).length ≤ 41 * v.length + 1 := by
 unfold valF
 split
 ·simp
 ·have := join_le 40 44 (v.map textF) (fun x hx => by
   obtain ⟨y, hy, rfl⟩ := List.mem_map.1 hx
   exact textF_len y (hv y hy))
  rw [List.length_map] at this
  omega
end Tl
theorem value_c (v : List WI) (hv : ∀ x ∈ v, x.Ok) (hL : v.length ≤ 1000000) (s : Value) (w : World) (hin : InV w s v) :
 Calls Tryz.prog 135 #[s] w fun e w' => e = .returned (.string (text (valF v))) ∧ Below w.heap.size w w' := by
 obtain ⟨i0, hi, hz0, hz1, hz2⟩ := info_parts infoStr
 obtain ⟨a0, c0, rfl, _⟩ := id hin
 have hvl := valF_len v hv
 obtain ⟨R, hR⟩ : ∃ R, valF v = R := ⟨_, rfl⟩
 rw [hR] at hvl ⊢
 unfold valF at hR
 by_cases h0 : v.length = 0
 ·rw [if_pos h0] at hR
  subst hR
  have e1 : ((v.length : Int) == 0) = true := by simp [h0]
  clear h0
  go_enter Tryz.func135, Tryz.ntmps135
  go_wp2_with fail
  go_ret
  exact ⟨rfl, Below.refl _ _⟩
 ·rw [if_neg h0] at hR
  have e1 : ((v.length : Int) == 0) = false := beq_eq_false_iff_ne.2 (by omega)
  replace hR := Hd hR
  replace hin := Hd hin
  replace hv := Hd hv
  go_enter Tryz.func135, Tryz.ntmps135
  go_wp2_with fail
  go_loopw [3, 11] (fun b i wr => ∃ j : Nat, j ≤ v.length ∧ i = .int .i64 j ∧ (∃ a c, b = .slice a ((v.take j).map textF).length c ∧ OwnS wr w.heap.size a c ((v.take j).map textF)) ∧ Below w.heap.size w wr) (fun _ i _ => v.length - (intOf i).toNat)
  case atStart => exact ⟨0, Nat.zero_le _, rfl, ⟨none, 0, rfl, OwnS.nil _ _⟩, Below.refl _ _⟩
  case round =>
   obtain ⟨j, hj, rfl, ⟨b, d, rfl, hown⟩, hb⟩ := hrel
   by_cases hlt : j < v.length
   ·obtain ⟨g, o, hga, hg, k0, k1, k2⟩ := (hin.out.below hb).at j hlt
    subst hga
    have hst : (v.take (j + 1)).map textF = (v.take j).map textF ++ [textF v[j]] := by
     rw [List.take_succ_eq_append_getElem hlt, List.map_append]
     rfl
    have hltI : (j : Int) < (v.length : Int) := by omega
    have ho := hv.out v[j] (List.getElem_mem hlt)
    generalize v[j] = x at *
    have hlen : ((v.take j).map textF).length = j := by rw [List.length_map, List.length_take]; omega
    generalize hL0 : (v.take j).map textF = L at *
    generalize hL1 : (v.take (j + 1)).map textF = L' at *
    have cT := fun w => wtext_c x ho w
    unfold wv at cT
    generalize textF x = t at *
    have hbz := hb.size
    have hba := hb.alloc hbz (.cells #[.bool x.n, .int .u64 x.h, .int .u64 x.l] 61)
    have hba2 := hba.size
    have hown1 := hown.alloc (.cells #[.bool x.n, .int .u64 x.h, .int .u64 x.l] 61)
    clear ho hL0 hown
    replace hL1 := Hd hL1
    replace cT := Hd cT
    replace hst := Hd hst
    replace hlen := Hd hlen
    replace hown1 := Hd hown1
    replace hb := Hd hb
    replace hba := Hd hba
    go_wp2_with fail
    refine (cT.out _).mono ?_
    rintro e w3 ⟨rfl, hb3⟩
    have hown2 := Hd (hown1.out.below hb3)
    have hb4 := Hd (below_up hba.out hba2 hb3)
    have hb4s := hb4.out.size
    clear hb3 hown1 hba hb
    have hsrc := src_str w3 (text t)
    go_wp2_with (at_builtin; refine wpList_append_own_src _ rfl (.tmp 15) (.tmp 18) 76 76 rfl w.heap.size 9 i0 (.string ⟨#[]⟩) 1 16 Tryz.underlying76 hi hz0 hz1 hz2 rfl rfl (hown2.out.alloc _) rfl hsrc ?_ ?_ ?_ ?_)
    ·have := hlen.out; unfold maxLen; omega
    ·have := hlen.out; omega
    ·(try rw [size_alloc]); omega
    intro b' c' w4 hown3 hg1
    have hfin := Hd (Below.grown (hb4.out.alloc hb4s (.cells #[.string (text t)] 9)) hg1 (by rw [size_alloc]; omega) (fun q hq => by have := World.ownsRow.lt hown2.out q hq; omega))
    rw [show ([.string (text t)] : List Value) = sv [t] from rfl, ← sv_append] at hown3
    have hown4 : OwnS w4 w.heap.size b' c' (L ++ [t]) := by
     unfold OwnS
     rw [List.length_append]
     exact hown3
    replace hown4 := Hd hown4
    clear hg1 hsrc hown3 hown2 hb4
    go_wp2_with fail
    go_roundw
    case rel => exact ⟨j + 1, by omega, by go_num, ⟨b', c', by rw [hL1.out, hst.out, List.length_append]; rfl, by rw [hL1.out, hst.out]; exact hown4.out⟩, hfin.out⟩
    case measure => simp [intOf]; omega
   ·obtain rfl : j = v.length := by omega
    rw [List.take_length] at hown ⊢
    have hjl : (Lib.join (v.map textF) [44]).length ≤ 140737488355328 := by rw [hR.out]; omega
    have cj := joinT_c 44 (v.map textF) (by rw [List.length_map]; omega) (by rw [List.length_map]; omega) hjl b d wr hown.in
    rw [List.length_map, hR.out] at cj
    have hbz := hb.size
    clear hown hjl
    replace cj := Hd cj
    replace hb := Hd hb
    go_wp2_with fail
    refine cj.out.mono ?_
    rintro e w5 ⟨rfl, hb5⟩
    have hfin2 := below_up hb.out hbz hb5
    go_wp2_with fail
    go_ret
    exact ⟨rfl, hfin2⟩
theorem cell_up {w w' : World} {b i : Nat} {v : Value} (h : w.cell? ⟨b, i, none⟩ = some v) (hb : Below w.heap.size w w') : w'.cell? ⟨b, i, none⟩ = some v :=
 (hb.cell (World.block_lt_of_cell? _ _ h)).trans h
theorem below_d {w w' : World} (h : Below w.heap.size w.drew w') : Below w.heap.size w w' := (below_drewed (Below.refl _ _)).trans h
namespace Tl
/-- a part's text -/
def partT (p : PartD) : List UInt8 := Lib.itoa p.C ++ [61] ++ valF p.V
theorem itoa_le {n : Int} (h : i64 n) : (Lib.itoa n).length ≤ 21 := Lib.itoa_length_le n h.1 h.2
theorem partT_len {p : PartD} (h : p.Ok) : (partT p).length ≤ 41 * p.V.length + 23 := by
 unfold partT
 have h1 := itoa_le (n := p.C) ⟨h.1, h.2.1⟩
 have h2 := valF_len p.V h.2.2
 rw [List.length_append, List.length_append]
 simp
 omega
end Tl
theorem text3 (a b : List UInt8) (q : UInt8) : text a ++ ⟨#[q]⟩ ++ text b = text (a ++ [q] ++ b) := by
 rw [show (⟨#[q]⟩ : ByteArray) = text [q] from rfl, text_append, text_append]
theorem part_c (p : PartD) (hp : p.Ok) (hL : p.V.length ≤ 1000000) (t : Value) (w : World) (hin : InV w t p.V) (hg : GlobT w) :
 Calls Tryz.prog 120 #[partv p.C t] w fun e w' => e = .returned (.string (text (partT p))) ∧ Below w.heap.size w w' := by
 obtain ⟨C, v⟩ := p
 obtain ⟨p0, p1, hv⟩ := hp
 dsimp only at *
 have hb0 := below1 w (.cells #[.int .i64 C, t] 65)
 have hbox := IsC.new w 65 #[.int .i64 C, t]
 have c0 := hbox.cell 0
 have c1 := hbox.cell 1
 have hin0 := hin.below hb0
 have hg0 := hg.on hb0
 have hsz := size_alloc w (.cells #[.int .i64 C, t] 65)
 obtain ⟨ta, tc, rfl, _⟩ := id hin
 unfold partv partT
 dsimp only
 have hl1 := itoa_le (n := C) ⟨p0, p1⟩
 have hl2 := valF_len v hv
 generalize hW : w.alloc (.cells #[.int .i64 C, .slice ta v.length tc] 65) = W at *
 have cI := itoaT_c C ⟨p0, p1⟩ W.drew (hg0.on (below_drewed (Below.refl _ _)))
 have cV := fun w4 (h : InV w4 (.slice ta v.length tc) v) => value_c v hv hL _ w4 h
 obtain ⟨A, hA⟩ : ∃ A, Lib.itoa C = A := ⟨_, rfl⟩
 obtain ⟨B, hB⟩ : ∃ B, valF v = B := ⟨_, rfl⟩
 rw [hA] at cI hl1
 rw [hB] at hl2
 simp only [hB] at cV
 rw [hA, hB]
 have hs1 := text_size A
 have hs2 := text_size B
 clear hA hB hbox hin hg hv hg0
 have e9 := text3 A B 61
 have n1 : ¬ 9223372036854775807 < A.length + 1 := by omega
 have n2 : ¬ 9223372036854775807 < A.length + 1 + B.length := by omega
 replace cI := Hd cI
 replace cV := Hd cV
 replace hin0 := Hd hin0
 replace hb0 := Hd hb0
 replace e9 := Hd e9
 replace hW := Hd hW
 go_enter Tryz.func120, Tryz.ntmps120
 go_wp2_with fail
 rw [hW.out]
 go_region_held3 (fun w1 => w1.cell? ⟨w.heap.size, 0, none⟩ = some (.int .i64 C) ∧ w1.cell? ⟨w.heap.size, 1, none⟩ = some (.slice ta v.length tc)) (go_keep)
  (first
    |(go_at_call 66
      refine Calls.mono cI.out ?_
      rintro e w4 ⟨rfl, hb4⟩
      have y0 := cell_up c0 (below_d hb4)
      have y1 := cell_up c1 (below_d hb4)
      have hin4 := hin0.out.below (below_d hb4))
    |(go_at_call 135
      refine Calls.mono (cV.out _ hin4) ?_
      rintro e w5 ⟨rfl, hb5⟩
      have z0 := cell_up y0 hb5
      have z1 := cell_up y1 hb5))
 all_goals
  have hfin := Hd (below_up (below_up hb0.out hb0.out.size (below_d hb4)) (Nat.le_trans hb0.out.size (below_d hb4).size) hb5)
  clear hb4 hb5
  go_wp2_with fail
  go_ret
  exact ⟨congrArg (fun x => Ending.returned (.string x)) e9.out, hfin.out⟩
theorem sv_one (l : List (List UInt8)) : ∀ u ∈ sv l, u.oneCell' = true := by
 intro u hu
 obtain ⟨_, _, rfl⟩ := List.mem_map.1 hu
 rfl
theorem sv_length (l : List (List UInt8)) : (sv l).length = l.length := List.length_map _
theorem src_texts {w : World} {B c : Nat} {a : Option Addr} {l : List (List UInt8)} (h : OwnS w B a c l) : Src Tryz.prog 1 76 (.slice a l.length c) l.length (sv l) w := by
 rcases h.2 with ⟨hv, hn⟩ | ⟨g, cap, cur, hv, hb, hg, hc⟩
 ·have : l = [] := List.eq_nil_of_length_eq_zero hn
  subst this
  cases hv
  exact Src.ofNil _ Tryz.underlying76 0
 ·obtain ⟨rfl, rfl⟩ : a = some ⟨g, 0, none⟩ ∧ c = cap := by cases hv; exact ⟨rfl, rfl⟩
  exact Src.ofSlice _ Tryz.underlying76 ⟨g, 0, none⟩ l.length c (sv l) h.1 (fun j u hu => by simpa [Addr.add] using h.cells (g := g) rfl j u hu) (sv_one l)
/-- a row of texts, whole -/
theorem own_lit (w : World) (B : Nat) (l : List (List UInt8)) (hb : B ≤ w.heap.size) (hm : l.length ≤ maxLen) : OwnS (w.alloc (.cells (sv l).toArray 9)) B (some ⟨w.heap.size, 0, none⟩) l.length l :=
 ownsRow_lit w B 9 (sv l) l.length hb (sv_length l) hm
namespace Tl
theorem idF_i64 {e : Int} (h : u64 e) : i64 (idF e) := by obtain ⟨h0, h1⟩ := h; unfold i64 idF; omega
theorem genF_i64 {e : Int} (h : u64 e) : i64 (genF e) := by obtain ⟨h0, h1⟩ := h; unfold i64 genF; omega
end Tl
theorem handle_c (e : Int) (he : u64 e) (w : World) (hg : GlobT w) :
 Calls Tryz.prog 119 #[.int .u64 e] w fun x w' => (∃ a c, x = .returned (.slice a 2 c) ∧ OwnS w' w.heap.size a c [Lib.itoa (idF e), Lib.itoa (genF e)]) ∧ Below w.heap.size w w' := by
 have c1 := id_c e he
 have c2 := gen_c e he
 have c3 := itoaT_c (idF e) (idF_i64 he) w hg
 have c4 := fun w h => itoaT_c (genF e) (genF_i64 he) w h
 generalize idF e = x at *
 generalize genF e = y at *
 generalize Lib.itoa x = A at *
 generalize Lib.itoa y = B at *
 replace c1 := Hd c1
 replace c2 := Hd c2
 replace c3 := Hd c3
 replace c4 := Hd c4
 go_enter Tryz.func119, Tryz.ntmps119
 go_wp2_with fail
 refine (c1.out.on _).mono ?_
 rintro e w' ⟨rfl, rfl⟩
 go_wp2_with fail
 refine c3.out.mono ?_
 rintro e w1 ⟨rfl, hb1⟩
 have c4 := Hd (c4.out w1 (hg.on hb1))
 have hs1 := hb1.size
 replace hb1 := Hd hb1
 go_wp2_with fail
 refine (c2.out.on _).mono ?_
 rintro e w' ⟨rfl, rfl⟩
 go_wp2_with fail
 refine c4.out.mono ?_
 rintro e w2 ⟨rfl, hb2⟩
 have hb := below_up hb1.out hs1 hb2
 have hown := own_lit w2 w.heap.size [A, B] hb.size (by unfold maxLen; simp)
 have hfin := hb.alloc hb.size (.cells (sv [A, B]).toArray 9)
 clear hb hb1 hb2
 replace hown := Hd hown
 replace hfin := Hd hfin
 go_wp2_with fail
 go_ret
 exact ⟨⟨_, _, rfl, hown.out⟩, hfin.out⟩
namespace Tl
/-- the words of somebody and their parts -/
def whoL (e : Int) (ps : List PartD) : List (List UInt8) := [[101], Lib.itoa (idF e), Lib.itoa (genF e)] ++ ps.map partT
def whoT (e : Int) (ps : List PartD) : List UInt8 := Lib.join (whoL e ps) [32]
theorem whoL_len (e : Int) (ps : List PartD) : (whoL e ps).length = ps.length + 3 := by unfold whoL; rw [List.length_append, List.length_map]; simp; omega
end Tl
namespace Tl
theorem whoT_len (e : Int) (he : u64 e) (ps : List PartD) (hs : Small ps) : (whoT e ps).length ≤ 50000000000000 := by
 have h := join_le 41000023 32 (whoL e ps) (fun x hx => by
  unfold whoL at hx
  rcases List.mem_append.1 hx with hx | hx
  ·have h1 := itoa_le (idF_i64 he)
   have h2 := itoa_le (genF_i64 he)
   simp only [List.mem_cons, List.not_mem_nil, or_false] at hx
   rcases hx with rfl | rfl | rfl
   ·simp
   ·omega
   ·omega
  ·obtain ⟨p, hp, rfl⟩ := List.mem_map.1 hx
   obtain ⟨h1, h2⟩ := hs.2 p hp
   have := partT_len h1
   omega)
 rw [whoL_len] at h
 have := hs.1
 unfold whoT
 omega
end Tl
theorem who_c (e : Int) (he : u64 e) (ps : List PartD) (hs : Small ps) (s : Value) (w : World) (hin : InS w s ps) (hg : GlobT w) :
 Calls Tryz.prog 94 #[.int .u64 e, s] w fun x w' => x = .returned (.string (text (whoT e ps))) ∧ Below w.heap.size w w' := by
 obtain ⟨i0, hi, hz0, hz1, hz2⟩ := info_parts infoStr
 have hwl := whoT_len e he ps hs
 obtain ⟨hL, hS⟩ := hs
 obtain ⟨a0, cp0, rfl, _⟩ := id hin
 unfold whoT at *
 obtain ⟨R, hR⟩ : ∃ R, Lib.join (whoL e ps) [32] = R := ⟨_, rfl⟩
 rw [hR] at hwl ⊢
 replace hR := Hd hR
 have hb0 := below1 w (.cells (sv [[101]]).toArray 9)
 have hown0 := own_lit w w.heap.size [[101]] (Nat.le_refl _) (by unfold maxLen; simp)
 have ch := handle_c e he _ (hg.on hb0)
 have hz : [[101], Lib.itoa (idF e), Lib.itoa (genF e)] = [[101]] ++ [Lib.itoa (idF e), Lib.itoa (genF e)] := rfl
 unfold whoL at hR
 obtain ⟨H, hH⟩ : ∃ H, [Lib.itoa (idF e), Lib.itoa (genF e)] = H := ⟨_, rfl⟩
 rw [hz, hH] at hR
 rw [hH] at ch
 have hHl : H.length = 2 := by rw [← hH]; rfl
 clear hz hH
 replace hR := Hd hR
 replace ch := Hd ch
 replace hin := Hd hin
 replace hS := Hd hS
 replace hb0 := Hd hb0
 replace hown0 := Hd hown0
 go_enter Tryz.func94, Tryz.ntmps94
 go_wp2_with fail
 refine ch.out.mono ?_
 rintro x w1 ⟨⟨b1, d1, rfl, hown1⟩, hb1⟩
 have hs0 := hb0.out.size
 have hown2 := Hd (hown0.out.below hb1)
 have hb2 := Hd (below_up hb0.out hs0 hb1)
 have hs2 := hb2.out.size
 have hsrc := src_texts hown1
 rw [hHl] at hsrc
 clear hb1 hown1 ch hown0 hb0
 go_wp2_with (at_builtin; refine wpList_append_own_src _ rfl (.tmp 8) (.tmp 10) 76 76 rfl w.heap.size 9 i0 (.string ⟨#[]⟩) 1 16 Tryz.underlying76 hi hz0 hz1 hz2 rfl rfl hown2.out rfl hsrc ?_ ?_ ?_ ?_)
 ·unfold maxLen; simp
 ·simp
 ·exact hs2
 intro b' c' w4 hown3 hg1
 have hb4 := Hd (Below.grown hb2.out hg1 hs2 (fun q hq => by have := World.ownsRow.lt hown2.out q hq; omega))
 rw [← sv_append] at hown3
 have hown4 : OwnS w4 w.heap.size b' c' ([[101]] ++ H) := by
  unfold OwnS
  rw [List.length_append, hHl]
  exact hown3
 replace hown4 := Hd hown4
 clear hg1 hsrc hown3 hown2 hb2
 have hgl : ([[101]] ++ H).length = 3 := by rw [List.length_append, hHl]; rfl
 obtain ⟨G, hG⟩ : ∃ G, [[101]] ++ H = G := ⟨_, rfl⟩
 rw [hG] at hR hown4 hgl
 clear hG hHl
 replace hgl := Hd hgl
 replace hg := Hd hg
 go_wp2_with fail
 go_loopw [5, 14] (fun b i wr => ∃ j : Nat, j ≤ ps.length ∧ i = .int .i64 j ∧ (∃ a c, b = .slice a (j + 3) c ∧ OwnS wr w.heap.size a c (G ++ (ps.take j).map partT)) ∧ Below w.heap.size w wr) (fun _ i _ => ps.length - (intOf i).toNat)
 case atStart => exact ⟨0, Nat.zero_le _, rfl, ⟨b', c', rfl, by rw [List.take_zero, List.map_nil, List.append_nil]; exact hown4.out⟩, hb4.out⟩
 case round =>
  clear hown4 hb4
  obtain ⟨j, hj, rfl, ⟨b, d, rfl, hown⟩, hb⟩ := hrel
  have hlen : (G ++ (ps.take j).map partT).length = j + 3 := by rw [List.length_append, hgl.out, List.length_map, List.length_take]; omega
  by_cases hlt : j < ps.length
  ·obtain ⟨g, o, ts, hga, hgx, k0, k1, k2⟩ := (hin.out.below hb).at j hlt
   subst hga
   have hst : G ++ (ps.take (j + 1)).map partT = (G ++ (ps.take j).map partT) ++ [partT ps[j]] := by
    rw [List.take_succ_eq_append_getElem hlt, List.map_append, List.append_assoc]
    rfl
   have hltI : (j : Int) < (ps.length : Int) := by omega
   obtain ⟨ho, hvl⟩ := hS.out ps[j] (List.getElem_mem hlt)
   generalize ps[j] = p at *
   have hbz := hb.size
   have hbox := below1 wr (.cells #[.int .i64 p.C, ts] 65)
   have cT := part_c p ho hvl ts _ (k2.below hbox) ((hg.out.on hb).on hbox)
   have hba := hb.alloc hbz (.cells #[.int .i64 p.C, ts] 65)
   have hba2 := hba.size
   have hown1 := hown.alloc (.cells #[.int .i64 p.C, ts] 65)
   obtain ⟨ta, tc, rfl, _⟩ := k2
   unfold partv at cT
   generalize hL0 : G ++ (ps.take j).map partT = L at *
   generalize hL1 : G ++ (ps.take (j + 1)).map partT = L' at *
   generalize partT p = t at *
   clear ho hvl hL0 hown hbox
   replace hL1 := Hd hL1
   replace cT := Hd cT
   replace hst := Hd hst
   replace hlen := Hd hlen
   replace hown1 := Hd hown1
   replace hb := Hd hb
   replace hba := Hd hba
   go_wp2_with fail
   refine cT.out.mono ?_
   rintro x w3 ⟨rfl, hb3⟩
   have hown2 := hown1.out.below hb3
   unfold OwnS at hown2
   rw [hlen.out] at hown2
   replace hown2 := Hd hown2
   have hb4 := Hd (below_up hba.out hba2 hb3)
   have hb4s := hb4.out.size
   clear hb3 hown1 hba hb
   have hsrc := src_str w3 (text t)
   go_wp2_with (at_builtin; refine wpList_append_own_src _ rfl (.tmp 18) (.tmp 21) 76 76 rfl w.heap.size 9 i0 (.string ⟨#[]⟩) 1 16 Tryz.underlying76 hi hz0 hz1 hz2 rfl rfl (hown2.out.alloc _) rfl hsrc ?_ ?_ ?_ ?_)
   ·unfold maxLen; omega
   ·omega
   ·(try rw [size_alloc]); omega
   intro b'' c'' w5 hown3 hg1
   have hfin := Hd (Below.grown (hb4.out.alloc hb4s (.cells #[.string (text t)] 9)) hg1 (by rw [size_alloc]; omega) (fun q hq => by have := World.ownsRow.lt hown2.out q hq; omega))
   rw [show ([.string (text t)] : List Value) = sv [t] from rfl, ← sv_append] at hown3
   have hown4 : OwnS w5 w.heap.size b'' c'' (L ++ [t]) := by
    unfold OwnS
    rw [List.length_append, hlen.out]
    exact hown3
   replace hown4 := Hd hown4
   clear hg1 hsrc hown3 hown2 hb4
   go_wp2_with fail
   go_roundw
   case rel => exact ⟨j + 1, by omega, by go_num, ⟨b'', c'', by congr 1, by rw [hL1.out, hst.out]; exact hown4.out⟩, hfin.out⟩
   case measure => simp [intOf]; omega
  ·obtain rfl : j = ps.length := by omega
   rw [List.take_length] at hown hlen
   have hjl : (Lib.join (G ++ ps.map partT) [32]).length ≤ 140737488355328 := by rw [hR.out]; omega
   have cj := joinT_c 32 (G ++ ps.map partT) (by rw [hlen]; omega) (by rw [hlen]; omega) hjl b d wr hown.in
   rw [hlen, hR.out] at cj
   have hbz := hb.size
   clear hown hjl
   replace cj := Hd cj
   replace hb := Hd hb
   go_wp2_with fail
   refine cj.out.mono ?_
   rintro e w5 ⟨rfl, hb5⟩
   have hfin2 := below_up hb.out hbz hb5
   go_wp2_with fail
   go_ret
   exact ⟨rfl, hfin2⟩
end Go.Proofs.YtjjgbillihedgaaGreatDoor
namespace Go.Proofs.YtjjgbillihedgaaGreatDoor
open Go.RowKit
open Rf
open Sg
open Wide
namespace Tl
/-- the pieces between the plusses, byte by byte -/
def segsQ (q : UInt8) : List UInt8 → List (List UInt8)
 | [] => [[]]
 | c :: r => if c = q then [] :: segsQ q r else match segsQ q r with
   | [] => [[c]]
   | x :: t => (c :: x) :: t
theorem segsQ_ne (q : UInt8) (l : List UInt8) : segsQ q l ≠ [] := by
 cases l with
 | nil => simp [segsQ]
 | cons c r =>
   unfold segsQ
   split
   ·simp
   ·split <;> simp
theorem segsQ_plus (q : UInt8) (r : List UInt8) : segsQ q (q :: r) = [] :: segsQ q r := by rw [segsQ, if_pos rfl]
theorem segsQ_cons (q : UInt8) (c : UInt8) (r : List UInt8) (h : c ≠ q) : ∃ x t, segsQ q r = x :: t ∧ segsQ q (c :: r) = (c :: x) :: t := by
 cases hs : segsQ q r with
 | nil => exact absurd hs (segsQ_ne q r)
 | cons x t => exact ⟨x, t, rfl, by rw [segsQ, if_neg h, hs]⟩
theorem splitK_segsQ (q : UInt8) : ∀ (k : Nat) (l : List UInt8), Lib.count l [q] = k → Lib.splitK [q] 0 k l = segsQ q l := by
 intro k l
 induction l generalizing k with
 | nil =>
   intro h
   rw [Lib.count_one] at h
   obtain rfl : k = 0 := by simpa using h.symm
   rfl
 | cons c r ih =>
   intro h
   by_cases hc : c = q
   ·subst hc
    rw [Lib.count_cons_eq] at h
    obtain ⟨j, rfl⟩ : ∃ j, k = j + 1 := ⟨k - 1, by omega⟩
    have hix : Lib.index (c :: r) [c] = 0 := by rw [Lib.index]; simp [List.isPrefixOf]
    rw [segsQ_plus, Lib.splitK, hix, if_neg (by decide), ← ih j (by omega)]
    rfl
   ·rw [Lib.count_cons_ne c q r hc] at h
    have ih := ih k h
    obtain ⟨x, t, h1, h2⟩ := segsQ_cons q c r hc
    rw [h2]
    rw [h1] at ih
    cases k with
    | zero =>
      rw [Lib.splitK] at ih ⊢
      cases ih
      rfl
    | succ k =>
      have hp : ([q] : List UInt8).isPrefixOf (c :: r) = false := by simp [List.isPrefixOf, Ne.symm hc]
      have hix : Lib.index (c :: r) [q] = if Lib.index r [q] == -1 then -1 else Lib.index r [q] + 1 := by rw [Lib.index, hp]; simp
      rw [Lib.splitK] at ih ⊢
      by_cases hm : Lib.index r [q] = -1
      ·rw [if_pos (by rw [hm]; rfl)] at ih
       rw [hix, if_pos (by rw [hm]; rfl)]
       cases ih
       rfl
      ·have hge := Lib.index_ge r [q]
       obtain ⟨j, hj⟩ : ∃ j : Nat, Lib.index r [q] = j := ⟨(Lib.index r [q]).toNat, by omega⟩
       rw [if_neg (fun e => hm (beq_iff_eq.1 e)), hj] at ih
       rw [hix, if_neg (fun e => hm (beq_iff_eq.1 e)), hj, if_neg (fun e => by have := beq_iff_eq.1 e; omega)]
       have e1 : ((j : Int) + 1).toNat = j + 1 := by omega
       rw [e1]
       simp only [Int.toNat_natCast, Nat.add_zero, List.length_cons, List.length_nil] at ih ⊢
       rw [List.take_succ_cons, List.drop_succ_cons]
       have ih1 := (List.cons.inj ih).1
       have ih2 := (List.cons.inj ih).2
       rw [ih1, ih2]
theorem segsQ_app (q : UInt8) (x l : List UInt8) (h : q ∉ x) : segsQ q (x ++ q :: l) = x :: segsQ q l := by
 induction x with
 | nil => exact segsQ_plus q l
 | cons c r ih =>
   simp only [List.mem_cons, not_or] at h
   obtain ⟨y, t, h1, h2⟩ := segsQ_cons q c (r ++ q :: l) (fun e => h.1 e.symm)
   rw [List.cons_append, h2]
   rw [ih h.2] at h1
   cases h1
   rfl
/-- pieces with a plus behindQ q each -/
def behindQ (q : UInt8) (xs : List (List UInt8)) : List UInt8 := (xs.map (· ++ [q])).flatten
theorem behindQ_nil (q : UInt8) : behindQ q [] = [] := rfl
theorem behindQ_cons (q : UInt8) (x : List UInt8) (xs : List (List UInt8)) : behindQ q (x :: xs) = x ++ q :: behindQ q xs := by simp [behindQ]
theorem joinQ_behind (q : UInt8) (x : List UInt8) (xs : List (List UInt8)) : Lib.join (x :: xs) [q] ++ [q] = behindQ q (x :: xs) := by
 rw [Lib.join_cons, behindQ_cons]
 unfold Lib.joinTail
 induction xs generalizing x with
 | nil => simp [behindQ_nil]
 | cons y r ih =>
   have := ih y
   rw [List.append_assoc] at this ⊢
   rw [List.map_cons, List.flatten_cons, List.append_assoc, List.append_assoc, behindQ_cons, ← List.append_cancel_left this]
   simp
theorem segsQ_behind (q : UInt8) (xs : List (List UInt8)) (l : List UInt8) (h : ∀ x ∈ xs, q ∉ x) : segsQ q (behindQ q xs ++ l) = xs ++ segsQ q l := by
 induction xs with
 | nil => rfl
 | cons x r ih =>
   rw [behindQ_cons, List.append_assoc, List.cons_append, segsQ_app q x _ (h x (by simp)), ih (fun y hy => h y (by simp [hy])), List.cons_append]
theorem segsQ_join (q : UInt8) (x : List UInt8) (xs : List (List UInt8)) (h : ∀ y ∈ x :: xs, q ∉ y) : segsQ q (Lib.join (x :: xs) [q]) = x :: xs := by
 have h1 : segsQ q (Lib.join (x :: xs) [q] ++ q :: []) = x :: xs ++ [[]] := by
  rw [joinQ_behind, ← List.append_nil (behindQ q (x :: xs)), segsQ_behind q _ _ h]
  rfl
 suffices hh : ∀ l : List UInt8, segsQ q (l ++ [q]) = segsQ q l ++ [[]] by
  rw [hh] at h1
  exact List.append_cancel_right h1
 intro l
 induction l with
 | nil => show segsQ q [q] = [[], []]; rw [segsQ_plus]; rfl
 | cons c r ih =>
   by_cases hc : c = q
   ·subst hc
    rw [List.cons_append, segsQ_plus, segsQ_plus, ih, List.cons_append]
   ·obtain ⟨y, t, h1, h2⟩ := segsQ_cons q c r hc
    obtain ⟨y', t', h3, h4⟩ := segsQ_cons q c (r ++ [q]) hc
    rw [List.cons_append, h4, h2]
    rw [ih, h1, List.cons_append] at h3
    cases h3
    rfl
end Tl
open Tl
theorem splitQ_len (q : UInt8) (s : ByteArray) : (segsQ q (byts s)).length = Lib.countB s ⟨#[q]⟩ + 1 := by
 have h : (Lib.splitB ⟨#[q]⟩ 0 (Lib.countB s ⟨#[q]⟩) s).length = Lib.countB s ⟨#[q]⟩ + 1 := Lib.splitB_all ⟨#[q]⟩ (by show 1 ≤ 1; omega) 0 _ s rfl
 have h2 : (Lib.splitB ⟨#[q]⟩ 0 (Lib.countB s ⟨#[q]⟩) s).map (·.data.toList) = segsQ q (byts s) := by
  rw [Lib.splitB_data]
  exact splitK_segsQ q _ _ rfl
 rw [← h2, List.length_map]
 exact h
theorem splitQ_vals (q : UInt8) (s : ByteArray) : (Lib.splitB ⟨#[q]⟩ 0 (Lib.countB s ⟨#[q]⟩) s).map Value.string = sv (segsQ q (byts s)) := by
 have h2 : (Lib.splitB ⟨#[q]⟩ 0 (Lib.countB s ⟨#[q]⟩) s).map (·.data.toList) = segsQ q (byts s) := by
  rw [Lib.splitB_data]
  exact splitK_segsQ q _ _ rfl
 rw [← h2]
 unfold sv
 rw [List.map_map]
 apply List.map_congr_left
 intro x _
 show Value.string x = Value.string (text (byts x))
 rw [text_byts]
end Go.Proofs.YtjjgbillihedgaaGreatDoor
