/- parts of the proof, merged: SgX, SgY, SgZ, SgPa, SgM, SgBk, SgQ, SgRp, SgTw -/
import Derived.Test.YtjjgbillihedgaaGreatDoorShelf
import Derived.Test.YtjjgbillihedgaaGreatDoorQy2
set_option maxHeartbeats 16000000
set_option maxRecDepth 100000
namespace Go.Proofs.YtjjgbillihedgaaGreatDoor
open Go.RowKit
open Rf
open Sg
open Wide
namespace Sg
/-- an id's digits; a set's text -/
def dgt (i : Int) : List UInt8 := digs i.toNat
def textS (s : Nat) : List UInt8 := if (ids s).length = 0 then [45] else Lib.join ((ids s).map dgt) [43]
theorem dec_digs (n : Nat) : Lib.decDigits n = digs n := by
 induction n using Nat.strongRecOn with
 | _ n ih =>
   rw [Lib.decDigits, digs]
   by_cases h : n < 10
   ·rw [dif_pos h, if_pos h]
   ·rw [dif_neg h, if_neg h, ih (n / 10) (by omega)]
theorem ids_id {s : Nat} {i : Int} (h : i ∈ ids s) : 1 ≤ i ∧ i ≤ 24 := by
 have := (mem_ids s i).1 h
 unfold has isId at this
 simp at this
 omega
theorem dgt_len {i : Int} (h1 : 1 ≤ i) (h2 : i ≤ 24) : (dgt i).length ≤ 2 := digs_len 1 _ (by omega)
theorem lens_bd (l : List (List UInt8)) (h : ∀ x ∈ l, x.length ≤ 2) : Lib.lens l ≤ 2 * l.length := by
 induction l with
 | nil => exact Nat.le_refl 0
 | cons x r ih =>
   have h1 := h x (List.mem_cons_self ..)
   have h2 := ih (fun y hy => h y (List.mem_cons_of_mem _ hy))
   unfold Lib.lens at *
   rw [List.map_cons, List.sum_cons, List.length_cons]
   omega
theorem join_bd (l : List (List UInt8)) (h : ∀ x ∈ l, x.length ≤ 2) : (Lib.join l [43]).length ≤ 3 * l.length := by
 cases l with
 | nil => exact Nat.zero_le _
 | cons x r =>
   have h1 := h x (List.mem_cons_self ..)
   have h2 := lens_bd r (fun y hy => h y (List.mem_cons_of_mem _ hy))
   rw [Lib.join_cons, List.length_append, Lib.joinTail_length, List.length_cons]
   simp only [List.length_cons, List.length_nil]
   omega
theorem ids_le (s : Nat) : (ids s).length ≤ 24 := idsFrom_len s 1 24
end Sg
/-- texts as values -/
def sv (l : List (List UInt8)) : List Value := l.map fun x => .string (text x)
theorem infoStr : (Tryz.prog.info? 9).map (fun i => (i.zero, i.size, i.bytes)) = some (some (.string ⟨#[]⟩), 1, 16) := by kernel_rfl
theorem itoa_c (n : Nat) (hn : n < 100) : Still 66 #[.int .i64 (n : Int)] (.string (text (digs n))) := fun w => by
 have h := Go.Proofs.Any.strconv_Itoa_small Tryz.lays171 n hn w
 rw [dec_digs] at h
 exact h.mono fun e w' ⟨h1, h2⟩ => ⟨h1, h2.symm⟩
theorem src_str (w : World) (x : ByteArray) : Src Tryz.prog 1 76 (.slice (some ⟨w.heap.size, 0, none⟩) 1 1) 1 [.string x] (w.alloc (.cells #[.string x] 9)) :=
 Src.ofSlice _ Tryz.underlying76 ⟨w.heap.size, 0, none⟩ 1 1 _ rfl (cell_one_new _ _ _) (by intro u hu; simp at hu; subst hu; rfl)
theorem join_c (l : List (List UInt8)) (h0 : 0 < l.length) (hl : l.length ≤ 1000) (hj : (Lib.join l [43]).length ≤ 100000) (a : Option Addr) (c B : Nat) (w : World) (h : w.ownsRow B 9 1 (.slice a l.length c) l.length (sv l)) :
 Calls Tryz.prog 34 #[.slice a l.length c, .string ⟨#[43]⟩] w fun e w' => e = .returned (.string (text (Lib.join l [43]))) ∧ Below w.heap.size w w' := by
 rcases h.2 with ⟨_, hn⟩ | ⟨g, cap, cur, hv, hb, hg, hc⟩
 ·omega
 ·obtain ⟨rfl, rfl⟩ : a = some ⟨g, 0, none⟩ ∧ c = cap := by cases hv; exact ⟨rfl, rfl⟩
  have hcells : ∀ (j : Nat) x, (l.map text)[j]? = some x → w.cell? ⟨g, 0 + j, none⟩ = some (.string x) := fun j x hx => by
   have h1 := World.ownsRow.cells h (g := g) rfl j (.string x) (by
    unfold sv
    rw [List.getElem?_map] at hx ⊢
    cases hq : l[j]? with
    | none => rw [hq] at hx; cases hx
    | some y => rw [hq] at hx; cases hx; rfl)
   rw [show (⟨g, 0, none⟩ : Addr).add j = ⟨g, 0 + j, none⟩ by unfold Addr.add; split <;> simp_all] at h1
   exact h1
  have hm : ((l.map text).map (·.data.toList)) = l := by
   rw [List.map_map]
   have : ((fun x : ByteArray => x.data.toList) ∘ text) = id := by funext x; exact byts_text x
   rw [this, List.map_id]
  have hs : (⟨#[43]⟩ : ByteArray).data.toList = [43] := rfl
  have hJ := Go.Proofs.Any.strings_Join Tryz.lays156 Tryz.Builder_Extra_156 g 0 c (l.map text) ⟨#[43]⟩ w hcells (lt_of_block hg) (by rw [List.length_map]; omega) (by rw [List.length_map]; exact hc.1) (by rw [hm, hs]; omega)
  rw [hm, hs, List.length_map] at hJ
  exact hJ
theorem text_c (s : Nat) (hs : s < 4294967296) : Ret 96 #[.int .u32 (s : Int)] (.string (text (textS s))) := fun w => by
 obtain ⟨i0, hi, hz0, hz1, hz2⟩ := info_parts infoStr
 have cl := len_c s hs
 have ci := ids_c s hs
 have hid := fun (i : Int) (h : i ∈ ids s) => ids_id h
 have hle := ids_le s
 obtain ⟨res, hres⟩ : ∃ res, textS s = res := ⟨_, rfl⟩
 rw [hres]
 unfold textS at hres
 generalize ids s = L at *
 replace cl := Hd cl
 replace ci := Hd ci
 by_cases h0 : L.length = 0
 ·rw [if_pos h0] at hres
  subst hres
  have e1 : ((L.length : Int) == 0) = true := by simp [h0]
  clear h0
  go_enter Tryz.func96, Tryz.ntmps96
  go_wp2_with fail
  refine (cl.out.on _).mono ?_
  rintro e w1 ⟨rfl, hb⟩
  go_wp2_with fail
  go_ret
  exact ⟨rfl, hb⟩
 ·rw [if_neg h0] at hres
  have e1 : ((L.length : Int) == 0) = false := beq_eq_false_iff_ne.2 (by omega)
  replace hres := Hd hres
  go_enter Tryz.func96, Tryz.ntmps96
  go_wp2_with fail
  refine (cl.out.on _).mono ?_
  rintro e w1 ⟨rfl, hb⟩
  replace hb := Hd hb
  go_wp2_with fail
  refine (ci.out.on _).mono ?_
  rintro e w2 ⟨a, c, rfl, hown, hb2⟩
  have hin := hown.in
  replace hb2 := below_up hb.out hb.out.size hb2
  clear hb hown
  have hq := hb2.size
  replace hb2 := Hd hb2
  replace hin := Hd hin
  go_wp2_with fail
  go_loopw [3, 12] (fun b i wr => ∃ j : Nat, j ≤ L.length ∧ i = .int .i64 j ∧ (∃ a c, b = .slice a j c ∧ wr.ownsRow w2.heap.size 9 1 (.slice a j c) j (sv ((L.take j).map dgt))) ∧ Below w2.heap.size w2 wr) (fun _ i _ => L.length - (intOf i).toNat)
  case atStart => exact ⟨0, Nat.zero_le _, rfl, ⟨none, 0, rfl, World.ownsRow_nil w2 _ _ _⟩, Below.refl _ _⟩
  case round =>
   obtain ⟨j, hj, rfl, ⟨b, d, rfl, hown⟩, hbr⟩ := hrel
   by_cases hlt : j < L.length
   ·obtain ⟨g, o, hga, hg, hc⟩ := (hin.out.below hbr).at j hlt
    subst hga
    have hst : (L.take (j + 1)).map dgt = (L.take j).map dgt ++ [dgt L[j]] := by
     rw [List.take_succ_eq_append_getElem hlt, List.map_append]
     rfl
    have hltI : (j : Int) < (L.length : Int) := by omega
    obtain ⟨x1, x2⟩ := hid L[j] (List.getElem_mem hlt)
    generalize L[j] = x at *
    obtain ⟨n, rfl⟩ : ∃ n : Nat, x = n := ⟨x.toNat, by omega⟩
    have cI := itoa_c n (by omega)
    unfold dgt at hst
    rw [Int.toNat_natCast] at hst
    have hsz := hbr.size
    obtain ⟨t, ht⟩ : ∃ t, digs n = t := ⟨_, rfl⟩
    rw [ht] at hst cI
    clear ht
    replace cI := Hd cI
    replace hst := Hd hst
    replace hown := Hd hown
    replace hbr := Hd hbr
    go_wp2_with fail
    refine (cI.out.on _).mono ?_
    rintro e w3 ⟨rfl, rfl⟩
    have hsrc := src_str wr (text t)
    go_wp2_with (at_builtin; refine wpList_append_own_src _ rfl (.tmp 16) (.tmp 19) 76 76 rfl w2.heap.size 9 i0 (.string ⟨#[]⟩) 1 16 Tryz.underlying76 hi hz0 hz1 hz2 rfl rfl (hown.out.alloc _) rfl hsrc ?_ ?_ ?_ ?_)
    ·unfold maxLen; omega
    ·omega
    ·(try rw [size_alloc]); omega
    intro b' c' w4 hown2 hg1
    have hfin := Hd (Below.grown (hbr.out.alloc hsz (.cells #[.string (text t)] 9)) hg1 (by rw [size_alloc]; omega) (fun q hq => by have := World.ownsRow.lt hown.out q hq; omega))
    replace hown2 := Hd hown2
    clear hg1 hsrc hown hbr
    go_wp2_with fail
    go_roundw
    case rel => exact ⟨j + 1, by omega, by go_num, ⟨b', c', rfl, by
     have h1 := hown2.out
     have h2 := hst.out
     unfold dgt at *
     rw [h2]
     unfold sv at *
     rw [List.map_append]
     (try rw [← List.map_take] at h1)
     exact h1⟩, hfin.out⟩
    case measure => simp [intOf]; omega
   ·obtain rfl : j = L.length := by omega
    rw [List.take_length] at hown
    have hlen : (L.map dgt).length = L.length := List.length_map _
    have hjl : (Lib.join (L.map dgt) [43]).length ≤ 100000 := by
     have := join_bd (L.map dgt) (fun x hx => by
      obtain ⟨i, hi, rfl⟩ := List.mem_map.1 hx
      exact dgt_len (hid i hi).1 (hid i hi).2)
     omega
    have cj := join_c (L.map dgt) (by omega) (by omega) hjl b d w2.heap.size wr (by rw [hlen]; exact hown)
    rw [hlen, hres.out] at cj
    have hfin := below_up hb2.out hq hbr
    clear hown
    replace cj := Hd cj
    replace hfin := Hd hfin
    go_wp2_with fail
    refine cj.out.mono ?_
    rintro e w5 ⟨rfl, hb5⟩
    have hfin2 := below_up hfin.out hfin.out.size hb5
    go_wp2_with fail
    go_ret
    exact ⟨rfl, hfin2⟩
theorem join_snoc (xs : List (List UInt8)) (y : List UInt8) (h : xs ≠ []) : Lib.join (xs ++ [y]) [43] = Lib.join xs [43] ++ [43] ++ y := by
 cases xs with
 | nil => exact absurd rfl h
 | cons x r =>
   rw [List.cons_append, Lib.join_cons, Lib.join_cons]
   unfold Lib.joinTail
   simp
theorem refText_c (s : Nat) (hs : s < 4294967296) : Ret 39 #[.int .u32 (s : Int)] (.string (text (textS s))) := fun w => by
 have ci := refIds_c s hs
 have hid := fun (i : Int) (h : i ∈ ids s) => ids_id h
 have hle := ids_le s
 obtain ⟨res, hres⟩ : ∃ res, textS s = res := ⟨_, rfl⟩
 rw [hres]
 unfold textS at hres
 generalize ids s = L at *
 replace ci := Hd ci
 by_cases h0 : L.length = 0
 ·rw [if_pos h0] at hres
  subst hres
  have e1 : ((L.length : Int) == 0) = true := by simp [h0]
  clear h0
  go_enter Tryz.func39, Tryz.ntmps39
  go_wp2_with fail
  refine (ci.out.on _).mono ?_
  rintro e w2 ⟨a, c, rfl, hown, hb2⟩
  clear hown
  go_wp2_with fail
  go_ret
  exact ⟨rfl, hb2⟩
 ·rw [if_neg h0] at hres
  have e1 : ((L.length : Int) == 0) = false := beq_eq_false_iff_ne.2 (by omega)
  replace hres := Hd hres
  go_enter Tryz.func39, Tryz.ntmps39
  go_wp2_with fail
  refine (ci.out.on _).mono ?_
  rintro e w2 ⟨a, c, rfl, hown, hb2⟩
  have hin := hown.in
  clear hown
  replace hb2 := Hd hb2
  replace hin := Hd hin
  go_wp2_with fail
  go_loopw [4, 5] (fun t i wr => ∃ j : Nat, j ≤ L.length ∧ i = .int .i64 j ∧ t = .string (text (Lib.join ((L.take j).map dgt) [43])) ∧ InI wr a L ∧ Below w.heap.size w wr) (fun _ i _ => L.length - (intOf i).toNat)
  case atStart => exact ⟨0, Nat.zero_le _, rfl, rfl, hin.out, hb2.out⟩
  case round =>
   clear hin hb2
   obtain ⟨j, hj, rfl, rfl, hin, hb⟩ := hrel
   by_cases hlt : j < L.length
   ·obtain ⟨g, o, hga, hg, hc⟩ := hin.at j hlt
    subst hga
    have hjb := join_bd ((L.take j).map dgt) (fun x hx => by
     obtain ⟨i, hi, rfl⟩ := List.mem_map.1 hx
     have hi := List.mem_of_mem_take hi
     exact dgt_len (hid i hi).1 (hid i hi).2)
    rw [List.length_map, List.length_take] at hjb
    have hst : (L.take (j + 1)).map dgt = (L.take j).map dgt ++ [dgt L[j]] := by
     rw [List.take_succ_eq_append_getElem hlt, List.map_append]
     rfl
    have hltI : (j : Int) < (L.length : Int) := by omega
    have hj0 : (L.take j).map dgt = [] ↔ j = 0 := by
     rw [List.map_eq_nil_iff, List.take_eq_nil_iff]
     constructor
     ·rintro (h | h)
      ·exact h
      ·rw [h] at hlt; cases hlt
     ·exact fun h => .inl h
    obtain ⟨x1, x2⟩ := hid L[j] (List.getElem_mem hlt)
    have hdl := dgt_len x1 x2
    generalize L[j] = x at *
    obtain ⟨n, rfl⟩ : ∃ n : Nat, x = n := ⟨x.toNat, by omega⟩
    have cI := digits_c n (by omega)
    have hdn : dgt (n : Int) = digs n := by unfold dgt; rw [Int.toNat_natCast]
    rw [hdn] at hst hdl
    have hsz := hb.size
    obtain ⟨t, ht⟩ : ∃ t, digs n = t := ⟨_, rfl⟩
    rw [ht] at hst cI hdl
    obtain ⟨X, hX⟩ : ∃ X, (L.take j).map dgt = X := ⟨_, rfl⟩
    rw [hX] at hst hjb hj0
    rw [hX]
    have hnext : Lib.join ((L.take (j + 1)).map dgt) [43] = if j = 0 then t else Lib.join X [43] ++ [43] ++ t := by
     rw [hst]
     by_cases h : j = 0
     ·rw [if_pos h, hj0.2 h, List.nil_append, Lib.join_one]
     ·rw [if_neg h, join_snoc X t (fun hh => h (hj0.1 hh))]
    have hJ0 : j = 0 → Lib.join X [43] = [] := fun h => by rw [hj0.2 h]; rfl
    generalize Lib.join X [43] = J at *
    clear ht hX hst hdn hj0 hres
    replace cI := Hd cI
    replace hnext := Hd hnext
    replace hin := Hd hin
    replace hb := Hd hb
    by_cases hz : j = 0
    ·subst hz
     have hJ := hJ0 rfl
     subst hJ
     rw [Nat.add_zero] at hc
     rw [show ((0 : Nat) : Int) = 0 from rfl]
     clear hJ0
     have hs1 : (text []).size + (text t).size ≤ 1000 := by rw [text_size, text_size]; simp only [List.length_nil]; omega
     go_wp2_with fail
     refine (cI.out.on _).mono ?_
     rintro e w3 ⟨rfl, hb3⟩
     have hin3 := Hd (hin.out.below hb3)
     have hfin := Hd (below_up hb.out hsz hb3)
     clear hb3 hin hb
     go_wp2_with fail
     rw [text_append]
     go_roundw
     case rel => exact ⟨1, by omega, rfl, by rw [hnext.out]; rfl, hin3.out, hfin.out⟩
     case measure => simp [intOf]; omega
    ·have hjp : (0 : Int) < (j : Int) := by omega
     clear hJ0
     have hs1 : (text J).size + (⟨#[43]⟩ : ByteArray).size ≤ 1000 := by rw [text_size]; show _ + 1 ≤ _; omega
     have hs2 : (text J ++ ⟨#[43]⟩).size + (text t).size ≤ 1000 := by
      rw [show (⟨#[43]⟩ : ByteArray) = text [43] from rfl, text_append, text_size, text_size, List.length_append]
      simp only [List.length_cons, List.length_nil]
      omega
     go_wp2_with fail
     refine (cI.out.on _).mono ?_
     rintro e w3 ⟨rfl, hb3⟩
     have hin3 := Hd (hin.out.below hb3)
     have hfin := Hd (below_up hb.out hsz hb3)
     clear hb3 hin hb
     go_wp2_with fail
     go_roundw
     case rel => exact ⟨j + 1, by omega, by go_num, by rw [hnext.out, if_neg hz, ← text_append, ← text_append]; rfl, hin3.out, hfin.out⟩
     case measure => simp [intOf]; omega
   ·obtain rfl : j = L.length := by omega
    rw [List.take_length, hres.out]
    clear hin
    replace hb := Hd hb
    go_wp2_with fail
    go_ret
    exact ⟨rfl, hb.out⟩
/-- a block behind the library's variables that are read -/
def globTop : Nat := max (Tryz.laysC172_ren.g 15) (max (Tryz.laysC172_ren.g 16) (Tryz.lays146_ren.g 1)) + 1
/-- what the library's variables hold, as far as it is read -/
structure Glob (w : World) : Prop where
 e0 : ∃ t p, w.cell? ⟨Tryz.laysC172_ren.g 15, 0, none⟩ = some (.iface t p)
 e1 : ∃ t p, w.cell? ⟨Tryz.laysC172_ren.g 16, 0, none⟩ = some (.iface t p)
 mx : ∃ m, w.cell? ⟨Tryz.lays146_ren.g 1, 0, none⟩ = some (.int .i64 m)
 sz : globTop ≤ w.heap.size
theorem Glob.below {w w' : World} {B : Nat} (h : Glob w) (hb : Below B w w') (hB : globTop ≤ B) : Glob w' := by
 unfold globTop at hB
 refine ⟨?_, ?_, ?_, Nat.le_trans h.sz hb.size⟩
 ·obtain ⟨t, p, hc⟩ := h.e0
  exact ⟨t, p, by rw [hb.cell (p := ⟨Tryz.laysC172_ren.g 15, 0, none⟩) (show Tryz.laysC172_ren.g 15 < B by omega)]; exact hc⟩
 ·obtain ⟨t, p, hc⟩ := h.e1
  exact ⟨t, p, by rw [hb.cell (p := ⟨Tryz.laysC172_ren.g 16, 0, none⟩) (show Tryz.laysC172_ren.g 16 < B by omega)]; exact hc⟩
 ·obtain ⟨m, hc⟩ := h.mx
  exact ⟨m, by rw [hb.cell (p := ⟨Tryz.lays146_ren.g 1, 0, none⟩) (show Tryz.lays146_ren.g 1 < B by omega)]; exact hc⟩
theorem Glob.on {w w' : World} (h : Glob w) (hb : Below w.heap.size w w') : Glob w' := h.below hb h.sz
namespace Sg
/-- the int that a text is taken for -/
def atoiV (l : List UInt8) : Int := match Lib.atoiAll l with
 | .ok v => v
 | .range => Lib.atoiSat l
 | _ => 0
/-- the pieces between the plusses -/
def pieces (s : ByteArray) : List ByteArray := Lib.splitB ⟨#[43]⟩ 0 (Lib.countB s ⟨#[43]⟩) s
def outOf (s : ByteArray) : Nat := setOf ((pieces s).map fun x => atoiV x.data.toList)
def parseS (s : ByteArray) : Nat × Int := if textS (outOf s) = byts s then (outOf s, 0) else (0, 4)
end Sg
theorem below_bytes (w : World) (e : TypeId) (s : ByteArray) : Below w.heap.size w (Lib.bytesWorld w e s) := by
 refine ⟨rfl, rfl, rfl, ?_, fun k hk => Lib.bytesWorld_at_old w e s k hk⟩
 unfold Lib.bytesWorld
 simp [World.freeze, World.alloc, World.drew, -World.alloc_eq, -World.drew_eq]
theorem atoi_c (s : ByteArray) (hs : s.size ≤ 281474976710656) (w : World) (hg : Glob w) :
 Calls Tryz.prog 101 #[.string s] w fun e w' => ∃ ev, e = .returned (.tuple #[.int .i64 (atoiV s.data.toList), ev]) ∧ Below w.heap.size w w' := by
 unfold atoiV
 cases h : Lib.atoiAll s.data.toList
 ·rename_i v
  exact (Go.Proofs.Any.strconv_Atoi_ok Tryz.laysC172 s (by omega) v h w).mono fun e w' ⟨h1, h2⟩ => ⟨_, h1, by
   rcases h2 with rfl | ⟨t, rfl⟩
   ·exact Below.refl _ _
   ·exact below_bytes w _ t⟩
 ·obtain ⟨t, p, hc⟩ := hg.e0
  exact (Go.Proofs.Any.strconv_Atoi_syntax Tryz.laysC172 s hs h _ w hc (.inr ⟨t, p, rfl⟩)).mono fun e w' ⟨N, h1, _, _, h2⟩ => ⟨_, h1, h2⟩
 ·obtain ⟨t, p, hc⟩ := hg.e1
  exact (Go.Proofs.Any.strconv_Atoi_range Tryz.laysC172 s hs h _ w hc (.inr ⟨t, p, rfl⟩)).mono fun e w' ⟨N, h1, _, _, h2⟩ => ⟨_, h1, h2⟩
theorem extract_le (s : ByteArray) (i j : Nat) : (s.extract i j).size ≤ s.size := by
 rw [ByteArray.size_extract]
 omega
theorem split_le (sep : ByteArray) : ∀ (k : Nat) (s : ByteArray), ∀ x ∈ Lib.splitB sep 0 k s, x.size ≤ s.size
 | 0, s, x, hx => by
   rw [Lib.splitB_zero] at hx
   rw [List.mem_singleton.1 hx]
   exact Nat.le_refl _
 | k + 1, s, x, hx => by
   unfold Lib.splitB at hx
   split at hx
   ·rw [List.mem_singleton.1 hx]
    exact Nat.le_refl _
   ·rcases List.mem_cons.1 hx with rfl | h
    ·exact extract_le s _ _
    ·exact Nat.le_trans (split_le sep k _ x h) (extract_le s _ _)
theorem pieces_le (s : ByteArray) : ∀ x ∈ pieces s, x.size ≤ s.size := split_le _ _ s
theorem pieces_len (s : ByteArray) : (pieces s).length = Lib.countB s ⟨#[43]⟩ + 1 := Lib.splitB_all ⟨#[43]⟩ (by decide) 0 _ s rfl
theorem split_c (s : ByteArray) (hs : s.size ≤ 100000) (w : World) (hg : Glob w) :
 Calls Tryz.prog 71 #[.string s, .string ⟨#[43]⟩] w fun e w' => e = .returned (.slice (some ⟨w.heap.size, 0, none⟩) (pieces s).length (pieces s).length) ∧ w' = w.alloc (.cells ((pieces s).map Value.string).toArray 9) := by
 obtain ⟨m, hc⟩ := hg.mx
 have h := Go.Proofs.Any.strings_Split Tryz.lays146 (by kernel_rfl) s ⟨#[43]⟩ m w (by omega) hc (by decide)
 rw [pieces_len]
 exact h
theorem parse_c (s : ByteArray) (hs : s.size ≤ 100000) (w : World) (hg : Glob w) :
 Calls Tryz.prog 104 #[.string s] w fun e w' => e = .returned (.tuple #[.int .u32 (((parseS s).1 : Nat) : Int), .int .i64 (parseS s).2]) ∧ Below w.heap.size w w' := by
 have csp := split_c s hs w hg
 have hple := pieces_le s
 have hpl : (pieces s).length ≤ 100001 := by
  rw [pieces_len]
  have := Lib.countB_le ⟨#[43]⟩ (by decide) s.size s (Nat.le_refl _)
  omega
 obtain ⟨rP, hrP⟩ : ∃ r, parseS s = r := ⟨_, rfl⟩
 rw [hrP]
 unfold parseS outOf at hrP
 generalize pieces s = P at *
 replace csp := Hd csp
 replace hrP := Hd hrP
 have hgW := hg.on (below1 w (.cells (P.map Value.string).toArray 9))
 have hcell : ∀ j (hj : j < P.length), (w.alloc (.cells (P.map Value.string).toArray 9)).cell? ⟨w.heap.size, j, none⟩ = some (.string P[j]) := fun j hj => by
  rw [(IsC.new w 9 (P.map Value.string).toArray).cell j]
  simp [hj]
 have hb0 := below1 w (.cells (P.map Value.string).toArray 9)
 have hlt0 : w.heap.size < (w.alloc (.cells (P.map Value.string).toArray 9)).heap.size := by rw [size_alloc]; omega
 go_enter Tryz.func104, Tryz.ntmps104
 replace hgW := Hd hgW
 replace hcell := Hd hcell
 replace hb0 := Hd hb0
 go_wp2_with fail
 refine csp.out.mono ?_
 rintro e w1 ⟨rfl, rfl⟩
 generalize w.alloc (.cells (P.map Value.string).toArray 9) = W at *
 go_wp2_with fail
 go_loopw [4, 12] (fun o i wr => ∃ j : Nat, j ≤ P.length ∧ i = .int .i64 j ∧ o = .int .u32 ((setOf ((P.take j).map fun x => atoiV x.data.toList) : Nat) : Int) ∧ Below W.heap.size W wr) (fun _ i _ => P.length - (intOf i).toNat)
 case atStart => exact ⟨0, Nat.zero_le _, rfl, rfl, Below.refl _ _⟩
 case round =>
  obtain ⟨j, hj, rfl, rfl, hbr⟩ := hrel
  by_cases hlt : j < P.length
  ·have hc : wr.cell? ⟨w.heap.size, j, none⟩ = some (.string P[j]) := by
    rw [hbr.cell (p := ⟨w.heap.size, j, none⟩) hlt0]
    exact hcell.out j hlt
   have hst : (P.take (j + 1)).map (fun x => atoiV x.data.toList) = (P.take j).map (fun x => atoiV x.data.toList) ++ [atoiV P[j].data.toList] := by
    rw [List.take_succ_eq_append_getElem hlt, List.map_append]
    rfl
   have hltI : (j : Int) < (P.length : Int) := by omega
   have hsz := hple P[j] (List.getElem_mem hlt)
   have hsl := setOf_lt ((P.take j).map fun x => atoiV x.data.toList)
   have hnext := congrArg setOf hst
   rw [setOf_snoc] at hnext
   clear hst
   generalize P[j] = x at *
   have hgr := hgW.out.on hbr
   have cA := atoi_c x (by omega) wr hgr
   generalize atoiV x.data.toList = v at *
   obtain ⟨S', hS'⟩ : ∃ S', setOf ((P.take (j + 1)).map fun x => atoiV x.data.toList) = S' := ⟨_, rfl⟩
   rw [hS'] at hnext
   generalize setOf ((P.take j).map fun x => atoiV x.data.toList) = S at *
   have cW := with_c S hsl v
   rw [← hnext] at cW
   have hwz := hbr.size
   clear hnext hgr
   replace hS' := Hd hS'
   replace cA := Hd cA
   replace cW := Hd cW
   replace hbr := Hd hbr
   go_wp2_with fail
   refine cA.out.mono ?_
   rintro e w2 ⟨ev, rfl, hb2⟩
   have hfin := Hd (below_up hbr.out hwz hb2)
   clear hbr hb2
   go_wp2_with fail
   refine (cW.out.on _).mono ?_
   rintro e w3 ⟨rfl, rfl⟩
   go_wp2_with fail
   go_roundw
   case rel => exact ⟨j + 1, by omega, by go_num, by rw [hS'.out], hfin.out⟩
   case measure => simp [intOf]; omega
  ·obtain rfl : j = P.length := by omega
   rw [List.take_length]
   have hsl := setOf_lt (P.map fun x => atoiV x.data.toList)
   have hr := hrP.out
   generalize setOf (P.map fun x => atoiV x.data.toList) = S at *
   have ct := text_c S hsl
   have hfin := below_up hb0.out hb0.out.size hbr
   have hq := hfin.size
   clear hrP hbr
   replace ct := Hd ct
   replace hfin := Hd hfin
   have hstr : ((text (textS S)).toList == s.toList) = decide (textS S = byts s) := by
    rw [toList_byts, toList_byts, byts_text]
    exact Bool.eq_iff_iff.2 ⟨fun h => decide_eq_true (by simpa using h), fun h => by simpa using of_decide_eq_true h⟩
   by_cases hm : textS S = byts s
   ·rw [if_pos hm] at hr
    rw [decide_eq_true hm] at hstr
    subst hr
    clear hm
    go_wp2_with fail
    refine (ct.out.on _).mono ?_
    rintro e w2 ⟨rfl, hb2⟩
    have hfin2 := below_up hfin.out hq hb2
    go_wp2_with fail
    (try simp only [Exit.inBlock, Exit.then])
    refine bodyPost_ret (by simp [results, Tryz.results104, go_sem]; try rfl) rfl ?_
    exact ⟨rfl, hfin2⟩
   ·rw [if_neg hm] at hr
    rw [decide_eq_false hm] at hstr
    subst hr
    clear hm
    go_wp2_with fail
    refine (ct.out.on _).mono ?_
    rintro e w2 ⟨rfl, hb2⟩
    have hfin2 := below_up hfin.out hq hb2
    go_wp2_with fail
    (try simp only [Exit.inBlock, Exit.then])
    refine bodyPost_ret (by simp [results, Tryz.results104, go_sem]; try rfl) rfl ?_
    exact ⟨rfl, hfin2⟩
end Go.Proofs.YtjjgbillihedgaaGreatDoor
namespace Go.Proofs.YtjjgbillihedgaaGreatDoor
open Go.RowKit
open Rf
open Sg
/-- parts without values that can be read at a slice -/
def InP (w : World) (a : Option Addr) (l : List Int) : Prop := l = [] ∨ ∃ g o, a = some ⟨g, o, none⟩ ∧ g < w.heap.size ∧ ∀ j (hj : j < l.length), w.cell? ⟨g, o + j * 2, none⟩ = some (.int .i64 l[j]) ∧ w.cell? ⟨g, o + j * 2 + 1, none⟩ = some (.slice none 0 0)
theorem InP.below {w w' : World} {B : Nat} {a : Option Addr} {l : List Int} (h : InP w a l) (hb : Below B w w') (hB : w.heap.size ≤ B) : InP w' a l := by
 rcases h with rfl | ⟨g, o, rfl, hg, hc⟩
 ·exact .inl rfl
 ·exact .inr ⟨g, o, rfl, Nat.lt_of_lt_of_le hg hb.size, fun j hj => ⟨by rw [hb.cell (p := ⟨g, o + j * 2, none⟩) (show g < B by omega)]; exact (hc j hj).1, by rw [hb.cell (p := ⟨g, o + j * 2 + 1, none⟩) (show g < B by omega)]; exact (hc j hj).2⟩⟩
theorem InP.at {w : World} {a : Option Addr} {l : List Int} (h : InP w a l) (j : Nat) (hj : j < l.length) : ∃ g o, a = some ⟨g, o, none⟩ ∧ g < w.heap.size ∧ w.cell? ⟨g, o + j * 2, none⟩ = some (.int .i64 l[j]) ∧ w.cell? ⟨g, o + j * 2 + 1, none⟩ = some (.slice none 0 0) := by
 rcases h with rfl | ⟨g, o, h1, h2, h3⟩
 ·cases hj
 ·exact ⟨g, o, h1, h2, h3 j hj⟩
namespace Sg
def partsF (l : List Int) : Nat × Int := if okL l = true then (if (ids (setOf l)).length = l.length then (setOf l, 0) else (0, 7)) else (0, 1)
end Sg
end Go.Proofs.YtjjgbillihedgaaGreatDoor
namespace Go.Proofs.YtjjgbillihedgaaGreatDoor
open Go.RowKit
open Rf
open Wide
namespace Sg
/-- the pieces between the plusses, byte by byte -/
def segs : List UInt8 → List (List UInt8)
 | [] => [[]]
 | c :: r => if c = 43 then [] :: segs r else match segs r with
   | [] => [[c]]
   | x :: t => (c :: x) :: t
theorem segs_ne (l : List UInt8) : segs l ≠ [] := by
 cases l with
 | nil => simp [segs]
 | cons c r =>
   unfold segs
   split
   ·simp
   ·split <;> simp
theorem segs_plus (r : List UInt8) : segs (43 :: r) = [] :: segs r := by rw [segs, if_pos rfl]
theorem segs_cons (c : UInt8) (r : List UInt8) (h : c ≠ 43) : ∃ x t, segs r = x :: t ∧ segs (c :: r) = (c :: x) :: t := by
 cases hs : segs r with
 | nil => exact absurd hs (segs_ne r)
 | cons x t => exact ⟨x, t, rfl, by rw [segs, if_neg h, hs]⟩
theorem splitK_segs : ∀ (k : Nat) (l : List UInt8), Lib.count l [43] = k → Lib.splitK [43] 0 k l = segs l := by
 intro k l
 induction l generalizing k with
 | nil =>
   intro h
   rw [Lib.count_one] at h
   obtain rfl : k = 0 := by simpa using h.symm
   rfl
 | cons c r ih =>
   intro h
   by_cases hc : c = 43
   ·subst hc
    rw [Lib.count_cons_eq] at h
    obtain ⟨j, rfl⟩ : ∃ j, k = j + 1 := ⟨k - 1, by omega⟩
    have hix : Lib.index (43 :: r) [43] = 0 := by rw [Lib.index]; simp [List.isPrefixOf]
    rw [segs_plus, Lib.splitK, hix, if_neg (by decide), ← ih j (by omega)]
    rfl
   ·rw [Lib.count_cons_ne c 43 r hc] at h
    have ih := ih k h
    obtain ⟨x, t, h1, h2⟩ := segs_cons c r hc
    rw [h2]
    rw [h1] at ih
    cases k with
    | zero =>
      rw [Lib.splitK] at ih ⊢
      cases ih
      rfl
    | succ k =>
      have hp : ([43] : List UInt8).isPrefixOf (c :: r) = false := by simp [List.isPrefixOf, Ne.symm hc]
      have hix : Lib.index (c :: r) [43] = if Lib.index r [43] == -1 then -1 else Lib.index r [43] + 1 := by rw [Lib.index, hp]; simp
      rw [Lib.splitK] at ih ⊢
      by_cases hm : Lib.index r [43] = -1
      ·rw [if_pos (by rw [hm]; rfl)] at ih
       rw [hix, if_pos (by rw [hm]; rfl)]
       cases ih
       rfl
      ·have hge := Lib.index_ge r [43]
       obtain ⟨j, hj⟩ : ∃ j : Nat, Lib.index r [43] = j := ⟨(Lib.index r [43]).toNat, by omega⟩
       rw [if_neg (fun e => hm (beq_iff_eq.1 e)), hj] at ih
       rw [hix, if_neg (fun e => hm (beq_iff_eq.1 e)), hj, if_neg (fun e => by have := beq_iff_eq.1 e; omega)]
       have e1 : ((j : Int) + 1).toNat = j + 1 := by omega
       rw [e1]
       simp only [Int.toNat_natCast, Nat.add_zero, List.length_cons, List.length_nil] at ih ⊢
       rw [List.take_succ_cons, List.drop_succ_cons]
       have ih1 := (List.cons.inj ih).1
       have ih2 := (List.cons.inj ih).2
       rw [ih1, ih2]
theorem count_byts (s : ByteArray) : Lib.countB s ⟨#[43]⟩ = Lib.count (byts s) [43] := rfl
theorem pieces_segs (s : ByteArray) : (pieces s).map (·.data.toList) = segs (byts s) := by
 unfold pieces
 rw [Lib.splitB_data, count_byts]
 exact splitK_segs _ _ rfl
theorem out_segs (s : ByteArray) : outOf s = setOf ((segs (byts s)).map atoiV) := by
 unfold outOf
 rw [← pieces_segs, List.map_map]
 rfl
theorem segs_app (x l : List UInt8) (h : (43 : UInt8) ∉ x) : segs (x ++ 43 :: l) = x :: segs l := by
 induction x with
 | nil => exact segs_plus l
 | cons c r ih =>
   simp only [List.mem_cons, not_or] at h
   obtain ⟨y, t, h1, h2⟩ := segs_cons c (r ++ 43 :: l) (fun e => h.1 e.symm)
   rw [List.cons_append, h2]
   rw [ih h.2] at h1
   cases h1
   rfl
/-- pieces with a plus behind each -/
def behind (xs : List (List UInt8)) : List UInt8 := (xs.map (· ++ [43])).flatten
theorem behind_nil : behind [] = [] := rfl
theorem behind_cons (x : List UInt8) (xs : List (List UInt8)) : behind (x :: xs) = x ++ 43 :: behind xs := by simp [behind]
theorem behind_snoc (xs : List (List UInt8)) (x : List UInt8) : behind (xs ++ [x]) = behind xs ++ x ++ [43] := by simp [behind]
theorem join_behind (x : List UInt8) (xs : List (List UInt8)) : Lib.join (x :: xs) [43] ++ [43] = behind (x :: xs) := by
 rw [Lib.join_cons, behind_cons]
 unfold Lib.joinTail
 induction xs generalizing x with
 | nil => simp [behind_nil]
 | cons y r ih =>
   have := ih y
   rw [List.append_assoc] at this ⊢
   rw [List.map_cons, List.flatten_cons, List.append_assoc, List.append_assoc, behind_cons, ← List.append_cancel_left this]
   simp
theorem segs_behind (xs : List (List UInt8)) (l : List UInt8) (h : ∀ x ∈ xs, (43 : UInt8) ∉ x) : segs (behind xs ++ l) = xs ++ segs l := by
 induction xs with
 | nil => rfl
 | cons x r ih =>
   rw [behind_cons, List.append_assoc, List.cons_append, segs_app x _ (h x (by simp)), ih (fun y hy => h y (by simp [hy])), List.cons_append]
theorem segs_join (x : List UInt8) (xs : List (List UInt8)) (h : ∀ y ∈ x :: xs, (43 : UInt8) ∉ y) : segs (Lib.join (x :: xs) [43]) = x :: xs := by
 have h1 : segs (Lib.join (x :: xs) [43] ++ 43 :: []) = x :: xs ++ [[]] := by
  rw [join_behind, ← List.append_nil (behind (x :: xs)), segs_behind _ _ h]
  rfl
 suffices hh : ∀ l : List UInt8, segs (l ++ [43]) = segs l ++ [[]] by
  rw [hh] at h1
  exact List.append_cancel_right h1
 intro l
 induction l with
 | nil => rfl
 | cons c r ih =>
   by_cases hc : c = 43
   ·subst hc
    rw [List.cons_append, segs_plus, segs_plus, ih, List.cons_append]
   ·obtain ⟨y, t, h1, h2⟩ := segs_cons c r hc
    obtain ⟨y', t', h3, h4⟩ := segs_cons c (r ++ [43]) hc
    rw [List.cons_append, h4, h2]
    rw [ih, h1, List.cons_append] at h3
    cases h3
    rfl
/-- an id's text -/
def dg2 (n : Nat) : List UInt8 := if n < 10 then [UInt8.ofNat (48 + n)] else [UInt8.ofNat (48 + n / 10), UInt8.ofNat (48 + n % 10)]
theorem digs_dg2 (n : Nat) (h : n < 100) : digs n = dg2 n := by
 unfold dg2
 rw [digs]
 by_cases h1 : n < 10
 ·rw [if_pos h1, if_pos h1]
 ·rw [if_neg h1, if_neg h1, digs, if_pos (by omega)]
  rfl
theorem dg2_fine : ∀ n < 25, atoiV (dg2 n) = (n : Int) ∧ (43 : UInt8) ∉ dg2 n ∧ (1 ≤ n → (dg2 n).head? ≠ some 48) := by decide +kernel
theorem dgt_dg2 {i : Int} (h1 : 1 ≤ i) (h2 : i ≤ 24) : dgt i = dg2 i.toNat := digs_dg2 _ (by omega)
theorem dgt_atoi {i : Int} (h1 : 1 ≤ i) (h2 : i ≤ 24) : atoiV (dgt i) = i := by
 rw [dgt_dg2 h1 h2, (dg2_fine i.toNat (by omega)).1]
 omega
theorem dgt_plus {i : Int} (h1 : 1 ≤ i) (h2 : i ≤ 24) : (43 : UInt8) ∉ dgt i := by
 rw [dgt_dg2 h1 h2]
 exact (dg2_fine i.toNat (by omega)).2.1
theorem ids_dgts (s : Nat) : ∀ y ∈ (ids s).map dgt, (43 : UInt8) ∉ y := by
 intro y hy
 obtain ⟨i, hi, rfl⟩ := List.mem_map.1 hy
 exact dgt_plus (ids_id hi).1 (ids_id hi).2
theorem map_atoi (l : List Int) (h : ∀ i ∈ l, 1 ≤ i ∧ i ≤ 24) : (l.map dgt).map atoiV = l := by
 rw [List.map_map]
 conv => rhs; rw [← List.map_id l]
 exact List.map_congr_left fun i hi => dgt_atoi (h i hi).1 (h i hi).2
theorem text_nil {s : Nat} (h : ids s = []) : textS s = [45] := by unfold textS; rw [h]; rfl
theorem text_join {s : Nat} (h : ids s ≠ []) : textS s = Lib.join ((ids s).map dgt) [43] := by
 unfold textS
 rw [if_neg (fun e => h (List.eq_nil_of_length_eq_zero e))]
theorem segs_text {s : Nat} (h : ids s ≠ []) : segs (textS s) = (ids s).map dgt := by
 rw [text_join h]
 have hd := ids_dgts s
 cases hm : (ids s).map dgt with
 | nil => exact absurd (List.map_eq_nil_iff.1 hm) h
 | cons x xs =>
   rw [hm] at hd
   exact segs_join x xs hd
theorem out_text (s : Nat) : setOf ((segs (textS s)).map atoiV) = setOf (ids s) := by
 by_cases h : ids s = []
 ·rw [text_nil h, h]
  decide +kernel
 ·rw [segs_text h, map_atoi _ (fun i hi => ids_id hi)]
theorem bits_ext {a b : Nat} (h : ∀ j, a.testBit j = b.testBit j) : a = b := Nat.eq_of_testBit_eq h
theorem set_ids_bit (s : Nat) (j : Nat) : (setOf (ids s)).testBit j = (decide (1 ≤ j ∧ j ≤ 24) && s.testBit j) := by
 rw [set_bit, Bool.eq_iff_iff, decide_eq_true_iff, mem_ids]
 unfold has isId
 simp
 omega
theorem set_ids_is {s : Nat} (hs : s < 4294967296) (h : isF s = true) : setOf (ids s) = s := by
 refine bits_ext fun j => ?_
 rw [set_ids_bit]
 cases hj : s.testBit j
 ·simp
 ·rw [decide_eq_true ((is_iff hs).1 h j hj)]
  rfl
end Sg
open Sg
namespace Sg
theorem parse_text {s : Nat} (hs : s < 4294967296) (h : isF s = true) : parseS (text (textS s)) = (s, 0) := by
 have e : outOf (text (textS s)) = s := by rw [out_segs, byts_text, out_text, set_ids_is hs h]
 unfold parseS
 rw [e, byts_text, if_pos rfl]
theorem text_len (s : Nat) : (textS s).length ≤ 100 := by
 unfold textS
 split
 ·decide
 ·have h := join_bd ((ids s).map dgt) (fun x hx => by
   obtain ⟨i, hi, rfl⟩ := List.mem_map.1 hx
   exact dgt_len (ids_id hi).1 (ids_id hi).2)
  rw [List.length_map] at h
  have := ids_le s
  omega
end Sg
end Go.Proofs.YtjjgbillihedgaaGreatDoor
namespace Go.Proofs.YtjjgbillihedgaaGreatDoor
open Go.RowKit
open Rf
open Wide
namespace Sg
/-- whether an id can't stand behind these -/
def badN (d : List Int) (n : Int) : Bool := decide (n < 1) || (decide (24 < n) || (match d.getLast? with
 | none => false
 | some m => decide (n ≤ m)))
/-- one byte: the ids so far, and the one that is being read -/
def rstep (p : List Int × Int) (c : UInt8) : Option (List Int × Int) :=
 if c = 43 then (if badN p.1 p.2 = true then none else some (p.1 ++ [p.2], -1))
 else if c.toNat < 48 ∨ 57 < c.toNat ∨ p.2 = 0 ∨ 99 < p.2 ∨ (p.2 < 0 ∧ c.toNat = 48) then none
 else some (p.1, (if p.2 < 0 then 0 else p.2) * 10 + ((c.toNat : Int) - 48))
def fold : List UInt8 → List Int × Int → Option (List Int × Int)
 | [], p => some p
 | c :: r, p => match rstep p c with
   | none => none
   | some q => fold r q
def refP (l : List UInt8) : Nat × Bool := if l = [45] then (0, true) else match fold (l ++ [43]) ([], -1) with
 | none => (0, false)
 | some p => (setOf p.1, true)
theorem fold_app (l m : List UInt8) (p : List Int × Int) : fold (l ++ m) p = (fold l p).bind (fold m) := by
 induction l generalizing p with
 | nil => rfl
 | cons c r ih =>
   rw [List.cons_append, fold, fold]
   cases h : rstep p c with
   | none => rfl
   | some q => exact ih q
theorem fold_one (c : UInt8) (p : List Int × Int) : fold [c] p = rstep p c := by
 rw [fold]
 cases h : rstep p c <;> rfl
theorem fold_take {l : List UInt8} {p q : List Int × Int} {j : Nat} (hj : j < l.length) (h : fold (l.take j) p = some q) : fold (l.take (j + 1)) p = rstep q l[j] := by
 rw [List.take_succ_eq_append_getElem hj, fold_app, h, Option.bind_some, fold_one]
theorem fold_none {l : List UInt8} {p q : List Int × Int} {j : Nat} (hj : j < l.length) (h : fold (l.take j) p = some q) (hn : rstep q l[j] = none) : fold l p = none := by
 have h1 := fold_take hj h
 rw [← List.take_append_drop (j + 1) l, fold_app, h1, hn]
 rfl
/-- what is read so far is the ids, and the digits of the next -/
def Inv (pre : List UInt8) (d : List Int) (n : Int) : Prop := pre = behind (d.map dgt) ++ (if n < 0 then [] else digs n.toNat) ∧ (n = -1 ∨ 1 ≤ n ∧ n ≤ 999) ∧ (∀ i ∈ d, 1 ≤ i ∧ i ≤ 24) ∧ d.Pairwise (· < ·)
theorem Inv.nil : Inv [] [] (-1) := ⟨rfl, .inl rfl, by simp, List.Pairwise.nil⟩
theorem last_lt {d : List Int} (h : d.Pairwise (· < ·)) {n : Int} (hl : ∀ m, d.getLast? = some m → m < n) : ∀ x ∈ d, x < n := by
 intro x hx
 cases hg : d.getLast? with
 | none => rw [List.getLast?_eq_none_iff.1 hg] at hx; cases hx
 | some m =>
   obtain ⟨ys, rfl⟩ := List.getLast?_eq_some_iff.1 hg
   have h1 := hl m hg
   rw [List.mem_append] at hx
   rcases hx with hx | hx
   ·have := (List.pairwise_append.1 h).2.2 x hx m (by simp)
    omega
   ·obtain rfl : x = m := by simpa using hx
    exact h1
theorem badN_false {d : List Int} {n : Int} : badN d n = false ↔ (1 ≤ n ∧ n ≤ 24 ∧ ∀ m, d.getLast? = some m → m < n) := by
 unfold badN
 rw [Bool.or_eq_false_iff, Bool.or_eq_false_iff, decide_eq_false_iff_not, decide_eq_false_iff_not]
 cases d.getLast? with
 | none => simp
 | some m => simp
theorem digs_ten (n k : Nat) (hn : 1 ≤ n) (hk : k < 10) : digs (n * 10 + k) = digs n ++ [UInt8.ofNat (48 + k)] := by
 rw [digs, if_neg (by omega), show (n * 10 + k) / 10 = n by omega, show (n * 10 + k) % 10 = k by omega]
theorem digs_lt (k : Nat) (hk : k < 10) : digs k = [UInt8.ofNat (48 + k)] := by rw [digs, if_pos hk]
theorem byte_dig {c : UInt8} (h1 : 48 ≤ c.toNat) : UInt8.ofNat (48 + (c.toNat - 48)) = c := by
 rw [show 48 + (c.toNat - 48) = c.toNat by omega]
 simp
theorem inv_step {pre : List UInt8} {d : List Int} {n : Int} {c : UInt8} {q : List Int × Int} (h : Inv pre d n) (hs : rstep (d, n) c = some q) : Inv (pre ++ [c]) q.1 q.2 := by
 obtain ⟨h1, h2, h3, h4⟩ := h
 unfold rstep at hs
 by_cases hc : c = 43
 ·rw [if_pos hc] at hs
  dsimp only at hs
  cases hb : badN d n with
  | true => rw [hb, if_pos rfl] at hs; cases hs
  | false =>
    rw [hb, if_neg (by decide)] at hs
    cases hs
    obtain ⟨b1, b2, b3⟩ := badN_false.1 hb
    refine ⟨?_, .inl rfl, ?_, ?_⟩
    ·dsimp only
     rw [if_pos (by decide), List.append_nil, List.map_append, List.map_cons, List.map_nil, behind_snoc, h1, if_neg (by omega), hc]
     rfl
    ·intro i hi
     rw [List.mem_append] at hi
     rcases hi with hi | hi
     ·exact h3 i hi
     ·obtain rfl : i = n := by simpa using hi
      exact ⟨b1, b2⟩
    ·refine List.pairwise_append.2 ⟨h4, by simp, fun a ha b hb => ?_⟩
     obtain rfl : b = n := by simpa using hb
     exact last_lt h4 b3 a ha
 ·rw [if_neg hc] at hs
  dsimp only at hs
  by_cases hx : c.toNat < 48 ∨ 57 < c.toNat ∨ n = 0 ∨ 99 < n ∨ (n < 0 ∧ c.toNat = 48)
  ·rw [if_pos hx] at hs
   cases hs
  ·rw [if_neg hx] at hs
   cases hs
   rcases h2 with rfl | h2
   ·refine ⟨?_, .inr (by dsimp only; rw [if_pos (by decide)]; omega), h3, h4⟩
    dsimp only
    rw [show (if (-1 : Int) < 0 then (0 : Int) else -1) = 0 by decide, if_neg (by omega), h1, if_pos (by decide), List.append_nil, show ((0 : Int) * 10 + ((c.toNat : Int) - 48)).toNat = c.toNat - 48 by omega, digs_lt _ (by omega), byte_dig (by omega)]
   ·have hn0 : ¬ n < 0 := by omega
    refine ⟨?_, .inr (by dsimp only; rw [if_neg hn0]; omega), h3, h4⟩
    dsimp only
    rw [if_neg hn0, if_neg (by omega), h1, if_neg hn0, show (n * 10 + ((c.toNat : Int) - 48)).toNat = n.toNat * 10 + (c.toNat - 48) by omega, digs_ten _ _ (by omega) (by omega), byte_dig (by omega), List.append_assoc]
theorem inv_fold {pre l : List UInt8} {d : List Int} {n : Int} {q : List Int × Int} (h : Inv pre d n) (hs : fold l (d, n) = some q) : Inv (pre ++ l) q.1 q.2 := by
 induction l generalizing pre d n with
 | nil =>
   cases hs
   rw [List.append_nil]
   exact h
 | cons c r ih =>
   rw [fold] at hs
   cases hr : rstep (d, n) c with
   | none => rw [hr] at hs; cases hs
   | some p =>
     rw [hr] at hs
     have := ih (inv_step h hr) hs
     rw [List.append_assoc] at this
     exact this
theorem fold_dg (d : List Int) : ∀ x : Int, 1 ≤ x → x ≤ 24 → fold (dgt x) (d, -1) = some (d, x) := by
 intro x h1 h2
 rw [dgt_dg2 h1 h2]
 obtain ⟨k, rfl⟩ : ∃ k : Nat, x = k := ⟨x.toNat, by omega⟩
 rw [Int.toNat_natCast]
 have hk : k ≤ 24 := by omega
 unfold dg2
 by_cases h : k < 10
 ·rw [if_pos h, fold_one]
  unfold rstep
  have e : (UInt8.ofNat (48 + k)).toNat = 48 + k := by simp; omega
  rw [if_neg (fun hh => by rw [hh] at e; simp at e; omega), e]
  dsimp only
  rw [if_neg (by omega), if_pos (by decide)]
  congr 2
  omega
 ·have e : (UInt8.ofNat (48 + k / 10)).toNat = 48 + k / 10 := by simp; omega
  have e2 : (UInt8.ofNat (48 + k % 10)).toNat = 48 + k % 10 := by simp; omega
  rw [if_neg h, fold]
  have e3 : rstep (d, -1) (UInt8.ofNat (48 + k / 10)) = some (d, ((k / 10 : Nat) : Int)) := by
   unfold rstep
   rw [if_neg (fun hh => by rw [hh] at e; simp at e; omega), e]
   dsimp only
   rw [if_neg (by omega), if_pos (by decide)]
   congr 2
   omega
  rw [e3]
  dsimp only
  rw [fold_one]
  unfold rstep
  rw [if_neg (fun hh => by rw [hh] at e2; simp at e2; omega), e2]
  dsimp only
  rw [if_neg (by omega), if_neg (by omega)]
  congr 2
  omega
theorem fold_behind : ∀ (xs d : List Int), (∀ i ∈ xs, 1 ≤ i ∧ i ≤ 24) → (d ++ xs).Pairwise (· < ·) → fold (behind (xs.map dgt)) (d, -1) = some (d ++ xs, -1) := by
 intro xs
 induction xs with
 | nil =>
   intro d _ _
   rw [List.append_nil]
   rfl
 | cons x r ih =>
   intro d h1 h2
   have hx := h1 x (by simp)
   rw [List.map_cons, behind_cons, fold_app, fold_dg d x hx.1 hx.2, Option.bind_some, fold]
   have hb : badN d x = false := badN_false.2 ⟨hx.1, hx.2, fun m hm => by
    obtain ⟨ys, rfl⟩ := List.getLast?_eq_some_iff.1 hm
    exact (List.pairwise_append.1 h2).2.2 m (by simp) x (by simp)⟩
   have e : rstep (d, x) 43 = some (d ++ [x], -1) := by
    unfold rstep
    rw [if_pos rfl]
    dsimp only
    rw [hb, if_neg (by decide)]
   rw [e]
   dsimp only
   rw [ih (d ++ [x]) (fun i hi => h1 i (by simp [hi])) (by rw [List.append_assoc]; exact h2), List.append_assoc]
   rfl
theorem idsFrom_sorted (s : Nat) : ∀ (n k : Nat), (idsFrom s k n).Pairwise (· < ·) := by
 intro n
 induction n with
 | zero => intro k; exact List.Pairwise.nil
 | succ n ih =>
   intro k
   rw [idsFrom]
   refine List.pairwise_append.2 ⟨?_, ih (k + 1), fun a ha b hb => ?_⟩
   ·split <;> simp
   ·obtain ⟨j, rfl, h1, _, _⟩ := (mem_idsFrom s (k + 1) n b).1 hb
    by_cases ht : s.testBit k = true
    ·rw [if_pos ht] at ha
     obtain rfl : a = k := by simpa using ha
     omega
    ·rw [if_neg ht] at ha
     cases ha
theorem sorted_ext : ∀ {l m : List Int}, l.Pairwise (· < ·) → m.Pairwise (· < ·) → (∀ x, x ∈ l ↔ x ∈ m) → l = m := by
 intro l
 induction l with
 | nil =>
   intro m _ _ h
   cases m with
   | nil => rfl
   | cons y t => exact absurd ((h y).2 (by simp)) (by simp)
 | cons x r ih =>
   intro m h1 h2 h
   cases m with
   | nil => exact absurd ((h x).1 (by simp)) (by simp)
   | cons y t =>
     rw [List.pairwise_cons] at h1 h2
     have hxy : x = y := by
      have a := (h x).1 (by simp)
      have b := (h y).2 (by simp)
      rw [List.mem_cons] at a b
      rcases a with a | a
      ·exact a
      ·rcases b with b | b
       ·exact b.symm
       ·have := h1.1 y b
        have := h2.1 x a
        omega
     subst hxy
     congr 1
     refine ih h1.2 h2.2 fun z => ?_
     have hz := h z
     rw [List.mem_cons, List.mem_cons] at hz
     constructor
     ·intro hh
      rcases hz.1 (.inr hh) with e | e
      ·have := h1.1 z hh
       omega
      ·exact e
     ·intro hh
      rcases hz.2 (.inr hh) with e | e
      ·have := h2.1 z hh
       omega
      ·exact e
theorem ids_set {d : List Int} (h : d.Pairwise (· < ·)) (h1 : ∀ i ∈ d, 1 ≤ i ∧ i ≤ 24) : ids (setOf d) = d := by
 refine sorted_ext (idsFrom_sorted _ _ _) h fun x => ?_
 rw [mem_ids]
 unfold has
 rw [set_bit]
 constructor
 ·intro hh
  simp at hh
  have : isId x = true := hh.1
  unfold isId at this
  simp at this
  have hx := hh.2.2
  rw [show max x 0 = x by omega] at hx
  exact hx
 ·intro hh
  have hx := h1 x hh
  have e : ((x.toNat : Nat) : Int) = x := by omega
  have hi : isId x = true := by unfold isId; simp; omega
  rw [e, hi, decide_eq_true ⟨rfl, hh⟩]
  rfl
theorem refP_text {l : List UInt8} {p : List Int × Int} (h : fold (l ++ [43]) ([], -1) = some p) : l = textS (setOf p.1) := by
 have hI := inv_fold Inv.nil h
 rw [List.nil_append] at hI
 obtain ⟨h1, h2, h3, h4⟩ := hI
 have hn : p.2 = -1 := by
  rw [fold_app] at h
  cases hl : fold l ([], -1) with
  | none => rw [hl] at h; cases h
  | some q =>
    rw [hl, Option.bind_some, fold_one] at h
    unfold rstep at h
    rw [if_pos rfl] at h
    split at h
    ·cases h
    ·cases h
     rfl
 rw [hn, if_pos (by decide), List.append_nil] at h1
 have hid := ids_set h4 h3
 cases hd : p.1 with
 | nil =>
   rw [hd] at h1
   exact absurd h1 (by simp [behind])
 | cons x xs =>
   rw [hd, List.map_cons, ← join_behind] at h1
   rw [hd] at hid
   have h5 := List.append_cancel_right h1
   rw [h5, text_join (by rw [hid]; simp), hid, List.map_cons]
theorem parse_ref (s : ByteArray) : parseS s = ((refP (byts s)).1, if (refP (byts s)).2 = true then 0 else 4) := by
 unfold refP
 by_cases h0 : byts s = [45]
 ·rw [if_pos h0]
  unfold parseS
  rw [out_segs, h0]
  decide +kernel
 ·rw [if_neg h0]
  unfold parseS
  cases hf : fold (byts s ++ [43]) ([], -1) with
  | some p =>
    dsimp only
    have hI := inv_fold Inv.nil hf
    have ht := refP_text hf
    have hid := ids_set hI.2.2.2 hI.2.2.1
    have he : outOf s = setOf p.1 := by rw [out_segs, ht, out_text, hid]
    rw [he, ← ht, if_pos rfl]
    rfl
  | none =>
    dsimp only
    by_cases ht : textS (outOf s) = byts s
    ·exfalso
     by_cases hn : ids (outOf s) = []
     ·rw [text_nil hn] at ht
      exact h0 ht.symm
     ·rw [text_join hn] at ht
      obtain ⟨x, xs, hx⟩ : ∃ x xs, ids (outOf s) = x :: xs := by
       cases hh : ids (outOf s) with
       | nil => exact absurd hh hn
       | cons x xs => exact ⟨x, xs, rfl⟩
      have hj : byts s ++ [43] = behind ((ids (outOf s)).map dgt) := by rw [← ht, hx, List.map_cons, join_behind]
      rw [hj, fold_behind _ [] (fun i hi => ids_id hi) (by rw [List.nil_append]; exact idsFrom_sorted _ _ _)] at hf
      cases hf
    ·rw [if_neg ht]
     rfl
end Sg
open Sg
namespace Sg
theorem rstep_bad43 {d : List Int} {n : Int} (h : badN d n = true) : rstep (d, n) 43 = none := by
 unfold rstep
 rw [if_pos rfl, if_pos h]
theorem rstep_ok43 {d : List Int} {n : Int} (h : badN d n = false) : rstep (d, n) 43 = some (d ++ [n], -1) := by
 unfold rstep
 rw [if_pos rfl, if_neg (by rw [h]; decide)]
theorem ne43 {c : UInt8} {k : Nat} (hk : c.toNat = k) (h : k ≠ 43) : c ≠ 43 := fun e => by
 rw [e] at hk
 exact h hk.symm
theorem rstep_bad {d : List Int} {n : Int} {c : UInt8} {k : Nat} (hk : c.toNat = k) (h : k ≠ 43) (hb : k < 48 ∨ 57 < k ∨ n = 0 ∨ 99 < n ∨ (n < 0 ∧ k = 48)) : rstep (d, n) c = none := by
 subst hk
 unfold rstep
 rw [if_neg (ne43 rfl h), if_pos hb]
theorem rstep_dig {d : List Int} {n : Int} {c : UInt8} {k : Nat} (hk : c.toNat = k) (h : k ≠ 43) (hb : ¬ (k < 48 ∨ 57 < k ∨ n = 0 ∨ 99 < n ∨ (n < 0 ∧ k = 48))) : rstep (d, n) c = some (d, (if n < 0 then 0 else n) * 10 + ((k : Int) - 48)) := by
 subst hk
 unfold rstep
 rw [if_neg (ne43 rfl h), if_neg hb]
theorem refP_none {l : List UInt8} {q : List Int × Int} {j : Nat} (h0 : ¬ l = [45]) (hj : j < (l ++ [43]).length) (h : fold ((l ++ [43]).take j) ([], -1) = some q) (hn : rstep q (l ++ [43])[j] = none) : refP l = (0, false) := by
 unfold refP
 rw [if_neg h0, fold_none hj h hn]
theorem badN_lo {d : List Int} {n : Int} (h : n < 1) : badN d n = true := by
 unfold badN
 rw [decide_eq_true h]
 rfl
theorem badN_hi {d : List Int} {n : Int} (h : 24 < n) : badN d n = true := by
 unfold badN
 rw [decide_eq_true h, Bool.true_or, Bool.or_true]
theorem last_at {d : List Int} (h : 0 < d.length) : d.getLast? = some (d[d.length - 1]'(by omega)) := by
 rw [List.getLast?_eq_getElem?, List.getElem?_eq_getElem]
theorem badN_last {d : List Int} {n : Int} (hd : 0 < d.length) (h : n ≤ d[d.length - 1]'(by omega)) : badN d n = true := by
 unfold badN
 rw [last_at hd]
 dsimp only
 rw [decide_eq_true h, Bool.or_true, Bool.or_true]
theorem badN_ok {d : List Int} {n : Int} (h1 : 1 ≤ n) (h2 : n ≤ 24) (h : ∀ hd : 0 < d.length, d[d.length - 1]'(by omega) < n) : badN d n = false := by
 refine badN_false.2 ⟨h1, h2, fun m hm => ?_⟩
 by_cases hd : 0 < d.length
 ·rw [last_at hd] at hm
  cases hm
  exact h hd
 ·rw [List.eq_nil_of_length_eq_zero (by omega : d.length = 0)] at hm
  cases hm
theorem str_minus (s : ByteArray) : (s.toList == [45]) = decide (byts s = [45]) := by
 rw [toList_byts, Bool.eq_iff_iff, beq_iff_eq, decide_eq_true_iff]
end Sg
theorem refParse_c (s : ByteArray) (hs : s.size ≤ 100000) : Ret 109 #[.string s] (.tuple #[.int .u32 (((refP (byts s)).1 : Nat) : Int), .bool (refP (byts s)).2]) := fun w => by
 obtain ⟨i0, hi, hz0, hz1, hz2⟩ := info_parts infoInt
 obtain ⟨R, hR⟩ : ∃ r, refP (byts s) = r := ⟨_, rfl⟩
 rw [hR]
 replace hR := Hd hR
 have e0 := str_minus s
 by_cases h0 : byts s = [45]
 ·rw [decide_eq_true h0] at e0
  obtain rfl := hR.out
  have hr : refP (byts s) = (0, true) := by unfold refP; rw [if_pos h0]
  rw [hr]
  clear hr hR h0
  go_enter Tryz.func109, Tryz.ntmps109
  go_wp2_with fail
  (try simp only [Exit.inBlock, Exit.then])
  refine bodyPost_ret (by simp [results, Tryz.results109, go_sem]; try rfl) rfl ?_
  exact ⟨rfl, Below.refl _ _⟩
 ·rw [decide_eq_false h0] at e0
  have hidx : ∀ (j : Nat) (h : j < s.size) (h' : j < (byts s ++ [43]).length), (byts s ++ [43])[j].toNat = s[j].toNat := by
   intro j h h'
   have hb : (byts s).length = s.size := byts_length s
   rw [List.getElem_append_left (by omega)]
   simp [byts]
   rfl
  have hend : ∀ (j : Nat) (h' : j < (byts s ++ [43]).length), j = s.size → (byts s ++ [43])[j] = 43 := by
   intro j h' e
   have hb : (byts s).length = s.size := byts_length s
   rw [List.getElem_append_right (by omega)]
   simp
  have hl' : (byts s ++ [43]).length = s.size + 1 := by rw [List.length_append, byts_length]; rfl
  have hbad : ∀ (q : List Int × Int) (j : Nat) (hj : j < (byts s ++ [43]).length) (h : fold ((byts s ++ [43]).take j) ([], -1) = some q) (hn : rstep q (byts s ++ [43])[j] = none), R = (0, false) := fun q j hj h hn => by rw [← hR.out]; exact refP_none h0 hj h hn
  have hgood : ∀ (q : List Int × Int), fold (byts s ++ [43]) ([], -1) = some q → R = (setOf q.1, true) := fun q h => by
   rw [← hR.out]
   unfold refP
   rw [if_neg h0, h]
  have hstep : ∀ (q p : List Int × Int) (j : Nat) (hj : j < (byts s ++ [43]).length) (h : fold ((byts s ++ [43]).take j) ([], -1) = some q) (hn : rstep q (byts s ++ [43])[j] = some p), fold ((byts s ++ [43]).take (j + 1)) ([], -1) = some p := fun q p j hj h hn => by rw [fold_take hj h, hn]
  generalize byts s ++ [43] = l at *
  clear hR h0
  go_enter Tryz.func109, Tryz.ntmps109
  replace hidx := Hd hidx
  replace hend := Hd hend
  replace hl' := Hd hl'
  replace hbad := Hd hbad
  replace hgood := Hd hgood
  replace hstep := Hd hstep
  go_wp2_with fail
  go_loopw [4, 5, 6] (fun b nv iv wr => ∃ (j : Nat) (d : List Int) (n : Int), j ≤ s.size + 1 ∧ iv = .int .i64 j ∧ nv = .int .i64 n ∧ (∃ a c, b = .slice a d.length c ∧ OwnI wr w.heap.size a c d) ∧ d.length ≤ j ∧ fold (l.take j) ([], -1) = some (d, n) ∧ Below w.heap.size w wr) (fun _ _ i _ => s.size + 1 - (intOf i).toNat)
  case atStart => exact ⟨0, [], -1, Nat.zero_le _, rfl, rfl, ⟨some ⟨w.heap.size, 0, none⟩, 0, rfl, ownsRow_lit w w.heap.size 3 [] 0 (Nat.le_refl _) rfl (by unfold maxLen; omega)⟩, Nat.zero_le _, rfl, below1 w _⟩
  case round =>
   clear e0
   obtain ⟨j, d, n, hj, rfl, rfl, ⟨a, c, rfl, hown⟩, hdl, hf, hb⟩ := hrel
   have hsz := hb.size
   by_cases hlt : j ≤ s.size
   ·have hjl : j < l.length := by rw [hl'.out]; omega
    have hleI : (j : Int) ≤ (s.size : Int) := by omega
    have hn : n = -1 ∨ 1 ≤ n ∧ n ≤ 999 := (inv_fold Inv.nil hf).2.1
    have hbad' := fun h => hbad.out _ _ hjl hf h
    have hstep' := fun p h => hstep.out _ p _ hjl hf h
    clear hf hbad hgood hstep
    have hx := fun h => hidx.out j h hjl
    have hy := hend.out j hjl
    clear hidx hend
    generalize l[j] = x at *
    replace hbad' := Hd hbad'
    replace hstep' := Hd hstep'
    replace hown := Hd hown
    replace hb := Hd hb
    by_cases he : j = s.size
    ·obtain rfl := hy he
     have e1 : ((j : Int) == (s.size : Int)) = true := beq_iff_eq.2 (by omega)
     clear hx hy
     by_cases g1 : n < 1
     ·have hr := hbad'.out (rstep_bad43 (badN_lo g1))
      obtain rfl := hr
      clear hstep' hbad' hown
      go_wp2_with fail
      (try simp only [Exit.inBlock, Exit.then])
      refine bodyPost_ret (by simp [results, Tryz.results109, go_sem]; try rfl) rfl ?_
      exact ⟨rfl, hb.out⟩
     ·by_cases g2 : 24 < n
      ·have hr := hbad'.out (rstep_bad43 (badN_hi g2))
       obtain rfl := hr
       clear hstep' hbad' hown
       go_wp2_with fail
       (try simp only [Exit.inBlock, Exit.then])
       refine bodyPost_ret (by simp [results, Tryz.results109, go_sem]; try rfl) rfl ?_
       exact ⟨rfl, hb.out⟩
      ·by_cases hd : 0 < d.length
       ·have hdI : 0 < (d.length : Int) := by omega
        obtain ⟨g, rfl, hgB, hg, hc⟩ := hown.out.cell (d.length - 1) (by omega)
        have hc : wr.cell? ⟨g, d.length - 1, none⟩ = _ := hc
        have q1 : IntKind.i64.wrap ((d.length : Int) - 1) = (d.length : Int) - 1 := IntWalk.i64_in _ (by omega)
        have q2 : ((d.length : Int) - 1).toNat = d.length - 1 := by omega
        have q3 : (0 : Int) ≤ (d.length : Int) - 1 := by omega
        by_cases g3 : n ≤ d[d.length - 1]
        ·have hr := hbad'.out (rstep_bad43 (badN_last hd g3))
         generalize d[d.length - 1] = m at *
         obtain rfl := hr
         clear hstep' hbad' hown
         go_wp2_with fail
         (try simp only [Exit.inBlock, Exit.then])
         refine bodyPost_ret (by simp [results, Tryz.results109, go_sem]; try rfl) rfl ?_
         exact ⟨rfl, hb.out⟩
        ·have hr := hstep'.out _ (rstep_ok43 (badN_ok (by omega) (by omega) (fun _ => by omega)))
         generalize d[d.length - 1] = m at *
         clear hstep' hbad'
         replace hr := Hd hr
         have hsrc := src_one wr n
         go_wp2_with (at_builtin; refine wpList_append_own_src _ rfl (.tmp 47) (.tmp 49) 105 105 rfl w.heap.size 3 i0 (.int .i64 0) 1 8 Tryz.underlying105 hi hz0 hz1 hz2 rfl rfl (hown.out.alloc _) rfl hsrc ?_ ?_ ?_ ?_)
         ·unfold maxLen; omega
         ·omega
         ·(try rw [size_alloc]); omega
         intro b' c' w2 hown2 hg1
         have hfin := Hd (Below.grown (hb.out.alloc hsz (.cells #[.int .i64 n] 3)) hg1 (by rw [size_alloc]; omega) (fun q hq => by have := World.ownsRow.lt hown.out q hq; omega))
         rw [show ([.int .i64 n] : List Value) = iv [n] from rfl, ← iv_append] at hown2
         have hown3 : OwnI w2 w.heap.size b' c' (d ++ [n]) := by
          unfold OwnI
          rw [List.length_append]
          exact hown2
         replace hown3 := Hd hown3
         clear hown2 hg1 hsrc hown hb
         go_wp2_with fail
         go_roundw
         case rel => exact ⟨j + 1, d ++ [n], -1, by omega, by go_num, rfl, ⟨b', c', by rw [List.length_append]; rfl, hown3.out⟩, by rw [List.length_append, List.length_singleton]; omega, hr.out, hfin.out⟩
         case measure => simp [intOf]; omega
       ·have hr := hstep'.out _ (rstep_ok43 (badN_ok (by omega) (by omega) (fun h => absurd h hd)))
        have hdI : ¬ (0 < (d.length : Int)) := by omega
        clear hstep' hbad'
        replace hr := Hd hr
        have hsrc := src_one wr n
        go_wp2_with (at_builtin; refine wpList_append_own_src _ rfl (.tmp 47) (.tmp 49) 105 105 rfl w.heap.size 3 i0 (.int .i64 0) 1 8 Tryz.underlying105 hi hz0 hz1 hz2 rfl rfl (hown.out.alloc _) rfl hsrc ?_ ?_ ?_ ?_)
        ·unfold maxLen; omega
        ·omega
        ·(try rw [size_alloc]); omega
        intro b' c' w2 hown2 hg1
        have hfin := Hd (Below.grown (hb.out.alloc hsz (.cells #[.int .i64 n] 3)) hg1 (by rw [size_alloc]; omega) (fun q hq => by have := World.ownsRow.lt hown.out q hq; omega))
        rw [show ([.int .i64 n] : List Value) = iv [n] from rfl, ← iv_append] at hown2
        have hown3 : OwnI w2 w.heap.size b' c' (d ++ [n]) := by
         unfold OwnI
         rw [List.length_append]
         exact hown2
        replace hown3 := Hd hown3
        clear hown2 hg1 hsrc hown hb
        go_wp2_with fail
        go_roundw
        case rel => exact ⟨j + 1, d ++ [n], -1, by omega, by go_num, rfl, ⟨b', c', by rw [List.length_append]; rfl, hown3.out⟩, by rw [List.length_append, List.length_singleton]; omega, hr.out, hfin.out⟩
        case measure => simp [intOf]; omega
    ·have hjs : j < s.size := by omega
     have hjI : (j : Int) < (s.size : Int) := by omega
     have e1 : ((j : Int) == (s.size : Int)) = false := beq_eq_false_iff_ne.2 (by omega)
     obtain ⟨k, hk⟩ : ∃ k : Nat, s[j].toNat = k := ⟨_, rfl⟩
     have hxk : x.toNat = k := (hx hjs).trans hk
     have hK : ((s[j].toNat : Nat) : Int) = (k : Int) := by rw [hk]
     clear hx hy hk
     replace hxk := Hd hxk
     by_cases h43 : k = 43
     ·obtain rfl : x = 43 := by
       apply UInt8.toNat_inj.1
       rw [hxk.out, h43]
       rfl
      have e2 : ((k : Int) == 43) = true := beq_iff_eq.2 (by omega)
      clear hxk h43
      by_cases g1 : n < 1
      ·have hr := hbad'.out (rstep_bad43 (badN_lo g1))
       obtain rfl := hr
       clear hstep' hbad' hown
       go_wp2_with fail
       (try simp only [Exit.inBlock, Exit.then])
       refine bodyPost_ret (by simp [results, Tryz.results109, go_sem]; try rfl) rfl ?_
       exact ⟨rfl, hb.out⟩
      ·by_cases g2 : 24 < n
       ·have hr := hbad'.out (rstep_bad43 (badN_hi g2))
        obtain rfl := hr
        clear hstep' hbad' hown
        go_wp2_with fail
        (try simp only [Exit.inBlock, Exit.then])
        refine bodyPost_ret (by simp [results, Tryz.results109, go_sem]; try rfl) rfl ?_
        exact ⟨rfl, hb.out⟩
       ·by_cases hd : 0 < d.length
        ·have hdI : 0 < (d.length : Int) := by omega
         obtain ⟨g, rfl, hgB, hg, hc⟩ := hown.out.cell (d.length - 1) (by omega)
         have hc : wr.cell? ⟨g, d.length - 1, none⟩ = _ := hc
         have q1 : IntKind.i64.wrap ((d.length : Int) - 1) = (d.length : Int) - 1 := IntWalk.i64_in _ (by omega)
         have q2 : ((d.length : Int) - 1).toNat = d.length - 1 := by omega
         have q3 : (0 : Int) ≤ (d.length : Int) - 1 := by omega
         by_cases g3 : n ≤ d[d.length - 1]
         ·have hr := hbad'.out (rstep_bad43 (badN_last hd g3))
          generalize d[d.length - 1] = m at *
          obtain rfl := hr
          clear hstep' hbad' hown
          go_wp2_with fail
          (try simp only [Exit.inBlock, Exit.then])
          refine bodyPost_ret (by simp [results, Tryz.results109, go_sem]; try rfl) rfl ?_
          exact ⟨rfl, hb.out⟩
         ·have hr := hstep'.out _ (rstep_ok43 (badN_ok (by omega) (by omega) (fun _ => by omega)))
          generalize d[d.length - 1] = m at *
          clear hstep' hbad'
          replace hr := Hd hr
          have hsrc := src_one wr n
          go_wp2_with (at_builtin; refine wpList_append_own_src _ rfl (.tmp 47) (.tmp 49) 105 105 rfl w.heap.size 3 i0 (.int .i64 0) 1 8 Tryz.underlying105 hi hz0 hz1 hz2 rfl rfl (hown.out.alloc _) rfl hsrc ?_ ?_ ?_ ?_)
          ·unfold maxLen; omega
          ·omega
          ·(try rw [size_alloc]); omega
          intro b' c' w2 hown2 hg1
          have hfin := Hd (Below.grown (hb.out.alloc hsz (.cells #[.int .i64 n] 3)) hg1 (by rw [size_alloc]; omega) (fun q hq => by have := World.ownsRow.lt hown.out q hq; omega))
          rw [show ([.int .i64 n] : List Value) = iv [n] from rfl, ← iv_append] at hown2
          have hown3 : OwnI w2 w.heap.size b' c' (d ++ [n]) := by
           unfold OwnI
           rw [List.length_append]
           exact hown2
          replace hown3 := Hd hown3
          clear hown2 hg1 hsrc hown hb
          go_wp2_with fail
          go_roundw
          case rel => exact ⟨j + 1, d ++ [n], -1, by omega, by go_num, rfl, ⟨b', c', by rw [List.length_append]; rfl, hown3.out⟩, by rw [List.length_append, List.length_singleton]; omega, hr.out, hfin.out⟩
          case measure => simp [intOf]; omega
        ·have hr := hstep'.out _ (rstep_ok43 (badN_ok (by omega) (by omega) (fun h => absurd h hd)))
         have hdI : ¬ (0 < (d.length : Int)) := by omega
         clear hstep' hbad'
         replace hr := Hd hr
         have hsrc := src_one wr n
         go_wp2_with (at_builtin; refine wpList_append_own_src _ rfl (.tmp 47) (.tmp 49) 105 105 rfl w.heap.size 3 i0 (.int .i64 0) 1 8 Tryz.underlying105 hi hz0 hz1 hz2 rfl rfl (hown.out.alloc _) rfl hsrc ?_ ?_ ?_ ?_)
         ·unfold maxLen; omega
         ·omega
         ·(try rw [size_alloc]); omega
         intro b' c' w2 hown2 hg1
         have hfin := Hd (Below.grown (hb.out.alloc hsz (.cells #[.int .i64 n] 3)) hg1 (by rw [size_alloc]; omega) (fun q hq => by have := World.ownsRow.lt hown.out q hq; omega))
         rw [show ([.int .i64 n] : List Value) = iv [n] from rfl, ← iv_append] at hown2
         have hown3 : OwnI w2 w.heap.size b' c' (d ++ [n]) := by
          unfold OwnI
          rw [List.length_append]
          exact hown2
         replace hown3 := Hd hown3
         clear hown2 hg1 hsrc hown hb
         go_wp2_with fail
         go_roundw
         case rel => exact ⟨j + 1, d ++ [n], -1, by omega, by go_num, rfl, ⟨b', c', by rw [List.length_append]; rfl, hown3.out⟩, by rw [List.length_append, List.length_singleton]; omega, hr.out, hfin.out⟩
         case measure => simp [intOf]; omega
     ·have e2 : ((k : Int) == 43) = false := beq_eq_false_iff_ne.2 (by omega)
      have e3 : (n == 0) = false := beq_eq_false_iff_ne.2 (by omega)
      by_cases g1 : k < 48
      ·have hr := hbad'.out (rstep_bad hxk.out h43 (.inl g1))
       have g1' : (k : Int) < 48 := by omega
       obtain rfl := hr
       clear hstep' hbad' hown
       go_wp2_with fail
       (try simp only [Exit.inBlock, Exit.then])
       refine bodyPost_ret (by simp [results, Tryz.results109, go_sem]; try rfl) rfl ?_
       exact ⟨rfl, hb.out⟩
      ·have g1' : ¬ (k : Int) < 48 := by omega
       by_cases g2 : 57 < k
       ·have hr := hbad'.out (rstep_bad hxk.out h43 (.inr (.inl g2)))
        have g2' : 57 < (k : Int) := by omega
        obtain rfl := hr
        clear hstep' hbad' hown
        go_wp2_with fail
        (try simp only [Exit.inBlock, Exit.then])
        refine bodyPost_ret (by simp [results, Tryz.results109, go_sem]; try rfl) rfl ?_
        exact ⟨rfl, hb.out⟩
       ·have g2' : ¬ 57 < (k : Int) := by omega
        by_cases g3 : 99 < n
        ·have hr := hbad'.out (rstep_bad hxk.out h43 (.inr (.inr (.inr (.inl g3)))))
         obtain rfl := hr
         clear hstep' hbad' hown
         go_wp2_with fail
         (try simp only [Exit.inBlock, Exit.then])
         refine bodyPost_ret (by simp [results, Tryz.results109, go_sem]; try rfl) rfl ?_
         exact ⟨rfl, hb.out⟩
        ·by_cases g4 : n < 0
         ·by_cases g5 : k = 48
          ·have hr := hbad'.out (rstep_bad hxk.out h43 (.inr (.inr (.inr (.inr ⟨g4, g5⟩)))))
           have e4 : ((k : Int) == 48) = true := beq_iff_eq.2 (by omega)
           obtain rfl := hr
           clear hstep' hbad' hown
           go_wp2_with fail
           (try simp only [Exit.inBlock, Exit.then])
           refine bodyPost_ret (by simp [results, Tryz.results109, go_sem]; try rfl) rfl ?_
           exact ⟨rfl, hb.out⟩
          ·have e4 : ((k : Int) == 48) = false := beq_eq_false_iff_ne.2 (by omega)
           have hr := hstep'.out _ (rstep_dig hxk.out h43 (by omega))
           rw [if_pos g4] at hr
           have e5 : IntKind.u8.wrap ((k : Int) - 48) = (k : Int) - 48 := IntWalk.u8_in _ (by omega)
           replace hr := Hd hr
           clear hstep' hbad'
           go_wp2_with fail
           go_roundw
           case rel => exact ⟨j + 1, d, _, by omega, by go_num, by go_num, ⟨a, c, rfl, hown.out⟩, by omega, hr.out, hb.out⟩
           case measure => simp [intOf]; omega
         ·have hr := hstep'.out _ (rstep_dig hxk.out h43 (by omega))
          rw [if_neg g4] at hr
          have e5 : IntKind.u8.wrap ((k : Int) - 48) = (k : Int) - 48 := IntWalk.u8_in _ (by omega)
          have e6 : IntKind.i64.wrap (n * 10 + ((k : Int) - 48)) = n * 10 + ((k : Int) - 48) := IntWalk.i64_in _ (by omega)
          have e7 : IntKind.i64.wrap (n * 10) = n * 10 := IntWalk.i64_in _ (by omega)
          replace hr := Hd hr
          clear hstep' hbad'
          go_wp2_with fail
          go_roundw
          case rel => exact ⟨j + 1, d, _, by omega, by go_num, by go_num, ⟨a, c, rfl, hown.out⟩, by omega, hr.out, hb.out⟩
          case measure => simp [intOf]; omega
   ·obtain rfl : j = s.size + 1 := by omega
    rw [List.take_of_length_le (by rw [hl'.out]; omega)] at hf
    have hI := inv_fold Inv.nil hf
    have hok : okL d = true := List.all_eq_true.2 fun i hi => by
     have := hI.2.2.1 i hi
     unfold Sg.isId
     simp
     omega
    have hr := hgood.out _ hf
    have co := refOf_c d (by omega) a c wr hown.in
    rw [hok, if_pos rfl] at co
    obtain rfl := hr
    have hgt : ¬ ((s.size : Int) + 1 ≤ (s.size : Int)) := by omega
    clear hbad hgood hstep hidx hend hI hok hf hown
    replace co := Hd co
    replace hb := Hd hb
    go_wp2_with fail
    refine co.out.mono ?_
    rintro e w2 ⟨rfl, hb2⟩
    have hfin := Hd (below_up hb.out hsz hb2)
    clear hb2
    go_wp2_with fail
    (try simp only [Exit.inBlock, Exit.then])
    refine bodyPost_ret (by simp [results, Tryz.results109, go_sem]; try rfl) rfl ?_
    exact ⟨rfl, hfin.out⟩
end Go.Proofs.YtjjgbillihedgaaGreatDoor
namespace Go.Proofs.YtjjgbillihedgaaGreatDoor
open Go.RowKit
open Rf
open Sg
namespace Sg
end Sg
/-- ints ahead in a row -/
theorem InI.take {w : World} {a : Option Addr} {l : List Int} (h : InI w a l) (j : Nat) : InI w a (l.take j) := by
 rcases h with rfl | ⟨g, o, rfl, hg, hc⟩
 ·exact .inl (by simp)
 ·refine .inr ⟨g, o, rfl, hg, fun i hi => ?_⟩
  rw [List.length_take] at hi
  rw [List.getElem_take]
  exact hc i (by omega)
/-- parts without values, as cells -/
def pv (l : List Int) : List Value := l.flatMap fun x => [.int .i64 x, .slice none 0 0]
/-- a slice of such parts of the call's own -/
def OwnP (w : World) (B : Nat) (a : Option Addr) (c : Nat) (l : List Int) : Prop := w.ownsRow B 65 2 (.slice a l.length c) l.length (pv l)
theorem OwnP.alloc {w : World} {B : Nat} {a : Option Addr} {c : Nat} {l : List Int} (h : OwnP w B a c l) (o : Obj) : OwnP (w.alloc o) B a c l := World.ownsRow.alloc h o
theorem OwnP.nil (w : World) : OwnP (w.alloc (.cells #[] 65)) w.heap.size (some ⟨w.heap.size, 0, none⟩) 0 [] := ⟨rfl, .inr ⟨w.heap.size, 0, #[], rfl, Nat.le_refl _, heap_alloc_new w _, Nat.le_refl _, by unfold maxLen; omega, rfl, rfl⟩⟩
theorem OwnP.mono {w : World} {B B' : Nat} {a : Option Addr} {c : Nat} {l : List Int} (h : OwnP w B a c l) (hB : B' ≤ B) : OwnP w B' a c l := by
 refine ⟨h.1, ?_⟩
 rcases h.2 with h' | ⟨g, cap, cur, h1, h2, h3⟩
 ·exact .inl h'
 ·exact .inr ⟨g, cap, cur, h1, by omega, h3⟩
theorem OwnP.below {w w' : World} {B : Nat} {a : Option Addr} {c : Nat} {l : List Int} (h : OwnP w B a c l) (hb : Below w.heap.size w w') : OwnP w' B a c l :=
 World.ownsRow.kept (row := none) h ⟨hb.os, hb.tape, hb.output, hb.size, fun k hk _ => hb.block k hk⟩ (by cases (Value.slice a l.length c).ownBlock <;> simp)
theorem infoPart : (Tryz.prog.info? 65).map (fun i => (i.zero, i.size, i.bytes)) = some (some (.agg #[.int .i64 0, .slice none 0 0]), 2, 32) := by kernel_rfl
end Go.Proofs.YtjjgbillihedgaaGreatDoor
