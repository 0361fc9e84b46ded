/- parts of the proof, merged: Lib, Sg0, SgP, SgW, SgO, SgL, SgI, SgB, SgR, SgS, Wv, WvD, SgD, SgX, SgZ, SgPa -/
import Derived.WalkKit
import Derived.OneCell
import Derived.Deep.AppendSrc
import Derived.Laws.BytesString
import Derived.Lib.Hide
import Derived.Deep.RegionHeld3
import Derived.OrdersHeld
import Derived.Test.YtjjgbillihedgaaGreatDoorRows
import Derived.Handy
import Derived.WalkSpells
import Derived.WalkLawsBesides
import Derived.BigQuiet
import Derived.Deep.QuietTactic
import Derived.Deep.Cut
import Derived.IntWalk
import Derived.Laws.ShiftsVarLaws
import Derived.Deep.Upon
import Derived.Deep.WholeRow
import Derived.Test.YtjjgbillihedgaaGreatDoorShelf
set_option linter.unusedVariables false
set_option maxHeartbeats 4000000
set_option maxRecDepth 100000
namespace Rf
open Go Go.RowKit
/-- a text as bytes, and bytes as a text -/
def byts (s : ByteArray) : List UInt8 := s.data.toList
def text (l : List UInt8) : ByteArray := ⟨l.toArray⟩
theorem text_byts (s : ByteArray) : text (byts s) = s := by simp [text, byts]
theorem byts_text (l : List UInt8) : byts (text l) = l := by simp [text, byts]
theorem byts_length (s : ByteArray) : (byts s).length = s.size := by simp [byts]
theorem text_size (l : List UInt8) : (text l).size = l.length := by simp [text]; rfl
theorem byts_append (a b : ByteArray) : byts (a ++ b) = byts a ++ byts b := by simp [byts]
theorem text_append (l m : List UInt8) : text l ++ text m = text (l ++ m) := by
 apply ByteArray.ext
 simp [text]
theorem toList_inj {a b : ByteArray} (h : a.toList = b.toList) : a = b := by
 rw [ByteArray.toList_eq, ByteArray.toList_eq] at h
 exact ByteArray.ext (Array.ext' h)
theorem toList_text (l : List UInt8) : (text l).toList = l := by simp [text]
theorem toList_byts (s : ByteArray) : s.toList = byts s := ByteArray.toList_eq s
theorem byts_inj {a b : ByteArray} (h : byts a = byts b) : a = b := toList_inj (by rw [toList_byts, toList_byts, h])
theorem take_snoc (s : ByteArray) (k : Nat) (h : k < s.size) : (byts s).take (k + 1) = (byts s).take k ++ [s[k]] := by
 unfold byts
 rw [List.take_succ_eq_append_getElem (by simpa using h)]; rfl
theorem take_all (s : ByteArray) : (byts s).take s.size = byts s := List.take_of_length_le (by rw [byts_length]; exact Nat.le_refl _)
/-- bytes as cells -/
def bv (l : List UInt8) : List Value := l.map fun c => Value.int .u8 (c.toNat : Int)
theorem bv_length (l : List UInt8) : (bv l).length = l.length := by simp [bv]
theorem bv_append (l m : List UInt8) : bv (l ++ m) = bv l ++ bv m := by simp [bv]
theorem bv_one (c : UInt8) : bv [c] = [Value.int .u8 (c.toNat : Int)] := rfl
theorem bv_oneCell (l : List UInt8) : ∀ u ∈ bv l, u.oneCell' = true := by
 intro u hu
 obtain ⟨_, _, rfl⟩ := List.mem_map.1 hu
 rfl
section
variable {P : Program}
theorem run_append_own_src (w : World) (base : Nat) (t tx ty e : TypeId) (i : TypeInfo) (z : Value) (size bytes : Nat) (ht : P.underlying t = some (.slice e)) (hi : P.info? e = some i) (hz : i.zero = some z)
 (hsize : i.size = size) (hby : i.bytes = bytes) (hzs : z.cells.size = size)
 (v : Value) (n : Nat) (xs : List Value) (hown : w.ownsRow base e size v n xs)
 (x : Value) (m : Nat) (news : List Value) (hs : Src P size tx x m news w)
 (h63 : n + m ≤ maxLen) (hbytes : (n + m) * bytes ≤ 140737488355328) (hbase : base ≤ w.heap.size) :
 ∃ v' w', (Builtin.append_ #[t, tx] ty #[v, x]).run P w = .ok v' w' ∧ w'.ownsRow base e size v' (n + m) (xs ++ news) ∧ w.grownBy w' v.ownBlock ∧ (∃ a c, v' = .slice a (n + m) c) := by
 subst hsize
 subst hby
 have h63' : ((n + m : Nat) : Int) ≤ 9223372036854775807 := by simp only [maxLen] at h63; omega
 have hlen : (xs ++ news).length = (n + m) * i.size := by rw [List.length_append, hown.1, hs.newsLen, Nat.add_mul]
 have grow : ∀ (bs : Option Addr) (sc : Nat), v = .slice bs n sc → sc < n + m → (Builtin.firstCells i.size n (.slice bs n sc)).run P w.drew = .ok xs.toArray w.drew →
  ∃ v' w', (Builtin.append_ #[t, tx] ty #[v, x]).run P w = .ok v' w' ∧ w'.ownsRow base e i.size v' (n + m) (xs ++ news) ∧ w.grownBy w' v.ownBlock ∧ (∃ a c, v' = .slice a (n + m) c) := by
  rintro bs sc rfl hg hold
  have hrun := run_append_grow_src (P := P) w t tx ty e i z ht hi hz bs n sc xs hold x m news hs hg h63' (growslice_fits hg hbytes)
  have hge := grownCap_ge w (n + m) sc e
  refine ⟨_, _, hrun, ⟨hlen, .inr ⟨w.heap.size, _, _, rfl, hbase, heap_alloc_new w.drew _, hge, grownCap_le_maxLen w (n + m) sc e h63, ?_, ?_⟩⟩, ⟨rfl, rfl, rfl, by simp, fun k hk _ => Below.heap_alloc w.drew _ k hk⟩, _, _, rfl⟩
  ·rw [Array.size_append, List.size_toArray, hlen, size_zeroCells, hzs, ← Nat.add_mul]
   congr 1
   omega
  ·rw [Array.toList_append, ← hlen]
   exact List.take_left
 rcases hown.2 with ⟨rfl, rfl⟩ | ⟨g, cap, cur, rfl, hbg, hg, hnc, hcm, hcs, htake⟩
 ·have hx : xs = [] := List.eq_nil_of_length_eq_zero (by simpa using hown.1)
  subst hx
  by_cases hm : m = 0
  ·subst hm
   have hn : news = [] := List.eq_nil_of_length_eq_zero (by simpa using hs.newsLen)
   subst hn
   refine ⟨.slice none 0 0, w, ?_, World.ownsRow_nil w base e i.size, ⟨rfl, rfl, rfl, Nat.le_refl _, fun _ _ _ => rfl⟩, _, _, rfl⟩
   rcases hs.kind with ⟨e', hk⟩ | hk <;> simp [Builtin.append_, run_underlying ht, run_underlying hk, Go.sizeOf, typeInfo, hi, hs.len, hs.cells]
  ·exact grow none 0 rfl (by omega) (run_firstCells_none w.drew i.size 0 0 0)
 ·by_cases hroom : n + m ≤ cap
  ·have hnl := hs.newsLen
   have hfit : n * i.size + news.length ≤ cur.size := by rw [hnl, hcs, ← Nat.add_mul]; exact Nat.mul_le_mul_right _ hroom
   have hst := run_storeCells_at P g (n * i.size) e news 0 cur w hg (by simpa using hfit) hs.one
   simp only [Nat.add_zero] at hst
   have hr : (Builtin.append_ #[t, tx] ty #[.slice (some ⟨g, 0, none⟩) n cap, x]).run P w =
    .ok (.slice (some ⟨g, 0, none⟩) (n + m) cap) (w.setRow g (cur.toList.take (n * i.size) ++ news ++ cur.toList.drop (n * i.size + news.length)).toArray) := by
    rcases hs.kind with ⟨e', hk⟩ | hk <;> simp [Builtin.append_, run_underlying ht, run_underlying hk, Go.sizeOf, typeInfo, hi, hs.len, hroom, hs.cells, Addr.add_lit, hst]
   refine ⟨_, _, hr, ⟨hlen, .inr ⟨g, cap, _, rfl, hbg, setRow_heap w g cur _ e _ hg, hroom, hcm, ?_, ?_⟩⟩, ⟨rfl, rfl, rfl, by simp [World.setRow], fun k _ hk => setRow_other w g k _ (fun e => hk (by simp [Value.ownBlock, e]))⟩, _, _, rfl⟩
   ·simp only [List.size_toArray, List.length_append, List.length_take, List.length_drop, Array.length_toList]
    omega
   ·rw [htake, ← hlen]
    exact List.take_left
  ·refine grow (some ⟨g, 0, none⟩) cap rfl (by omega) ?_
   exact run_firstCells_some w.drew i.size n ⟨g, 0, none⟩ n cap xs hown.1 (by intro j u hu; have := hown.cells (g := g) rfl j u hu; simpa using this)
theorem wpList_append_own_src (w : World) {ops : Array Oper} {rest : List Oper} {o : Oper} {a : Act} {Q : Exit → Act → World → Prop} (hgd : o.guard = none) (s x : Operand) (t tx : TypeId)
 (ho : o.op = .call { callee := .builtin .append, args := #[s, x], argTypes := #[t, tx] })
 (base : Nat) (e : TypeId) (i : TypeInfo) (z : Value) (size bytes : Nat) (ht : P.underlying t = some (.slice e)) (hi : P.info? e = some i) (hz : i.zero = some z)
 (hsize : i.size = size) (hby : i.bytes = bytes) (hzs : z.cells.size = size)
 {v : Value} {n : Nat} {xs : List Value} (hv : a.eval s = v) (hown : w.ownsRow base e size v n xs)
 {xv : Value} {m : Nat} {news : List Value} (hx : a.eval x = xv) (hs : Src P size tx xv m news w) (h63 : n + m ≤ maxLen) (hbytes : (n + m) * bytes ≤ 140737488355328) (hbase : base ≤ w.heap.size)
 (hK : ∀ b' c' w', w'.ownsRow base e size (.slice b' (n + m) c') (n + m) (xs ++ news) → w.grownBy w' v.ownBlock → wpList P ops Q rest (a.put o.dst (.slice b' (n + m) c')) w') : wpList P ops Q (o :: rest) a w := by
 refine wpList_plain hgd fun K hK' => ?_
 obtain ⟨v', w', hrun, r1, r2, b', c', rfl⟩ := run_append_own_src (P := P) w base t tx o.type e i z size bytes ht hi hz hsize hby hzs v n xs hown xv m news hs h63 hbytes hbase
 unfold Oper.wp
 simp [execOp, ho, resolve, invoke, builtin, hv, hx, hrun, Result.andThen]
 exact hK' _ _ (hK b' c' w' r1 r2)
theorem foldl_push (l : List UInt8) (s : ByteArray) : (l.map fun c => (c.toNat : Int)).foldl (fun (r : ByteArray) n => r.push (UInt8.ofNat n.toNat)) s = ⟨s.data ++ l.toArray⟩ := by
 induction l generalizing s with
 | nil => simp
 | cons c l ih =>
   simp only [List.map_cons, List.foldl_cons]
   rw [ih]
   simp [ByteArray.push]
/-- a new row, whole -/
theorem ownsRow_lit (w : World) (base : Nat) (e : TypeId) (cs : List Value) (n : Nat) (hb : base ≤ w.heap.size) (hn : cs.length = n) (hm : n ≤ maxLen) :
 (w.alloc (.cells cs.toArray e)).ownsRow base e 1 (.slice (some ⟨w.heap.size, 0, none⟩) n n) n cs := by
 subst hn
 exact ⟨by simp, .inr ⟨w.heap.size, _, _, rfl, hb, heap_alloc_new w _, Nat.le_refl _, hm, by simp, by simp⟩⟩
/-- 'string(b)', b a row of bytes of the call's own -/
theorem run_string_own (w : World) (src dst e : TypeId) {base : Nat} {v : Value} {n : Nat} {l : List UInt8} (hs : P.underlying src = some (.slice e)) (he : P.underlying e = some (.int .u8)) (hd : P.underlying dst = some .string)
 (hown : w.ownsRow base e 1 v n (bv l)) : (convert src dst v).run P w = .ok (.string (text l)) w := by
 rcases hown.2 with ⟨rfl, rfl⟩ | ⟨g, cap, cur, rfl, hbg, hg, hnc, hcm, hcs, htake⟩
 ·have hl : l = [] := List.eq_nil_of_length_eq_zero (by simpa [bv] using hown.1)
  subst hl
  rw [run_convert_bytes_string w src dst e none 0 0 hs he hd]
  rfl
 ·rw [run_convert_bytes_string w src dst e _ n cap hs he hd]
  have hl : l.length = n := by have := hown.1; simpa [bv] using this
  have h1 := run_loadCells_list (P := P) w ⟨g, 0, none⟩ (bv l) (fun j u hu => hown.cells (g := g) rfl j u hu)
  rw [bv_length, hl] at h1
  have h2 := run_bytesToString (P := P) w ⟨g, 0, none⟩ n cap (l.map fun c => (c.toNat : Int)) (by rw [h1]; simp [bv])
  rw [h2, foldl_push]
  congr 2
  simp
  rfl
/-- the beginning of a region that draws its order, the number of its operations reckoned -/
theorem wp_region_held_at {ops : Array Oper} {Q : Exit → Act → World → Prop} {S : World → Prop} {id : Nat} {a : Act} {w : World} (n : Nat) (hn : ops.size = n) (hm : P.follows .mixedOrders = true) (hS : S w.drew)
 (h : S w.drew → wpAnyH P .any ops Q S n (Array.replicate n false) a w.drew) : (Code.region id ops true).wp P Q a w := by
 subst hn
 exact wp_region_held_drew hm hS h
end
end Rf
namespace Go
open Go.RowKit
theorem Hd {p : Prop} (h : p) : RowKit.Hid p := h
theorem ls3 {α : Type} : (∀ (l : List α) (i : Nat) (h : i < l.toArray.size), l.toArray[i] = l[i]'(by simpa using h)) ∧ (∀ (a : α) (l : List α) (h : 0 < (a :: l).length), (a :: l)[0] = a) ∧ (∀ (a : α) (l : List α) (i : Nat) (h : i + 1 < (a :: l).length), (a :: l)[i + 1] = l[i]'(by simpa using h)) :=
 ⟨fun l i h => List.getElem_toArray .., fun a l h => rfl, fun a l i h => rfl⟩
theorem ls7 {α : Type} : (∀ (l : List α) (i : Nat) (h : i < l.toArray.size), l.toArray[i] = l[i]'(by simpa using h)) ∧ (∀ (a : α) (l : List α) (h : 0 < (a :: l).length), (a :: l)[0] = a) ∧ (∀ (a : α) (l : List α) (i : Nat) (h : i + 1 < (a :: l).length), (a :: l)[i + 1] = l[i]'(by simpa using h)) ∧
 (∀ (l : List α) (i : Nat) (a : α), l.toArray.setIfInBounds i a = (l.set i a).toArray) ∧ (∀ (a b : α) (l : List α), (a :: l).set 0 b = b :: l) ∧ (∀ (a b : α) (l : List α) (i : Nat), (a :: l).set (i + 1) b = a :: l.set i b) :=
 ⟨fun l i h => List.getElem_toArray .., fun a l h => rfl, fun a l i h => rfl, fun l i a => List.setIfInBounds_toArray .., fun a b l => rfl, fun a b l i => rfl⟩
section
variable {P : Program} {ops : Array Oper} {Q : Exit → Act → World → Prop} {md : Region.Mode} {S : World → Prop}
theorem wpU (i : Nat) (v : Value) {oi : Oper} {fuel : Nat} {listed : Array Bool} {a : Act} {w : World} (hi : ops[i]? = some oi) (hy : ∀ w, S w → (execOp a.eval oi).run P w = .ok (.value v) w)
 (h : wpAnyH P md ops Q S fuel (listed.setIfInBounds i true) (a.put oi.dst v) w) (hw : Region.wanted oi (yielded ops a.tmps) = true := by rfl)
 (hs : Region.noSelect ops = true := by decide +kernel) (hf : Region.free md ops listed i = true := by decide +kernel) (hr : (Region.ready md ops listed).contains i = true := by decide +kernel)
 (hQ : ∀ c a w, Q (.panic c) (a.put oi.dst v) w → Q (.panic c) a w := by exact fun _ _ _ h => h) (hS : S w := by first | assumption | trivial) : wpAnyH P md ops Q S (fuel + 1) listed a w :=
 wpAnyH_take hi hs hf hr hQ (.inl ⟨hw, hy⟩) hS h
end
end Go
namespace Go.Proofs.YtjjgbillihedgaaGreatDoor
open Go.RowKit
open Rf
theorem size_alloc (w : World) (o : Obj) : (w.alloc o).heap.size = w.heap.size + 1 := by simp
theorem below1 (w : World) (o : Obj) : Below w.heap.size w (w.alloc o) := (Below.refl _ _).alloc (Nat.le_refl _) _
theorem below_up {a b c : World} {B C : Nat} (h : Below B a b) (hC : B ≤ C) (k : Below C b c) : Below B a c := h.trans (k.mono hC)
theorem below_drewN {B k : Nat} {a w : World} (h : Below B a w) : Below B a (w.drewN k) := h.trans ⟨rfl, rfl, rfl, Nat.le_refl _, fun _ _ => rfl⟩
theorem below_drewed {B : Nat} {a w : World} (h : Below B a w) : Below B a w.drew := h.trans ⟨rfl, rfl, rfl, Nat.le_refl _, fun _ _ => rfl⟩
/-- a contract: what is returned; all that lay is as it was -/
def Ret (f : FuncId) (args : Array Value) (v : Value) : Prop := ∀ w : World, Calls Tryz.prog f args w fun e w' => e = .returned v ∧ Below w.heap.size w w'
theorem Ret.on {f : FuncId} {args : Array Value} {v : Value} (h : Ret f args v) (w : World) : Calls Tryz.prog f args w fun e w' => e = .returned v ∧ Below w.heap.size w w' := h w
/-- a contract: what is returned; the world is as it was -/
def Still (f : FuncId) (args : Array Value) (v : Value) : Prop := ∀ w : World, Calls Tryz.prog f args w fun e w' => e = .returned v ∧ w = w'
theorem Still.on {f : FuncId} {args : Array Value} {v : Value} (h : Still f args v) (w : World) : Calls Tryz.prog f args w fun e w' => e = .returned v ∧ w = w' := h w
/-- a block of the call's own -/
def IsC (w : World) (b : Nat) (T : TypeId) (cs : Array Value) : Prop := w.heap[b]? = some (.cells cs T (0, 0))
section
variable {w w' : World} {b : Nat} {T : TypeId} {cs : Array Value}
theorem IsC.lt (h : IsC w b T cs) : b < w.heap.size := lt_of_block h
theorem isC_of (hb : Below w.heap.size w w') (h : IsC w b T cs) : IsC w' b T cs := (hb.block b h.lt).trans h
theorem IsC.alloc (h : IsC w b T cs) (o : Obj) : IsC (w.alloc o) b T cs := isC_of ((Below.refl _ _).alloc (Nat.le_refl _) o) h
theorem IsC.new (w : World) (T : TypeId) (cs : Array Value) : IsC (w.alloc (.cells cs T)) w.heap.size T cs := heap_alloc_new w _
theorem IsC.set_other {c i : Nat} {v : Value} (h : IsC w b T cs) (hne : b ≠ c) : IsC (w.setCell ⟨c, i, none⟩ v) b T cs := by
 unfold IsC at *
 show (w.heap.modify c _)[b]? = _
 rw [Array.getElem?_modify, if_neg (fun hh => hne hh.symm)]
 exact h
theorem IsC.set (h : IsC w b T cs) (i : Nat) (v : Value) : IsC (w.setCell ⟨b, i, none⟩ v) b T (cs.setIfInBounds i v) := by
 unfold IsC at *
 show (w.heap.modify b _)[b]? = _
 rw [Array.getElem?_modify, if_pos rfl, h]
 rfl
theorem IsC.cell (h : IsC w b T cs) (i : Nat) : w.cell? ⟨b, i, none⟩ = cs[i]? := by unfold IsC at h; simp [World.cell?, h]
theorem IsC.f (h : IsC w b T cs) (i : Nat) : w.frozen? ⟨b, i, none⟩ = false := by unfold IsC at h; simp [World.frozen?, h]
theorem IsC.drewN {k : Nat} (h : IsC w b T cs) : IsC (w.drewN k) b T cs := h
theorem IsC.drew (h : IsC w b T cs) : IsC w.drew b T cs := h
end
theorem cells12 {w : World} {b : Nat} {T : TypeId} {v0 v1 v2 v3 v4 v5 v6 v7 v8 v9 v10 v11 : Value} (h : IsC w b T #[v0, v1, v2, v3, v4, v5, v6, v7, v8, v9, v10, v11]) : w.cell? ⟨b, 0, none⟩ = some v0 ∧ w.cell? ⟨b, 1, none⟩ = some v1 ∧ w.cell? ⟨b, 2, none⟩ = some v2 ∧ w.cell? ⟨b, 3, none⟩ = some v3 ∧ w.cell? ⟨b, 4, none⟩ = some v4 ∧ w.cell? ⟨b, 5, none⟩ = some v5 ∧ w.cell? ⟨b, 6, none⟩ = some v6 ∧ w.cell? ⟨b, 7, none⟩ = some v7 ∧ w.cell? ⟨b, 8, none⟩ = some v8 ∧ w.cell? ⟨b, 9, none⟩ = some v9 ∧ w.cell? ⟨b, 10, none⟩ = some v10 ∧ w.cell? ⟨b, 11, none⟩ = some v11 := ⟨h.cell 0, h.cell 1, h.cell 2, h.cell 3, h.cell 4, h.cell 5, h.cell 6, h.cell 7, h.cell 8, h.cell 9, h.cell 10, h.cell 11⟩
theorem fr12 {w : World} {b : Nat} {T : TypeId} {cs : Array Value} (h : IsC w b T cs) : w.frozen? ⟨b, 0, none⟩ = false ∧ w.frozen? ⟨b, 1, none⟩ = false ∧ w.frozen? ⟨b, 2, none⟩ = false ∧ w.frozen? ⟨b, 3, none⟩ = false ∧ w.frozen? ⟨b, 4, none⟩ = false ∧ w.frozen? ⟨b, 5, none⟩ = false ∧ w.frozen? ⟨b, 6, none⟩ = false ∧ w.frozen? ⟨b, 7, none⟩ = false ∧ w.frozen? ⟨b, 8, none⟩ = false ∧ w.frozen? ⟨b, 9, none⟩ = false ∧ w.frozen? ⟨b, 10, none⟩ = false ∧ w.frozen? ⟨b, 11, none⟩ = false := ⟨h.f 0, h.f 1, h.f 2, h.f 3, h.f 4, h.f 5, h.f 6, h.f 7, h.f 8, h.f 9, h.f 10, h.f 11⟩
end Go.Proofs.YtjjgbillihedgaaGreatDoor
namespace Go.Proofs.YtjjgbillihedgaaGreatDoor
open Go.RowKit
open Rf
namespace Sg
/-- all ids -/
def ALL : Nat := 33554430
def isId (i : Int) : Bool := decide (1 ≤ i) && decide (i ≤ 24)
def has (s : Nat) (i : Int) : Bool := isId i && s.testBit i.toNat
/-- the ids from k on, n of them -/
def idsFrom (s : Nat) : Nat → Nat → List Int
 | _, 0 => []
 | k, n + 1 => (if s.testBit k then [(k : Int)] else []) ++ idsFrom s (k + 1) n
def ids (s : Nat) : List Int := idsFrom s 1 24
theorem idsFrom_snoc (s : Nat) (k n : Nat) : idsFrom s k (n + 1) = idsFrom s k n ++ (if s.testBit (k + n) then [((k + n : Nat) : Int)] else []) := by
 induction n generalizing k with
 | zero => simp [idsFrom]
 | succ n ih =>
   rw [idsFrom, ih (k + 1), idsFrom, List.append_assoc, show k + 1 + n = k + (n + 1) by omega]
theorem mem_idsFrom (s : Nat) (k n : Nat) (i : Int) : i ∈ idsFrom s k n ↔ ∃ j : Nat, i = j ∧ k ≤ j ∧ j < k + n ∧ s.testBit j = true := by
 induction n generalizing k with
 | zero =>
   simp [idsFrom]
   omega
 | succ n ih =>
   rw [idsFrom, List.mem_append, ih (k + 1)]
   constructor
   ·rintro (h | ⟨j, h1, h2, h3, h4⟩)
    ·by_cases hb : s.testBit k = true
     ·rw [if_pos hb] at h
      exact ⟨k, by simpa using h, Nat.le_refl _, by omega, hb⟩
     ·rw [if_neg hb] at h
      cases h
    ·exact ⟨j, h1, by omega, by omega, h4⟩
   ·rintro ⟨j, h1, h2, h3, h4⟩
    by_cases hj : j = k
    ·subst hj
     exact .inl (by rw [if_pos h4]; simp [h1])
    ·exact .inr ⟨j, h1, by omega, by omega, h4⟩
theorem mem_ids (s : Nat) (i : Int) : i ∈ ids s ↔ has s i = true := by
 unfold ids has isId
 rw [mem_idsFrom]
 constructor
 ·rintro ⟨j, rfl, h1, h2, h3⟩
  simp [h3]
  omega
 ·intro h
  simp at h
  exact ⟨i.toNat, by omega, by omega, by omega, h.2⟩
theorem all_bit (j : Nat) : ALL.testBit j = (decide (1 ≤ j) && decide (j ≤ 24)) := by
 have h := Nat.testBit_two_pow_sub_succ (n := 25) (x := 1) (by decide) j
 rw [show (2 : Nat) ^ 25 - (1 + 1) = ALL by decide] at h
 rw [h]
 cases j with
 | zero => rfl
 | succ j =>
   have e : (1 : Nat).testBit (j + 1) = false := by rw [Nat.testBit_succ]; exact Nat.zero_testBit j
   rw [e]
   simp
   omega
theorem not_bit (t j : Nat) (ht : t < 4294967296) : (4294967295 - t).testBit j = (decide (j < 32) && !t.testBit j) := by
 have h := Nat.testBit_two_pow_sub_succ (n := 32) (x := t) (by omega) j
 rw [show (2 : Nat) ^ 32 - (t + 1) = 4294967295 - t by omega] at h
 exact h
theorem zero_bits {x : Nat} : x = 0 ↔ ∀ j, x.testBit j = false := ⟨fun h j => by rw [h]; exact Nat.zero_testBit j, fun h => Nat.eq_of_testBit_eq (fun j => by rw [h j, Nat.zero_testBit])⟩
theorem high_bit {s : Nat} (hs : s < 4294967296) (j : Nat) (hj : 32 ≤ j) : s.testBit j = false := Nat.testBit_lt_two_pow (Nat.lt_of_lt_of_le hs (by have := Nat.pow_le_pow_right (n := 2) (by decide) hj; simpa using this))
/-- with an id, without it -/
def withF (s : Nat) (i : Int) : Nat := if isId i = true then s ||| 2 ^ i.toNat else s
def isF (s : Nat) : Bool := decide (s &&& (4294967295 - ALL) = 0)
theorem pow_lt {i : Int} (h : isId i = true) : 2 ^ i.toNat < 4294967296 := by
 unfold isId at h
 simp at h
 have := Nat.pow_lt_pow_right (a := 2) (by decide) (show i.toNat < 32 by omega)
 simpa using this
theorem with_bit (s : Nat) (i : Int) (j : Nat) : (withF s i).testBit j = (s.testBit j || (isId i && decide (i = (j : Int)))) := by
 unfold withF
 by_cases h : isId i = true
 ·rw [if_pos h, h, Nat.testBit_or, Nat.testBit_two_pow]
  unfold isId at h
  simp at h
  congr 1
  rw [Bool.true_and]
  congr 1
  exact propext ⟨fun hh => by omega, fun hh => by omega⟩
 ·rw [if_neg h]
  have : isId i = false := by simpa using h
  rw [this]
  simp
theorem with_lt {s : Nat} (hs : s < 4294967296) (i : Int) : withF s i < 4294967296 := by
 unfold withF
 split
 ·exact Nat.or_lt_two_pow (n := 32) hs (pow_lt ‹_›)
 ·exact hs
theorem is_iff {s : Nat} (hs : s < 4294967296) : isF s = true ↔ ∀ j, s.testBit j = true → 1 ≤ j ∧ j ≤ 24 := by
 unfold isF
 rw [decide_eq_true_iff, zero_bits]
 constructor
 ·intro h j hj
  have h2 := h j
  rw [Nat.testBit_and, hj, not_bit _ _ (by decide), all_bit] at h2
  by_cases h32 : j < 32
  ·simp [h32] at h2
   exact h2
  ·rw [high_bit hs j (by omega)] at hj
   cases hj
 ·intro h j
  rw [Nat.testBit_and, not_bit _ _ (by decide), all_bit]
  cases hj : s.testBit j
  ·rfl
  ·have := h j hj
   simp [this]
end Sg
open Sg
theorem isId_c (i : Int) : Still 114 #[.int .i64 i] (.bool (Sg.isId i)) := fun w => by
 unfold Sg.isId
 by_cases h1 : 1 ≤ i
 ·by_cases h2 : i ≤ 24
  ·rw [decide_eq_true h1, decide_eq_true h2]
   go_enter Tryz.func114, Tryz.ntmps114
   go_wp2_with fail
   go_ret
   exact ⟨rfl, rfl⟩
  ·rw [decide_eq_true h1, decide_eq_false h2]
   go_enter Tryz.func114, Tryz.ntmps114
   go_wp2_with fail
   go_ret
   exact ⟨rfl, rfl⟩
 ·rw [decide_eq_false h1]
  go_enter Tryz.func114, Tryz.ntmps114
  go_wp2_with fail
  go_ret
  exact ⟨rfl, rfl⟩
theorem two_pow_int (k : Nat) (h : k ≤ 24) : ((2 : Int) ^ k % 4294967296) = ((2 ^ k : Nat) : Int) := by
 have := Nat.pow_lt_pow_right (a := 2) (by decide) (show k < 32 by omega)
 rw [show (2 : Int) ^ k = ((2 ^ k : Nat) : Int) by simp]
 generalize 2 ^ k = p at *
 omega
theorem shr_int (s k : Nat) : ((s : Int) / 2 ^ k) = ((s / 2 ^ k : Nat) : Int) := by simp
theorem has_c (s : Nat) (hs : s < 4294967296) (i : Int) : Still 88 #[.int .u32 (s : Int), .int .i64 i] (.bool (has s i)) := fun w => by
 have ci := isId_c i
 unfold has
 cases hi : isId i with
 | false =>
   rw [hi] at ci
   replace ci := Hd ci
   clear hi
   go_enter Tryz.func88, Tryz.ntmps88
   go_wp2_with fail
   refine (ci.out.on _).mono ?_
   rintro e w1 ⟨rfl, rfl⟩
   go_wp2_with fail
   go_ret
   exact ⟨rfl, rfl⟩
 | true =>
   rw [hi] at ci
   obtain ⟨k, rfl⟩ : ∃ k : Nat, i = k := ⟨i.toNat, by unfold isId at hi; simp at hi; omega⟩
   have hk : k ≤ 24 := by unfold isId at hi; simp at hi; omega
   replace ci := Hd ci
   clear hi
   have e1 : IntKind.u64.wrap (k : Int) = (k : Int) := IntWalk.u64_in _ (by omega)
   have e2 : bits .and .u32 ((s : Int) / 2 ^ k) 1 = (s : Int) / 2 ^ k % 2 := by
    rw [shr_int]
    have h := u32_and_nat (s / 2 ^ k) 1 (Nat.lt_of_le_of_lt (Nat.div_le_self ..) hs) (by decide)
    rw [Nat.and_one_is_mod] at h
    generalize s / 2 ^ k = q at *
    exact h.trans (by omega)
   have e3 : ((s : Int) / 2 ^ k % 2 == 1) = s.testBit k := by
    rw [shr_int, Nat.testBit_eq_decide_div_mod_eq, Bool.eq_iff_iff, beq_iff_eq, decide_eq_true_iff]
    generalize s / 2 ^ k = q
    omega
   go_enter Tryz.func88, Tryz.ntmps88
   go_wp2_with fail
   refine (ci.out.on _).mono ?_
   rintro e w1 ⟨rfl, rfl⟩
   go_wp2_with fail
   go_ret
   refine ⟨?_, rfl⟩
   rw [Bool.true_and, Int.toNat_natCast, ← e3]
   rfl
theorem with_c (s : Nat) (hs : s < 4294967296) (i : Int) : Still 115 #[.int .u32 (s : Int), .int .i64 i] (.int .u32 (withF s i : Nat)) := fun w => by
 have ci := isId_c i
 unfold withF
 cases hi : isId i with
 | false =>
   rw [hi] at ci
   replace ci := Hd ci
   clear hi
   rw [if_neg (by decide)]
   go_enter Tryz.func115, Tryz.ntmps115
   go_wp2_with fail
   refine (ci.out.on _).mono ?_
   rintro e w1 ⟨rfl, rfl⟩
   go_wp2_with fail
   go_ret
   exact ⟨rfl, rfl⟩
 | true =>
   rw [hi] at ci
   have hp := pow_lt hi
   obtain ⟨k, rfl⟩ : ∃ k : Nat, i = k := ⟨i.toNat, by unfold isId at hi; simp at hi; omega⟩
   have hk : k ≤ 24 := by unfold isId at hi; simp at hi; omega
   rw [if_pos rfl, Int.toNat_natCast]
   rw [Int.toNat_natCast] at hp
   replace ci := Hd ci
   clear hi
   have e1 : IntKind.u64.wrap (k : Int) = (k : Int) := IntWalk.u64_in _ (by omega)
   have e2 : bits .or .u32 (s : Int) (2 ^ k % 4294967296) = ((s ||| 2 ^ k : Nat) : Int) := by
    rw [two_pow_int k hk]
    exact u32_or_nat s (2 ^ k) hs hp
   generalize s ||| 2 ^ k = r at *
   clear hp
   go_enter Tryz.func115, Tryz.ntmps115
   go_wp2_with fail
   refine (ci.out.on _).mono ?_
   rintro e w1 ⟨rfl, rfl⟩
   go_wp2_with fail
   go_ret
   refine ⟨?_, rfl⟩
   first | rfl | rw [e2]
theorem is_c (s : Nat) (hs : s < 4294967296) : Still 26 #[.int .u32 (s : Int)] (.bool (isF s)) := fun w => by
 have e1 : bits .andNot .u32 (s : Int) 33554430 = ((s &&& (4294967295 - ALL) : Nat) : Int) := u32_andNot_nat s ALL hs (by decide)
 have e9 : ((((s &&& (4294967295 - ALL) : Nat)) : Int) == 0) = isF s := by
  unfold isF
  rw [Bool.eq_iff_iff, beq_iff_eq, decide_eq_true_iff]
  omega
 generalize s &&& (4294967295 - ALL) = r at *
 generalize isF s = q at *
 go_enter Tryz.func26, Tryz.ntmps26
 go_wp2_with fail
 go_ret
 refine ⟨?_, rfl⟩
 first | rfl | rw [e9] | simp [e1, e9]
/-- how many bits of a byte are set -/
def pc (n : Nat) : Nat := n % 2 + n / 2 % 2 + n / 4 % 2 + n / 8 % 2 + n / 16 % 2 + n / 32 % 2 + n / 64 % 2 + n / 128 % 2
theorem pc_le (n : Nat) : pc n ≤ 8 := by unfold pc; omega
def popT : ByteArray := ⟨((List.range 256).map fun n => UInt8.ofNat (pc n)).toArray⟩
theorem popT_size : popT.size = 256 := by decide +kernel
theorem popT_get : ∀ i : Nat, i < 256 → popT.data.toList[i]? = some (UInt8.ofNat (pc i)) := fun i hi => by
 unfold popT
 simp [hi]
theorem exec_index {ev : Operand → Value} {o : Oper} {x : Operand} {T : ByteArray} {z : Int} {i p : Nat} (ho : o.op = .index 9 (.const (.string T)) x) (hev : ev (.const (.string T)) = .string T) (hx : ev x = .int .u32 z) (hz : z = (i : Int)) (hT : T = popT) (hi : i < 256) (hp : pc i = p) (w : World) :
 Sem.run Tryz.prog (execOp ev o) w = .ok (.value (.int .u8 (p : Int))) w := by
 subst hT hz hp
 have h := run_index_string (P := Tryz.prog) (w := w) 9 popT .u32 (i : Int) Tryz.underlying9
 rw [dif_pos ⟨by omega, by rw [popT_size]; omega⟩] at h
 have hg : (popT[(i : Int).toNat]'(by rw [popT_size]; omega)) = UInt8.ofNat (pc i) := by
  have h1 := popT_get i hi
  have h2 : popT.data.toList[i]? = some (popT[i]'(by rw [popT_size]; exact hi)) := by
   have hl : i < popT.data.toList.length := by
    have : popT.data.toList.length = popT.size := byts_length popT
    rw [this, popT_size]; exact hi
   rw [List.getElem?_eq_getElem hl]
   rfl
  rw [h2] at h1
  exact Option.some.inj h1
 rw [hg] at h
 have hpc := pc_le i
 have hn : (UInt8.ofNat (pc i)).toNat = pc i := by rw [UInt8.toNat_ofNat']; omega
 rw [hn] at h
 unfold execOp
 simp only [ho, hev, hx, Sem.run_bind, h, Result.andThen, Sem.run_pure]
theorem ones_c (s : Nat) (hs : s < 4294967296) : Ret 116 #[.int .u32 (s : Int)] (.int .i64 ((pc (s / 16777216) + pc (s / 65536 % 256) + pc (s / 256 % 256) + pc (s % 256) : Nat) : Int)) := fun w => by
 obtain ⟨P3, hP3⟩ : ∃ p, pc (s / 16777216) = p := ⟨_, rfl⟩
 obtain ⟨P2, hP2⟩ : ∃ p, pc (s / 65536 % 256) = p := ⟨_, rfl⟩
 obtain ⟨P1, hP1⟩ : ∃ p, pc (s / 256 % 256) = p := ⟨_, rfl⟩
 obtain ⟨P0, hP0⟩ : ∃ p, pc (s % 256) = p := ⟨_, rfl⟩
 have b3 : P3 ≤ 8 := hP3 ▸ pc_le _
 have b2 : P2 ≤ 8 := hP2 ▸ pc_le _
 have b1 : P1 ≤ 8 := hP1 ▸ pc_le _
 have b0 : P0 ≤ 8 := hP0 ▸ pc_le _
 rw [hP3, hP2, hP1, hP0]
 have a1 : bits .and .u32 ((s : Int) / 65536) 255 = (s : Int) / 65536 % 256 := by
  rw [show ((s : Int) / 65536) = ((s / 65536 : Nat) : Int) by omega]
  have h := u32_and_nat (s / 65536) 255 (by omega) (by decide)
  rw [show s / 65536 &&& 255 = s / 65536 % 2 ^ 8 from Nat.and_two_pow_sub_one_eq_mod (s / 65536) 8] at h
  exact h.trans (by omega)
 have a2 : bits .and .u32 ((s : Int) / 256) 255 = (s : Int) / 256 % 256 := by
  rw [show ((s : Int) / 256) = ((s / 256 : Nat) : Int) by omega]
  have h := u32_and_nat (s / 256) 255 (by omega) (by decide)
  rw [show s / 256 &&& 255 = s / 256 % 2 ^ 8 from Nat.and_two_pow_sub_one_eq_mod (s / 256) 8] at h
  exact h.trans (by omega)
 have a3 : bits .and .u32 (s : Int) 255 = (s : Int) % 256 := by
  have h := u32_and_nat s 255 hs (by decide)
  rw [show s &&& 255 = s % 2 ^ 8 from Nat.and_two_pow_sub_one_eq_mod s 8] at h
  exact h.trans (by omega)
 have w1 : IntKind.u8.wrap ((P3 : Int) + (P2 : Int)) = (P3 : Int) + (P2 : Int) := IntWalk.u8_in _ (by omega)
 have w2 : IntKind.u8.wrap ((P3 : Int) + (P2 : Int) + (P1 : Int)) = (P3 : Int) + (P2 : Int) + (P1 : Int) := IntWalk.u8_in _ (by omega)
 have w3 : IntKind.u8.wrap ((P3 : Int) + (P2 : Int) + (P1 : Int) + (P0 : Int)) = (P3 : Int) + (P2 : Int) + (P1 : Int) + (P0 : Int) := IntWalk.u8_in _ (by omega)
 have w4 : IntKind.i64.wrap ((P3 : Int) + (P2 : Int) + (P1 : Int) + (P0 : Int)) = (P3 : Int) + (P2 : Int) + (P1 : Int) + (P0 : Int) := IntWalk.i64_in _ (by omega)
 go_enter Tryz.func116, Tryz.ntmps116
 go_wp2_with fail
 refine wp_region_held_at (S := fun _ => True) 19 rfl (by kernel_rfl) trivial (fun _ => ?_)
 refine wpU 0 ?_ rfl ?_ ?_
 rotate_left
 ·intro w1 _; (try simp only [ls3]); go_simp; try with_reducible rfl
 try simp only [ls7, Act.put]
 refine wpU 1 ?_ rfl ?_ ?_
 rotate_left
 ·intro w1 _; (try simp only [ls3]); go_simp; try with_reducible rfl
 try simp only [ls7, Act.put]
 refine wpAnyH_take (i := 2) (v := .int .u8 (P3 : Int)) rfl (by decide +kernel) (by decide +kernel) (by decide +kernel) (fun _ _ _ h => h) (Or.inl ⟨by rfl, ?_⟩) (by assumption) ?_
 ·intro w1 _
  exact exec_index (i := s / 16777216) rfl rfl rfl (by first | rfl | simp | omega) (by kernel_rfl) (by omega) hP3 w1
 try simp only [ls7, Act.put]
 refine wpU 3 ?_ rfl ?_ ?_
 rotate_left
 ·intro w1 _; (try simp only [ls3]); go_simp; try with_reducible rfl
 try simp only [ls7, Act.put]
 refine wpU 4 ?_ rfl ?_ ?_
 rotate_left
 ·intro w1 _; (try simp only [ls3]); go_simp; try with_reducible rfl
 try simp only [ls7, Act.put]
 refine wpU 5 ?_ rfl ?_ ?_
 rotate_left
 ·intro w1 _; (try simp only [ls3]); go_simp; try with_reducible rfl
 try simp only [ls7, Act.put]
 refine wpAnyH_take (i := 6) (v := .int .u8 (P2 : Int)) rfl (by decide +kernel) (by decide +kernel) (by decide +kernel) (fun _ _ _ h => h) (Or.inl ⟨by rfl, ?_⟩) (by assumption) ?_
 ·intro w1 _
  exact exec_index (i := s / 65536 % 256) rfl rfl rfl (by first | rfl | simp | omega) (by kernel_rfl) (by omega) hP2 w1
 try simp only [ls7, Act.put]
 refine wpU 7 ?_ rfl ?_ ?_
 rotate_left
 ·intro w1 _; (try simp only [ls3]); go_simp; try with_reducible rfl
 try simp only [ls7, Act.put]
 refine wpU 8 ?_ rfl ?_ ?_
 rotate_left
 ·intro w1 _; (try simp only [ls3]); go_simp; try with_reducible rfl
 try simp only [ls7, Act.put]
 refine wpU 9 ?_ rfl ?_ ?_
 rotate_left
 ·intro w1 _; (try simp only [ls3]); go_simp; try with_reducible rfl
 try simp only [ls7, Act.put]
 refine wpU 10 ?_ rfl ?_ ?_
 rotate_left
 ·intro w1 _; (try simp only [ls3]); go_simp; try with_reducible rfl
 try simp only [ls7, Act.put]
 refine wpAnyH_take (i := 11) (v := .int .u8 (P1 : Int)) rfl (by decide +kernel) (by decide +kernel) (by decide +kernel) (fun _ _ _ h => h) (Or.inl ⟨by rfl, ?_⟩) (by assumption) ?_
 ·intro w1 _
  exact exec_index (i := s / 256 % 256) rfl rfl rfl (by first | rfl | simp | omega) (by kernel_rfl) (by omega) hP1 w1
 try simp only [ls7, Act.put]
 refine wpU 12 ?_ rfl ?_ ?_
 rotate_left
 ·intro w1 _; (try simp only [ls3]); go_simp; try with_reducible rfl
 try simp only [ls7, Act.put]
 refine wpU 13 ?_ rfl ?_ ?_
 rotate_left
 ·intro w1 _; (try simp only [ls3]); go_simp; try with_reducible rfl
 try simp only [ls7, Act.put]
 refine wpU 14 ?_ rfl ?_ ?_
 rotate_left
 ·intro w1 _; (try simp only [ls3]); go_simp; try with_reducible rfl
 try simp only [ls7, Act.put]
 refine wpAnyH_take (i := 15) (v := .int .u8 (P0 : Int)) rfl (by decide +kernel) (by decide +kernel) (by decide +kernel) (fun _ _ _ h => h) (Or.inl ⟨by rfl, ?_⟩) (by assumption) ?_
 ·intro w1 _
  exact exec_index (i := s % 256) rfl rfl rfl (by first | rfl | simp | omega) (by kernel_rfl) (by omega) hP0 w1
 try simp only [ls7, Act.put]
 refine wpU 16 ?_ rfl ?_ ?_
 rotate_left
 ·intro w1 _; (try simp only [ls3]); go_simp; try with_reducible rfl
 try simp only [ls7, Act.put]
 refine wpU 17 ?_ rfl ?_ ?_
 rotate_left
 ·intro w1 _; (try simp only [ls3]); go_simp; try with_reducible rfl
 try simp only [ls7, Act.put]
 refine wpU 18 ?_ rfl ?_ ?_
 rotate_left
 ·intro w1 _; (try simp only [ls3]); go_simp; try with_reducible rfl
 try simp only [ls7, Act.put]
 refine wpAnyH_done (by decide +kernel) ?_ _
 go_wp2_with fail
 go_ret
 exact ⟨by first | rfl | simp, by first | exact below_drewed (Below.refl _ _) | exact below_drewN (Below.refl _ _) | exact Below.refl _ _⟩
end Go.Proofs.YtjjgbillihedgaaGreatDoor
namespace Go.Proofs.YtjjgbillihedgaaGreatDoor
open Go.RowKit
open Rf
namespace Sg
/-- a bit as a number -/
def bt (s k : Nat) : Nat := s / 2 ^ k % 2
theorem bt_eq (s k : Nat) : bt s k = if s.testBit k = true then 1 else 0 := by
 unfold bt
 rw [Nat.testBit_eq_decide_div_mod_eq]
 have := Nat.mod_two_eq_zero_or_one (s / 2 ^ k)
 generalize s / 2 ^ k % 2 = m at *
 rcases this with rfl | rfl <;> rfl
theorem pc_byte (y : Nat) : pc (y % 256) = y % 2 + y / 2 % 2 + y / 4 % 2 + y / 8 % 2 + y / 16 % 2 + y / 32 % 2 + y / 64 % 2 + y / 128 % 2 := by unfold pc; omega
theorem bt_div (x k j : Nat) : x / 2 ^ k / 2 ^ j % 2 = bt x (k + j) := by
 unfold bt
 rw [Nat.div_div_eq_div_mul, Nat.pow_add]
theorem pc_at (x k : Nat) : pc (x / 2 ^ k % 256) = bt x k + bt x (k + 1) + bt x (k + 2) + bt x (k + 3) + bt x (k + 4) + bt x (k + 5) + bt x (k + 6) + bt x (k + 7) := by
 rw [pc_byte, ← bt_div x k 1, ← bt_div x k 2, ← bt_div x k 3, ← bt_div x k 4, ← bt_div x k 5, ← bt_div x k 6, ← bt_div x k 7]
 rfl
theorem len_step (s k n : Nat) : (idsFrom s k (n + 1)).length = bt s k + (idsFrom s (k + 1) n).length := by
 rw [idsFrom, List.length_append, bt_eq]
 split <;> rfl
theorem ids_len (s : Nat) : (ids s).length = bt s 1 + bt s 2 + bt s 3 + bt s 4 + bt s 5 + bt s 6 + bt s 7 + bt s 8 + bt s 9 + bt s 10 + bt s 11 + bt s 12 + bt s 13 + bt s 14 + bt s 15 + bt s 16 + bt s 17 + bt s 18 + bt s 19 + bt s 20 + bt s 21 + bt s 22 + bt s 23 + bt s 24 := by
 unfold ids
 rw [len_step, len_step, len_step, len_step, len_step, len_step, len_step, len_step, len_step, len_step, len_step, len_step, len_step, len_step, len_step, len_step, len_step, len_step, len_step, len_step, len_step, len_step, len_step, len_step]
 simp only [Nat.reduceAdd, idsFrom, List.length_nil]
 omega
theorem bt_all (s k : Nat) : bt (s &&& ALL) k = if 1 ≤ k ∧ k ≤ 24 then bt s k else 0 := by
 rw [bt_eq, bt_eq, Nat.testBit_and, all_bit]
 by_cases h : 1 ≤ k ∧ k ≤ 24
 ·rw [if_pos h, decide_eq_true h.1, decide_eq_true h.2]
  simp
 ·rw [if_neg h]
  have : (decide (1 ≤ k) && decide (k ≤ 24)) = false := by
   rw [Bool.and_eq_false_iff, decide_eq_false_iff_not, decide_eq_false_iff_not]
   omega
  rw [this]
  simp
theorem sum_len (s : Nat) (hs : s < 4294967296) :
 pc ((s &&& ALL) / 16777216) + pc ((s &&& ALL) / 65536 % 256) + pc ((s &&& ALL) / 256 % 256) + pc ((s &&& ALL) % 256) = (ids s).length := by
 have hx : (s &&& ALL) < 4294967296 := Nat.lt_of_le_of_lt Nat.and_le_left hs
 have e3 := pc_at (s &&& ALL) 24
 have e2 := pc_at (s &&& ALL) 16
 have e1 := pc_at (s &&& ALL) 8
 have e0 := pc_at (s &&& ALL) 0
 rw [show (2 : Nat) ^ 24 = 16777216 by decide, Nat.mod_eq_of_lt (show (s &&& ALL) / 16777216 < 256 by omega)] at e3
 rw [show (2 : Nat) ^ 16 = 65536 by decide] at e2
 rw [show (2 : Nat) ^ 8 = 256 by decide] at e1
 rw [show (2 : Nat) ^ 0 = 1 by decide, Nat.div_one] at e0
 rw [e3, e2, e1, e0, ids_len]
 simp only [bt_all, Nat.reduceAdd]
 simp
 omega
end Sg
open Sg
theorem len_c (s : Nat) (hs : s < 4294967296) : Ret 87 #[.int .u32 (s : Int)] (.int .i64 ((ids s).length : Int)) := fun w => by
 have co := ones_c (s &&& ALL) (Nat.lt_of_le_of_lt Nat.and_le_left hs)
 rw [sum_len s hs] at co
 have e1 : bits .and .u32 (s : Int) 33554430 = ((s &&& ALL : Nat) : Int) := u32_and_nat s ALL hs (by decide)
 generalize s &&& ALL = x at *
 generalize (ids s).length = l at *
 replace co := Hd co
 go_enter Tryz.func87, Tryz.ntmps87
 go_wp2_with fail
 refine (co.out.on _).mono ?_
 rintro e w1 ⟨rfl, hb⟩
 go_wp2_with fail
 go_ret
 exact ⟨rfl, hb⟩
open Sg
/-- ints as values -/
def iv (l : List Int) : List Value := l.map (.int .i64)
theorem iv_append (l m : List Int) : iv (l ++ m) = iv l ++ iv m := List.map_append
theorem infoInt : (Tryz.prog.info? 3).map (fun i => (i.zero, i.size, i.bytes)) = some (some (.int .i64 0), 1, 8) := by kernel_rfl
/-- a slice of ints of the call's own -/
def OwnI (w : World) (B : Nat) (a : Option Addr) (c : Nat) (l : List Int) : Prop := w.ownsRow B 3 1 (.slice a l.length c) l.length (iv l)
theorem OwnI.below {w w' : World} {B : Nat} {a : Option Addr} {c : Nat} {l : List Int} (h : OwnI w B a c l) (hb : Below w.heap.size w w') : OwnI w' B a c l :=
 World.ownsRow.kept (row := none) h ⟨hb.os, hb.tape, hb.output, hb.size, fun k hk _ => hb.block k hk⟩ (by cases (Value.slice a l.length c).ownBlock <;> simp)
theorem OwnI.alloc {w : World} {B : Nat} {a : Option Addr} {c : Nat} {l : List Int} (h : OwnI w B a c l) (o : Obj) : OwnI (w.alloc o) B a c l := World.ownsRow.alloc h o
theorem OwnI.nil (w : World) (B : Nat) : OwnI w B none 0 [] := World.ownsRow_nil w B 3 1
/-- a contract: ints are returned in a row of the call's own -/
def RetInts (f : FuncId) (args : Array Value) (l : List Int) : Prop := ∀ w : World, Calls Tryz.prog f args w fun e w' => ∃ a c, e = .returned (.slice a l.length c) ∧ OwnI w' w.heap.size a c l ∧ Below w.heap.size w w'
theorem RetInts.on {f : FuncId} {args : Array Value} {l : List Int} (h : RetInts f args l) (w : World) : Calls Tryz.prog f args w fun e w' => ∃ a c, e = .returned (.slice a l.length c) ∧ OwnI w' w.heap.size a c l ∧ Below w.heap.size w w' := h w
/-- an element is there -/
theorem OwnI.cell {w : World} {B : Nat} {a : Option Addr} {c : Nat} {l : List Int} (h : OwnI w B a c l) (j : Nat) (hj : j < l.length) :
 ∃ g, a = some ⟨g, 0, none⟩ ∧ B ≤ g ∧ g < w.heap.size ∧ w.cell? ⟨g, j, none⟩ = some (.int .i64 l[j]) := by
 rcases h.2 with ⟨hv, hn⟩ | ⟨g, cap, cur, hv, hb, hg, hc⟩
 ·omega
 ·obtain ⟨rfl, rfl⟩ : a = some ⟨g, 0, none⟩ ∧ c = cap := by cases hv; exact ⟨rfl, rfl⟩
  refine ⟨g, rfl, hb, lt_of_block hg, ?_⟩
  have := World.ownsRow.cells h (g := g) rfl j (.int .i64 l[j]) (by simp [iv, hj])
  rw [show (⟨g, 0, none⟩ : Addr).add j = ⟨g, j, none⟩ by unfold Addr.add; split <;> simp_all] at this
  exact this
theorem src_one (w : World) (x : Int) : Src Tryz.prog 1 105 (.slice (some ⟨w.heap.size, 0, none⟩) 1 1) 1 [.int .i64 x] (w.alloc (.cells #[.int .i64 x] 3)) :=
 Src.ofSlice _ Tryz.underlying105 ⟨w.heap.size, 0, none⟩ 1 1 _ rfl (cell_one_new _ _ _) (by intro u hu; simp at hu; subst hu; rfl)
theorem idsFrom_len (s k n : Nat) : (idsFrom s k n).length ≤ n := by
 induction n generalizing k with
 | zero => exact Nat.le_refl 0
 | succ n ih =>
   have := ih (k + 1)
   rw [idsFrom, List.length_append]
   split <;> simp <;> omega
theorem ids_c (s : Nat) (hs : s < 4294967296) : RetInts 54 #[.int .u32 (s : Int)] (ids s) := fun w => by
 obtain ⟨i0, hi, hz0, hz1, hz2⟩ := info_parts infoInt
 go_enter Tryz.func54, Tryz.ntmps54
 go_wp2_with fail
 go_loopw [3, 4] (fun b i wr => ∃ k : Nat, k ≤ 24 ∧ i = .int .i64 ((k : Int) + 1) ∧ (∃ a c, b = .slice a (idsFrom s 1 k).length c ∧ OwnI wr w.heap.size a c (idsFrom s 1 k)) ∧ Below w.heap.size w wr) (fun _ i _ => 25 - (intOf i).toNat)
 case atStart => exact ⟨0, Nat.zero_le _, rfl, ⟨none, 0, rfl, OwnI.nil w _⟩, Below.refl _ _⟩
 case round =>
  obtain ⟨k, hk, rfl, ⟨a, c, rfl, hown⟩, hb⟩ := hrel
  replace hown := Hd hown
  replace hb := Hd hb
  have hsz := hb.out.size
  by_cases hlt : k < 24
  ·have ch := has_c s hs ((k : Int) + 1)
   have hhas : has s ((k : Int) + 1) = s.testBit (1 + k) := by
    unfold has isId
    rw [show ((k : Int) + 1).toNat = 1 + k by omega, decide_eq_true (by omega), decide_eq_true (by omega)]
    rfl
   rw [hhas] at ch
   have hsn := idsFrom_snoc s 1 k
   have hln := idsFrom_len s 1 k
   have hI1 : (k : Int) + 1 ≤ 24 := by omega
   generalize hL : idsFrom s 1 k = L at *
   replace hL := Hd hL
   generalize hL' : idsFrom s 1 (k + 1) = L' at *
   replace hL' := Hd hL'
   generalize s.testBit (1 + k) = b at *
   replace hsn := Hd hsn
   replace ch := Hd ch
   cases b with
   | false =>
     go_wp2_with fail
     refine (ch.out.on _).mono ?_
     rintro e w1 ⟨rfl, rfl⟩
     have hsn' := hsn.out
     rw [if_neg (by decide), List.append_nil] at hsn'
     subst hsn'
     clear hsn
     go_wp2_with fail
     go_roundw
     case rel => exact ⟨k + 1, by omega, by go_num, ⟨a, c, by rw [hL'.out], by rw [hL'.out]; exact hown.out⟩, hb.out⟩
     case measure => simp [intOf]; omega
   | true =>
     go_wp2_with fail
     refine (ch.out.on _).mono ?_
     rintro e w1 ⟨rfl, rfl⟩
     have hsrc := src_one wr ((k : Int) + 1)
     go_wp2_with (at_builtin; refine wpList_append_own_src _ rfl (.tmp 12) (.tmp 14) 105 105 rfl w.heap.size 3 i0 (.int .i64 0) 1 8 Tryz.underlying105 hi hz0 hz1 hz2 rfl rfl (hown.out.alloc _) rfl hsrc ?_ ?_ ?_ ?_)
     ·unfold maxLen; omega
     ·omega
     ·rw [size_alloc]; omega
     intro b' c' w2 hown2 hg1
     have hfin := Hd (Below.grown (hb.out.alloc hsz (.cells #[.int .i64 ((k : Int) + 1)] 3)) hg1 (by rw [size_alloc]; omega) (fun q hq => by have := World.ownsRow.lt hown.out q hq; omega))
     rw [show ([.int .i64 ((k : Int) + 1)] : List Value) = iv [(k : Int) + 1] from rfl, ← iv_append] at hown2
     have hsn' := hsn.out
     rw [if_pos trivial, show ((1 + k : Nat) : Int) = (k : Int) + 1 by omega] at hsn'
     replace hsn' := Hd hsn'
     have hown3 : OwnI w2 w.heap.size b' c' (L ++ [(k : Int) + 1]) := by
      unfold OwnI
      rw [List.length_append]
      exact hown2
     replace hown3 := Hd hown3
     clear hown2 hg1 hsrc hown hb hsn
     go_wp2_with fail
     go_roundw
     case rel => exact ⟨k + 1, by omega, by go_num, ⟨b', c', by rw [hL'.out, hsn'.out, List.length_append]; rfl, by rw [hL'.out, hsn'.out]; exact hown3.out⟩, hfin.out⟩
     case measure => simp [intOf]; omega
  ·obtain rfl : k = 24 := by omega
   go_wp2_with fail
   go_ret
   exact ⟨a, c, rfl, hown.out, hb.out⟩
/-- 32 bools: cells, value, a block that is one -/
def bc (l : List Bool) : List Value := l.map .bool
def oB (l : List Bool) : Obj := .cells (bc l).toArray 112
def IsB (w : World) (b : Nat) (l : List Bool) : Prop := w.heap[b]? = some (.cells (bc l).toArray 112 (0, 0))
section
variable {w w' : World} {b : Nat} {l : List Bool}
theorem IsB.lt (h : IsB w b l) : b < w.heap.size := lt_of_block h
theorem IsB.cell (h : IsB w b l) (i : Nat) (hi : i < l.length) : w.cell? ⟨b, i, none⟩ = some (.bool l[i]) := by
 rw [cell_of_row w b i _ _ _ h]; simp [bc, hi]
theorem IsB.has (h : IsB w b l) (i : Nat) (hi : i < l.length) : ∃ v, w.cell? ⟨b, i, none⟩ = some v := ⟨_, h.cell i hi⟩
theorem IsB.f (h : IsB w b l) (i : Nat) : w.frozen? ⟨b, i, none⟩ = false := by unfold IsB at h; simp [World.frozen?, h]
theorem IsB.below (h : IsB w b l) (hb : Below w.heap.size w w') : IsB w' b l := (hb.block b h.lt).trans h
theorem IsB.new (w : World) (l : List Bool) : IsB (w.alloc (oB l)) w.heap.size l := heap_alloc_new w _
theorem IsB.alloc (h : IsB w b l) (o : Obj) : IsB (w.alloc o) b l := h.below ((Below.refl _ _).alloc (Nat.le_refl _) o)
theorem IsB.set (h : IsB w b l) (i : Nat) (v : Bool) : IsB (w.setCell ⟨b, i, none⟩ (.bool v)) b (l.set i v) := by
 unfold IsB at *
 show (w.heap.modify b _)[b]? = _
 rw [Array.getElem?_modify, if_pos rfl, h]
 simp [bc, List.map_set]
theorem IsB.set_other {c i : Nat} {v : Value} (h : IsB w b l) (hne : b ≠ c) : IsB (w.setCell ⟨c, i, none⟩ v) b l := by
 unfold IsB at *
 show (w.heap.modify c _)[b]? = _
 rw [Array.getElem?_modify, if_neg (fun hh => hne hh.symm)]
 exact h
end
theorem IsB.row {w : World} {b : Nat} {l : List Bool} (h : IsB w b l) (m : List Bool) : IsB (w.setRow b (bc m).toArray) b m := setRow_heap w b _ _ _ (0, 0) h
section
variable {ops : Array Oper} {rest : List Oper} {o : Oper} {a : Act} {w : World} {Q : Exit → Act → World → Prop}
end
end Go.Proofs.YtjjgbillihedgaaGreatDoor
namespace Go.Proofs.YtjjgbillihedgaaGreatDoor
open Go.RowKit
open Rf
open Sg
theorem IsB.grown {w w' : World} {b : Nat} {l : List Bool} {row : Option Nat} (h : IsB w b l) (hg : w.grownBy w' row) (hne : row ≠ some b) : IsB w' b l := (hg.block b h.lt (fun e => hne e.symm)).trans h
theorem OwnI.mono {w : World} {B B' : Nat} {a : Option Addr} {c : Nat} {l : List Int} (h : OwnI w B a c l) (hB : B' ≤ B) : OwnI w B' a c l := by
 refine ⟨h.1, ?_⟩
 rcases h.2 with h2 | ⟨g, cap, cur, h3, h4, h5⟩
 ·exact .inl h2
 ·exact .inr ⟨g, cap, cur, h3, by omega, h5⟩
theorem OwnI.own {w : World} {B : Nat} {a : Option Addr} {c : Nat} {l : List Int} (h : OwnI w B a c l) (b : Nat) (hb : b < B) : (Value.slice a l.length c).ownBlock ≠ some b := fun e => by
 have := World.ownsRow.lt h b e
 omega
/-- ints that can be read at a slice -/
def InI (w : World) (a : Option Addr) (l : List Int) : Prop := l = [] ∨ ∃ g o, a = some ⟨g, o, none⟩ ∧ g < w.heap.size ∧ ∀ j (hj : j < l.length), w.cell? ⟨g, o + j, none⟩ = some (.int .i64 l[j])
theorem InI.below {w w' : World} {a : Option Addr} {l : List Int} (h : InI w a l) (hb : Below w.heap.size w w') : InI w' a l := by
 rcases h with rfl | ⟨g, o, rfl, hg, hc⟩
 ·exact .inl rfl
 ·exact .inr ⟨g, o, rfl, Nat.lt_of_lt_of_le hg hb.size, fun j hj => by rw [hb.cell (p := ⟨g, o + j, none⟩) hg]; exact hc j hj⟩
theorem OwnI.in {w : World} {B : Nat} {a : Option Addr} {c : Nat} {l : List Int} (h : OwnI w B a c l) : InI w a l := by
 rcases Nat.eq_zero_or_pos l.length with h0 | h0
 ·exact .inl (List.eq_nil_of_length_eq_zero h0)
 ·obtain ⟨g, hg, _, hlt, _⟩ := h.cell 0 h0
  refine .inr ⟨g, 0, hg, hlt, fun j hj => ?_⟩
  obtain ⟨g', hg', _, _, hc⟩ := h.cell j hj
  rw [hg] at hg'
  cases hg'
  rw [Nat.zero_add]
  exact hc
theorem InI.at {w : World} {a : Option Addr} {l : List Int} (h : InI w a l) (j : Nat) (hj : j < l.length) : ∃ g o, a = some ⟨g, o, none⟩ ∧ g < w.heap.size ∧ w.cell? ⟨g, o + j, none⟩ = some (.int .i64 l[j]) := by
 rcases h with rfl | ⟨g, o, h1, h2, h3⟩
 ·cases hj
 ·exact ⟨g, o, h1, h2, h3 j hj⟩
theorem InI.drew {w : World} {a : Option Addr} {l : List Int} (h : InI w a l) : InI w.drew a l := h
theorem InI.drewN {w : World} {k : Nat} {a : Option Addr} {l : List Int} (h : InI w a l) : InI (w.drewN k) a l := h
namespace Sg
/-- the set of ids; whether each can be -/
def setOf (l : List Int) : Nat := l.foldl withF 0
def okL (l : List Int) : Bool := l.all isId
theorem setOf_snoc (l : List Int) (x : Int) : setOf (l ++ [x]) = withF (setOf l) x := by simp [setOf]
theorem setOf_lt (l : List Int) : setOf l < 4294967296 := by
 suffices h : ∀ (l : List Int) (s : Nat), s < 4294967296 → l.foldl withF s < 4294967296 from h l 0 (by decide)
 intro l
 induction l with
 | nil => exact fun s hs => hs
 | cons x l ih => exact fun s hs => ih _ (with_lt hs x)
theorem set_bit (l : List Int) (j : Nat) : (setOf l).testBit j = decide (isId (j : Int) = true ∧ (j : Int) ∈ l) := by
 suffices h : ∀ (l : List Int) (s : Nat), (l.foldl withF s).testBit j = (s.testBit j || decide (isId (j : Int) = true ∧ (j : Int) ∈ l)) by
  have := h l 0
  rw [Nat.zero_testBit, Bool.false_or] at this
  exact this
 intro l
 induction l with
 | nil => intro s; simp
 | cons x l ih =>
   intro s
   rw [List.foldl_cons, ih, with_bit, Bool.or_assoc]
   congr 1
   rw [Bool.eq_iff_iff]
   simp only [Bool.or_eq_true, Bool.and_eq_true, decide_eq_true_iff, List.mem_cons]
   constructor
   ·rintro (⟨h1, rfl⟩ | ⟨h1, h2⟩)
    ·exact ⟨h1, .inl rfl⟩
    ·exact ⟨h1, .inr h2⟩
   ·rintro ⟨h1, rfl | h2⟩
    ·exact .inl ⟨h1, rfl⟩
    ·exact .inr ⟨h1, h2⟩
end Sg
/-- sig.Of -/
theorem of_c (l : List Int) (hL : l.length ≤ 140737488355328) (a : Option Addr) (c : Nat) (w : World) (hin : InI w a l) :
 Calls Tryz.prog 86 #[.slice a l.length c] w fun e w' => e = .returned (.tuple #[.int .u32 ((if okL l = true then setOf l else 0 : Nat) : Int), .int .i64 (if okL l = true then 0 else 1)]) ∧ Below w.heap.size w w' := by
 obtain ⟨rS, hrS⟩ : ∃ r, (if okL l = true then setOf l else 0) = r := ⟨_, rfl⟩
 obtain ⟨rE, hrE⟩ : ∃ r : Int, (if okL l = true then 0 else 1) = r := ⟨_, rfl⟩
 rw [hrS, hrE]
 replace hrS := Hd hrS
 replace hrE := Hd hrE
 replace hin := Hd hin
 go_enter Tryz.func86, Tryz.ntmps86
 go_wp2_with fail
 go_loopw [4, 9] (fun v i wr => ∃ j : Nat, j ≤ l.length ∧ i = .int .i64 j ∧ v = .int .u32 ((setOf (l.take j) : Nat) : Int) ∧ okL (l.take j) = true ∧ InI wr a l ∧ Below w.heap.size w wr) (fun _ i _ => l.length - (intOf i).toNat)
 case atStart => exact ⟨0, Nat.zero_le _, rfl, rfl, rfl, hin.out, Below.refl _ _⟩
 case round =>
  clear hin
  obtain ⟨j, hj, rfl, rfl, hok, hin, hb⟩ := hrel
  by_cases hlt : j < l.length
  ·obtain ⟨g, o, rfl, hg, hc⟩ := hin.at j hlt
   have hst : l.take (j + 1) = l.take j ++ [l[j]] := List.take_succ_eq_append_getElem hlt
   have hltI : (j : Int) < (l.length : Int) := by omega
   have hsl := setOf_lt (l.take j)
   have hmem : l[j] ∈ l := List.getElem_mem hlt
   generalize l[j] = x at *
   have ci := isId_c x
   cases hx : isId x with
   | false =>
     rw [hx] at ci
     have hno : okL l = false := by
      unfold okL
      rw [List.all_eq_false]
      exact ⟨x, hmem, by rw [hx]; decide⟩
     clear hst hok hx hmem
     replace ci := Hd ci
     replace hin := Hd hin
     replace hb := Hd hb
     have h1 := hrS.out
     have h2 := hrE.out
     rw [hno, if_neg (by decide)] at h1 h2
     subst h1 h2
     clear hrS hrE hno
     go_wp2_with fail
     refine (ci.out.on _).mono ?_
     rintro e w1 ⟨rfl, rfl⟩
     go_wp2_with fail
     (try simp only [Exit.inBlock, Exit.then])
     refine bodyPost_ret (by simp [results, Tryz.results86, go_sem]; try rfl) rfl ?_
     exact ⟨rfl, hb.out⟩
   | true =>
     rw [hx] at ci
     have hok' : okL (l.take (j + 1)) = true := by
      unfold okL at *
      rw [hst, List.all_append, hok]
      simp [hx]
     have hset : setOf (l.take (j + 1)) = withF (setOf (l.take j)) x := by rw [hst, setOf_snoc]
     have cw := with_c (setOf (l.take j)) hsl x
     clear hst hok hx hmem
     replace hok' := Hd hok'
     obtain ⟨S', hS'⟩ : ∃ S', setOf (l.take (j + 1)) = S' := ⟨_, rfl⟩
     rw [hS'] at hset
     rw [← hset] at cw
     replace hset := Hd hset
     replace hS' := Hd hS'
     generalize setOf (l.take j) = S at *
     replace ci := Hd ci
     replace cw := Hd cw
     replace hin := Hd hin
     replace hb := Hd hb
     go_wp2_with fail
     refine (ci.out.on _).mono ?_
     rintro e w1 ⟨rfl, rfl⟩
     go_wp2_with fail
     refine (cw.out.on _).mono ?_
     rintro e w1 ⟨rfl, rfl⟩
     go_wp2_with fail
     go_roundw
     case rel => exact ⟨j + 1, by omega, by go_num, by rw [hS'.out], hok'.out, hin.out, hb.out⟩
     case measure => simp [intOf]; omega
  ·obtain rfl : j = l.length := by omega
   rw [List.take_length] at hok ⊢
   have h1 := hrS.out
   have h2 := hrE.out
   rw [hok, if_pos rfl] at h1 h2
   rw [h1]
   subst h2
   clear hrS hrE hin hok h1
   replace hb := Hd hb
   go_wp2_with fail
   (try simp only [Exit.inBlock, Exit.then])
   refine bodyPost_ret (by simp [results, Tryz.results86, go_sem]; try rfl) rfl ?_
   exact ⟨rfl, hb.out⟩
end Go.Proofs.YtjjgbillihedgaaGreatDoor
namespace Go.Proofs.YtjjgbillihedgaaGreatDoor
namespace Wide
structure WI where
 n : Bool
 h : Int
 l : Int
def WI.Ok (x : WI) : Prop := 0 ≤ x.h ∧ x.h ≤ 18446744073709551615 ∧ 0 ≤ x.l ∧ x.l ≤ 18446744073709551615
/-- 0, as two words -/
def nil2 (h l : Int) : Bool := (h == 0) && (l == 0)
def WI.form (x : WI) : Bool := decide (x.h < 9223372036854775808) && (!x.n || !nil2 x.h x.l)
def WI.sz (x : WI) : Int := x.h * 18446744073709551616 + x.l
def WI.val (x : WI) : Int := if x.n = true then -x.sz else x.sz
def zero : WI := ⟨false, 0, 0⟩
def made (n : Bool) (h l : Int) : WI := ⟨n && !nil2 h l, h, l⟩
def neg (n : Bool) (s : Int) : Int := if n = true then -s else s
/-- the number of a value -/
def mk (v : Int) : WI := ⟨decide (v < 0), (v.natAbs : Int) / 18446744073709551616, (v.natAbs : Int) % 18446744073709551616⟩
/-- there is a number of it -/
def In (v : Int) : Bool := decide (-170141183460469231731687303715884105728 < v) && decide (v < 170141183460469231731687303715884105728)
/-- a result, and its error -/
def R (v : Int) : WI × Int := if In v = true then (mk v, 0) else (zero, 3)
theorem nil2_true {h l : Int} (e : nil2 h l = true) : h = 0 ∧ l = 0 := by simpa [nil2] using e
theorem nil2_false {h l : Int} (e : nil2 h l = false) : ¬ (h = 0 ∧ l = 0) := by
 intro ⟨a, b⟩; subst a; subst b; cases e
theorem In_iff {v : Int} : In v = true ↔ -170141183460469231731687303715884105728 < v ∧ v < 170141183460469231731687303715884105728 := by simp [In]
theorem mk_ok (v : Int) (hv : In v = true) : (mk v).Ok := by
 rw [In_iff] at hv
 unfold mk WI.Ok
 dsimp only
 omega
theorem form_lt {x : WI} (hf : x.form = true) : x.h < 9223372036854775808 := by
 unfold WI.form at hf; rw [Bool.and_eq_true] at hf; exact of_decide_eq_true hf.1
theorem form_neg {x : WI} (hf : x.form = true) (hn : x.n = true) : nil2 x.h x.l = false := by
 unfold WI.form at hf; rw [Bool.and_eq_true] at hf
 have h2 := hf.2
 rw [hn] at h2
 revert h2
 cases nil2 x.h x.l <;> decide
theorem made_mk (n : Bool) (h l : Int) (h0 : 0 ≤ h) (l0 : 0 ≤ l) (l1 : l ≤ 18446744073709551615) : made n h l = mk (neg n (h * 18446744073709551616 + l)) := by
 cases n with
 | false =>
   have e : ¬ (h * 18446744073709551616 + l < 0) := by omega
   simp only [made, mk, neg, Bool.false_and, Bool.false_eq_true, if_false, decide_eq_false e, WI.mk.injEq, true_and]
   omega
 | true =>
   cases hz : nil2 h l with
   | true =>
     obtain ⟨rfl, rfl⟩ := nil2_true hz
     rfl
   | false =>
     have := nil2_false hz
     have e : -(h * 18446744073709551616 + l) < 0 := by omega
     simp only [made, mk, neg, hz, Bool.not_false, Bool.and_true, if_true, decide_eq_true e, WI.mk.injEq, true_and]
     omega
theorem mk_of {x : WI} (ho : x.Ok) (hf : x.form = true) : mk x.val = x := by
 obtain ⟨n, h, l⟩ := x
 obtain ⟨o1, o2, o3, o4⟩ := ho
 have e := made_mk n h l o1 o3 o4
 have : made n h l = ⟨n, h, l⟩ := by
  cases n with
  | false => rfl
  | true => have := form_neg hf rfl; simp only at this; simp only [made, this]; rfl
 rw [this] at e
 exact e.symm
theorem sz_bd {x : WI} (ho : x.Ok) (hf : x.form = true) : 0 ≤ x.sz ∧ x.sz < 170141183460469231731687303715884105728 := by
 obtain ⟨o1, o2, o3, o4⟩ := ho
 have := form_lt hf
 unfold WI.sz
 omega
/-- the functions of the package, as Lean's -/
def addF (x y : WI) : WI × Int := if (x.form && y.form) = true then R (x.val + y.val) else (zero, 1)
def mulF (x y : WI) : WI × Int := if (x.form && y.form) = true then R (x.val * y.val) else (zero, 1)
def sgn (v : Int) : Int := if v < 0 then -1 else if v = 0 then 0 else 1
end Wide
namespace Wide
/-- a number's two words -/
def nw (q : Nat) : WI := ⟨false, ((q / 18446744073709551616 : Nat) : Int), ((q % 18446744073709551616 : Nat) : Int)⟩
theorem nw_ok {q : Nat} (h : q < 340282366920938463463374607431768211456) : (nw q).Ok := by
 unfold nw WI.Ok
 dsimp only
 omega
theorem nw_sz (q : Nat) : (nw q).sz = q := by
 unfold nw WI.sz
 dsimp only
 omega
/-- the digits of a number -/
def digs (n : Nat) : List UInt8 := if n < 10 then [UInt8.ofNat (48 + n)] else digs (n / 10) ++ [UInt8.ofNat (48 + n % 10)]
/-- the digits that are still to be written, when some are -/
def more (n : Nat) : List UInt8 := if n = 0 then [] else digs n
def isDig (c : UInt8) : Bool := decide (48 ≤ c.toNat) && decide (c.toNat ≤ 57)
def valD (l : List UInt8) : Nat := l.foldl (fun a c => a * 10 + (c.toNat - 48)) 0
theorem digs_more (n : Nat) : digs n = more (n / 10) ++ [UInt8.ofNat (48 + n % 10)] := by
 rw [digs]
 unfold more
 by_cases h : n < 10
 ·rw [if_pos h, if_pos (by omega), Nat.mod_eq_of_lt h]; rfl
 ·rw [if_neg h, if_neg (by omega)]
theorem valD_snoc (l : List UInt8) (c : UInt8) : valD (l ++ [c]) = valD l * 10 + (c.toNat - 48) := by
 unfold valD
 rw [List.foldl_append]
 rfl
theorem dig_toNat {k : Nat} (h : k < 10) : (UInt8.ofNat (48 + k)).toNat = 48 + k := by
 rw [UInt8.toNat_ofNat']
 omega
theorem digs_val (n : Nat) : valD (digs n) = n := by
 induction n using Nat.strongRecOn with
 | ind n ih =>
   rw [digs]
   split
   ·rename_i h
    show 0 * 10 + _ = _
    rw [dig_toNat h]
    omega
   ·rename_i h
    rw [valD_snoc, ih (n / 10) (by omega), dig_toNat (Nat.mod_lt _ (by decide))]
    omega
theorem digs_all (n : Nat) : (digs n).all isDig = true := by
 induction n using Nat.strongRecOn with
 | ind n ih =>
   rw [digs]
   split
   ·rename_i h
    simp only [List.all_cons, List.all_nil, Bool.and_true, isDig, dig_toNat h]
    simp
    omega
   ·rename_i h
    have h2 := Nat.mod_lt n (show 0 < 10 by decide)
    rw [List.all_append, ih (n / 10) (by omega), Bool.true_and]
    simp only [List.all_cons, List.all_nil, Bool.and_true, isDig, dig_toNat h2]
    simp
    omega
theorem digs_ne (n : Nat) : digs n ≠ [] := by
 rw [digs]
 split
 ·simp
 ·simp
theorem digs_len (k n : Nat) (h : n < 10 ^ (k + 1)) : (digs n).length ≤ k + 1 := by
 induction k generalizing n with
 | zero => rw [digs, if_pos (by simpa using h)]; exact Nat.le_refl 1
 | succ k ih =>
   rw [digs]
   split
   ·show 1 ≤ _; omega
   ·rw [List.length_append]
    have : n / 10 < 10 ^ (k + 1) := by rw [Nat.pow_succ] at h; omega
    have := ih _ this
    simp only [List.length_cons, List.length_nil]
    omega
theorem digs_head (n : Nat) (hn : n ≠ 0) : (digs n).head? ≠ some 48 := by
 induction n using Nat.strongRecOn with
 | ind n ih =>
   rw [digs]
   split
   ·rename_i h
    intro hh
    have h1 : UInt8.ofNat (48 + n) = 48 := by simpa using hh
    have h2 := congrArg UInt8.toNat h1
    rw [dig_toNat h] at h2
    have : (48 : UInt8).toNat = 48 := rfl
    omega
   ·rename_i h
    have := ih (n / 10) (by omega) (by omega)
    rw [List.head?_append]
    cases hd : (digs (n / 10)).head? with
    | none => exact absurd (List.head?_eq_none_iff.1 hd) (digs_ne _)
    | some c => rw [hd] at this; simpa using this
end Wide
open Go.RowKit
open Rf
open Wide
/-- what is written, and what is still to be written -/
def Wd (N v : Nat) (l : List UInt8) : Prop := (l = [] ∧ v = N) ∨ (l ≠ [] ∧ more v ++ l = digs N)
theorem Wd.step {N v : Nat} {l : List UInt8} (h : Wd N v l) (hc : l = [] ∨ v ≠ 0) : Wd N (v / 10) (UInt8.ofNat (48 + v % 10) :: l) := by
 refine .inr ⟨List.cons_ne_nil _ _, ?_⟩
 rcases h with ⟨rfl, rfl⟩ | ⟨h1, h2⟩
 ·rw [digs_more v]
 ·have h0 : v ≠ 0 := hc.elim (fun h => absurd h h1) id
  rw [← h2]
  unfold more at h2 ⊢
  rw [if_neg h0]
  conv => rhs; rw [digs_more v]
  unfold more
  simp
theorem Wd.len {N v : Nat} {l : List UInt8} (h : Wd N v l) (hN : N < 10 ^ 20) : l.length ≤ 20 := by
 rcases h with ⟨rfl, _⟩ | ⟨_, h⟩
 ·exact Nat.zero_le _
 ·have h1 := digs_len 19 N hN
  rw [← h, List.length_append] at h1
  omega
open Sg
namespace Sg
/-- an id's digits; a set's text -/
def dgt (i : Int) : List UInt8 := digs i.toNat
def textS (s : Nat) : List UInt8 := if (ids s).length = 0 then [45] else Lib.join ((ids s).map dgt) [43]
theorem dec_digs (n : Nat) : Lib.decDigits n = digs n := by
 induction n using Nat.strongRecOn with
 | _ n ih =>
   rw [Lib.decDigits, digs]
   by_cases h : n < 10
   ·rw [dif_pos h, if_pos h]
   ·rw [dif_neg h, if_neg h, ih (n / 10) (by omega)]
theorem ids_id {s : Nat} {i : Int} (h : i ∈ ids s) : 1 ≤ i ∧ i ≤ 24 := by
 have := (mem_ids s i).1 h
 unfold has isId at this
 simp at this
 omega
theorem dgt_len {i : Int} (h1 : 1 ≤ i) (h2 : i ≤ 24) : (dgt i).length ≤ 2 := digs_len 1 _ (by omega)
theorem lens_bd (l : List (List UInt8)) (h : ∀ x ∈ l, x.length ≤ 2) : Lib.lens l ≤ 2 * l.length := by
 induction l with
 | nil => exact Nat.le_refl 0
 | cons x r ih =>
   have h1 := h x (List.mem_cons_self ..)
   have h2 := ih (fun y hy => h y (List.mem_cons_of_mem _ hy))
   unfold Lib.lens at *
   rw [List.map_cons, List.sum_cons, List.length_cons]
   omega
theorem join_bd (l : List (List UInt8)) (h : ∀ x ∈ l, x.length ≤ 2) : (Lib.join l [43]).length ≤ 3 * l.length := by
 cases l with
 | nil => exact Nat.zero_le _
 | cons x r =>
   have h1 := h x (List.mem_cons_self ..)
   have h2 := lens_bd r (fun y hy => h y (List.mem_cons_of_mem _ hy))
   rw [Lib.join_cons, List.length_append, Lib.joinTail_length, List.length_cons]
   simp only [List.length_cons, List.length_nil]
   omega
theorem ids_le (s : Nat) : (ids s).length ≤ 24 := idsFrom_len s 1 24
end Sg
/-- texts as values -/
def sv (l : List (List UInt8)) : List Value := l.map fun x => .string (text x)
theorem infoStr : (Tryz.prog.info? 9).map (fun i => (i.zero, i.size, i.bytes)) = some (some (.string ⟨#[]⟩), 1, 16) := by kernel_rfl
theorem itoa_c (n : Nat) (hn : n < 100) : Still 66 #[.int .i64 (n : Int)] (.string (text (digs n))) := fun w => by
 have h := Go.Proofs.Any.strconv_Itoa_small Tryz.lays171 n hn w
 rw [dec_digs] at h
 exact h.mono fun e w' ⟨h1, h2⟩ => ⟨h1, h2.symm⟩
theorem src_str (w : World) (x : ByteArray) : Src Tryz.prog 1 76 (.slice (some ⟨w.heap.size, 0, none⟩) 1 1) 1 [.string x] (w.alloc (.cells #[.string x] 9)) :=
 Src.ofSlice _ Tryz.underlying76 ⟨w.heap.size, 0, none⟩ 1 1 _ rfl (cell_one_new _ _ _) (by intro u hu; simp at hu; subst hu; rfl)
theorem join_c (l : List (List UInt8)) (h0 : 0 < l.length) (hl : l.length ≤ 1000) (hj : (Lib.join l [43]).length ≤ 100000) (a : Option Addr) (c B : Nat) (w : World) (h : w.ownsRow B 9 1 (.slice a l.length c) l.length (sv l)) :
 Calls Tryz.prog 34 #[.slice a l.length c, .string ⟨#[43]⟩] w fun e w' => e = .returned (.string (text (Lib.join l [43]))) ∧ Below w.heap.size w w' := by
 rcases h.2 with ⟨_, hn⟩ | ⟨g, cap, cur, hv, hb, hg, hc⟩
 ·omega
 ·obtain ⟨rfl, rfl⟩ : a = some ⟨g, 0, none⟩ ∧ c = cap := by cases hv; exact ⟨rfl, rfl⟩
  have hcells : ∀ (j : Nat) x, (l.map text)[j]? = some x → w.cell? ⟨g, 0 + j, none⟩ = some (.string x) := fun j x hx => by
   have h1 := World.ownsRow.cells h (g := g) rfl j (.string x) (by
    unfold sv
    rw [List.getElem?_map] at hx ⊢
    cases hq : l[j]? with
    | none => rw [hq] at hx; cases hx
    | some y => rw [hq] at hx; cases hx; rfl)
   rw [show (⟨g, 0, none⟩ : Addr).add j = ⟨g, 0 + j, none⟩ by unfold Addr.add; split <;> simp_all] at h1
   exact h1
  have hm : ((l.map text).map (·.data.toList)) = l := by
   rw [List.map_map]
   have : ((fun x : ByteArray => x.data.toList) ∘ text) = id := by funext x; exact byts_text x
   rw [this, List.map_id]
  have hs : (⟨#[43]⟩ : ByteArray).data.toList = [43] := rfl
  have hJ := Go.Proofs.Any.strings_Join Tryz.lays156 Tryz.Builder_Extra_156 g 0 c (l.map text) ⟨#[43]⟩ w hcells (lt_of_block hg) (by rw [List.length_map]; omega) (by rw [List.length_map]; exact hc.1) (by rw [hm, hs]; omega)
  rw [hm, hs, List.length_map] at hJ
  exact hJ
theorem text_c (s : Nat) (hs : s < 4294967296) : Ret 96 #[.int .u32 (s : Int)] (.string (text (textS s))) := fun w => by
 obtain ⟨i0, hi, hz0, hz1, hz2⟩ := info_parts infoStr
 have cl := len_c s hs
 have ci := ids_c s hs
 have hid := fun (i : Int) (h : i ∈ ids s) => ids_id h
 have hle := ids_le s
 obtain ⟨res, hres⟩ : ∃ res, textS s = res := ⟨_, rfl⟩
 rw [hres]
 unfold textS at hres
 generalize ids s = L at *
 replace cl := Hd cl
 replace ci := Hd ci
 by_cases h0 : L.length = 0
 ·rw [if_pos h0] at hres
  subst hres
  have e1 : ((L.length : Int) == 0) = true := by simp [h0]
  clear h0
  go_enter Tryz.func96, Tryz.ntmps96
  go_wp2_with fail
  refine (cl.out.on _).mono ?_
  rintro e w1 ⟨rfl, hb⟩
  go_wp2_with fail
  go_ret
  exact ⟨rfl, hb⟩
 ·rw [if_neg h0] at hres
  have e1 : ((L.length : Int) == 0) = false := beq_eq_false_iff_ne.2 (by omega)
  replace hres := Hd hres
  go_enter Tryz.func96, Tryz.ntmps96
  go_wp2_with fail
  refine (cl.out.on _).mono ?_
  rintro e w1 ⟨rfl, hb⟩
  replace hb := Hd hb
  go_wp2_with fail
  refine (ci.out.on _).mono ?_
  rintro e w2 ⟨a, c, rfl, hown, hb2⟩
  have hin := hown.in
  replace hb2 := below_up hb.out hb.out.size hb2
  clear hb hown
  have hq := hb2.size
  replace hb2 := Hd hb2
  replace hin := Hd hin
  go_wp2_with fail
  go_loopw [3, 12] (fun b i wr => ∃ j : Nat, j ≤ L.length ∧ i = .int .i64 j ∧ (∃ a c, b = .slice a j c ∧ wr.ownsRow w2.heap.size 9 1 (.slice a j c) j (sv ((L.take j).map dgt))) ∧ Below w2.heap.size w2 wr) (fun _ i _ => L.length - (intOf i).toNat)
  case atStart => exact ⟨0, Nat.zero_le _, rfl, ⟨none, 0, rfl, World.ownsRow_nil w2 _ _ _⟩, Below.refl _ _⟩
  case round =>
   obtain ⟨j, hj, rfl, ⟨b, d, rfl, hown⟩, hbr⟩ := hrel
   by_cases hlt : j < L.length
   ·obtain ⟨g, o, hga, hg, hc⟩ := (hin.out.below hbr).at j hlt
    subst hga
    have hst : (L.take (j + 1)).map dgt = (L.take j).map dgt ++ [dgt L[j]] := by
     rw [List.take_succ_eq_append_getElem hlt, List.map_append]
     rfl
    have hltI : (j : Int) < (L.length : Int) := by omega
    obtain ⟨x1, x2⟩ := hid L[j] (List.getElem_mem hlt)
    generalize L[j] = x at *
    obtain ⟨n, rfl⟩ : ∃ n : Nat, x = n := ⟨x.toNat, by omega⟩
    have cI := itoa_c n (by omega)
    unfold dgt at hst
    rw [Int.toNat_natCast] at hst
    have hsz := hbr.size
    obtain ⟨t, ht⟩ : ∃ t, digs n = t := ⟨_, rfl⟩
    rw [ht] at hst cI
    clear ht
    replace cI := Hd cI
    replace hst := Hd hst
    replace hown := Hd hown
    replace hbr := Hd hbr
    go_wp2_with fail
    refine (cI.out.on _).mono ?_
    rintro e w3 ⟨rfl, rfl⟩
    have hsrc := src_str wr (text t)
    go_wp2_with (at_builtin; refine wpList_append_own_src _ rfl (.tmp 16) (.tmp 19) 76 76 rfl w2.heap.size 9 i0 (.string ⟨#[]⟩) 1 16 Tryz.underlying76 hi hz0 hz1 hz2 rfl rfl (hown.out.alloc _) rfl hsrc ?_ ?_ ?_ ?_)
    ·unfold maxLen; omega
    ·omega
    ·(try rw [size_alloc]); omega
    intro b' c' w4 hown2 hg1
    have hfin := Hd (Below.grown (hbr.out.alloc hsz (.cells #[.string (text t)] 9)) hg1 (by rw [size_alloc]; omega) (fun q hq => by have := World.ownsRow.lt hown.out q hq; omega))
    replace hown2 := Hd hown2
    clear hg1 hsrc hown hbr
    go_wp2_with fail
    go_roundw
    case rel => exact ⟨j + 1, by omega, by go_num, ⟨b', c', rfl, by
     have h1 := hown2.out
     have h2 := hst.out
     unfold dgt at *
     rw [h2]
     unfold sv at *
     rw [List.map_append]
     (try rw [← List.map_take] at h1)
     exact h1⟩, hfin.out⟩
    case measure => simp [intOf]; omega
   ·obtain rfl : j = L.length := by omega
    rw [List.take_length] at hown
    have hlen : (L.map dgt).length = L.length := List.length_map _
    have hjl : (Lib.join (L.map dgt) [43]).length ≤ 100000 := by
     have := join_bd (L.map dgt) (fun x hx => by
      obtain ⟨i, hi, rfl⟩ := List.mem_map.1 hx
      exact dgt_len (hid i hi).1 (hid i hi).2)
     omega
    have cj := join_c (L.map dgt) (by omega) (by omega) hjl b d w2.heap.size wr (by rw [hlen]; exact hown)
    rw [hlen, hres.out] at cj
    have hfin := below_up hb2.out hq hbr
    clear hown
    replace cj := Hd cj
    replace hfin := Hd hfin
    go_wp2_with fail
    refine cj.out.mono ?_
    rintro e w5 ⟨rfl, hb5⟩
    have hfin2 := below_up hfin.out hfin.out.size hb5
    go_wp2_with fail
    go_ret
    exact ⟨rfl, hfin2⟩
/-- a block behind the library's variables that are read -/
def globTop : Nat := max (Tryz.laysC172_ren.g 15) (max (Tryz.laysC172_ren.g 16) (Tryz.lays146_ren.g 1)) + 1
/-- what the library's variables hold, as far as it is read -/
structure Glob (w : World) : Prop where
 e0 : ∃ t p, w.cell? ⟨Tryz.laysC172_ren.g 15, 0, none⟩ = some (.iface t p)
 e1 : ∃ t p, w.cell? ⟨Tryz.laysC172_ren.g 16, 0, none⟩ = some (.iface t p)
 mx : ∃ m, w.cell? ⟨Tryz.lays146_ren.g 1, 0, none⟩ = some (.int .i64 m)
 sz : globTop ≤ w.heap.size
theorem Glob.below {w w' : World} {B : Nat} (h : Glob w) (hb : Below B w w') (hB : globTop ≤ B) : Glob w' := by
 unfold globTop at hB
 refine ⟨?_, ?_, ?_, Nat.le_trans h.sz hb.size⟩
 ·obtain ⟨t, p, hc⟩ := h.e0
  exact ⟨t, p, by rw [hb.cell (p := ⟨Tryz.laysC172_ren.g 15, 0, none⟩) (show Tryz.laysC172_ren.g 15 < B by omega)]; exact hc⟩
 ·obtain ⟨t, p, hc⟩ := h.e1
  exact ⟨t, p, by rw [hb.cell (p := ⟨Tryz.laysC172_ren.g 16, 0, none⟩) (show Tryz.laysC172_ren.g 16 < B by omega)]; exact hc⟩
 ·obtain ⟨m, hc⟩ := h.mx
  exact ⟨m, by rw [hb.cell (p := ⟨Tryz.lays146_ren.g 1, 0, none⟩) (show Tryz.lays146_ren.g 1 < B by omega)]; exact hc⟩
theorem Glob.on {w w' : World} (h : Glob w) (hb : Below w.heap.size w w') : Glob w' := h.below hb h.sz
namespace Sg
/-- the int that a text is taken for -/
def atoiV (l : List UInt8) : Int := match Lib.atoiAll l with
 | .ok v => v
 | .range => Lib.atoiSat l
 | _ => 0
/-- the pieces between the plusses -/
def pieces (s : ByteArray) : List ByteArray := Lib.splitB ⟨#[43]⟩ 0 (Lib.countB s ⟨#[43]⟩) s
def outOf (s : ByteArray) : Nat := setOf ((pieces s).map fun x => atoiV x.data.toList)
def parseS (s : ByteArray) : Nat × Int := if textS (outOf s) = byts s then (outOf s, 0) else (0, 4)
end Sg
theorem below_bytes (w : World) (e : TypeId) (s : ByteArray) : Below w.heap.size w (Lib.bytesWorld w e s) := by
 refine ⟨rfl, rfl, rfl, ?_, fun k hk => Lib.bytesWorld_at_old w e s k hk⟩
 unfold Lib.bytesWorld
 simp [World.freeze, World.alloc, World.drew, -World.alloc_eq, -World.drew_eq]
theorem atoi_c (s : ByteArray) (hs : s.size ≤ 281474976710656) (w : World) (hg : Glob w) :
 Calls Tryz.prog 101 #[.string s] w fun e w' => ∃ ev, e = .returned (.tuple #[.int .i64 (atoiV s.data.toList), ev]) ∧ Below w.heap.size w w' := by
 unfold atoiV
 cases h : Lib.atoiAll s.data.toList
 ·rename_i v
  exact (Go.Proofs.Any.strconv_Atoi_ok Tryz.laysC172 s (by omega) v h w).mono fun e w' ⟨h1, h2⟩ => ⟨_, h1, by
   rcases h2 with rfl | ⟨t, rfl⟩
   ·exact Below.refl _ _
   ·exact below_bytes w _ t⟩
 ·obtain ⟨t, p, hc⟩ := hg.e0
  exact (Go.Proofs.Any.strconv_Atoi_syntax Tryz.laysC172 s hs h _ w hc (.inr ⟨t, p, rfl⟩)).mono fun e w' ⟨N, h1, _, _, h2⟩ => ⟨_, h1, h2⟩
 ·obtain ⟨t, p, hc⟩ := hg.e1
  exact (Go.Proofs.Any.strconv_Atoi_range Tryz.laysC172 s hs h _ w hc (.inr ⟨t, p, rfl⟩)).mono fun e w' ⟨N, h1, _, _, h2⟩ => ⟨_, h1, h2⟩
theorem extract_le (s : ByteArray) (i j : Nat) : (s.extract i j).size ≤ s.size := by
 rw [ByteArray.size_extract]
 omega
theorem split_le (sep : ByteArray) : ∀ (k : Nat) (s : ByteArray), ∀ x ∈ Lib.splitB sep 0 k s, x.size ≤ s.size
 | 0, s, x, hx => by
   rw [Lib.splitB_zero] at hx
   rw [List.mem_singleton.1 hx]
   exact Nat.le_refl _
 | k + 1, s, x, hx => by
   unfold Lib.splitB at hx
   split at hx
   ·rw [List.mem_singleton.1 hx]
    exact Nat.le_refl _
   ·rcases List.mem_cons.1 hx with rfl | h
    ·exact extract_le s _ _
    ·exact Nat.le_trans (split_le sep k _ x h) (extract_le s _ _)
theorem pieces_le (s : ByteArray) : ∀ x ∈ pieces s, x.size ≤ s.size := split_le _ _ s
theorem pieces_len (s : ByteArray) : (pieces s).length = Lib.countB s ⟨#[43]⟩ + 1 := Lib.splitB_all ⟨#[43]⟩ (by decide) 0 _ s rfl
theorem split_c (s : ByteArray) (hs : s.size ≤ 100000) (w : World) (hg : Glob w) :
 Calls Tryz.prog 71 #[.string s, .string ⟨#[43]⟩] w fun e w' => e = .returned (.slice (some ⟨w.heap.size, 0, none⟩) (pieces s).length (pieces s).length) ∧ w' = w.alloc (.cells ((pieces s).map Value.string).toArray 9) := by
 obtain ⟨m, hc⟩ := hg.mx
 have h := Go.Proofs.Any.strings_Split Tryz.lays146 (by kernel_rfl) s ⟨#[43]⟩ m w (by omega) hc (by decide)
 rw [pieces_len]
 exact h
theorem parse_c (s : ByteArray) (hs : s.size ≤ 100000) (w : World) (hg : Glob w) :
 Calls Tryz.prog 104 #[.string s] w fun e w' => e = .returned (.tuple #[.int .u32 (((parseS s).1 : Nat) : Int), .int .i64 (parseS s).2]) ∧ Below w.heap.size w w' := by
 have csp := split_c s hs w hg
 have hple := pieces_le s
 have hpl : (pieces s).length ≤ 100001 := by
  rw [pieces_len]
  have := Lib.countB_le ⟨#[43]⟩ (by decide) s.size s (Nat.le_refl _)
  omega
 obtain ⟨rP, hrP⟩ : ∃ r, parseS s = r := ⟨_, rfl⟩
 rw [hrP]
 unfold parseS outOf at hrP
 generalize pieces s = P at *
 replace csp := Hd csp
 replace hrP := Hd hrP
 have hgW := hg.on (below1 w (.cells (P.map Value.string).toArray 9))
 have hcell : ∀ j (hj : j < P.length), (w.alloc (.cells (P.map Value.string).toArray 9)).cell? ⟨w.heap.size, j, none⟩ = some (.string P[j]) := fun j hj => by
  rw [(IsC.new w 9 (P.map Value.string).toArray).cell j]
  simp [hj]
 have hb0 := below1 w (.cells (P.map Value.string).toArray 9)
 have hlt0 : w.heap.size < (w.alloc (.cells (P.map Value.string).toArray 9)).heap.size := by rw [size_alloc]; omega
 go_enter Tryz.func104, Tryz.ntmps104
 replace hgW := Hd hgW
 replace hcell := Hd hcell
 replace hb0 := Hd hb0
 go_wp2_with fail
 refine csp.out.mono ?_
 rintro e w1 ⟨rfl, rfl⟩
 generalize w.alloc (.cells (P.map Value.string).toArray 9) = W at *
 go_wp2_with fail
 go_loopw [4, 12] (fun o i wr => ∃ j : Nat, j ≤ P.length ∧ i = .int .i64 j ∧ o = .int .u32 ((setOf ((P.take j).map fun x => atoiV x.data.toList) : Nat) : Int) ∧ Below W.heap.size W wr) (fun _ i _ => P.length - (intOf i).toNat)
 case atStart => exact ⟨0, Nat.zero_le _, rfl, rfl, Below.refl _ _⟩
 case round =>
  obtain ⟨j, hj, rfl, rfl, hbr⟩ := hrel
  by_cases hlt : j < P.length
  ·have hc : wr.cell? ⟨w.heap.size, j, none⟩ = some (.string P[j]) := by
    rw [hbr.cell (p := ⟨w.heap.size, j, none⟩) hlt0]
    exact hcell.out j hlt
   have hst : (P.take (j + 1)).map (fun x => atoiV x.data.toList) = (P.take j).map (fun x => atoiV x.data.toList) ++ [atoiV P[j].data.toList] := by
    rw [List.take_succ_eq_append_getElem hlt, List.map_append]
    rfl
   have hltI : (j : Int) < (P.length : Int) := by omega
   have hsz := hple P[j] (List.getElem_mem hlt)
   have hsl := setOf_lt ((P.take j).map fun x => atoiV x.data.toList)
   have hnext := congrArg setOf hst
   rw [setOf_snoc] at hnext
   clear hst
   generalize P[j] = x at *
   have hgr := hgW.out.on hbr
   have cA := atoi_c x (by omega) wr hgr
   generalize atoiV x.data.toList = v at *
   obtain ⟨S', hS'⟩ : ∃ S', setOf ((P.take (j + 1)).map fun x => atoiV x.data.toList) = S' := ⟨_, rfl⟩
   rw [hS'] at hnext
   generalize setOf ((P.take j).map fun x => atoiV x.data.toList) = S at *
   have cW := with_c S hsl v
   rw [← hnext] at cW
   have hwz := hbr.size
   clear hnext hgr
   replace hS' := Hd hS'
   replace cA := Hd cA
   replace cW := Hd cW
   replace hbr := Hd hbr
   go_wp2_with fail
   refine cA.out.mono ?_
   rintro e w2 ⟨ev, rfl, hb2⟩
   have hfin := Hd (below_up hbr.out hwz hb2)
   clear hbr hb2
   go_wp2_with fail
   refine (cW.out.on _).mono ?_
   rintro e w3 ⟨rfl, rfl⟩
   go_wp2_with fail
   go_roundw
   case rel => exact ⟨j + 1, by omega, by go_num, by rw [hS'.out], hfin.out⟩
   case measure => simp [intOf]; omega
  ·obtain rfl : j = P.length := by omega
   rw [List.take_length]
   have hsl := setOf_lt (P.map fun x => atoiV x.data.toList)
   have hr := hrP.out
   generalize setOf (P.map fun x => atoiV x.data.toList) = S at *
   have ct := text_c S hsl
   have hfin := below_up hb0.out hb0.out.size hbr
   have hq := hfin.size
   clear hrP hbr
   replace ct := Hd ct
   replace hfin := Hd hfin
   have hstr : ((text (textS S)).toList == s.toList) = decide (textS S = byts s) := by
    rw [toList_byts, toList_byts, byts_text]
    exact Bool.eq_iff_iff.2 ⟨fun h => decide_eq_true (by simpa using h), fun h => by simpa using of_decide_eq_true h⟩
   by_cases hm : textS S = byts s
   ·rw [if_pos hm] at hr
    rw [decide_eq_true hm] at hstr
    subst hr
    clear hm
    go_wp2_with fail
    refine (ct.out.on _).mono ?_
    rintro e w2 ⟨rfl, hb2⟩
    have hfin2 := below_up hfin.out hq hb2
    go_wp2_with fail
    (try simp only [Exit.inBlock, Exit.then])
    refine bodyPost_ret (by simp [results, Tryz.results104, go_sem]; try rfl) rfl ?_
    exact ⟨rfl, hfin2⟩
   ·rw [if_neg hm] at hr
    rw [decide_eq_false hm] at hstr
    subst hr
    clear hm
    go_wp2_with fail
    refine (ct.out.on _).mono ?_
    rintro e w2 ⟨rfl, hb2⟩
    have hfin2 := below_up hfin.out hq hb2
    go_wp2_with fail
    (try simp only [Exit.inBlock, Exit.then])
    refine bodyPost_ret (by simp [results, Tryz.results104, go_sem]; try rfl) rfl ?_
    exact ⟨rfl, hfin2⟩
end Go.Proofs.YtjjgbillihedgaaGreatDoor
namespace Go.Proofs.YtjjgbillihedgaaGreatDoor
open Go.RowKit
open Rf
open Sg
/-- parts without values that can be read at a slice -/
def InP (w : World) (a : Option Addr) (l : List Int) : Prop := l = [] ∨ ∃ g o, a = some ⟨g, o, none⟩ ∧ g < w.heap.size ∧ ∀ j (hj : j < l.length), w.cell? ⟨g, o + j * 2, none⟩ = some (.int .i64 l[j]) ∧ w.cell? ⟨g, o + j * 2 + 1, none⟩ = some (.slice none 0 0)
theorem InP.below {w w' : World} {B : Nat} {a : Option Addr} {l : List Int} (h : InP w a l) (hb : Below B w w') (hB : w.heap.size ≤ B) : InP w' a l := by
 rcases h with rfl | ⟨g, o, rfl, hg, hc⟩
 ·exact .inl rfl
 ·exact .inr ⟨g, o, rfl, Nat.lt_of_lt_of_le hg hb.size, fun j hj => ⟨by rw [hb.cell (p := ⟨g, o + j * 2, none⟩) (show g < B by omega)]; exact (hc j hj).1, by rw [hb.cell (p := ⟨g, o + j * 2 + 1, none⟩) (show g < B by omega)]; exact (hc j hj).2⟩⟩
theorem InP.at {w : World} {a : Option Addr} {l : List Int} (h : InP w a l) (j : Nat) (hj : j < l.length) : ∃ g o, a = some ⟨g, o, none⟩ ∧ g < w.heap.size ∧ w.cell? ⟨g, o + j * 2, none⟩ = some (.int .i64 l[j]) ∧ w.cell? ⟨g, o + j * 2 + 1, none⟩ = some (.slice none 0 0) := by
 rcases h with rfl | ⟨g, o, h1, h2, h3⟩
 ·cases hj
 ·exact ⟨g, o, h1, h2, h3 j hj⟩
namespace Sg
def partsF (l : List Int) : Nat × Int := if okL l = true then (if (ids (setOf l)).length = l.length then (setOf l, 0) else (0, 7)) else (0, 1)
end Sg
end Go.Proofs.YtjjgbillihedgaaGreatDoor
