/- parts of the proof, merged: Lib -/
import Derived.WalkKit
import Derived.OneCell
import Derived.Deep.AppendSrc
import Derived.Laws.BytesString
import Derived.Lib.Hide
import Derived.Deep.RegionHeld3
import Derived.OrdersHeld
set_option linter.unusedVariables false
namespace Rf
open Go Go.RowKit
/-- a text as bytes, and bytes as a text -/
def byts (s : ByteArray) : List UInt8 := s.data.toList
def text (l : List UInt8) : ByteArray := ⟨l.toArray⟩
theorem text_byts (s : ByteArray) : text (byts s) = s := by simp [text, byts]
theorem byts_text (l : List UInt8) : byts (text l) = l := by simp [text, byts]
theorem byts_length (s : ByteArray) : (byts s).length = s.size := by simp [byts]
theorem text_size (l : List UInt8) : (text l).size = l.length := by simp [text]; rfl
theorem byts_append (a b : ByteArray) : byts (a ++ b) = byts a ++ byts b := by simp [byts]
theorem text_append (l m : List UInt8) : text l ++ text m = text (l ++ m) := by
 apply ByteArray.ext
 simp [text]
theorem toList_inj {a b : ByteArray} (h : a.toList = b.toList) : a = b := by
 rw [ByteArray.toList_eq, ByteArray.toList_eq] at h
 exact ByteArray.ext (Array.ext' h)
theorem toList_text (l : List UInt8) : (text l).toList = l := by simp [text]
theorem toList_byts (s : ByteArray) : s.toList = byts s := ByteArray.toList_eq s
theorem byts_inj {a b : ByteArray} (h : byts a = byts b) : a = b := toList_inj (by rw [toList_byts, toList_byts, h])
theorem extract_text (s : ByteArray) (k : Nat) : s.extract 0 k = text ((byts s).take k) := by
 apply ByteArray.ext
 apply Array.ext'
 simp [text, byts]
theorem take_snoc (s : ByteArray) (k : Nat) (h : k < s.size) : (byts s).take (k + 1) = (byts s).take k ++ [s[k]] := by
 unfold byts
 rw [List.take_succ_eq_append_getElem (by simpa using h)]; rfl
theorem take_all (s : ByteArray) : (byts s).take s.size = byts s := List.take_of_length_le (by rw [byts_length]; exact Nat.le_refl _)
/-- bytes as cells -/
def bv (l : List UInt8) : List Value := l.map fun c => Value.int .u8 (c.toNat : Int)
theorem bv_length (l : List UInt8) : (bv l).length = l.length := by simp [bv]
theorem bv_append (l m : List UInt8) : bv (l ++ m) = bv l ++ bv m := by simp [bv]
theorem bv_one (c : UInt8) : bv [c] = [Value.int .u8 (c.toNat : Int)] := rfl
theorem bv_oneCell (l : List UInt8) : ∀ u ∈ bv l, u.oneCell' = true := by
 intro u hu
 obtain ⟨_, _, rfl⟩ := List.mem_map.1 hu
 rfl
section
variable {P : Program}
theorem run_append_own_src (w : World) (base : Nat) (t tx ty e : TypeId) (i : TypeInfo) (z : Value) (size bytes : Nat) (ht : P.underlying t = some (.slice e)) (hi : P.info? e = some i) (hz : i.zero = some z)
 (hsize : i.size = size) (hby : i.bytes = bytes) (hzs : z.cells.size = size)
 (v : Value) (n : Nat) (xs : List Value) (hown : w.ownsRow base e size v n xs)
 (x : Value) (m : Nat) (news : List Value) (hs : Src P size tx x m news w)
 (h63 : n + m ≤ maxLen) (hbytes : (n + m) * bytes ≤ 140737488355328) (hbase : base ≤ w.heap.size) :
 ∃ v' w', (Builtin.append_ #[t, tx] ty #[v, x]).run P w = .ok v' w' ∧ w'.ownsRow base e size v' (n + m) (xs ++ news) ∧ w.grownBy w' v.ownBlock ∧ (∃ a c, v' = .slice a (n + m) c) := by
 subst hsize
 subst hby
 have h63' : ((n + m : Nat) : Int) ≤ 9223372036854775807 := by simp only [maxLen] at h63; omega
 have hlen : (xs ++ news).length = (n + m) * i.size := by rw [List.length_append, hown.1, hs.newsLen, Nat.add_mul]
 have grow : ∀ (bs : Option Addr) (sc : Nat), v = .slice bs n sc → sc < n + m → (Builtin.firstCells i.size n (.slice bs n sc)).run P w.drew = .ok xs.toArray w.drew →
  ∃ v' w', (Builtin.append_ #[t, tx] ty #[v, x]).run P w = .ok v' w' ∧ w'.ownsRow base e i.size v' (n + m) (xs ++ news) ∧ w.grownBy w' v.ownBlock ∧ (∃ a c, v' = .slice a (n + m) c) := by
  rintro bs sc rfl hg hold
  have hrun := run_append_grow_src (P := P) w t tx ty e i z ht hi hz bs n sc xs hold x m news hs hg h63' (growslice_fits hg hbytes)
  have hge := grownCap_ge w (n + m) sc e
  refine ⟨_, _, hrun, ⟨hlen, .inr ⟨w.heap.size, _, _, rfl, hbase, heap_alloc_new w.drew _, hge, grownCap_le_maxLen w (n + m) sc e h63, ?_, ?_⟩⟩, ⟨rfl, rfl, rfl, by simp, fun k hk _ => Below.heap_alloc w.drew _ k hk⟩, _, _, rfl⟩
  ·rw [Array.size_append, List.size_toArray, hlen, size_zeroCells, hzs, ← Nat.add_mul]
   congr 1
   omega
  ·rw [Array.toList_append, ← hlen]
   exact List.take_left
 rcases hown.2 with ⟨rfl, rfl⟩ | ⟨g, cap, cur, rfl, hbg, hg, hnc, hcm, hcs, htake⟩
 ·have hx : xs = [] := List.eq_nil_of_length_eq_zero (by simpa using hown.1)
  subst hx
  by_cases hm : m = 0
  ·subst hm
   have hn : news = [] := List.eq_nil_of_length_eq_zero (by simpa using hs.newsLen)
   subst hn
   refine ⟨.slice none 0 0, w, ?_, World.ownsRow_nil w base e i.size, ⟨rfl, rfl, rfl, Nat.le_refl _, fun _ _ _ => rfl⟩, _, _, rfl⟩
   rcases hs.kind with ⟨e', hk⟩ | hk <;> simp [Builtin.append_, run_underlying ht, run_underlying hk, Go.sizeOf, typeInfo, hi, hs.len, hs.cells]
  ·exact grow none 0 rfl (by omega) (run_firstCells_none w.drew i.size 0 0 0)
 ·by_cases hroom : n + m ≤ cap
  ·have hnl := hs.newsLen
   have hfit : n * i.size + news.length ≤ cur.size := by rw [hnl, hcs, ← Nat.add_mul]; exact Nat.mul_le_mul_right _ hroom
   have hst := run_storeCells_at P g (n * i.size) e news 0 cur w hg (by simpa using hfit) hs.one
   simp only [Nat.add_zero] at hst
   have hr : (Builtin.append_ #[t, tx] ty #[.slice (some ⟨g, 0, none⟩) n cap, x]).run P w =
    .ok (.slice (some ⟨g, 0, none⟩) (n + m) cap) (w.setRow g (cur.toList.take (n * i.size) ++ news ++ cur.toList.drop (n * i.size + news.length)).toArray) := by
    rcases hs.kind with ⟨e', hk⟩ | hk <;> simp [Builtin.append_, run_underlying ht, run_underlying hk, Go.sizeOf, typeInfo, hi, hs.len, hroom, hs.cells, Addr.add_lit, hst]
   refine ⟨_, _, hr, ⟨hlen, .inr ⟨g, cap, _, rfl, hbg, setRow_heap w g cur _ e _ hg, hroom, hcm, ?_, ?_⟩⟩, ⟨rfl, rfl, rfl, by simp [World.setRow], fun k _ hk => setRow_other w g k _ (fun e => hk (by simp [Value.ownBlock, e]))⟩, _, _, rfl⟩
   ·simp only [List.size_toArray, List.length_append, List.length_take, List.length_drop, Array.length_toList]
    omega
   ·rw [htake, ← hlen]
    exact List.take_left
  ·refine grow (some ⟨g, 0, none⟩) cap rfl (by omega) ?_
   exact run_firstCells_some w.drew i.size n ⟨g, 0, none⟩ n cap xs hown.1 (by intro j u hu; have := hown.cells (g := g) rfl j u hu; simpa using this)
theorem wpList_append_own_src (w : World) {ops : Array Oper} {rest : List Oper} {o : Oper} {a : Act} {Q : Exit → Act → World → Prop} (hgd : o.guard = none) (s x : Operand) (t tx : TypeId)
 (ho : o.op = .call { callee := .builtin .append, args := #[s, x], argTypes := #[t, tx] })
 (base : Nat) (e : TypeId) (i : TypeInfo) (z : Value) (size bytes : Nat) (ht : P.underlying t = some (.slice e)) (hi : P.info? e = some i) (hz : i.zero = some z)
 (hsize : i.size = size) (hby : i.bytes = bytes) (hzs : z.cells.size = size)
 {v : Value} {n : Nat} {xs : List Value} (hv : a.eval s = v) (hown : w.ownsRow base e size v n xs)
 {xv : Value} {m : Nat} {news : List Value} (hx : a.eval x = xv) (hs : Src P size tx xv m news w) (h63 : n + m ≤ maxLen) (hbytes : (n + m) * bytes ≤ 140737488355328) (hbase : base ≤ w.heap.size)
 (hK : ∀ b' c' w', w'.ownsRow base e size (.slice b' (n + m) c') (n + m) (xs ++ news) → w.grownBy w' v.ownBlock → wpList P ops Q rest (a.put o.dst (.slice b' (n + m) c')) w') : wpList P ops Q (o :: rest) a w := by
 refine wpList_plain hgd fun K hK' => ?_
 obtain ⟨v', w', hrun, r1, r2, b', c', rfl⟩ := run_append_own_src (P := P) w base t tx o.type e i z size bytes ht hi hz hsize hby hzs v n xs hown xv m news hs h63 hbytes hbase
 unfold Oper.wp
 simp [execOp, ho, resolve, invoke, builtin, hv, hx, hrun, Result.andThen]
 exact hK' _ _ (hK b' c' w' r1 r2)
theorem foldl_push (l : List UInt8) (s : ByteArray) : (l.map fun c => (c.toNat : Int)).foldl (fun (r : ByteArray) n => r.push (UInt8.ofNat n.toNat)) s = ⟨s.data ++ l.toArray⟩ := by
 induction l generalizing s with
 | nil => simp
 | cons c l ih =>
   simp only [List.map_cons, List.foldl_cons]
   rw [ih]
   simp [ByteArray.push]
/-- a new row, whole -/
theorem ownsRow_lit (w : World) (base : Nat) (e : TypeId) (cs : List Value) (n : Nat) (hb : base ≤ w.heap.size) (hn : cs.length = n) (hm : n ≤ maxLen) :
 (w.alloc (.cells cs.toArray e)).ownsRow base e 1 (.slice (some ⟨w.heap.size, 0, none⟩) n n) n cs := by
 subst hn
 exact ⟨by simp, .inr ⟨w.heap.size, _, _, rfl, hb, heap_alloc_new w _, Nat.le_refl _, hm, by simp, by simp⟩⟩
/-- 'string(b)', b a row of bytes of the call's own -/
theorem run_string_own (w : World) (src dst e : TypeId) {base : Nat} {v : Value} {n : Nat} {l : List UInt8} (hs : P.underlying src = some (.slice e)) (he : P.underlying e = some (.int .u8)) (hd : P.underlying dst = some .string)
 (hown : w.ownsRow base e 1 v n (bv l)) : (convert src dst v).run P w = .ok (.string (text l)) w := by
 rcases hown.2 with ⟨rfl, rfl⟩ | ⟨g, cap, cur, rfl, hbg, hg, hnc, hcm, hcs, htake⟩
 ·have hl : l = [] := List.eq_nil_of_length_eq_zero (by simpa [bv] using hown.1)
  subst hl
  rw [run_convert_bytes_string w src dst e none 0 0 hs he hd]
  rfl
 ·rw [run_convert_bytes_string w src dst e _ n cap hs he hd]
  have hl : l.length = n := by have := hown.1; simpa [bv] using this
  have h1 := run_loadCells_list (P := P) w ⟨g, 0, none⟩ (bv l) (fun j u hu => hown.cells (g := g) rfl j u hu)
  rw [bv_length, hl] at h1
  have h2 := run_bytesToString (P := P) w ⟨g, 0, none⟩ n cap (l.map fun c => (c.toNat : Int)) (by rw [h1]; simp [bv])
  rw [h2, foldl_push]
  congr 2
  simp
  rfl
/-- the beginning of a region that draws its order, the number of its operations reckoned -/
theorem wp_region_held_at {ops : Array Oper} {Q : Exit → Act → World → Prop} {S : World → Prop} {id : Nat} {a : Act} {w : World} (n : Nat) (hn : ops.size = n) (hm : P.follows .mixedOrders = true) (hS : S w.drew)
 (h : S w.drew → wpAnyH P .any ops Q S n (Array.replicate n false) a w.drew) : (Code.region id ops true).wp P Q a w := by
 subst hn
 exact wp_region_held_drew hm hS h
end
end Rf
namespace Go
open Go.RowKit
theorem Hd {p : Prop} (h : p) : RowKit.Hid p := h
theorem ls3 {α : Type} : (∀ (l : List α) (i : Nat) (h : i < l.toArray.size), l.toArray[i] = l[i]'(by simpa using h)) ∧ (∀ (a : α) (l : List α) (h : 0 < (a :: l).length), (a :: l)[0] = a) ∧ (∀ (a : α) (l : List α) (i : Nat) (h : i + 1 < (a :: l).length), (a :: l)[i + 1] = l[i]'(by simpa using h)) :=
 ⟨fun l i h => List.getElem_toArray .., fun a l h => rfl, fun a l i h => rfl⟩
theorem ls7 {α : Type} : (∀ (l : List α) (i : Nat) (h : i < l.toArray.size), l.toArray[i] = l[i]'(by simpa using h)) ∧ (∀ (a : α) (l : List α) (h : 0 < (a :: l).length), (a :: l)[0] = a) ∧ (∀ (a : α) (l : List α) (i : Nat) (h : i + 1 < (a :: l).length), (a :: l)[i + 1] = l[i]'(by simpa using h)) ∧
 (∀ (l : List α) (i : Nat) (a : α), l.toArray.setIfInBounds i a = (l.set i a).toArray) ∧ (∀ (a b : α) (l : List α), (a :: l).set 0 b = b :: l) ∧ (∀ (a b : α) (l : List α) (i : Nat), (a :: l).set (i + 1) b = a :: l.set i b) :=
 ⟨fun l i h => List.getElem_toArray .., fun a l h => rfl, fun a l i h => rfl, fun l i a => List.setIfInBounds_toArray .., fun a b l => rfl, fun a b l i => rfl⟩
section
variable {P : Program} {ops : Array Oper} {Q : Exit → Act → World → Prop} {md : Region.Mode} {S : World → Prop}
theorem wpU (i : Nat) (v : Value) {oi : Oper} {fuel : Nat} {listed : Array Bool} {a : Act} {w : World} (hi : ops[i]? = some oi) (hy : ∀ w, S w → (execOp a.eval oi).run P w = .ok (.value v) w)
 (h : wpAnyH P md ops Q S fuel (listed.setIfInBounds i true) (a.put oi.dst v) w) (hw : Region.wanted oi (yielded ops a.tmps) = true := by rfl)
 (hs : Region.noSelect ops = true := by decide +kernel) (hf : Region.free md ops listed i = true := by decide +kernel) (hr : (Region.ready md ops listed).contains i = true := by decide +kernel)
 (hQ : ∀ c a w, Q (.panic c) (a.put oi.dst v) w → Q (.panic c) a w := by exact fun _ _ _ h => h) (hS : S w := by first | assumption | trivial) : wpAnyH P md ops Q S (fuel + 1) listed a w :=
 wpAnyH_take hi hs hf hr hQ (.inl ⟨hw, hy⟩) hS h
end
end Go
