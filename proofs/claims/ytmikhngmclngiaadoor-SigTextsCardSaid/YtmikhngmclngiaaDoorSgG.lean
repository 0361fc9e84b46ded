/- what a row of this seat gives a walk: the library variables' cells; a row of ints that came in -/
import Derived.Test.YtmikhngmclngiaaDoorSgZ
import Derived.Test.YtmikhngmclngiaaDoorSgS
import Derived.Handed
import Derived.LaidLaws
import Derived.LaidHandle
import Derived.LaidMore
import Derived.Lib.LaidU8
import Derived.Shelf.Vars
import Derived.MakeChecks
import Derived.SizedLaws
import Derived.Deep.Slices
import Derived.Stop.Joined
namespace Go.Proofs.YtmikhngmclngiaaDoor
open Go.ChangeShapes Go.WideShapes Go.RowKit Go.Deep

theorem iface_cell {W : World} {l : List (String × DataW Unit)} (h : laidMet Tryd.prog l W) {n nm : String} {d : DataW Unit} (hm : (n, DataW.iface nm d) ∈ l) {g : Nat} {ti : TypeId}
    (hg : Tryd.prog.globalNamed n = some g) (ht : (Tryd.prog.globals[g]?).map (·.type) = some ti) (hi : ∃ ms, Tryd.prog.underlying ti = some (.interface ms)) : ∃ t p, W.cell? ⟨g, 0, none⟩ = some (.iface t p) := by
  obtain ⟨g', t', cs, fuel, p, h1, h2, h3, h4⟩ := Go.Lib.laidMet.reads h hm
  obtain rfl := Option.some.inj (hg.symm.trans h1)
  obtain rfl := Option.some.inj (ht.symm.trans h2)
  obtain ⟨ms, hi⟩ := hi
  obtain ⟨_, u, v, he, _, _⟩ := iface_of_trod hi h4
  have hc := World.var?_cell hg h3 0
  have h0 : cs[0]? = some (.iface u v) := by
    have := congrArg (·[0]?) he
    simpa using this
  exact ⟨u, v, hc.trans h0⟩
theorem is_iface {P : Program} {t : TypeId} (h : (match P.underlying t with | some (.interface _) => true | _ => false) = true) : ∃ ms, P.underlying t = some (.interface ms) := by
  split at h
  · exact ⟨_, by assumption⟩
  · cases h
theorem glob_of {W : World} {l : List (String × DataW Unit)} (hp : (l.all fun x => x.2.handleName?.isNone) = true) (h : laidMetH Tryd.prog l W) (hs : W.ShapedOpen Tryd.prog)
    {n1 n2 : String} {d1 d2 : DataW Unit} (h1 : ("strconv.ErrRange", DataW.iface n1 d1) ∈ l) (h2 : ("strconv.ErrSyntax", DataW.iface n2 d2) ∈ l) : Glob W := by
  rw [MakeChecks.laidMetH_plain _ _ _ hp] at h
  refine ⟨?_, ?_, ?_, ?_⟩
  · exact iface_cell h h2 (g := 0) (ti := 58) (by kernel_rfl) (by kernel_rfl) (is_iface (by kernel_rfl))
  · exact iface_cell h h1 (g := 1) (ti := 58) (by kernel_rfl) (by kernel_rfl) (is_iface (by kernel_rfl))
  · exact Go.Proofs.cell_of_shapedOpen_int (zero := #[.int .i64 0]) (t := 3) hs (of_decide_eq_true (by kernel_rfl)) (by kernel_rfl) rfl (by kernel_rfl) (by kernel_rfl) Tryd.underlying3
  · obtain ⟨m, hm⟩ := Go.Proofs.cell_of_shapedOpen_int (P := Tryd.prog) (g := 2) (zero := #[.int .i64 0]) (t := 3) (w := W) hs (of_decide_eq_true (by kernel_rfl)) (by kernel_rfl) rfl (by kernel_rfl) (by kernel_rfl) Tryd.underlying3
    rcases Nat.lt_or_ge 2 W.heap.size with h' | h'
    · omega
    · simp [World.cell?, Array.getElem?_eq_none h'] at hm

set_option linter.constructorNameAsVariable false
/-- the wrap of a row's plain change, with what is laid and with the world's shape -/
theorem handed_and_open {H : Type} {enc : TypeId × Value → H} {a : Assume} {C : Checked} {os : Os} {f : FuncId} {fn : Func} {s : ChangeSpec} {conds : List PathCond} {apart fresh handsOn again : Bool} {X : World → Array Value → Prop}
    (hX : ∀ (w w' : World) (args : Array Value), w.heap = w'.heap → X w args → X w' args)
    (own : ownKnob C.prog.godebug = none) (started : os.Started) (noInit : C.prog.inits.idxOf? f = none) (hfn : C.prog.funcs[f]? = some fn)
    (witness : ∃ (w : World) (tape : Tape) (i : Input), w.os = os ∧ (w.forCall tape i).Shaped C.prog ∧ i.vars = [] ∧ Input.okWide C.prog (w.forCall tape i) .any w.heap.size f i ∧
      ((s.pre enc C.prog fn conds apart (w.forCall tape i).memory i.args ∧ X (w.forCall tape i).memory i.args) ∧ sizedMet enc C.prog fn (OpenSpec.ofChange s) apart (w.forCall tape i).memory i.args) ∧ a.holds C.prog (lone (Frame.enter C.prog f i.args .normal) [] (w.forCall tape i)))
    (contract : ∀ (W : World) (base : Nat) (args : Array Value) (ds gs : List (DataW H)) (before : List MemPlace),
      (∀ (j : Nat) t v, fn.params[j]? = some t → args[j]? = some v → Value.okWide C.prog W .any base t v) →
      DataW.Whole enc C.prog fn.params.toList s.vars apart W args.toList ds gs before →
      conds.all (PathCond.test C.prog ⟨fn.params.toList, ds, s.plain.varTypes C.prog, gs⟩) = true →
      (DataW.weightsEach C.prog (fn.params.toList ++ s.plain.varTypes C.prog) (ds ++ gs)).all (· ≤ reachBytes) = true → X W args → W.ShapedOpen C.prog →
      a.holds C.prog (lone (Frame.enter C.prog f args .normal) [] W) →
      Calls C.prog f args W fun e W' => ∃ v, e = .returned v ∧ s.post enc C.prog fn apart fresh handsOn again W args v W') :
    ReturnsInHanded a C os f .any (fun w args => (s.pre enc C.prog fn conds apart w args ∧ X w args) ∧ sizedMet enc C.prog fn (OpenSpec.ofChange s) apart w args) (s.post enc C.prog fn apart fresh handsOn again) := by
  refine returnsInHanded_of_calls own started noInit witness ?_
  intro w tape i _ hsh _ hok hpre hholds
  obtain ⟨_, _, _, fn', hfn', _, _, _, _, hval⟩ := hok
  have e : fn' = fn := Option.some.inj (hfn'.symm.trans hfn)
  subst e
  obtain ⟨⟨⟨ds, gs, before, hw, hc⟩, hx⟩, hz⟩ := hpre
  have hw' := DataW.Whole.of_heap (w' := w.forCall tape i) (by rfl) hw
  refine (contract (w.forCall tape i) w.heap.size i.args ds gs before hval hw' hc (hz.weights hw) (hX _ _ _ (by rfl) hx) hsh hholds).mono fun e W' ⟨v, he, hp⟩ => ?_
  subst he
  exact ChangeSpec.post_blind hp

theorem wf_u32_bd {n : Int} (h : (Lit.int .u32 n).wf = true) : 0 ≤ n ∧ n ≤ 4294967295 := by
  have e1 : IntKind.u32.min = 0 := rfl
  have e2 : IntKind.u32.max = 4294967295 := rfl
  simp [Lit.wf] at h
  omega
/-- a number of 32 bits that came in -/
theorem u32_nat {n : Int} (h : (Lit.int .u32 n).wf = true) : ∃ s : Nat, n = (s : Int) ∧ s < 4294967296 := by
  have := wf_u32_bd h
  exact ⟨n.toNat, by omega, by omega⟩
/-- a row of ints that came in -/
theorem open_ints {H : Type} {enc : TypeId × Value → H} {w : World} {base : Nat} {spare : Nat → Bool} {held : Bool} {r : Reach} {b0 : Nat} {v : Value} {d : DataW H} {p : List MemPlace}
    (hv : Value.okWide Tryd.prog w r b0 23 v) (h : DataW.Trod enc Tryd.prog w base spare held 23 v d p) : ∃ a c, ∃ l : List Int, v = .slice a l.length c ∧ l.length ≤ maxLen ∧ InI w a l ∧ l.length ≤ c ∧ c ≤ maxLen := by
  obtain ⟨fuel, hf⟩ := h
  have hvk : ∃ a n c, v = .slice a n c := by
    unfold Value.okWide at hv
    simp only [Tryd.underlying23] at hv
    unfold Cell.okWide at hv
    cases v <;> simp [Cell.ok, Tryd.underlying23] at hv ⊢
  obtain ⟨a, n, c, rfl⟩ := hvk
  rcases open_slice1 Tryd.underlying23 (by kernel_rfl) hf with ⟨hcs, _⟩ | ⟨x, l, cp, m, f, V, D, Pl, hcs, hb, hl, hm, hmm, _, hi⟩
  · simp [Value.cells] at hcs
    obtain ⟨rfl, rfl, rfl⟩ := hcs
    exact ⟨none, 0, [], rfl, by unfold maxLen; simp, .inl rfl, Nat.le_refl _, Nat.zero_le _⟩
  · simp [Value.cells] at hcs
    obtain ⟨rfl, rfl, rfl⟩ := hcs
    have hlm : n ≤ m := by rw [hmm]; split <;> omega
    have key : ∀ i, i < n → ∃ z : Int, w.cell? (x.add i) = some (.int .i64 z) := by
      intro i hin
      obtain ⟨h1, h2⟩ := hi i (by omega)
      obtain ⟨z, hz, _, _⟩ := DataW.trod_int Tryd.underlying3 h2
      simp only [List.cons.injEq, and_true] at hz
      exact ⟨z, by rw [h1, hz]⟩
    refine ⟨some x, c, (List.range n).map fun i => if h : i < n then (key i h).choose else 0, by simp, by simp; omega, ?_, by simp; omega, by omega⟩
    by_cases h0 : n = 0
    · subst h0
      exact .inl rfl
    obtain ⟨xb, xo, xk⟩ := x
    have hlt : xb < w.heap.size := by
      obtain ⟨z, hz⟩ := key 0 (by omega)
      rcases Nat.lt_or_ge xb w.heap.size with h' | h'
      · exact h'
      · simp [World.cell?, Addr.add, Array.getElem?_eq_none h'] at hz
    obtain ⟨z0, hz0⟩ := key 0 (by omega)
    have hk : xk = none := by simpa [Addr.add] using World.cell?_spot hz0
    subst hk
    refine .inr ⟨xb, xo, rfl, hlt, fun j hj => ?_⟩
    have hj' : j < n := by simpa using hj
    have := (key j hj').choose_spec
    rw [List.getElem_map, List.getElem_range, dif_pos hj']
    generalize (key j hj').choose = z at this ⊢
    rw [Addr.add_lit] at this
    exact this
end Go.Proofs.YtmikhngmclngiaaDoor
