/-
  What the rows' condition on the package-level variables gives the walks.
-/
import Derived.Test.YtcgdgopjomilnaaDoorSee
import Derived.Test.YtcgdgopjomilnaaDoorRows
import Derived.LaidLaws
import Derived.Lib.LaidTab
import Derived.FnData
import Derived.Shelf.Vars
import Derived.ProofKit
namespace Go.Proofs.YtcgdgopjomilnaaDoor
open Go Go.RowKit

theorem laid_split {P : Program} {W : World} : ∀ {l : List (String × DataW Unit)} {ps : List MemPlace}, DataW.LaidVars P W l ps →
    ∃ qs : List (List MemPlace), ps = qs.flatten ∧ ∀ (i : Nat) (n : String) (d : DataW Unit), l[i]? = some (n, d) → ∃ g t cs fuel p, P.globalNamed n = some g ∧ (P.globals[g]?).map (·.type) = some t ∧ W.var? P n = some cs ∧
      DataW.trod (fun _ => ()) P W 0 (fun _ => true) false fuel t cs.toList = some (d, p) ∧ qs[i]? = some (MemPlace.row ⟨g, 0, none⟩ cs.size ++ p)
  | [], ps, h => ⟨[], by cases h; rfl, fun i n d hi => by simp at hi⟩
  | (n0, d0) :: r, ps, h => by
    obtain ⟨g, t, cs, fuel, p, q, h1, h2, h3, h4, h5, rfl⟩ := h
    obtain ⟨qs, rfl, hq⟩ := laid_split h5
    refine ⟨(MemPlace.row ⟨g, 0, none⟩ cs.size ++ p) :: qs, by simp, fun i n d hi => ?_⟩
    cases i with
    | zero =>
      simp only [List.getElem?_cons_zero, Option.some.injEq, Prod.mk.injEq] at hi
      obtain ⟨rfl, rfl⟩ := hi
      exact ⟨g, t, cs, fuel, p, h1, h2, h3, h4, rfl⟩
    | succ i => exact hq i n d (by simpa using hi)

theorem flatten_apart {α : Type} {qs : List (List α)} (h : qs.flatten.Nodup) {i j : Nat} {a b : List α} (hi : qs[i]? = some a) (hj : qs[j]? = some b) (hne : i ≠ j) {x : α} (ha : x ∈ a) (hb : x ∈ b) : False := by
  have hp := (List.pairwise_flatten.1 h).2
  rw [List.pairwise_iff_getElem] at hp
  obtain ⟨li, rfl⟩ := List.getElem?_eq_some_iff.1 hi
  obtain ⟨lj, rfl⟩ := List.getElem?_eq_some_iff.1 hj
  rcases Nat.lt_or_gt_of_ne hne with h | h
  · exact hp i j li lj h x ha x hb rfl
  · exact hp j i lj li h x hb x ha rfl

abbrev sentD1 (text : List UInt8) : DataW Unit := .iface "*errors.errorString" (.ptr (.agg [.lit (.string text)]))
/-- The i-th listed variable is the sentinel in variable g. -/
def SentAt (l : List (String × DataW Unit)) (i g : Nat) : Prop := ∃ n text, l[i]? = some (n, sentD1 text) ∧ Tryd.prog.globalNamed n = some g ∧ (Tryd.prog.globals[g]?).map (·.type) = some 28

theorem es_cells : Tryd.prog.cellsOf 134 = 1 := by kernel_rfl
theorem str_cells : Tryd.prog.cellsOf 9 = 1 := by kernel_rfl
theorem es_star : "*" ++ "errors.errorString" = "*errors.errorString" := by decide
theorem es_row (u : TypeId) (h : Tryd.prog.typeName? 3 u = some "*errors.errorString") : u = 132 :=
  typeName_ptr_named (nm := "errors.errorString") (by rw [es_star]; kernel_rfl) (by kernel_rfl) (by decide) u (by rw [es_star]; exact h)

structure LaidOk (l : List (String × DataW Unit)) : Prop where
  sents : ∀ c, 101 ≤ c → c ≤ 121 → SentAt l (c - 95) (gE c)
  rng : SentAt l 4 24 ∧ l[4]?.map (·.1) = some "strconv.ErrRange"
  syn : SentAt l 5 23 ∧ l[5]?.map (·.1) = some "strconv.ErrSyntax"
  pow : l[2]? = some ("internal/strconv.uint64pow10", Lib.tabData .u64 Lib.pow10Tab)
  last : ∃ d, l[3]? = some ("unicode/utf8.acceptRanges", d)

set_option maxRecDepth 100000 in
theorem gw_of_laid {l : List (String × DataW Unit)} (ok : LaidOk l) {W : World} (h : laidMet Tryd.prog l W) (hs : W.ShapedOpen Tryd.prog) : ∃ E, GW W E := by
  obtain ⟨ps, hv, hnd, hrows⟩ := h
  obtain ⟨qs, rfl, hq⟩ := laid_split hv
  have one : ∀ i g, SentAt l i g → ∃ (a : Addr) (q : List MemPlace) (n : String), W.cell? ⟨g, 0, none⟩ = some (.iface 132 (.pointer (some a))) ∧ (∃ cs t, W.heap[a.block]? = some (.cells cs t (0, 0))) ∧
      qs[i]? = some q ∧ MemPlace.cell a.block a.off ∈ q ∧ l[i]?.map (·.1) = some n ∧ W.var? Tryd.prog n = some #[.iface 132 (.pointer (some a))] := by
    rintro i g ⟨n, text, hl, hg, ht⟩
    obtain ⟨g', t, cs, fuel, p, hg', ht', hvar, htrod, hqi⟩ := hq i n _ hl
    obtain rfl := Option.some.inj (hg.symm.trans hg')
    obtain rfl := Option.some.inj (ht.symm.trans ht')
    have hin : ∀ x ∈ MemPlace.row ⟨g, 0, none⟩ cs.size ++ p, x ∈ qs.flatten := fun x hx => List.mem_flatten.2 ⟨_, List.mem_of_getElem? hqi, hx⟩
    obtain ⟨cl⟩ := cs
    have ok0 : ∀ u v, cl = [.iface u v] → Value.okWide Tryd.prog W .any 0 u v := fun u v e => by
      subst e
      exact (hrows g 0 (hin _ (by simp [MemPlace.row]))).2 u v (by simpa using World.var?_cell hg hvar 0)
    obtain ⟨a, s, rfl, hc, _, _, rfl⟩ := errorString_of_trod Tryd.underlying28 es_row Tryd.underlying132 Tryd.underlying134 rfl rfl Tryd.underlying9 es_cells str_cells htrod ok0
    have hmem : MemPlace.cell a.block a.off ∈ MemPlace.row ⟨g, 0, none⟩ 1 ++ MemPlace.row a 1 := List.mem_append_right _ (by simp [MemPlace.row])
    exact ⟨a, _, n, by simpa using World.var?_cell hg hvar 0, (hrows _ _ (hin _ hmem)).1, hqi, hmem, by simp [hl], hvar⟩
  have all : ∀ c, ∃ a : Addr, 101 ≤ c → c ≤ 121 → ∃ q, W.cell? ⟨gE c, 0, none⟩ = some (.iface 132 (.pointer (some a))) ∧ (∃ cs t, W.heap[a.block]? = some (.cells cs t (0, 0))) ∧
      qs[c - 95]? = some q ∧ MemPlace.cell a.block a.off ∈ q := fun c => by
    by_cases hc : 101 ≤ c ∧ c ≤ 121
    · obtain ⟨a, q, n, h1, h2, h3, h4, _⟩ := one _ _ (ok.sents c hc.1 hc.2)
      exact ⟨a, fun _ _ => ⟨q, h1, h2, h3, h4⟩⟩
    · exact ⟨⟨0, 0, none⟩, fun h1 h2 => absurd ⟨h1, h2⟩ hc⟩
  obtain ⟨E, hE⟩ := Classical.axiomOfChoice all
  refine ⟨E, ?_, ?_, ?_, ?_, ?_, ?_, ?_, ?_⟩
  · obtain ⟨d, hl⟩ := ok.last
    obtain ⟨g, t, cs, fuel, p, hg, _, hvar, _, _⟩ := hq 3 _ _ hl
    obtain rfl := Option.some.inj ((by kernel_rfl : Tryd.prog.globalNamed "unicode/utf8.acceptRanges" = some 28).symm.trans hg)
    simp only [World.var?, hg, Option.bind_some] at hvar
    cases hh : W.heap[28]? with
    | none => rw [hh] at hvar; cases hvar
    | some o => exact (Array.getElem?_eq_some_iff.1 hh).1
  · exact cell_of_shapedOpen_int (zero := #[.int .i64 0]) (t := 3) hs (of_decide_eq_true (by kernel_rfl)) (by kernel_rfl) rfl (by kernel_rfl) (by kernel_rfl) Tryd.underlying3
  · intro c h1 h2
    obtain ⟨q, hc, _⟩ := hE c h1 h2
    rw [hc, errV_iface E h1]
  · intro c h1 h2
    obtain ⟨q, _, hb, _⟩ := hE c h1 h2
    exact hb
  · intro c d h1 h2 h3 h4 e
    obtain ⟨q, _, _, hq1, hm1⟩ := hE c h1 h2
    obtain ⟨r, _, _, hq2, hm2⟩ := hE d h3 h4
    refine Classical.byContradiction fun hne => flatten_apart hnd hq1 hq2 (by omega) hm1 (by rw [e]; exact hm2)
  · obtain ⟨g, t, cs, fuel, p, hg, ht, hvar, htrod, _⟩ := hq 2 _ _ ok.pow
    obtain rfl := Option.some.inj ((by kernel_rfl : Tryd.prog.globalNamed "internal/strconv.uint64pow10" = some 8).symm.trans hg)
    obtain rfl := Option.some.inj ((by kernel_rfl : (Tryd.prog.globals[8]?).map (·.type) = some 115).symm.trans ht)
    have := Lib.cells_of_tab Tryd.underlying115 Tryd.underlying95 (by kernel_rfl) (by kernel_rfl) htrod
    unfold Lib.TabIs
    rw [hvar, ← this]
  · obtain ⟨a, q, n, _, _, _, _, hn, hvar⟩ := one _ _ ok.syn.1
    obtain rfl := Option.some.inj (ok.syn.2.symm.trans hn)
    exact ⟨_, _, hvar⟩
  · obtain ⟨a, q, n, _, _, _, _, hn, hvar⟩ := one _ _ ok.rng.1
    obtain rfl := Option.some.inj (ok.rng.2.symm.trans hn)
    exact ⟨_, _, hvar⟩

/-- The settled start's place of a row's proof: the wrap, with the world's shape kept. -/
theorem lifted_shaped {H : Type} {enc : TypeId × Value → H} {a : Assume} {C : Checked} {os : Os} {f : FuncId} {fn : Func} {s : ChangeSpec} {conds : List PathCond} {apart fresh handsOn again : Bool} {X : World → Array Value → Prop}
    (hX : ∀ (w w' : World) (args : Array Value), w.heap = w'.heap → X w args → X w' args)
    (own : ownKnob C.prog.godebug = none) (started : os.Started) (noInit : C.prog.inits.idxOf? f = none) (hfn : C.prog.funcs[f]? = some fn)
    (witness : ∃ (w : World) (tape : Tape) (i : Input), w.os = os ∧ (w.forCall tape i).Shaped C.prog ∧ i.vars = [] ∧ Input.okWide C.prog (w.forCall tape i) .any w.heap.size f i ∧
      ((s.pre enc C.prog fn conds apart (w.forCall tape i).memory i.args ∧ X (w.forCall tape i).memory i.args) ∧ sizedMet enc C.prog fn (OpenSpec.ofChange s) apart (w.forCall tape i).memory i.args) ∧ a.holds C.prog (lone (Frame.enter C.prog f i.args .normal) [] (w.forCall tape i)))
    (contract : ∀ (W : World) (base : Nat) (args : Array Value) (ds gs : List (DataW H)) (before : List MemPlace),
      (∀ (j : Nat) t v, fn.params[j]? = some t → args[j]? = some v → Value.okWide C.prog W .any base t v) →
      DataW.Whole enc C.prog fn.params.toList s.vars apart W args.toList ds gs before →
      W.ShapedOpen C.prog → X W args →
      Calls C.prog f args W fun e W' => ∃ v, e = .returned v ∧ s.post enc C.prog fn apart fresh handsOn again W args v W') :
    ReturnsInHanded a C os f .any (fun w args => (s.pre enc C.prog fn conds apart w args ∧ X w args) ∧ sizedMet enc C.prog fn (OpenSpec.ofChange s) apart w args) (s.post enc C.prog fn apart fresh handsOn again) := by
  refine returnsInHanded_of_calls own started noInit witness ?_
  intro w tape i _ hsh _ hok hpre _
  obtain ⟨_, _, _, fn', hfn', _, _, _, _, hval⟩ := hok
  have e : fn' = fn := Option.some.inj (hfn'.symm.trans hfn)
  subst e
  obtain ⟨⟨⟨ds, gs, before, hw, _⟩, hx⟩, _⟩ := hpre
  have hw' := DataW.Whole.of_heap (w' := w.forCall tape i) (by rfl) hw
  refine (contract (w.forCall tape i) w.heap.size i.args ds gs before hval hw' hsh (hX _ _ _ (by rfl) hx)).mono fun e W' ⟨v, he, hp⟩ => ?_
  subst he
  exact ChangeSpec.post_blind hp
end Go.Proofs.YtcgdgopjomilnaaDoor
