/-
  An operation by value, read as data: opened, and shut again in whatever world.
-/
import Derived.Test.YtcgdgopjomilnaaDoorOp1
import Derived.Lib.SmallJoins
import Derived.ChangeArms
import Derived.ChangeSame
namespace Go.Proofs.YtcgdgopjomilnaaDoor
open Go Go.RowKit Go.ChangeShapes Go.WideShapes Go.ChangeAt Go.Joins Go.Deep

section
variable {H : Type} {enc : TypeId × Value → H} {P : Program} {w : World} {base : Nat} {spare : Nat → Bool} {held : Bool}
theorem open_agg8 {r : Reach} {b0 : Nat} {t : TypeId} {f0 f1 f2 f3 f4 f5 f6 f7 : Field} {v : Value} {d : DataW H} {p : List MemPlace} (hs : P.underlying t = some (.struct #[f0, f1, f2, f3, f4, f5, f6, f7])) (hone : oneCellFields P #[f0, f1, f2, f3, f4, f5, f6, f7] = true) (hC : P.cellsOf t = 8)
    (hv : Value.okWide P w r b0 t v) (h : DataW.Trod enc P w base spare held t v d p) :
    ∃ (v0 v1 v2 v3 v4 v5 v6 v7 : Value) (y0 y1 y2 y3 y4 y5 y6 y7 : DataW H × List MemPlace) (n : Nat), v = .agg #[v0, v1, v2, v3, v4, v5, v6, v7] ∧ d = .agg [y0.1, y1.1, y2.1, y3.1, y4.1, y5.1, y6.1, y7.1] ∧ p = [y0.2, y1.2, y2.2, y3.2, y4.2, y5.2, y6.2, y7.2].flatten ∧
      DataW.trod enc P w base spare held n f0.type [v0] = some y0 ∧ DataW.trod enc P w base spare held n f1.type [v1] = some y1 ∧ DataW.trod enc P w base spare held n f2.type [v2] = some y2 ∧ DataW.trod enc P w base spare held n f3.type [v3] = some y3 ∧ DataW.trod enc P w base spare held n f4.type [v4] = some y4 ∧ DataW.trod enc P w base spare held n f5.type [v5] = some y5 ∧ DataW.trod enc P w base spare held n f6.type [v6] = some y6 ∧ DataW.trod enc P w base spare held n f7.type [v7] = some y7 := by
  obtain ⟨cs, rfl, hsz⟩ := okWide_struct hs hv
  obtain ⟨l⟩ := cs
  match l, hsz.trans hC with
  | [c0, c1, c2, c3, c4, c5, c6, c7], _ =>
    obtain ⟨fuel, hf⟩ := h
    obtain ⟨xs, n, _, hx, _, hlen, hg⟩ := DataW.trod_struct hs hf
    obtain ⟨o0, k0⟩ := hone_of hone 0 f0 rfl
    obtain ⟨o1, k1⟩ := hone_of hone 1 f1 rfl
    obtain ⟨o2, k2⟩ := hone_of hone 2 f2 rfl
    obtain ⟨o3, k3⟩ := hone_of hone 3 f3 rfl
    obtain ⟨o4, k4⟩ := hone_of hone 4 f4 rfl
    obtain ⟨o5, k5⟩ := hone_of hone 5 f5 rfl
    obtain ⟨o6, k6⟩ := hone_of hone 6 f6 rfl
    obtain ⟨o7, k7⟩ := hone_of hone 7 f7 rfl
    match xs, hlen with
    | [y0, y1, y2, y3, y4, y5, y6, y7], _ =>
      simp only [Prod.mk.injEq] at hx
      exact ⟨c0, c1, c2, c3, c4, c5, c6, c7, y0, y1, y2, y3, y4, y5, y6, y7, n, rfl, by simpa using hx.1, by simpa using hx.2, by simpa [Value.cells, o0, k0] using hg 0 f0 rfl, by simpa [Value.cells, o1, k1] using hg 1 f1 rfl, by simpa [Value.cells, o2, k2] using hg 2 f2 rfl, by simpa [Value.cells, o3, k3] using hg 3 f3 rfl, by simpa [Value.cells, o4, k4] using hg 4 f4 rfl, by simpa [Value.cells, o5, k5] using hg 5 f5 rfl, by simpa [Value.cells, o6, k6] using hg 6 f6 rfl, by simpa [Value.cells, o7, k7] using hg 7 f7 rfl⟩
theorem shut_agg8 {t : TypeId} {f0 f1 f2 f3 f4 f5 f6 f7 : Field} {v0 v1 v2 v3 v4 v5 v6 v7 : Value} {y0 y1 y2 y3 y4 y5 y6 y7 : DataW H × List MemPlace} (hs : P.underlying t = some (.struct #[f0, f1, f2, f3, f4, f5, f6, f7])) (hone : oneCellFields P #[f0, f1, f2, f3, f4, f5, f6, f7] = true) (hC : P.cellsOf t = 8) (n : Nat)
    (t0 : DataW.trod enc P w base spare held n f0.type [v0] = some y0) (t1 : DataW.trod enc P w base spare held n f1.type [v1] = some y1) (t2 : DataW.trod enc P w base spare held n f2.type [v2] = some y2) (t3 : DataW.trod enc P w base spare held n f3.type [v3] = some y3) (t4 : DataW.trod enc P w base spare held n f4.type [v4] = some y4) (t5 : DataW.trod enc P w base spare held n f5.type [v5] = some y5) (t6 : DataW.trod enc P w base spare held n f6.type [v6] = some y6) (t7 : DataW.trod enc P w base spare held n f7.type [v7] = some y7) :
    DataW.Trod enc P w base spare held t (.agg #[v0, v1, v2, v3, v4, v5, v6, v7]) (.agg [y0.1, y1.1, y2.1, y3.1, y4.1, y5.1, y6.1, y7.1]) [y0.2, y1.2, y2.2, y3.2, y4.2, y5.2, y6.2, y7.2].flatten := by
  obtain ⟨o0, k0⟩ := hone_of hone 0 f0 rfl
  obtain ⟨o1, k1⟩ := hone_of hone 1 f1 rfl
  obtain ⟨o2, k2⟩ := hone_of hone 2 f2 rfl
  obtain ⟨o3, k3⟩ := hone_of hone 3 f3 rfl
  obtain ⟨o4, k4⟩ := hone_of hone 4 f4 rfl
  obtain ⟨o5, k5⟩ := hone_of hone 5 f5 rfl
  obtain ⟨o6, k6⟩ := hone_of hone 6 f6 rfl
  obtain ⟨o7, k7⟩ := hone_of hone 7 f7 rfl
  have := trod_struct_mk (enc := enc) (w := w) (base := base) (spare := spare) (held := held) (n := n) (cs := [v0, v1, v2, v3, v4, v5, v6, v7]) (xs := [y0, y1, y2, y3, y4, y5, y6, y7]) hs (by simp [hC]) (by simp [*])
  exact ⟨_, by simpa [Value.cells] using this⟩
end

section
variable {H : Type} {enc : TypeId × Value → H} {w : World} {base : Nat} {spare : Nat → Bool} {held : Bool}
theorem op_cells : Tryd.prog.cellsOf 26 = 8 := by kernel_rfl
theorem i64_cells : Tryd.prog.cellsOf 2 = 1 := by kernel_rfl
def opD (o : O) : DataW H := .agg [.lit (.int .i64 o.ID), .lit (.int .i64 o.K), .lit (.int .i64 o.A), .lit (.int .i64 o.B), .lit (.int .i64 o.C), .lit (.int .i64 o.D), .lit (.int .i64 o.N), .lit (.int .i64 o.M)]
/-- The numbers of an operation are of their kind. -/
def opWf (o : O) : Prop := (Lit.int .i64 o.ID).wf = true ∧ (Lit.int .i64 o.K).wf = true ∧ (Lit.int .i64 o.A).wf = true ∧ (Lit.int .i64 o.B).wf = true ∧ (Lit.int .i64 o.C).wf = true ∧ (Lit.int .i64 o.D).wf = true ∧ (Lit.int .i64 o.N).wf = true ∧ (Lit.int .i64 o.M).wf = true
set_option maxRecDepth 100000 in
theorem open_op {r : Reach} {b0 : Nat} {v : Value} {d : DataW H} {p : List MemPlace} (hv : Value.okWide Tryd.prog w r b0 26 v) (h : DataW.Trod enc Tryd.prog w base spare held 26 v d p) :
    ∃ o : O, v = o.v ∧ d = opD o ∧ p = [] ∧ opWf o := by
  obtain ⟨v0, v1, v2, v3, v4, v5, v6, v7, y0, y1, y2, y3, y4, y5, y6, y7, n, rfl, rfl, rfl, h0, h1, h2, h3, h4, h5, h6, h7⟩ := open_agg8 Tryd.underlying26 (by kernel_rfl) op_cells hv h
  obtain ⟨x0, e0, rfl, w0⟩ := DataW.trod_int Tryd.underlying2 h0
  obtain ⟨x1, e1, rfl, w1⟩ := DataW.trod_int Tryd.underlying3 h1
  obtain ⟨x2, e2, rfl, w2⟩ := DataW.trod_int Tryd.underlying3 h2
  obtain ⟨x3, e3, rfl, w3⟩ := DataW.trod_int Tryd.underlying3 h3
  obtain ⟨x4, e4, rfl, w4⟩ := DataW.trod_int Tryd.underlying3 h4
  obtain ⟨x5, e5, rfl, w5⟩ := DataW.trod_int Tryd.underlying3 h5
  obtain ⟨x6, e6, rfl, w6⟩ := DataW.trod_int Tryd.underlying2 h6
  obtain ⟨x7, e7, rfl, w7⟩ := DataW.trod_int Tryd.underlying2 h7
  simp at e0 e1 e2 e3 e4 e5 e6 e7
  subst e0 e1 e2 e3 e4 e5 e6 e7
  exact ⟨⟨x0, x1, x2, x3, x4, x5, x6, x7⟩, rfl, rfl, rfl, w0, w1, w2, w3, w4, w5, w6, w7⟩
set_option maxRecDepth 100000 in
theorem shut_op (o : O) (h : opWf o) : DataW.Trod enc Tryd.prog w base spare held 26 o.v (opD o) [] := by
  obtain ⟨w0, w1, w2, w3, w4, w5, w6, w7⟩ := h
  exact shut_agg8 (y0 := (.lit (.int .i64 o.ID), [])) (y1 := (.lit (.int .i64 o.K), [])) (y2 := (.lit (.int .i64 o.A), [])) (y3 := (.lit (.int .i64 o.B), [])) (y4 := (.lit (.int .i64 o.C), [])) (y5 := (.lit (.int .i64 o.D), [])) (y6 := (.lit (.int .i64 o.N), [])) (y7 := (.lit (.int .i64 o.M), [])) Tryd.underlying26 (by kernel_rfl) op_cells 1 (by simp [DataW.trod, Tryd.underlying2, w0]) (by simp [DataW.trod, Tryd.underlying3, w1]) (by simp [DataW.trod, Tryd.underlying3, w2]) (by simp [DataW.trod, Tryd.underlying3, w3]) (by simp [DataW.trod, Tryd.underlying3, w4]) (by simp [DataW.trod, Tryd.underlying3, w5]) (by simp [DataW.trod, Tryd.underlying2, w6]) (by simp [DataW.trod, Tryd.underlying2, w7])
end
end Go.Proofs.YtcgdgopjomilnaaDoor
