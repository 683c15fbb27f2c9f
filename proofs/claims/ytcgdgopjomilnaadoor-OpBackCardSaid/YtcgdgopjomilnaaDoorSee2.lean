/-
  Faults as plain data: told of an error, held against one another.
-/
import Derived.Test.YtcgdgopjomilnaaDoorSee
import Derived.Deep.QuietTactic
import Derived.BigQuiet
import Derived.Deep.RegionHeld3
namespace Go.Proofs.YtcgdgopjomilnaaDoor
open Go Go.RowKit

abbrev fv (c : Int) (p : Bool) (x : Int) : Value := .agg #[.int .i64 c, .bool p, .int .i64 x]

theorem bare_any (c : Int) (w : World) :
    Calls Tryd.prog 26 #[.int .i64 c] w fun e w' => e = .returned (fv c false 0) ∧ w.alloc (.cells #[.int .i64 c, .bool false, .int .i64 0] 43) = w' := by
  go_enter Tryd.func26, Tryd.ntmps26
  go_wp2
  go_returns
  exact ⟨rfl, rfl⟩
theorem none_any (w : World) :
    Calls Tryd.prog 38 #[] w fun e w' => e = .returned (fv 0 false 0) ∧ w.alloc (.cells #[.int .i64 0, .bool false, .int .i64 0] 43) = w' := by
  go_enter Tryd.func38, Tryd.ntmps38
  go_wp2
  go_returns
  exact ⟨rfl, rfl⟩
theorem placed_any (c x : Int) (hc : 0 < c) (w : World) :
    Calls Tryd.prog 15 #[.int .i64 c, .int .i64 x] w fun e w' => e = .returned (fv c true x) ∧ w.alloc (.cells #[.int .i64 c, .bool true, .int .i64 x] 43) = w' := by
  have h : (c == 0) = false := by simp; omega
  go_enter Tryd.func15, Tryd.ntmps15
  go_wp2
  go_returns
  exact ⟨rfl, rfl⟩
theorem sameFault_any (c : Int) (p : Bool) (x : Int) (c' : Int) (p' : Bool) (x' : Int) (w : World) :
    Calls Tryd.prog 36 #[fv c p x, fv c' p' x'] w fun e w' => e = .returned (.bool (c == c' && p == p' && x == x')) ∧ Below w.heap.size w w' := by
  cases h1 : c == c'
  · go_enter Tryd.func36, Tryd.ntmps36
    go_wp2
    go_returns
    exact ⟨rfl, (later_alloc _ _).alloc (by simp) _⟩
  · cases h2 : p == p'
    · go_enter Tryd.func36, Tryd.ntmps36
      go_wp2
      go_returns
      exact ⟨rfl, (later_alloc _ _).alloc (by simp) _⟩
    · go_enter Tryd.func36, Tryd.ntmps36
      go_wp2
      go_returns
      exact ⟨rfl, (later_alloc _ _).alloc (by simp) _⟩

theorem sentinel_i {w : World} {E : Nat → Addr} (g : GW w E) (c : Nat) (h1 : 101 ≤ c) (h2 : c ≤ 121) :
    Calls Tryd.prog 51 #[.iface 132 (.pointer (some (E c)))] w fun e w' => e = .returned (.int .i64 c) ∧ w.alloc (.cells (sentD E) 28) = w' := by
  rw [← errV_iface E h1]; exact sentinel_any g c h1 h2
theorem ta_es (a : Addr) (w : World) : (Instr.typeAssert (.iface 132 (.pointer (some a))) 28 65 true).run Tryd.prog w = .ok (.tuple #[.pointer none, .bool false]) w := by kernel_rfl
theorem ta_at (a : Addr) (w : World) : (Instr.typeAssert (.iface 65 (.pointer (some a))) 28 65 true).run Tryd.prog w = .ok (.tuple #[.pointer (some a), .bool true]) w := by kernel_rfl
set_option maxRecDepth 100000 in
set_option maxHeartbeats 1000000 in
theorem fault_any {w : World} {E : Nat → Addr} (g : GW w E) (v : Value) (e : Er) (h : IsErr w E v e) :
    Calls Tryd.prog 37 #[v] w fun r w' => r = .returned (fv e.num e.placed e.pos) ∧ Below w.heap.size w w' := by
  cases e with
  | none =>
    have hv : v = .nilIface := h
    subst hv
    go_enter Tryd.func37, Tryd.ntmps37
    go_wp2_with (go_at_call 38; refine (none_any _).mono ?_; rintro e w1 ⟨rfl, rfl⟩)
    go_returns
    exact ⟨rfl, by go_grown⟩
  | code c =>
    obtain ⟨⟨h1, h2⟩, rfl⟩ := h
    have g1 := g.alloc (.cells #[.int .i64 0, .bool false, .int .i64 0] 43)
    have hs := sentinel_any g1 c h1 h2
    rw [errV_iface E h1] at hs ⊢
    have ht := ta_es
    go_enter Tryd.func37, Tryd.ntmps37
    go_wp2_with (first | (go_at_call 51; refine hs.mono ?_; rintro e w1 ⟨rfl, rfl⟩) | (go_at_call 26; refine (bare_any _ _).mono ?_; rintro e w1 ⟨rfl, rfl⟩))
    go_returns
    exact ⟨rfl, by go_grown⟩
  | «at» p c =>
    obtain ⟨⟨h1, h2⟩, b, rfl, hb⟩ := h
    have hbl := hb.lt
    have c0 : w.cell? ⟨b, 0, none⟩ = some (.int .i64 p) := hb.cell 0
    have c1 : w.cell? ⟨b, 1, none⟩ = some (errV E c) := hb.cell 1
    rw [errV_iface E h1] at c1
    have g1 := g.alloc (.cells #[.int .i64 0, .bool false, .int .i64 0] 43)
    have hs := sentinel_any g1 c h1 h2
    rw [errV_iface E h1] at hs
    have ht := ta_at
    go_enter Tryd.func37, Tryd.ntmps37
    go_wp2_with fail
    have hp : (0 : Int) < (c : Int) := by omega
    obtain ⟨hm1, hm2, hm3, hm4⟩ := lt_more hbl
    go_region_held3 (fun W => W.cell? ⟨b, 0, none⟩ = some (.int .i64 p) ∧ W.cell? ⟨b, 1, none⟩ = some (.iface 132 (.pointer (some (E c)))))
      ((refine ⟨Later.cell (w := w) ?_ c0, Later.cell (w := w) ?_ c1⟩ <;> go_grown))
      (first | (go_at_call 51; refine (sentinel_i (E := E) ?_ c h1 h2).mono ?_; (repeat (first | assumption | refine GW.drew ?_ | refine GW.alloc ?_ _)); rintro e w' ⟨rfl, rfl⟩) | (go_at_call 15; refine (placed_any _ _ hp _).mono ?_; rintro e w' ⟨rfl, rfl⟩))
    all_goals (go_wp2; go_returns; exact ⟨rfl, by go_grown⟩)

/-- Is this the fault of this error? -/
def sameF (e : Er) (c : Int) (p : Bool) (x : Int) : Bool := ((e.num : Int) == c) && (e.placed == p) && (e.pos == x)

set_option maxRecDepth 100000 in
set_option maxHeartbeats 1000000 in
theorem same_any {w : World} {E : Nat → Addr} (g : GW w E) (v : Value) (e : Er) (h : IsErr w E v e) (c : Int) (p : Bool) (x : Int) :
    Calls Tryd.prog 14 #[v, fv c p x] w fun r w' => r = .returned (.bool (sameF e c p x)) ∧ Below w.heap.size w w' := by
  have g1 := g.alloc (.cells #[.int .i64 c, .bool p, .int .i64 x] 43)
  have h1 := h.later (later_alloc w (.cells #[.int .i64 c, .bool p, .int .i64 x] 43))
  have hB := Blk.new w 43 #[.int .i64 c, .bool p, .int .i64 x]
  generalize hW : w.alloc (.cells #[.int .i64 c, .bool p, .int .i64 x] 43) = W at g1 h1 hB
  have hbw : Below w.heap.size w W := by rw [← hW]; exact later_alloc _ _
  have HW := Lib.hid hW
  clear hW
  have c0 : W.cell? ⟨w.heap.size, 0, none⟩ = some (.int .i64 c) := hB.cell 0
  have c1 : W.cell? ⟨w.heap.size, 1, none⟩ = some (.bool p) := hB.cell 1
  have c2 : W.cell? ⟨w.heap.size, 2, none⟩ = some (.int .i64 x) := hB.cell 2
  go_enter Tryd.func14, Tryd.ntmps14
  go_wp2_with fail
  rw [HW.out]
  go_region_held3 (fun W' => W'.cell? ⟨w.heap.size, 0, none⟩ = some (.int .i64 c) ∧ W'.cell? ⟨w.heap.size, 1, none⟩ = some (.bool p) ∧ W'.cell? ⟨w.heap.size, 2, none⟩ = some (.int .i64 x))
    ((first | exact ⟨c0, c1, c2⟩ | (go_split_ands; refine ⟨Later.cell (by assumption) ?_, Later.cell (by assumption) ?_, Later.cell (by assumption) ?_⟩ <;> assumption)))
    (first | (go_at_call 37; refine (fault_any (E := E) ?_ v e ?_).mono ?_; exact g1.drew; exact h1.later (Below.drew (Below.refl _ _)); rintro r w1 ⟨rfl, hb1⟩) | (go_at_call 36; refine (sameFault_any _ _ _ _ _ _ _).mono ?_; rintro r w2 ⟨rfl, hb2⟩))
  all_goals (go_wp2; go_returns; exact ⟨rfl, Later.trans hbw (Later.trans (Below.drew (Below.refl _ _)) (Later.trans hb1 hb2))⟩)

theorem isErr_any {w : World} {E : Nat → Addr} (g : GW w E) (v : Value) (e : Er) (h : IsErr w E v e) (c : Int) :
    Calls Tryd.prog 9 #[v, .int .i64 c] w fun r w' => r = .returned (.bool (sameF e c false 0)) ∧ Below w.heap.size w w' := by
  have g1 := g.alloc (.cells #[.int .i64 c, .bool false, .int .i64 0] 43)
  have h1 := h.later (later_alloc w (.cells #[.int .i64 c, .bool false, .int .i64 0] 43))
  go_enter Tryd.func9, Tryd.ntmps9
  go_wp2_with (first | (go_at_call 26; refine (bare_any _ _).mono ?_; rintro e w1 ⟨rfl, rfl⟩) | (go_at_call 14; refine (same_any g1 v e h1 c false 0).mono ?_; rintro r w2 ⟨rfl, hb2⟩))
  go_returns
  exact ⟨rfl, Later.trans (later_alloc _ _) hb2⟩
end Go.Proofs.YtcgdgopjomilnaaDoor
