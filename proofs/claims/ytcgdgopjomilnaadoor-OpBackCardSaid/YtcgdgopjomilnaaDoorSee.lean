/-
  The package-level variables as the laws find them, and errors as values.
-/
import Derived.Test.YtcgdgopjomilnaaDoorMem
import Derived.Test.YtcgdgopjomilnaaDoorShelf
import Derived.LaidEql
namespace Go.Proofs.YtcgdgopjomilnaaDoor
open Go Go.RowKit

/-- The place of the variable of a sentinel's number. -/
def gE : Nat → Nat | 101 => 6 | 102 => 3 | 103 => 4 | 104 => 9 | 105 => 2 | 106 => 10 | 107 => 11 | 108 => 12 | 109 => 13 | 110 => 14 | 111 => 5 | 112 => 15 | 113 => 16 | 114 => 17 | 115 => 18 | 116 => 19 | 117 => 20 | 118 => 0 | 119 => 1 | 120 => 21 | 121 => 22 | _ => 0
/-- A sentinel as a value: its number; 0: none. -/
def errV (E : Nat → Addr) (c : Nat) : Value := if c = 0 then .nilIface else .iface 132 (.pointer (some (E c)))

/-- What the listed variables hold. E: where the sentinels lie. -/
structure GW (w : World) (E : Nat → Addr) : Prop where
  size : 29 ≤ w.heap.size
  maxlen : ∃ m, w.cell? ⟨7, 0, none⟩ = some (.int .i64 m)
  err : ∀ c, 101 ≤ c → c ≤ 121 → w.cell? ⟨gE c, 0, none⟩ = some (errV E c)
  blk : ∀ c, 101 ≤ c → c ≤ 121 → ∃ cs t, w.heap[(E c).block]? = some (.cells cs t (0, 0))
  inj : ∀ c d, 101 ≤ c → c ≤ 121 → 101 ≤ d → d ≤ 121 → E c = E d → c = d
  pow10 : Lib.TabIs Tryd.prog w "internal/strconv.uint64pow10" .u64 Lib.pow10Tab
  syn : ∃ tp p, w.var? Tryd.prog "strconv.ErrSyntax" = some #[.iface tp p]
  rng : ∃ tp p, w.var? Tryd.prog "strconv.ErrRange" = some #[.iface tp p]

theorem GW.later {w w' : World} {E : Nat → Addr} (g : GW w E) (hb : Below w.heap.size w w') : GW w' E where
  size := Nat.le_trans g.size hb.size
  maxlen := g.maxlen.imp fun _ h => Later.cell hb h
  err := fun c h1 h2 => Later.cell hb (g.err c h1 h2)
  blk := fun c h1 h2 => (g.blk c h1 h2).imp fun cs h => h.imp fun t h => (hb.block _ (Array.getElem?_eq_some_iff.1 h).1).trans h
  inj := g.inj
  pow10 := var?_below hb (by kernel_rfl : Tryd.prog.globalNamed "internal/strconv.uint64pow10" = some 8) (by have := g.size; omega) g.pow10
  syn := g.syn.imp fun _ h => h.imp fun _ h => var?_below hb (by kernel_rfl : Tryd.prog.globalNamed "strconv.ErrSyntax" = some 23) (by have := g.size; omega) h
  rng := g.rng.imp fun _ h => h.imp fun _ h => var?_below hb (by kernel_rfl : Tryd.prog.globalNamed "strconv.ErrRange" = some 24) (by have := g.size; omega) h
theorem GW.lo {w : World} {E : Nat → Addr} (g : GW w E) : ∀ b, b < 29 → b < w.heap.size := fun b h => by have := g.size; omega
theorem GW.alloc {w : World} {E : Nat → Addr} (g : GW w E) (o : Obj) : GW (w.alloc o) E := g.later (later_alloc w o)
theorem GW.drewN {w : World} {E : Nat → Addr} (g : GW w E) (n : Nat) : GW (w.drewN n) E := g.later (below_drewN (Below.refl _ _) n)
theorem GW.drew {w : World} {E : Nat → Addr} (g : GW w E) : GW w.drew E := g.later (Below.drew (Below.refl _ _))

/-- An error as data: none, a sentinel, one with a place. -/
inductive Er | none | code (c : Nat) | at (pos : Int) (c : Nat)
def Er.num : Er → Nat | .none => 0 | .code c => c | .at _ c => c
def Er.placed : Er → Bool | .at _ _ => true | _ => false
def Er.pos : Er → Int | .at p _ => p | _ => 0
/-- A value holds this error. -/
def IsErr (w : World) (E : Nat → Addr) (v : Value) : Er → Prop
  | .none => v = .nilIface
  | .code c => (101 ≤ c ∧ c ≤ 121) ∧ v = errV E c
  | .at p c => (101 ≤ c ∧ c ≤ 121) ∧ ∃ b, v = .iface 65 (.pointer (some ⟨b, 0, none⟩)) ∧ Blk w b 67 #[.int .i64 p, errV E c]
theorem IsErr.later {w w' : World} {E : Nat → Addr} {v : Value} {e : Er} (h : IsErr w E v e) (hb : Below w.heap.size w w') : IsErr w' E v e := by
  cases e with
  | none => exact h
  | code c => exact h
  | «at» p c => exact ⟨h.1, h.2.imp fun _ h => ⟨h.1, h.2.later hb⟩⟩

theorem info_es : (Tryd.prog.info? 132).map (·.comparable) = some true := by kernel_rfl
theorem size_es : (Tryd.prog.info? 134).map (·.size) = some 1 := by kernel_rfl
theorem eql_same (w : World) (E : Nat → Addr) (c : Nat) (h1 : 101 ≤ c) : (binOp .eql 28 (errV E c) (errV E c)).run Tryd.prog w = .ok (.bool true) w := by
  obtain ⟨i, hi, hc⟩ := Option.map_eq_some_iff.1 info_es
  obtain ⟨j, hj, _⟩ := Option.map_eq_some_iff.1 size_es
  unfold errV
  rw [if_neg (by omega)]
  exact run_eql_iface_ptr_same w _ Tryd.underlying28 Tryd.underlying132 hi hc hj
theorem eql_other {w : World} {E : Nat → Addr} (g : GW w E) {c d : Nat} (h1 : 101 ≤ c) (h2 : c ≤ 121) (h3 : 101 ≤ d) (h4 : d ≤ 121) (hne : c ≠ d) :
    (binOp .eql 28 (errV E c) (errV E d)).run Tryd.prog w = .ok (.bool false) w := by
  obtain ⟨i, hi, hc⟩ := Option.map_eq_some_iff.1 info_es
  obtain ⟨j, hj, hs⟩ := Option.map_eq_some_iff.1 size_es
  obtain ⟨_, _, hs1⟩ := g.blk c h1 h2
  obtain ⟨_, _, hs2⟩ := g.blk d h3 h4
  unfold errV
  rw [if_neg (by omega), if_neg (by omega)]
  exact run_eql_iface_ptr_other w Tryd.underlying28 Tryd.underlying132 hi hc hj (by rw [hs]; decide) (fun e => hne (g.inj c d h1 h2 h3 h4 e)) hs1 hs2

theorem errV_iface (E : Nat → Addr) {c : Nat} (h : 101 ≤ c) : errV E c = .iface 132 (.pointer (some (E c))) := by unfold errV; rw [if_neg (by omega)]

theorem alike_any {w : World} {E : Nat → Addr} (g : GW w E) (c d : Nat) (h1 : 101 ≤ c) (h2 : c ≤ 121) (h3 : 101 ≤ d) (h4 : d ≤ 121) :
    Calls Tryd.prog 64 #[errV E c, errV E d] w fun e w' => e = .returned (.bool (decide (c = d))) ∧ w = w' := by
  have hq : (binOp .eql 28 (errV E c) (errV E d)).run Tryd.prog w = .ok (.bool (decide (c = d))) w := by
    by_cases h : c = d
    · subst h; simpa using eql_same w E c h1
    · simpa [h] using eql_other g h1 h2 h3 h4 h
  rw [errV_iface E h1, errV_iface E h3] at *
  go_enter Tryd.func64, Tryd.ntmps64
  go_wp2
  go_returns
  exact ⟨rfl, rfl⟩

abbrev sentCs (E : Nat → Addr) : Array Value := #[.iface 132 (.pointer (some (E 101))), .iface 132 (.pointer (some (E 102))), .iface 132 (.pointer (some (E 103))), .iface 132 (.pointer (some (E 104))), .iface 132 (.pointer (some (E 105))), .iface 132 (.pointer (some (E 106))), .iface 132 (.pointer (some (E 107))), .iface 132 (.pointer (some (E 108))), .iface 132 (.pointer (some (E 109))), .iface 132 (.pointer (some (E 110))), .iface 132 (.pointer (some (E 111))), .iface 132 (.pointer (some (E 112))), .iface 132 (.pointer (some (E 113))), .iface 132 (.pointer (some (E 114))), .iface 132 (.pointer (some (E 115))), .iface 132 (.pointer (some (E 116))), .iface 132 (.pointer (some (E 117))), .iface 132 (.pointer (some (E 118))), .iface 132 (.pointer (some (E 119))), .iface 132 (.pointer (some (E 120))), .iface 132 (.pointer (some (E 121)))]
theorem sentCs_at (E : Nat → Addr) (k : Nat) (h : k < 21) : (sentCs E)[k]? = some (errV E (101 + k)) := by
  have : k = 0 ∨ k = 1 ∨ k = 2 ∨ k = 3 ∨ k = 4 ∨ k = 5 ∨ k = 6 ∨ k = 7 ∨ k = 8 ∨ k = 9 ∨ k = 10 ∨ k = 11 ∨ k = 12 ∨ k = 13 ∨ k = 14 ∨ k = 15 ∨ k = 16 ∨ k = 17 ∨ k = 18 ∨ k = 19 ∨ k = 20 := by omega
  rcases this with h | h | h | h | h | h | h | h | h | h | h | h | h | h | h | h | h | h | h | h | h <;> subst h <;> rfl
set_option maxHeartbeats 4000000 in
theorem sentinels_any {w : World} {E : Nat → Addr} (g : GW w E) :
    Calls Tryd.prog 63 #[] w fun e w' => e = .returned (.slice (some ⟨w.heap.size, 0, none⟩) 21 21) ∧ w.alloc (.cells (sentCs E) 28) = w' := by
  have e101 := (g.err 101 (by omega) (by omega)).trans (congrArg some (errV_iface E (show 101 ≤ 101 by omega)))
  have e102 := (g.err 102 (by omega) (by omega)).trans (congrArg some (errV_iface E (show 101 ≤ 102 by omega)))
  have e103 := (g.err 103 (by omega) (by omega)).trans (congrArg some (errV_iface E (show 101 ≤ 103 by omega)))
  have e104 := (g.err 104 (by omega) (by omega)).trans (congrArg some (errV_iface E (show 101 ≤ 104 by omega)))
  have e105 := (g.err 105 (by omega) (by omega)).trans (congrArg some (errV_iface E (show 101 ≤ 105 by omega)))
  have e106 := (g.err 106 (by omega) (by omega)).trans (congrArg some (errV_iface E (show 101 ≤ 106 by omega)))
  have e107 := (g.err 107 (by omega) (by omega)).trans (congrArg some (errV_iface E (show 101 ≤ 107 by omega)))
  have e108 := (g.err 108 (by omega) (by omega)).trans (congrArg some (errV_iface E (show 101 ≤ 108 by omega)))
  have e109 := (g.err 109 (by omega) (by omega)).trans (congrArg some (errV_iface E (show 101 ≤ 109 by omega)))
  have e110 := (g.err 110 (by omega) (by omega)).trans (congrArg some (errV_iface E (show 101 ≤ 110 by omega)))
  have e111 := (g.err 111 (by omega) (by omega)).trans (congrArg some (errV_iface E (show 101 ≤ 111 by omega)))
  have e112 := (g.err 112 (by omega) (by omega)).trans (congrArg some (errV_iface E (show 101 ≤ 112 by omega)))
  have e113 := (g.err 113 (by omega) (by omega)).trans (congrArg some (errV_iface E (show 101 ≤ 113 by omega)))
  have e114 := (g.err 114 (by omega) (by omega)).trans (congrArg some (errV_iface E (show 101 ≤ 114 by omega)))
  have e115 := (g.err 115 (by omega) (by omega)).trans (congrArg some (errV_iface E (show 101 ≤ 115 by omega)))
  have e116 := (g.err 116 (by omega) (by omega)).trans (congrArg some (errV_iface E (show 101 ≤ 116 by omega)))
  have e117 := (g.err 117 (by omega) (by omega)).trans (congrArg some (errV_iface E (show 101 ≤ 117 by omega)))
  have e118 := (g.err 118 (by omega) (by omega)).trans (congrArg some (errV_iface E (show 101 ≤ 118 by omega)))
  have e119 := (g.err 119 (by omega) (by omega)).trans (congrArg some (errV_iface E (show 101 ≤ 119 by omega)))
  have e120 := (g.err 120 (by omega) (by omega)).trans (congrArg some (errV_iface E (show 101 ≤ 120 by omega)))
  have e121 := (g.err 121 (by omega) (by omega)).trans (congrArg some (errV_iface E (show 101 ≤ 121 by omega)))
  simp only [gE] at e101 e102 e103 e104 e105 e106 e107 e108 e109 e110 e111 e112 e113 e114 e115 e116 e117 e118 e119 e120 e121
  go_enter Tryd.func63, Tryd.ntmps63
  go_wp2
  go_returns
  exact ⟨rfl, rfl⟩

def sentD (E : Nat → Addr) : Array Value := sentCs E
theorem sentD_at (E : Nat → Addr) (k : Nat) (h : k < 21) : (sentD E)[k]? = some (errV E (101 + k)) := sentCs_at E k h
theorem sentinels_def {w : World} {E : Nat → Addr} (g : GW w E) :
    Calls Tryd.prog 63 #[] w fun e w' => e = .returned (.slice (some ⟨w.heap.size, 0, none⟩) 21 21) ∧ w.alloc (.cells (sentD E) 28) = w' := sentinels_any g

theorem sentinel_any {w : World} {E : Nat → Addr} (g : GW w E) (c : Nat) (h1 : 101 ≤ c) (h2 : c ≤ 121) :
    Calls Tryd.prog 51 #[errV E c] w fun e w' => e = .returned (.int .i64 c) ∧ w.alloc (.cells (sentD E) 28) = w' := by
  have g1 := g.alloc (.cells (sentD E) 28)
  go_enter Tryd.func51, Tryd.ntmps51
  go_wp2_with (go_at_call 63; refine (sentinels_def g).mono ?_; rintro e w' ⟨rfl, rfl⟩)
  go_loop [4] (fun i => ∃ k : Nat, k ≤ c - 101 ∧ i = .int .i64 k) (fun i => 21 - (intOf i).toNat)
  case atStart => exact ⟨0, by omega, rfl⟩
  case round =>
    obtain ⟨k, hk, rfl⟩ := hrel
    have hs := sentD_at E k (by omega)
    by_cases hc : k = c - 101
    · have hd : decide (c = 101 + k) = true := by simp; omega
      have hr : (101 : Int) + (k : Int) = (c : Int) := by omega
      have Hr := Lib.hid hr
      clear hc hr
      go_wp2_with (go_at_call 64; refine (alike_any g1 c (101 + k) h1 h2 (by omega) (by omega)).mono ?_; rintro e w' ⟨rfl, rfl⟩)
      go_returns
      exact ⟨by rw [← Hr.out]; rfl, rfl⟩
    · have hd : decide (c = 101 + k) = false := by simp; omega
      go_wp2_with (go_at_call 64; refine (alike_any g1 c (101 + k) h1 h2 (by omega) (by omega)).mono ?_; rintro e w' ⟨rfl, rfl⟩)
      go_round
      case rel => exact ⟨k + 1, by omega, by go_num⟩
      case measure => simp [intOf]; omega
end Go.Proofs.YtcgdgopjomilnaaDoor
