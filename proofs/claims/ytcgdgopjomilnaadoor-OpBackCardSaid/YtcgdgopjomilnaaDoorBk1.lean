/-
  The statement on what is read back: the walk.
-/
import Derived.Test.YtcgdgopjomilnaaDoorRf1
import Derived.Test.YtcgdgopjomilnaaDoorTx2
namespace Go.Proofs.YtcgdgopjomilnaaDoor
open Go Go.RowKit

theorem bytes_pos (o : O) : 0 < (bytesL o).length := by
  unfold bytesL allF
  rw [enc_cons, List.length_append]
  have : 0 < (vl (2 * o.ID.toNat)).length := by
    rw [vl]
    split <;> simp
  omega
theorem vl_byte : ∀ (n z : Nat), z ≤ n → ∀ c ∈ vl z, c < 256 := by
  intro n
  induction n with
  | zero => intro z hz c hc; rw [vl_lo (by omega)] at hc; simp at hc; omega
  | succ n ih =>
    intro z hz c hc
    by_cases h : z < 128
    · rw [vl_lo h] at hc; simp at hc; omega
    · rw [vl_hi h] at hc
      simp at hc
      rcases hc with rfl | hc
      · omega
      · exact ih (z / 128) (by omega) c hc
theorem enc_byte (ns : List Int) : ∀ c ∈ enc ns, c < 256 := by
  intro c hc
  unfold enc at hc
  rw [List.mem_flatten] at hc
  obtain ⟨l, hl, hc⟩ := hc
  rw [List.mem_map] at hl
  obtain ⟨n, _, rfl⟩ := hl
  exact vl_byte _ _ (Nat.le_refl _) c hc
theorem bytes_le (o : O) (h : validC o = 0) : (bytesL o).length ≤ 80 := enc_len _ (valid_all o h)

set_option maxRecDepth 100000 in
set_option maxHeartbeats 4000000 in
theorem back_bad (o p : O) (cut : Int) {w : World} {E : Nat → Addr} (g : GW w E) (h : validC o ≠ 0) :
    Calls Tryd.prog 4 #[o.v, p.v, .int .i64 cut] w fun e w' => e = .returned (.bool true) ∧ Below w.heap.size w w' := by
  have g1 := (g.alloc (.cells o.cs 26)).alloc (.cells p.cs 26)
  have hf := first_any g1
  have hc := validC_code o
  have hbd : 101 ≤ validC o := by omega
  have hby := fun W (gW : GW W E) => bytes_bad o gW h
  rw [errV_iface E hbd] at hby
  have hO := (Blk.new w 26 o.cs).alloc (.cells p.cs 26)
  have HB := Lib.hid hby
  clear hby
  go_enter Tryd.func4, Tryd.ntmps4
  go_wp2_with (go_at_call 5; refine hf.mono ?_; rintro e w1 ⟨rfl, hb1⟩; have hO1 := hO.later hb1; have c0 : w1.cell? ⟨w.heap.size, 0, none⟩ = some (.int .i64 o.ID) := hO1.cell 0; have c1 : w1.cell? ⟨w.heap.size, 1, none⟩ = some (.int .i64 o.K) := hO1.cell 1; have c2 : w1.cell? ⟨w.heap.size, 2, none⟩ = some (.int .i64 o.A) := hO1.cell 2; have c3 : w1.cell? ⟨w.heap.size, 3, none⟩ = some (.int .i64 o.B) := hO1.cell 3; have c4 : w1.cell? ⟨w.heap.size, 4, none⟩ = some (.int .i64 o.C) := hO1.cell 4; have c5 : w1.cell? ⟨w.heap.size, 5, none⟩ = some (.int .i64 o.D) := hO1.cell 5; have c6 : w1.cell? ⟨w.heap.size, 6, none⟩ = some (.int .i64 o.N) := hO1.cell 6; have c7 : w1.cell? ⟨w.heap.size, 7, none⟩ = some (.int .i64 o.M) := hO1.cell 7)
  have hby := HB.out _ (g1.later hb1)
  go_wp2_with (go_at_call 10; refine hby.mono ?_; rintro e w2 ⟨rfl, hb2⟩)
  go_returns
  exact ⟨rfl, Later.trans (Later.alloc (later_alloc _ _) _) (Later.trans hb1 hb2)⟩
end Go.Proofs.YtcgdgopjomilnaaDoor
