/-
  A number as bytes: seven bits a byte.
-/
import Derived.Test.YtcgdgopjomilnaaDoorOp5
import Derived.Laws.BitsAllLaws
namespace Go.Proofs.YtcgdgopjomilnaaDoor
open Go Go.RowKit

/-- The bytes of z, the low bits first. -/
def vl (z : Nat) : List Nat := if h : z < 128 then [z] else (z % 128 + 128) :: vl (z / 128)
termination_by z
decreasing_by omega
theorem vl_lo {z : Nat} (h : z < 128) : vl z = [z] := by rw [vl]; simp [h]
theorem vl_hi {z : Nat} (h : ¬ z < 128) : vl z = (z % 128 + 128) :: vl (z / 128) := by rw [vl]; simp [h]
theorem vl_len (d : Nat) : ∀ z, z < 128 ^ d → 0 < z → (vl z).length ≤ d := by
  induction d with
  | zero => intro z h hz; simp at h; omega
  | succ d ih =>
    intro z h _
    by_cases hz : z < 128
    · rw [vl_lo hz]; simp
    · rw [vl_hi hz]
      have := ih (z / 128) (by rw [Nat.pow_succ] at h; omega) (by omega)
      simp; omega
def u8s (l : List Nat) : List Value := l.map fun (n : Nat) => .int .u8 (n : Int)
theorem or_all : ∀ x : Fin 256, Go.bits .or .u8 ((x.val : Nat) : Int) 128 = ((x.val % 128 + 128 : Nat) : Int) := by decide +kernel
theorem info_u8 : (Tryd.prog.info? 5).map (fun i => (i.zero, i.size, i.bytes)) = some (some (.int .u8 0), 1, 1) := by kernel_rfl

set_option maxRecDepth 100000 in
set_option maxHeartbeats 2000000 in
theorem put_any (base : Nat) (v : Value) (k : Nat) (xs : List Value) (n : Nat) (hn : n < 4611686018427387904) (hk : k ≤ 1000000000000) {w : World} (hbase : base ≤ w.heap.size) (own : w.ownsRow base 5 1 v k xs) :
    Calls Tryd.prog 44 #[v, .int .i64 n] w fun e w' => ∃ v', e = .returned v' ∧ w'.ownsRow base 5 1 v' (k + (vl (2 * n)).length) (xs ++ u8s (vl (2 * n))) ∧ Below base w w' := by
  obtain ⟨i0, hi, hz0, hz1, hz2⟩ := info_parts info_u8
  have s1 : IntKind.u64.wrap (n : Int) = n := by rw [IntKind.wrap_u64]; omega
  have s3 : (n : Int) / 9223372036854775808 = 0 := by omega
  have s4 : Go.bits .xor .u64 ((n : Int) * 2) 0 = ((2 * n : Nat) : Int) := by
    have := u64_xor_nat (2 * n) 0 (by omega) (by omega)
    rw [show ((n : Int) * 2) = ((2 * n : Nat) : Int) by omega]
    simpa using this
  have hlen : (vl (2 * n)).length ≤ 10 := by
    by_cases h0 : n = 0
    · subst h0; rw [vl_lo (by omega)]; simp
    · exact vl_len 10 _ (by omega) (by omega)
  have hz : 2 * n < 9223372036854775808 := by omega
  generalize 2 * n = z at s4 hlen hz
  go_enter Tryd.func44, Tryd.ntmps44
  go_wp2_with fail
  go_loopw [0, 5] (fun u i wr => ∃ (done : List Nat) (m : Nat), i = .int .u64 m ∧ m < 9223372036854775808 ∧ wr.ownsRow base 5 1 u (k + done.length) (xs ++ u8s done) ∧ Below base w wr ∧ Hid (vl z = done ++ vl m)) (fun _ i _ => (intOf i).toNat)
  case atStart => exact ⟨[], z, rfl, hz, by simpa [u8s] using own, Below.refl _ _, Lib.hid rfl⟩
  case round =>
    obtain ⟨done, m, rfl, hm, hown, hb, hvl⟩ := hrel
    have hdl : done.length ≤ 10 := by
      have := congrArg List.length hvl.out
      simp at this
      omega
    have b1 : IntKind.u8.wrap (m : Int) = ((m % 256 : Nat) : Int) := by simp [IntKind.wrap, IntKind.bits, IntKind.signed]
    by_cases hlt : m < 128
    · have t1 : decide ((m : Int) ≥ 128) = false := by simp; omega
      rw [show m % 256 = m by omega] at b1
      go_wp2_with (first | (at_builtin; refine wpList_append_own _ rfl (.tmp 23) (.tmp 26) _ rfl base 5 i0 _ 1 1 Tryd.underlying35 hi hz0 hz1 hz2 rfl (by decide) u0 (k + done.length) _ rfl (hown.alloc _) ⟨wr.heap.size, 0, none⟩ 1 1 [.int .u8 (m : Int)] rfl rfl (cell_one_new _ _ _) (by simp [Value.oneCell']) ?_ ?_ ?_ ?_; (unfold maxLen; omega); omega; (have := hb.size; simp; omega); intro v6 w6 hown6 hg6 _))
      go_returns
      exact ⟨v6, rfl, by rw [hvl.out, vl_lo hlt]; simpa [u8s, List.append_assoc, Nat.add_assoc] using hown6, (hb.alloc (Nat.le_trans hbase hb.size) _).grown hg6 (by have := hb.size; simp; omega) (fun j hj => (hown.lt j hj).1)⟩
    · have t1 : decide ((m : Int) ≥ 128) = true := by simp; omega
      have b2 := or_all ⟨m % 256, by omega⟩
      simp only at b2
      rw [show m % 256 % 128 = m % 128 by omega, show ((m % 256 : Nat) : Int) = (m : Int) % 256 by omega] at b2
      clear b1
      go_wp2_with (first | (at_builtin; refine wpList_append_own _ rfl (.tmp 15) (.tmp 19) _ rfl base 5 i0 _ 1 1 Tryd.underlying35 hi hz0 hz1 hz2 rfl (by decide) u0 (k + done.length) _ rfl (hown.alloc _) ⟨wr.heap.size, 0, none⟩ 1 1 [.int .u8 ((m % 128 + 128 : Nat) : Int)] rfl rfl (cell_one_new _ _ _) (by simp [Value.oneCell']) ?_ ?_ ?_ ?_; (unfold maxLen; omega); omega; (have := hb.size; simp; omega); intro v6 w6 hown6 hg6 _))
      go_roundw
      case rel =>
        refine ⟨done ++ [m % 128 + 128], m / 128, ?_, by omega, by simpa [u8s, List.append_assoc, Nat.add_assoc] using hown6, (hb.alloc (Nat.le_trans hbase hb.size) _).grown hg6 (by have := hb.size; simp; omega) (fun j hj => (hown.lt j hj).1), Lib.hid (by rw [hvl.out, vl_hi hlt]; simp)⟩
        simp
      case measure => simp [intOf]; omega
end Go.Proofs.YtcgdgopjomilnaaDoor
