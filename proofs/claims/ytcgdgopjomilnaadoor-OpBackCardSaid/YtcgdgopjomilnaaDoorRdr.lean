/-
  Numbers read from bytes by wire.Reader.
-/
import Derived.Test.YtcgdgopjomilnaaDoorWr3
import Derived.Test.YtcgdgopjomilnaaDoorTx1
import Derived.Deep.QuietTactic
import Derived.BigQuiet
import Derived.IntWalk
import Derived.Laws.BitsAllLaws
import Derived.Lib.Zigzag
namespace Go.Proofs.YtcgdgopjomilnaaDoor
open Go Go.RowKit

/-- A reader's block. -/
abbrev rdrCs (bv : Value) (p : Nat) (ev : Value) : Array Value := #[bv, .int .i64 p, ev]
def numV (E : Nat → Addr) : Except Nat (Nat × Nat) → Value
  | .error c => .tuple #[.int .i64 0, .int .i64 0, errV E c]
  | .ok (z, k) => .tuple #[.int .i64 (unzig z), .int .i64 k, .nilIface]
theorem or_val (a c k : Nat) (hc : c < 256) (ha : a < 128 ^ k) (hk : k ≤ 9) (h9 : k = 9 → c ≤ 1) :
    Go.bits .or .u64 (a : Int) (IntKind.u64.wrap (IntKind.u64.wrap (Go.bits .andNot .u8 (c : Int) 128) * 2 ^ (7 * k))) = ((a + c % 128 * 128 ^ k : Nat) : Int) ∧ a + c % 128 * 128 ^ k < 18446744073709551616 ∧ (k ≤ 8 → a + c % 128 * 128 ^ k < 128 ^ (k + 1)) := by
  have e1 : Go.bits .andNot .u8 (c : Int) 128 = ((c % 128 : Nat) : Int) := by
    have : ∀ x : Fin 256, Go.bits .andNot .u8 ((x.val : Nat) : Int) 128 = ((x.val % 128 : Nat) : Int) := by decide +kernel
    exact this ⟨c, hc⟩
  have e2 : IntKind.u64.wrap ((c % 128 : Nat) : Int) = ((c % 128 : Nat) : Int) := by rw [IntKind.wrap_u64]; omega
  have e3 : ((c % 128 : Nat) : Int) * 2 ^ (7 * k) = ((c % 128 * 128 ^ k : Nat) : Int) := by
    rw [Int.natCast_mul, Int.natCast_pow, show ((128 : Nat) : Int) = 2 ^ 7 by decide, ← Int.pow_mul]
  have hlt : c % 128 * 128 ^ k < 18446744073709551616 ∧ a + c % 128 * 128 ^ k < 18446744073709551616 ∧ (k ≤ 8 → a + c % 128 * 128 ^ k < 128 ^ (k + 1)) := by
    have : k = 0 ∨ k = 1 ∨ k = 2 ∨ k = 3 ∨ k = 4 ∨ k = 5 ∨ k = 6 ∨ k = 7 ∨ k = 8 ∨ k = 9 := by omega
    rcases this with h | h | h | h | h | h | h | h | h | h <;> subst h <;> simp at ha h9 ⊢ <;> omega
  have e4 : IntKind.u64.wrap ((c % 128 * 128 ^ k : Nat) : Int) = ((c % 128 * 128 ^ k : Nat) : Int) := by rw [IntKind.wrap_u64]; omega
  rw [e1, e2, e3, e4, u64_or_nat _ _ (by omega) hlt.1, Nat.or_comm, nat_join (7 * k) _ _ ?_ ?_, Nat.add_comm]
  · exact ⟨rfl, hlt.2⟩
  · rw [show (128 : Nat) = 2 ^ 7 by decide, ← Nat.pow_mul, Nat.mul_mod_left]
  · rw [Nat.pow_mul]; exact ha
theorem zig_val (z : Nat) (hz : z < 18446744073709551616) :
    Go.bits .xor .i64 (wrap64 ((z : Int) / 2)) (wrap64 (-wrap64 (Go.bits .and .u64 (z : Int) 1))) = unzig z := by
  have e1 : Go.bits .and .u64 (z : Int) 1 = (z : Int) % 2 := Lib.u64_and1 _ (by omega) (by omega)
  have e2 : wrap64 ((z : Int) / 2) = ((z / 2 : Nat) : Int) := by rw [IntWalk.wrap64_in _ (by omega)]; omega
  rw [e1, e2]
  unfold unzig
  by_cases h : z % 2 = 0
  · have e3 : (z : Int) % 2 = 0 := by omega
    have e4 : wrap64 0 = 0 := IntWalk.wrap64_in 0 (by omega)
    rw [if_pos h, e3, e4, Int.neg_zero, e4]
    show IntKind.i64.wrap ((BitVec.ofInt 64 ((z / 2 : Nat) : Int) ^^^ BitVec.ofInt 64 0).toNat : Int) = _
    have h2 : (BitVec.ofInt 64 ((z / 2 : Nat) : Int)).toNat = z / 2 := by
      rw [BitVec.ofInt_natCast, BitVec.toNat_ofNat]; exact Nat.mod_eq_of_lt (by omega)
    rw [BitVec.toNat_xor, h2, show (BitVec.ofInt 64 0).toNat = 0 by decide, Nat.xor_zero, IntKind.wrap_i64]
    omega
  · have e3 : (z : Int) % 2 = 1 := by omega
    rw [if_neg h, e3, IntWalk.wrap64_in 1 (by omega), IntWalk.wrap64_in (-1) (by omega)]
    have h0 := Lib.i64_not (z / 2) (by omega)
    have hc : Go.bits .xor .i64 ((z / 2 : Nat) : Int) (-1) = Go.bits .xor .i64 (-1) ((z / 2 : Nat) : Int) := by
      show IntKind.i64.wrap ((BitVec.ofInt 64 ((z / 2 : Nat) : Int) ^^^ BitVec.ofInt 64 (-1)).toNat : Int) = IntKind.i64.wrap ((BitVec.ofInt 64 (-1) ^^^ BitVec.ofInt 64 ((z / 2 : Nat) : Int)).toNat : Int)
      rw [BitVec.xor_comm]
    rw [hc, h0]
theorem rdN_end (i a : Nat) : rdN [] i a = .error 101 := rfl
theorem GW.e101 {w : World} {E : Nat → Addr} (g : GW w E) : w.cell? ⟨6, 0, none⟩ = some (.iface 132 (.pointer (some (E 101)))) := g.err 101 (by omega) (by omega)
theorem GW.e102 {w : World} {E : Nat → Addr} (g : GW w E) : w.cell? ⟨3, 0, none⟩ = some (.iface 132 (.pointer (some (E 102)))) := g.err 102 (by omega) (by omega)

set_option maxRecDepth 100000 in
set_option maxHeartbeats 2000000 in
theorem number_slice (R b off cp : Nat) (ev : Value) (l : List Nat) (hby : ∀ c ∈ l, c < 256) (p : Nat) (hp : p ≤ l.length) (hl : l.length ≤ 1000000000) {w : World} {E : Nat → Addr} (g : GW w E)
    (hB : Blk w R 79 (rdrCs (.slice (some ⟨b, off, none⟩) l.length cp) p ev)) (hc : ∀ j u, (u8s l)[j]? = some u → w.cell? ⟨b, off + j, none⟩ = some u) :
    Calls Tryd.prog 45 #[.pointer (some ⟨R, 0, none⟩)] w fun e w' => e = .returned (numV E (rdN (l.drop p) 0 0)) ∧ Below w.heap.size w w' := by
  go_enter Tryd.func45, Tryd.ntmps45
  go_wp2_with fail
  go_loopw [5, 6] (fun z i wr => ∃ k a : Nat, k ≤ 9 ∧ i = .int .i64 k ∧ z = .int .u64 a ∧ a < 128 ^ k ∧ Below w.heap.size w wr ∧ Hid (rdN (l.drop p) 0 0 = rdN (l.drop (p + k)) k a)) (fun _ i _ => 10 - (intOf i).toNat)
  case atStart => exact ⟨0, 0, by omega, rfl, rfl, by omega, Below.refl _ _, Lib.hid rfl⟩
  case round =>
    obtain ⟨k, a, hk, rfl, rfl, ha, hb, hR⟩ := hrel
    have gr := g.later hb
    have hBr := hB.later hb
    have c0 : wr.cell? ⟨R, 0, none⟩ = some (.slice (some ⟨b, off, none⟩) l.length cp) := hBr.cell 0
    have c1 : wr.cell? ⟨R, 1, none⟩ = some (.int .i64 p) := hBr.cell 1
    have hRl := hBr.lt
    have w1 : IntKind.i64.wrap ((p : Int) + (k : Int)) = (p : Int) + (k : Int) := IntWalk.i64_in _ (by omega)
    by_cases hend : l.length ≤ p + k
    · have t1 : decide ((l.length : Int) ≤ (p : Int) + (k : Int)) = true := by simp; omega
      have e1 := gr.e101
      have hd : rdN (l.drop p) 0 0 = .error 101 := by rw [hR.out, List.drop_eq_nil_of_le hend, rdN_end]
      have HD := Lib.hid hd
      clear hd hc g gr hB hBr hp hend
      go_wp2_with fail
      go_quiet (fail)
      go_wp2_with fail
      go_quiet (fail)
      go_wp2_with fail
      go_returns
      exact ⟨by rw [HD.out]; rfl, below_drewN (below_drewN hb _) _⟩
    · have t1 : decide ((l.length : Int) ≤ (p : Int) + (k : Int)) = false := by simp; omega
      have hlt : p + k < l.length := by omega
      obtain ⟨c, hcl⟩ : ∃ c, l[p + k]? = some c := ⟨_, List.getElem?_eq_getElem hlt⟩
      have hcb : c < 256 := hby c (List.mem_of_getElem? hcl)
      have hcc : wr.cell? ⟨b, off + (p + k), none⟩ = some (.int .u8 c) := Later.cell hb (hc (p + k) _ (by simp [u8s, hcl]))
      have hdr : l.drop (p + k) = c :: l.drop (p + (k + 1)) := by
        rw [← Nat.add_assoc, ← List.getElem_cons_drop hlt]
        congr 1
        rw [List.getElem?_eq_getElem hlt] at hcl
        exact Option.some.inj hcl
      have hstep : rdN (l.drop p) 0 0 = rdN (c :: l.drop (p + (k + 1))) k a := by rw [hR.out, hdr]
      clear hR hdr hcl hc hend
      have w2 : ((p : Int) + (k : Int)).toNat = p + k := by omega
      have w3 : (0 : Int) ≤ (p : Int) + (k : Int) := by omega
      have w4 : (p : Int) + (k : Int) < (l.length : Int) := by omega
      rw [rdN] at hstep
      by_cases h9 : k = 9 ∧ 1 < c
      · rw [if_pos h9] at hstep
        obtain ⟨rfl, h1⟩ := h9
        have t3 : decide ((c : Int) > 1) = true := by simp; omega
        have HS := Lib.hid hstep
        have e2 := gr.e102
        clear hstep gr g
        go_wp2_with fail
        go_quiet (fail)
        go_wp2_with fail
        go_quiet (fail)
        go_wp2_with fail
        go_quiet (fail)
        go_wp2_with fail
        go_returns
        exact ⟨by rw [HS.out]; rfl, (by first | exact below_drewN hb _ | exact below_drewN (below_drewN hb _) _)⟩
      · rw [if_neg h9] at hstep
        obtain ⟨hor, hz1, hz2⟩ := or_val a c k hcb ha hk (by omega)
        have HOR := Lib.hid hor
        clear hor
        by_cases h128 : 128 ≤ c
        · rw [if_pos h128] at hstep
          have hk8 : k ≤ 8 := by omega
          have hz3 := hz2 hk8
          have t2 : ((k : Int) == 9) = false := by simp; omega
          have t3 : decide ((c : Int) ≥ 128) = true := by simp; omega
          have HS := Lib.hid hstep
          have HZ := Lib.hid hz3
          clear hstep h9 hz1 hz2 hz3
          go_wp2_with fail
          go_quiet (fail)
          go_wp2_with fail
          go_quiet (fail)
          go_wp2_with fail
          go_roundw
          case rel => exact ⟨k + 1, a + c % 128 * 128 ^ k, by omega, by go_num, congrArg (Value.int .u64) HOR.out, HZ.out, below_drewN hb _, HS⟩
          case measure => simp [intOf]; omega
        · rw [if_neg h128] at hstep
          have t3 : decide ((c : Int) ≥ 128) = false := by simp; omega
          have HZ := Lib.hid hz1
          clear hz1 hz2
          by_cases h0 : c = 0 ∧ 0 < k
          · rw [if_pos h0] at hstep
            obtain ⟨rfl, hk0⟩ := h0
            have HS := Lib.hid hstep
            have e2 := gr.e102
            clear hstep h9 gr g
            have ht : ((k : Int) == 9) = false ∨ ((k : Int) == 9) = true := by cases ((k : Int) == 9) <;> simp
            rcases ht with t2 | t2
            all_goals
              go_wp2_with fail
              go_quiet (fail)
              go_wp2_with fail
              go_quiet (fail)
              go_wp2_with fail
              go_quiet (fail)
              go_wp2_with fail
              go_returns
              exact ⟨by rw [HS.out]; rfl, (by first | exact below_drewN hb _ | exact below_drewN (below_drewN hb _) _)⟩
          · rw [if_neg h0] at hstep
            have HS := Lib.hid hstep
            clear hstep
            have ht : ((k : Int) == 9) = false ∨ ((k : Int) == 9) = true ∧ decide ((c : Int) > 1) = false := by
              by_cases hk9 : k = 9
              · right
                exact ⟨by simp; omega, by simp; omega⟩
              · left
                simp
                omega
            by_cases hc0 : c = 0
            · obtain rfl : k = 0 := by omega
              subst hc0
              have hor' : Go.bits .or .u64 (a : Int) (IntKind.u64.wrap (IntKind.u64.wrap (Go.bits .andNot .u8 0 128))) = ((a + 0 % 128 * 128 ^ 0 : Nat) : Int) := by
                have := HOR.out
                simpa using this
              have HOR' := Lib.hid hor'
              clear hor'
              have hcc' : wr.cell? ⟨b, off + p, none⟩ = some (.int .u8 ((0 : Nat) : Int)) := hcc
              have w4' : (p : Int) < (l.length : Int) := by omega
              clear h0 h9 ht hcc w1 w2 w3 w4
              go_wp2_with fail
              go_quiet (fail)
              go_wp2_with fail
              go_quiet (fail)
              go_wp2_with fail
              go_returns
              exact ⟨by rw [HS.out, HOR'.out]; exact congrArg (fun v : Int => Ending.returned (Value.tuple #[Value.int .i64 v, _, _])) (zig_val _ HZ.out), below_drewN hb _⟩
            · have t4 : ((c : Int) == 0) = false := by simp; omega
              have HC := Lib.hid hc0
              clear h0 h9 hc0
              rcases ht with t2 | ⟨t2, t2'⟩
              all_goals
                go_wp2_with fail
                go_quiet (fail)
                go_wp2_with fail
                go_quiet (fail)
                go_wp2_with fail
                go_returns
                exact ⟨by rw [HS.out, HOR.out]; exact congrArg (fun v : Int => Ending.returned (Value.tuple #[Value.int .i64 v, _, _])) (zig_val _ HZ.out), below_drewN hb _⟩
end Go.Proofs.YtcgdgopjomilnaaDoor
