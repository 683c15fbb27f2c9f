import Derived.Test.YtcgdgopjomilnaaDoorSee2
namespace Go.Proofs.YtcgdgopjomilnaaDoor
open Go.RowKit

structure O where (ID K A B C D N M : Int)
abbrev O.v (o : O) : Value := .agg #[.int .i64 o.ID, .int .i64 o.K, .int .i64 o.A, .int .i64 o.B, .int .i64 o.C, .int .i64 o.D, .int .i64 o.N, .int .i64 o.M]
abbrev O.cs (o : O) : Array Value := #[.int .i64 o.ID, .int .i64 o.K, .int .i64 o.A, .int .i64 o.B, .int .i64 o.C, .int .i64 o.D, .int .i64 o.N, .int .i64 o.M]

theorem num_any (n b : Int) (hb : 0 < b) (hb2 : b < 1000000000000) (w : World) :
    Calls Tryd.prog 7 #[.int .i64 n, .int .i64 b] w fun e w' => e = .returned (.int .i64 (n % b)) ∧ w = w' := by
  have h1 : -b < n.tmod b := by rw [Int.tmod_eq_emod]; split <;> have := Int.emod_lt_of_pos n hb <;> have := Int.emod_nonneg n (Int.ne_of_gt hb) <;> omega
  have h2 : n.tmod b < b := Int.tmod_lt_of_pos n hb
  have h3 : n % b = if n.tmod b < 0 then n.tmod b + b else n.tmod b := by
    have e1 := Int.tmod_eq_emod (a := n) (b := b)
    have e2 := Int.emod_nonneg n (Int.ne_of_gt hb)
    have e3 := Int.emod_lt_of_pos n hb
    split at e1 <;> split <;> omega
  have H := h3
  clear h3
  have H3 : Hid (n % b = if n.tmod b < 0 then n.tmod b + b else n.tmod b) := H
  clear H
  by_cases hc : n.tmod b < 0
  · go_enter Tryd.func7, Tryd.ntmps7
    go_wp2
    go_ret
    exact ⟨by rw [H3.out, if_pos hc]; rfl, rfl⟩
  · go_enter Tryd.func7, Tryd.ntmps7
    go_wp2
    go_ret
    exact ⟨by rw [H3.out, if_neg (by omega)]; rfl, rfl⟩

theorem is_any (n : Int) (w : World) :
    Calls Tryd.prog 25 #[.int .i64 n] w fun e w' => e = .returned (.bool (decide (1 ≤ n ∧ n ≤ 16))) ∧ w = w' := by
  by_cases h : 1 ≤ n
  · go_enter Tryd.func25, Tryd.ntmps25
    go_wp2
    go_ret
    exact ⟨by simp [h], rfl⟩
  · go_enter Tryd.func25, Tryd.ntmps25
    go_wp2
    go_ret
    exact ⟨by simp; omega, rfl⟩

theorem fields_any (o : O) (w : World) :
    Calls Tryd.prog 28 #[o.v] w fun e w' => e = .returned (.slice (some ⟨w.heap.size + 1, 0, none⟩) 6 6) ∧
      ((w.alloc (.cells o.cs 26)).alloc (.cells #[.int .i64 o.A, .int .i64 o.B, .int .i64 o.C, .int .i64 o.D, .int .i64 o.N, .int .i64 o.M] 2)) = w' := by
  go_enter Tryd.func28, Tryd.ntmps28
  go_wp2
  go_ret
  exact ⟨rfl, rfl⟩

def useCs : Array Value := #[.string ⟨#[65, 66, 78]⟩, .string ⟨#[65, 66, 67, 68, 78]⟩, .string ⟨#[65, 78]⟩, .string ⟨#[65, 78]⟩, .string ⟨#[65, 66, 78]⟩, .string ⟨#[78]⟩, .string ⟨#[65, 66, 67]⟩, .string ⟨#[65, 66, 78]⟩, .string ⟨#[65, 78]⟩, .string ⟨#[65, 66, 78]⟩, .string ⟨#[65, 66, 78]⟩, .string ⟨#[65, 66, 67, 78, 77]⟩, .string ⟨#[78]⟩, .string ⟨#[65, 78]⟩, .string ⟨#[65, 66, 78]⟩, .string ⟨#[78, 77]⟩]
def useB (k : Int) : ByteArray := match k.toNat with
  | 1 => ⟨#[65, 66, 78]⟩ | 2 => ⟨#[65, 66, 67, 68, 78]⟩ | 3 => ⟨#[65, 78]⟩ | 4 => ⟨#[65, 78]⟩ | 5 => ⟨#[65, 66, 78]⟩ | 6 => ⟨#[78]⟩ | 7 => ⟨#[65, 66, 67]⟩ | 8 => ⟨#[65, 66, 78]⟩
  | 9 => ⟨#[65, 78]⟩ | 10 => ⟨#[65, 66, 78]⟩ | 11 => ⟨#[65, 66, 78]⟩ | 12 => ⟨#[65, 66, 67, 78, 77]⟩ | 13 => ⟨#[78]⟩ | 14 => ⟨#[65, 78]⟩ | 15 => ⟨#[65, 66, 78]⟩ | 16 => ⟨#[78, 77]⟩ | _ => ⟨#[]⟩
theorem useB_at (k : Int) (h1 : 1 ≤ k) (h2 : k ≤ 16) : useCs[k.toNat - 1]? = some (.string (useB k)) := by
  obtain ⟨n, rfl⟩ := Int.eq_ofNat_of_zero_le (show 0 ≤ k by omega)
  unfold useB
  rw [Int.toNat_natCast]
  have : n = 1 ∨ n = 2 ∨ n = 3 ∨ n = 4 ∨ n = 5 ∨ n = 6 ∨ n = 7 ∨ n = 8 ∨ n = 9 ∨ n = 10 ∨ n = 11 ∨ n = 12 ∨ n = 13 ∨ n = 14 ∨ n = 15 ∨ n = 16 := by omega
  rcases this with h | h | h | h | h | h | h | h | h | h | h | h | h | h | h | h <;> subst h <;> rfl

end Go.Proofs.YtcgdgopjomilnaaDoor
