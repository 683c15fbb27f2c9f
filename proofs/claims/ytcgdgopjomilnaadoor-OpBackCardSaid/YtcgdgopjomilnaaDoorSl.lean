/-
  What a slice reads as, nil included.
-/
import Derived.Test.YtcgdgopjomilnaaDoorWr2
namespace Go.Proofs.YtcgdgopjomilnaaDoor
open Go Go.RowKit

/-- The slice v reads as xs. -/
def Rd (w : World) (v : Value) (xs : List Value) : Prop :=
  (v = .slice none 0 0 ∧ xs = []) ∨ ∃ b off c, v = .slice (some ⟨b, off, none⟩) xs.length c ∧ b < w.heap.size ∧ xs.length ≤ c ∧ ∀ j u, xs[j]? = some u → w.cell? ⟨b, off + j, none⟩ = some u
theorem rd_nil (w : World) : Rd w (.slice none 0 0) [] := .inl ⟨rfl, rfl⟩
theorem Rd.later {w w' : World} {v : Value} {xs : List Value} (h : Rd w v xs) (hb : Below w.heap.size w w') : Rd w' v xs := by
  rcases h with h | ⟨b, off, c, rfl, hlt, hc, hcell⟩
  · exact .inl h
  · exact .inr ⟨b, off, c, rfl, Nat.lt_of_lt_of_le hlt hb.size, hc, fun j u hu => Later.cell hb (hcell j u hu)⟩
theorem Rd.below {B : Nat} {w w' : World} {v : Value} {xs : List Value} (h : Rd w v xs) (hb : Below B w w') (hB : ∀ b o n c, v = .slice (some ⟨b, o, none⟩) n c → b < B) : Rd w' v xs := by
  rcases h with h | ⟨b, off, c, rfl, hlt, hc, hcell⟩
  · exact .inl h
  · refine .inr ⟨b, off, c, rfl, Nat.lt_of_lt_of_le hlt hb.size, hc, fun j u hu => ?_⟩
    rw [hb.cell (p := ⟨b, off + j, none⟩) (hB _ _ _ _ rfl)]
    exact hcell j u hu
theorem add_cell (b o j : Nat) : (⟨b, o, none⟩ : Addr).add j = ⟨b, o + j, none⟩ := by
  unfold Addr.add
  split
  · rename_i h; subst h; rfl
  · rfl
theorem rd_own {w : World} {base n : Nat} {e : TypeId} {v : Value} {xs : List Value} (h : w.ownsRow base e 1 v n xs) : Rd w v xs := by
  have hn : xs.length = n := by have := h.1; simpa using this
  rcases h.2 with ⟨rfl, h0⟩ | ⟨g, cap, cur, rfl, hb, hh, h1, h2, h3, h4⟩
  · left
    subst h0
    exact ⟨rfl, List.length_eq_zero_iff.1 hn⟩
  · right
    refine ⟨g, 0, cap, by rw [hn], (Array.getElem?_eq_some_iff.1 hh).1, by omega, fun j u hu => ?_⟩
    rw [← h4] at hu
    have hj : j < n * 1 := by
      have := (List.getElem?_eq_some_iff.1 hu).1
      simp at this
      omega
    rw [List.getElem?_take_of_lt hj] at hu
    simpa [World.cell?, hh] using hu
/-- A copy of bytes. -/
theorem clone_rd (v : Value) (xs : List Value) (hm : xs.length ≤ 1000000000000) {w : World} (h : Rd w v xs) (h1 : ∀ u ∈ xs, u.oneCell' = true) :
    Calls Tryd.prog 43 #[v] w fun e w' => ∃ v', e = .returned v' ∧ w'.ownsRow w.heap.size 5 1 v' xs.length xs ∧ Below w.heap.size w w' := by
  rcases h with ⟨rfl, rfl⟩ | ⟨b, off, c, rfl, hlt, hc, hcell⟩
  · refine (clone_nil w).mono ?_
    rintro e w' ⟨rfl, rfl⟩
    exact ⟨_, rfl, World.ownsRow_nil _ _ _ _, Below.refl _ _⟩
  · refine (clone_any w.heap.size ⟨b, off, none⟩ xs.length c xs hm rfl (Nat.le_refl _) (fun j u hu => by rw [add_cell]; exact hcell j u hu) h1).mono ?_
    rintro e w' ⟨v', rfl, hown, hb, _⟩
    exact ⟨v', rfl, hown, hb⟩
theorem u8s_one (l : List Nat) : ∀ u ∈ u8s l, u.oneCell' = true := by
  intro u hu
  obtain ⟨n, _, rfl⟩ := List.mem_map.1 hu
  rfl
end Go.Proofs.YtcgdgopjomilnaaDoor
