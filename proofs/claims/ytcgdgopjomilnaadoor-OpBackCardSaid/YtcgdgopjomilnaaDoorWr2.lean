/-
  A copy of bytes, and numbers behind bytes.
-/
import Derived.Test.YtcgdgopjomilnaaDoorWr1
import Derived.Lib.SliceRun
namespace Go.Proofs.YtcgdgopjomilnaaDoor
open Go Go.RowKit

set_option maxRecDepth 100000 in
theorem clone_nil (w : World) : Calls Tryd.prog 43 #[.slice none 0 0] w fun e w' => e = .returned (.slice none 0 0) ∧ w = w' := by
  have hq := fun a n c => Lib.run_eql_slice_nil w 35 5 a n c 0 0 Tryd.underlying35
  go_enter Tryd.func43, Tryd.ntmps43
  go_wp2_with fail
  go_returns
  exact ⟨rfl, rfl⟩

set_option maxRecDepth 100000 in
set_option maxHeartbeats 1000000 in
theorem clone_any (base : Nat) (ad : Addr) (m c : Nat) (news : List Value) (hm : m ≤ 1000000000000) (hl : news.length = m) {w : World} (hbase : base ≤ w.heap.size)
    (hnews : ∀ j u, news[j]? = some u → w.cell? (ad.add j) = some u) (h1 : ∀ u ∈ news, u.oneCell' = true) :
    Calls Tryd.prog 43 #[.slice (some ad) m c] w fun e w' => ∃ v', e = .returned v' ∧ w'.ownsRow base 5 1 v' m news ∧ Below w.heap.size w w' ∧ v' ≠ .slice none 0 0 := by
  obtain ⟨i0, hi, hz0, hz1, hz2⟩ := info_parts info_u8
  have own := World.ownsRow_made (base := base) (e := 5) (size := 1) w #[] 0 hbase (Nat.zero_le _) rfl
  have hcell : ∀ j u, news[j]? = some u → (w.alloc (.cells #[] 5)).cell? (ad.add j) = some u := fun j u h => by
    have h' := hnews j u h
    have hlt : (ad.add j).block < w.heap.size := by
      unfold World.cell? at h'
      cases hh : w.heap[(ad.add j).block]? with
      | none => rw [hh] at h'; cases h'
      | some o => exact (Array.getElem?_eq_some_iff.1 hh).1
    exact ((Below.cell (later_alloc w (.cells #[] 5)) hlt)).trans h'
  have hq := fun a n c => Lib.run_eql_slice_nil w 35 5 a n c 0 0 Tryd.underlying35
  go_enter Tryd.func43, Tryd.ntmps43
  go_wp2_with (first | (at_builtin; refine wpList_append_own _ rfl (.tmp 5) (.tmp 6) _ rfl base 5 i0 _ 1 1 Tryd.underlying35 hi hz0 hz1 hz2 rfl (by decide) (.slice (some ⟨w.heap.size, 0, none⟩) 0 0) 0 _ rfl own ad m c news rfl (by omega) hcell h1 ?_ ?_ ?_ ?_; (unfold maxLen; omega); omega; (simp; omega); intro v6 w6 hown6 hg6 hnil6))
  go_returns
  refine ⟨v6, rfl, by simpa using hown6, (later_alloc w _).grown hg6 (by simp) (fun j hj => ?_), fun h => ?_⟩
  · simp [Value.ownBlock] at hj
    omega
  · have := (hnil6.1 h).1
    cases this
end Go.Proofs.YtcgdgopjomilnaaDoor
