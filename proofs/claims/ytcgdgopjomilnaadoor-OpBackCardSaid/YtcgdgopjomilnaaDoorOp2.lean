import Derived.Test.YtcgdgopjomilnaaDoorOp1
namespace Go.Proofs.YtcgdgopjomilnaaDoor
open Go.RowKit

theorem split_uses (w : World) (m : Int) (hm : w.cell? ⟨7, 0, none⟩ = some (.int .i64 m)) :
    Calls Tryd.prog 39 #[.string { data := #[65, 66, 78, 32, 65, 66, 67, 68, 78, 32, 65, 78, 32, 65, 78, 32, 65, 66, 78, 32, 78, 32, 65, 66, 67, 32, 65, 66, 78, 32, 65, 78, 32, 65, 66, 78, 32, 65, 66, 78, 32, 65, 66, 67, 78, 77, 32, 78, 32, 65, 78, 32, 65, 66, 78, 32, 78, 77] }, .string { data := #[32] }] w fun e w' =>
      e = .returned (.slice (some ⟨w.heap.size, 0, none⟩) 16 16) ∧ w.alloc (.cells useCs 9) = w' := by
  have h := _root_.Go.Proofs.Tryd.strings_Split { data := #[65, 66, 78, 32, 65, 66, 67, 68, 78, 32, 65, 78, 32, 65, 78, 32, 65, 66, 78, 32, 78, 32, 65, 66, 67, 32, 65, 66, 78, 32, 65, 78, 32, 65, 66, 78, 32, 65, 66, 78, 32, 65, 66, 67, 78, 77, 32, 78, 32, 65, 78, 32, 65, 66, 78, 32, 78, 77] } { data := #[32] } m w (by decide) hm (by decide)
  rw [show Lib.countB { data := #[65, 66, 78, 32, 65, 66, 67, 68, 78, 32, 65, 78, 32, 65, 78, 32, 65, 66, 78, 32, 78, 32, 65, 66, 67, 32, 65, 66, 78, 32, 65, 78, 32, 65, 66, 78, 32, 65, 66, 78, 32, 65, 66, 67, 78, 77, 32, 78, 32, 65, 78, 32, 65, 66, 78, 32, 78, 77] } { data := #[32] } = 15 from by decide +kernel,
    show Lib.splitB { data := #[32] } 0 15 { data := #[65, 66, 78, 32, 65, 66, 67, 68, 78, 32, 65, 78, 32, 65, 78, 32, 65, 66, 78, 32, 78, 32, 65, 66, 67, 32, 65, 66, 78, 32, 65, 78, 32, 65, 66, 78, 32, 65, 66, 78, 32, 65, 66, 67, 78, 77, 32, 78, 32, 65, 78, 32, 65, 66, 78, 32, 78, 77] } = [⟨#[65, 66, 78]⟩, ⟨#[65, 66, 67, 68, 78]⟩, ⟨#[65, 78]⟩, ⟨#[65, 78]⟩, ⟨#[65, 66, 78]⟩, ⟨#[78]⟩, ⟨#[65, 66, 67]⟩, ⟨#[65, 66, 78]⟩, ⟨#[65, 78]⟩, ⟨#[65, 66, 78]⟩, ⟨#[65, 66, 78]⟩, ⟨#[65, 66, 67, 78, 77]⟩, ⟨#[78]⟩, ⟨#[65, 78]⟩, ⟨#[65, 66, 78]⟩, ⟨#[78, 77]⟩] from by decide +kernel] at h
  refine h.mono ?_
  rintro e w' ⟨rfl, rfl⟩
  exact ⟨rfl, rfl⟩

theorem uses_any (k : Int) (h1 : 1 ≤ k) (h2 : k ≤ 16) (w : World) (m : Int) (hm : w.cell? ⟨7, 0, none⟩ = some (.int .i64 m)) :
    Calls Tryd.prog 20 #[.int .i64 k] w fun e w' => e = .returned (.string (useB k)) ∧ w.alloc (.cells useCs 9) = w' := by
  have hk := useB_at k h1 h2
  go_enter Tryd.func20, Tryd.ntmps20
  go_wp2_with (go_at_call 39; refine (split_uses _ m hm).mono ?_; rintro e w' ⟨rfl, rfl⟩)

  go_returns
  exact ⟨rfl, rfl⟩
end Go.Proofs.YtcgdgopjomilnaaDoor
