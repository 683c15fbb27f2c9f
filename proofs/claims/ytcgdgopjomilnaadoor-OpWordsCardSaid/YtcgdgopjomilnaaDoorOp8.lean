/-
  The statement on words, walked.
-/
import Derived.Test.YtcgdgopjomilnaaDoorOp7
import Derived.RegionTactic
import Derived.BigRegion
namespace Go.Proofs.YtcgdgopjomilnaaDoor
open Go Go.RowKit

theorem ParseBad.at {W : World} {E : Nat → Addr} {v : Value} {C : Nat} (h : ParseBad W E v C) (hC : 101 ≤ C) (W' : World) (g : GW W' E) (hb : Below W.heap.size W W') :
    Calls Tryd.prog 6 #[v] W' fun e w' => e = .returned (.tuple #[.agg #[.int .i64 0, .int .i64 0, .int .i64 0, .int .i64 0, .int .i64 0, .int .i64 0, .int .i64 0, .int .i64 0], .iface 132 (.pointer (some (E C)))]) ∧ Below W'.heap.size W' w' := by
  have := h W' g hb
  rw [errV_iface E hC] at this
  exact this

theorem is_code {w : World} {E : Nat → Addr} (g : GW w E) (c : Nat) (h1 : 101 ≤ c) (h2 : c ≤ 121) :
    Calls Tryd.prog 9 #[.iface 132 (.pointer (some (E c))), .int .i64 c] w fun r w' => r = .returned (.bool true) ∧ Below w.heap.size w w' := by
  have := isErr_any g (errV E c) (.code c) ?_ c
  · rw [errV_iface E h1, show sameF (.code c) c false 0 = true by simp [sameF, Er.num, Er.placed, Er.pos]] at this
    exact this
  · exact ⟨⟨h1, h2⟩, rfl⟩
theorem bytes_eq {s t : ByteArray} (h : s.toList = t.toList) : s = t := by
  rw [ByteArray.toList_eq, ByteArray.toList_eq] at h
  exact ByteArray.ext (Array.toList_inj.1 h)
theorem bytes_full {s : ByteArray} (h : s ≠ ⟨#[]⟩) : s.toList.isEmpty = false := by
  rw [ByteArray.toList_eq]
  cases hl : s.data.toList with
  | nil => exact absurd (ByteArray.ext (Array.toList_inj.1 (by rw [hl]))) h
  | cons _ _ => rfl
theorem nameB_none (k : Int) (h : ¬ (1 ≤ k ∧ k ≤ 16)) : nameB k = ⟨#[]⟩ := by unfold nameB; rw [if_neg h]
theorem names_full : ∀ i : Fin 16, nameL.getD i.val ⟨#[]⟩ ≠ ⟨#[]⟩ := by decide +kernel
theorem names_apart : ∀ i j : Fin 16, nameL.getD i.val ⟨#[]⟩ = nameL.getD j.val ⟨#[]⟩ → i = j := by decide +kernel
theorem nameB_ne (k : Int) (h : 1 ≤ k ∧ k ≤ 16) : nameB k ≠ ⟨#[]⟩ := by
  unfold nameB
  rw [if_pos h]
  exact names_full ⟨k.toNat - 1, by omega⟩
theorem nameB_inj (k j : Int) (h : 1 ≤ k ∧ k ≤ 16) (e : nameB k = nameB j) : k = j := by
  by_cases hj : 1 ≤ j ∧ j ≤ 16
  · unfold nameB at e
    rw [if_pos h, if_pos hj] at e
    have := congrArg Fin.val (names_apart ⟨k.toNat - 1, by omega⟩ ⟨j.toNat - 1, by omega⟩ e)
    simp at this
    omega
  · rw [nameB_none j hj] at e
    exact absurd e (nameB_ne k h)

set_option maxRecDepth 100000 in
set_option maxHeartbeats 400000 in
theorem words_any (k a b : Int) {w : World} {E : Nat → Addr} (g : GW w E) :
    Calls Tryd.prog 3 #[.int .i64 k, .int .i64 a, .int .i64 b] w fun e w' => e = .returned (.bool true) ∧ Below w.heap.size w w' := by
  have hf := first_any g
  have hlo := g.lo
  obtain ⟨i6, hi6⟩ : ∃ i, i = k % 6 := ⟨_, rfl⟩
  obtain ⟨i5, hi5⟩ : ∃ i, i = k % 5 := ⟨_, rfl⟩
  obtain ⟨i4, hi4⟩ : ∃ i, i = k % 4 := ⟨_, rfl⟩
  have l6 : 0 ≤ i6 ∧ i6 < 6 := by omega
  have l5 : 0 ≤ i5 ∧ i5 < 5 := by omega
  have l4 : 0 ≤ i4 ∧ i4 < 4 := by omega
  go_enter Tryd.func3, Tryd.ntmps3
  go_wp2_with (first | (go_at_call 5; refine hf.mono ?_; rintro e w1 ⟨rfl, hb1⟩))
  have g1 := g.later hb1
  obtain ⟨A6, n6, c6, hc6, hp6⟩ := words_at (w := w1) (E := E) i6.toNat (by omega)
  obtain ⟨A5, n5, c5, hc5, hp5⟩ := nums_at (w := w1) (E := E) i5.toNat (by omega)
  obtain ⟨A4, n4, c4, hc4, hp4⟩ := rangs_at (w := w1) (E := E) i4.toNat (by omega)
  have hbW := Later.trans hb1 (tab_later w1)
  have hs1 := (tab_later w1).size
  have gW := g.later hbW
  have hW : (((((((((((((((((w1.alloc (.cells #[.string { data := #[53] }] 9)).alloc (.cells #[.string { data := #[53] }, .string { data := #[100, 101, 112, 111, 115, 105, 116, 115] }, .string { data := #[49] }, .string { data := #[50] }, .string { data := #[51] }] 9)).alloc (.cells #[.string { data := #[53] }, .string { data := #[100, 101, 112, 111, 115, 105, 116] }, .string { data := #[49] }, .string { data := #[50] }] 9)).alloc (.cells #[.string { data := #[120] }, .string { data := #[116, 105, 99, 107] }, .string { data := #[49] }, .string { data := #[50] }] 9)).alloc (.cells #[.string { data := #[53] }, .string { data := #[] }] 9)).alloc (.cells #[.slice none 0 0, .slice (some { block := w1.heap.size, off := 0 }) 1 1, .slice (some { block := w1.heap.size + 1, off := 0 }) 5 5, .slice (some { block := w1.heap.size + 1 + 1, off := 0 }) 4 4, .slice (some { block := w1.heap.size + 1 + 1 + 1, off := 0 }) 4 4, .slice (some { block := w1.heap.size + 1 + 1 + 1 + 1, off := 0 }) 2 2] 23)).alloc (.cells #[.string { data := #[120] }, .string { data := #[116, 105, 99, 107] }, .string { data := #[49] }] 9)).alloc (.cells #[.string { data := #[53] }, .string { data := #[110, 101, 101, 100] }, .string { data := #[49] }, .string { data := #[48, 49] }] 9)).alloc (.cells #[.string { data := #[48, 53] }, .string { data := #[116, 105, 99, 107] }, .string { data := #[49] }] 9)).alloc (.cells #[.string { data := #[53] }, .string { data := #[102, 117, 110, 100] }, .string { data := #[] }, .string { data := #[49] }] 9)).alloc (.cells #[.string { data := #[53] }, .string { data := #[116, 105, 99, 107] }, .string { data := #[49, 50, 51, 52, 53, 54, 55, 56, 57, 48, 49, 50, 51, 52, 53, 54, 55, 56, 57] }] 9)).alloc (.cells #[.slice (some { block := w1.heap.size + 1 + 1 + 1 + 1 + 1 + 1, off := 0 }) 3 3, .slice (some { block := w1.heap.size + 1 + 1 + 1 + 1 + 1 + 1 + 1, off := 0 }) 4 4, .slice (some { block := w1.heap.size + 1 + 1 + 1 + 1 + 1 + 1 + 1 + 1, off := 0 }) 3 3, .slice (some { block := w1.heap.size + 1 + 1 + 1 + 1 + 1 + 1 + 1 + 1 + 1, off := 0 }) 4 4, .slice (some { block := w1.heap.size + 1 + 1 + 1 + 1 + 1 + 1 + 1 + 1 + 1 + 1, off := 0 }) 3 3] 23)).alloc (.cells #[.string { data := #[48] }, .string { data := #[116, 105, 99, 107] }, .string { data := #[49] }] 9)).alloc (.cells #[.string { data := #[53] }, .string { data := #[110, 101, 101, 100] }, .string { data := #[49, 48, 52, 56, 53, 55, 55] }, .string { data := #[49] }] 9)).alloc (.cells #[.string { data := #[53] }, .string { data := #[116, 105, 99, 107] }, .string { data := #[49, 48, 48, 48, 48, 48, 48, 48, 48, 48, 48, 48, 48, 48, 48, 49] }] 9)).alloc (.cells #[.string { data := #[49, 48, 57, 57, 53, 49, 49, 54, 50, 55, 55, 55, 55] }, .string { data := #[116, 105, 99, 107] }, .string { data := #[49] }] 9)).alloc (.cells #[.slice (some { block := w1.heap.size + 1 + 1 + 1 + 1 + 1 + 1 + 1 + 1 + 1 + 1 + 1 + 1, off := 0 }) 3 3, .slice (some { block := w1.heap.size + 1 + 1 + 1 + 1 + 1 + 1 + 1 + 1 + 1 + 1 + 1 + 1 + 1, off := 0 }) 4 4, .slice (some { block := w1.heap.size + 1 + 1 + 1 + 1 + 1 + 1 + 1 + 1 + 1 + 1 + 1 + 1 + 1 + 1, off := 0 }) 3 3, .slice (some { block := w1.heap.size + 1 + 1 + 1 + 1 + 1 + 1 + 1 + 1 + 1 + 1 + 1 + 1 + 1 + 1 + 1, off := 0 }) 3 3] 23)) = tabW w1 := rfl
  rw [hW]
  generalize tabW w1 = W at *
  clear hW
  have hn6 := fun W => num_any k 6 (by decide) (by decide) W
  have hn5 := fun W => num_any k 5 (by decide) (by decide) W
  have hn4 := fun W => num_any k 4 (by decide) (by decide) W
  rw [← hi6] at hn6
  rw [← hi5] at hn5
  rw [← hi4] at hn4
  clear hi6 hi5 hi4
  generalize ht4 : w1.heap.size + 1 + 1 + 1 + 1 + 1 + 1 + 1 + 1 + 1 + 1 + 1 + 1 + 1 + 1 + 1 + 1 = b4
  generalize ht5 : w1.heap.size + 1 + 1 + 1 + 1 + 1 + 1 + 1 + 1 + 1 + 1 + 1 = b5
  generalize ht6 : w1.heap.size + 1 + 1 + 1 + 1 + 1 = b6
  replace hc6 : W.cell? ⟨b6, i6.toNat, none⟩ = some (.slice A6 n6 c6) := by rw [← ht6]; exact hc6
  replace hc5 : W.cell? ⟨b5, i5.toNat, none⟩ = some (.slice A5 n5 c5) := by rw [← ht5]; exact hc5
  replace hc4 : W.cell? ⟨b4, i4.toNat, none⟩ = some (.slice A4 n4 c4) := by rw [← ht4]; exact hc4
  clear ht6 ht5 ht4
  have hW : Below W.heap.size W W := Below.refl _ _
  go_wp2_with fail
  go_at_call 7; refine (hn6 _).mono ?_; rintro e w2 ⟨rfl, rfl⟩
  go_wp2_with fail
  go_at_call 6; refine (hp6.at (by omega) W (gW.later hW) hW).mono ?_; rintro e v6 ⟨rfl, hv6⟩
  go_wp2_with fail
  have hW3 : Below W.heap.size W (v6.alloc (.cells #[.int .i64 0, .int .i64 0, .int .i64 0, .int .i64 0, .int .i64 0, .int .i64 0, .int .i64 0, .int .i64 0] 26)) := Later.alloc (Later.trans hW hv6) _
  generalize v6.alloc (.cells #[.int .i64 0, .int .i64 0, .int .i64 0, .int .i64 0, .int .i64 0, .int .i64 0, .int .i64 0, .int .i64 0] 26) = W3 at hW3 ⊢
  clear hv6
  replace hc5 := Later.cell hW3 hc5
  generalize v6.heap.size = z6
  go_wp2_with fail
  go_at_call 7; refine (hn5 _).mono ?_; rintro e w2 ⟨rfl, rfl⟩
  go_wp2_with fail
  go_at_call 6; refine (hp5.at (by omega) W3 (gW.later hW3) hW3).mono ?_; rintro e v5 ⟨rfl, hv5⟩
  go_wp2_with fail
  have hW4 : Below W.heap.size W (v5.alloc (.cells #[.int .i64 0, .int .i64 0, .int .i64 0, .int .i64 0, .int .i64 0, .int .i64 0, .int .i64 0, .int .i64 0] 26)) := Later.alloc (Later.trans hW3 hv5) _
  generalize v5.alloc (.cells #[.int .i64 0, .int .i64 0, .int .i64 0, .int .i64 0, .int .i64 0, .int .i64 0, .int .i64 0, .int .i64 0] 26) = W4 at hW4 ⊢
  clear hv5
  replace hc4 := Later.cell hW4 hc4
  generalize v5.heap.size = z5
  go_wp2_with fail
  go_at_call 7; refine (hn4 _).mono ?_; rintro e w2 ⟨rfl, rfl⟩
  go_wp2_with fail
  go_at_call 6; refine (hp4.at (by omega) W4 (gW.later hW4) hW4).mono ?_; rintro e v4 ⟨rfl, hv4⟩
  go_wp2_with fail
  have hW5 : Below W.heap.size W (v4.alloc (.cells #[.int .i64 0, .int .i64 0, .int .i64 0, .int .i64 0, .int .i64 0, .int .i64 0, .int .i64 0, .int .i64 0] 26)) := Later.alloc (Later.trans hW4 hv4) _
  generalize v4.alloc (.cells #[.int .i64 0, .int .i64 0, .int .i64 0, .int .i64 0, .int .i64 0, .int .i64 0, .int .i64 0, .int .i64 0] 26) = W5 at hW5 ⊢
  clear hv4
  generalize v4.heap.size = z4
  have hna := fun W => num_any a 18 (by decide) (by decide) W
  have hnb := fun W => num_any b 18 (by decide) (by decide) W
  generalize a % 18 = ia at hna
  generalize b % 18 = ib at hnb
  have g5 := gW.later hW5
  obtain ⟨m5, hm5⟩ := g5.maxlen
  go_at_call 7; refine (hna _).mono ?_; rintro e w2 ⟨rfl, rfl⟩
  go_wp2_with fail
  go_at_call 7; refine (hnb _).mono ?_; rintro e w2 ⟨rfl, rfl⟩
  go_wp2_with fail
  go_at_call 8; refine (name_any ia _ m5 hm5).mono ?_; rintro e W6 ⟨rfl, hW6⟩
  have g6 := g5.later hW6
  obtain ⟨m6, hm6⟩ := g6.maxlen
  go_wp2_with fail
  go_at_call 8; refine (name_any ib _ m6 hm6).mono ?_; rintro e W7 ⟨rfl, hW7⟩
  have g7 := g6.later hW7
  go_wp2_with fail
  have i1 := is_code g7 118 (by omega) (by omega)
  go_at_call 9; refine i1.mono ?_; rintro e W8 ⟨rfl, hW8⟩
  have g8 := g7.later hW8
  have i2 := is_code g8 119 (by omega) (by omega)
  go_wp2_with fail
  go_at_call 9; refine i2.mono ?_; rintro e W9 ⟨rfl, hW9⟩
  have g9 := g8.later hW9
  have i3 := is_code g9 103 (by omega) (by omega)
  go_wp2_with fail
  go_at_call 9; refine i3.mono ?_; rintro e W10 ⟨rfl, hW10⟩
  have hend : Below w.heap.size w W10 := Later.trans hbW (Later.trans hW5 (Later.trans hW6 (Later.trans hW7 (Later.trans hW8 (Later.trans hW9 hW10)))))
  clear i1 i2 i3 hf hlo hc5 hc4 hc6 hp4 hp5 hp6 hn4 hn5 hn6 hna hnb g gW g1 g5 g6 g7 g8 g9 hm5 hm6
  by_cases hP : 1 ≤ ia ∧ ia ≤ 16
  · have hne := nameB_ne ia hP
    have p1 : decide (ia ≥ 1) = true := by simpa using hP.1
    have p2 : decide (ia ≤ 16) = true := by simpa using hP.2
    by_cases hab : ia = ib
    · subst hab
      generalize nameB ia = sa at hne
      have e1 : sa.toList.isEmpty = false := bytes_full hne
      go_wp2_with fail
      all_goals (go_returns; exact ⟨rfl, hend⟩)
    · have hdiff : nameB ia ≠ nameB ib := fun h => hab (nameB_inj ia ib hP h)
      generalize nameB ia = sa at hne hdiff
      generalize nameB ib = sb at hdiff
      have e1 : sa.toList.isEmpty = false := bytes_full hne
      have e3 : (sa.toList == sb.toList) = false := beq_eq_false_iff_ne.2 fun h => hdiff (bytes_eq h)
      have e4 : (ia == ib) = false := by simpa using hab
      go_wp2_with fail
      all_goals (go_returns; exact ⟨rfl, hend⟩)
  · rw [nameB_none ia hP]
    generalize nameB ib = sb
    have hPb : (decide (ia ≥ 1) && decide (ia ≤ 16)) = false := by simp; omega
    by_cases h1 : 1 ≤ ia
    · have p1 : decide (ia ≥ 1) = true := by simpa using h1
      have p2 : decide (ia ≤ 16) = false := by simp; omega
      cases hab : (ia == ib)
      · go_wp2_with fail
        go_returns; exact ⟨rfl, hend⟩
      · go_wp2_with fail
        go_returns; exact ⟨rfl, hend⟩
    · have p1 : decide (ia ≥ 1) = false := by simp; omega
      cases hab : (ia == ib)
      · go_wp2_with fail
        go_returns; exact ⟨rfl, hend⟩
      · go_wp2_with fail
        go_returns; exact ⟨rfl, hend⟩
end Go.Proofs.YtcgdgopjomilnaaDoor
