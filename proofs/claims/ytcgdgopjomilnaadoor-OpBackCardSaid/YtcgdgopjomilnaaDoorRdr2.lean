/-
  wire.Reader's own functions: new, a number read, what is amiss, what is left.
-/
import Derived.Test.YtcgdgopjomilnaaDoorRdr
import Derived.Maps.AppendAt
namespace Go.Proofs.YtcgdgopjomilnaaDoor
open Go Go.RowKit

theorem rdN_code : ∀ (l : List Nat) (i a c : Nat), rdN l i a = .error c → c = 101 ∨ c = 102 := by
  intro l
  induction l with
  | nil => intro i a c h; cases h; exact .inl rfl
  | cons x l ih =>
    intro i a c h
    rw [rdN] at h
    split at h
    · cases h; exact .inr rfl
    · split at h
      · exact ih _ _ _ h
      · split at h
        · cases h; exact .inr rfl
        · cases h
theorem rdN_count : ∀ (l : List Nat) (i a z k : Nat), rdN l i a = .ok (z, k) → k ≤ i + l.length := by
  intro l
  induction l with
  | nil => intro i a z k h; cases h
  | cons x l ih =>
    intro i a z k h
    rw [rdN] at h
    split at h
    · cases h
    · split at h
      · have := ih _ _ _ _ h
        simp; omega
      · split at h
        · cases h
        · cases h; simp
theorem numR_le (l : List Nat) (lo hi : Int) (s : Nat × Er) (h : s.1 ≤ l.length) : (numR l lo hi s).2.1 ≤ l.length := by
  unfold numR
  split
  · split
    · exact h
    · rename_i z k hr
      have := rdN_count _ _ _ _ _ hr
      split
      · exact h
      · simp at this ⊢; omega
  · exact h

theorem grown_set (w : World) (b i : Nat) (v : Value) : w.grownBy (w.setCell ⟨b, i, none⟩ v) (some b) :=
  ⟨rfl, rfl, rfl, by simp [World.setCell], fun j _ hne => Below.heap_setCell w ⟨b, i, none⟩ v j (fun h => hne (by rw [h]))⟩
theorem Rd.grown {w w' : World} {v : Value} {xs : List Value} {R : Nat} (h : Rd w v xs) (hg : w.grownBy w' (some R)) (hne : v.ownBlock ≠ some R) : Rd w' v xs := by
  rcases h with h | ⟨b, off, c, rfl, hlt, hc, hcell⟩
  · exact .inl h
  · refine .inr ⟨b, off, c, rfl, Nat.lt_of_lt_of_le hlt hg.size, hc, fun j u hu => hg.cell (hcell j u hu) ?_⟩
    simpa [Value.ownBlock] using hne
theorem Blk.grownS {w w' : World} {b R : Nat} {t : TypeId} {cs : Array Value} (h : Blk w b t cs) (hg : w.grownBy w' (some R)) (hne : b ≠ R) : Blk w' b t cs := h.grown hg (fun e => hne (Option.some.inj e).symm)
theorem IsErr.grown {w w' : World} {E : Nat → Addr} {v : Value} {e : Er} {R : Nat} {t : TypeId} {cs : Array Value} (h : IsErr w E v e) (hg : w.grownBy w' (some R)) (hR : Blk w R t cs) (ht : t ≠ 67) : IsErr w' E v e := by
  cases e with
  | none => exact h
  | code c => exact h
  | «at» p c =>
    obtain ⟨h1, b, rfl, hb⟩ := h
    refine ⟨h1, b, rfl, hb.grownS hg fun e => ht ?_⟩
    subst e
    unfold Blk at hb hR
    rw [hb] at hR
    injection hR with hR
    injection hR with _ h
    exact h.symm

set_option maxRecDepth 100000 in
theorem fail_any (R : Nat) (bv : Value) (p : Nat) (ev : Value) (c : Nat) (hc : 101 ≤ c) {w : World} {E : Nat → Addr} (hB : Blk w R 79 (rdrCs bv p ev)) :
    Calls Tryd.prog 46 #[.pointer (some ⟨R, 0, none⟩), .iface 132 (.pointer (some (E c)))] w fun e w' => e = .returned (.tuple #[]) ∧
      ((w.setCell ⟨R, 2, none⟩ (.iface 65 (.pointer (some ⟨w.heap.size, 0, none⟩)))).alloc (.cells #[.int .i64 p, .iface 132 (.pointer (some (E c)))] 67)) = w' := by
  have c0 : w.cell? ⟨R, 0, none⟩ = some bv := hB.cell 0
  have c1 : w.cell? ⟨R, 1, none⟩ = some (.int .i64 p) := hB.cell 1
  have c2 : w.cell? ⟨R, 2, none⟩ = some ev := hB.cell 2
  have f2 : w.frozen? ⟨R, 2, none⟩ = false := hB.frozen 2
  have hRl := hB.lt
  go_enter Tryd.func46, Tryd.ntmps46
  go_wp2_with fail
  go_returns
  exact ⟨rfl, rfl⟩
theorem fail_rd (R : Nat) (bv : Value) (p : Nat) (ev : Value) (c : Nat) (hc : 101 ≤ c) (hc2 : c ≤ 121) {w : World} {E : Nat → Addr} (hB : Blk w R 79 (rdrCs bv p ev)) :
    Calls Tryd.prog 46 #[.pointer (some ⟨R, 0, none⟩), .iface 132 (.pointer (some (E c)))] w fun e w' => e = .returned (.tuple #[]) ∧
      ∃ ev', Blk w' R 79 (rdrCs bv p ev') ∧ IsErr w' E ev' (.at p c) ∧ w.grownBy w' (some R) := by
  refine (fail_any R bv p ev c hc (E := E) hB).mono ?_
  rintro e w' ⟨rfl, rfl⟩
  have h1 := (hB.put 2 (.iface 65 (.pointer (some ⟨w.heap.size, 0, none⟩)))).alloc (.cells #[.int .i64 p, .iface 132 (.pointer (some (E c)))] 67)
  refine ⟨rfl, _, h1, ⟨⟨hc, hc2⟩, w.heap.size, rfl, ?_⟩, (grown_set _ _ _ _).trans (World.grownBy_alloc _ _ _)⟩
  rw [errV_iface E hc]
  exact Blk.new' (by simp [World.setCell]) _ _

set_option maxRecDepth 100000 in
set_option maxHeartbeats 1000000 in
theorem number_nil (R : Nat) (ev : Value) (p : Nat) {w : World} {E : Nat → Addr} (g : GW w E) (hp : p ≤ 1000000000)
    (hB : Blk w R 79 (rdrCs (.slice none 0 0) p ev)) :
    Calls Tryd.prog 45 #[.pointer (some ⟨R, 0, none⟩)] w fun e w' => e = .returned (numV E (.error 101)) ∧ Below w.heap.size w w' := by
  go_enter Tryd.func45, Tryd.ntmps45
  go_wp2_with fail
  go_loopw [6] (fun i wr => i = .int .i64 0 ∧ Below w.heap.size w wr) (fun i _ => 10 - (intOf i).toNat)
  case atStart => exact ⟨rfl, Below.refl _ _⟩
  case round =>
    obtain ⟨rfl, hb⟩ := hrel
    have gr := g.later hb
    have hBr := hB.later hb
    have c0 : wr.cell? ⟨R, 0, none⟩ = some (.slice none 0 0) := hBr.cell 0
    have c1 : wr.cell? ⟨R, 1, none⟩ = some (.int .i64 p) := hBr.cell 1
    have hRl := hBr.lt
    have e1 := gr.e101
    have t1 : decide ((0 : Int) ≤ (p : Int)) = true := by simp
    clear g gr hB hBr
    go_wp2_with fail
    go_quiet (fail)
    go_wp2_with fail
    go_quiet (fail)
    go_wp2_with fail
    go_returns
    exact ⟨rfl, (by first | exact below_drewN hb _ | exact below_drewN (below_drewN hb _) _)⟩

theorem number_rd (R : Nat) (bv ev : Value) (l : List Nat) (hby : ∀ c ∈ l, c < 256) (p : Nat) (hp : p ≤ l.length) (hl : l.length ≤ 1000000000) {w : World} {E : Nat → Addr} (g : GW w E)
    (hB : Blk w R 79 (rdrCs bv p ev)) (hv : Rd w bv (u8s l)) :
    Calls Tryd.prog 45 #[.pointer (some ⟨R, 0, none⟩)] w fun e w' => e = .returned (numV E (rdN (l.drop p) 0 0)) ∧ Below w.heap.size w w' := by
  rcases hv with ⟨rfl, h0⟩ | ⟨b, off, c, rfl, hlt, hc, hcell⟩
  · have : l = [] := by simpa [u8s] using h0
    subst this
    rw [List.drop_nil]
    exact number_nil R ev p g (by omega) hB
  · have hlen : (u8s l).length = l.length := by simp [u8s]
    rw [hlen] at hB
    exact number_slice R b off c ev l hby p hp hl g hB hcell

def numRes (E : Nat → Addr) (R : Nat) (bv : Value) (w : World) (r : Int × (Nat × Er)) (e : Ending) (w' : World) : Prop :=
  e = .returned (.int .i64 r.1) ∧ ∃ ev', Blk w' R 79 (rdrCs bv r.2.1 ev') ∧ IsErr w' E ev' r.2.2 ∧ w.grownBy w' (some R)

set_option maxRecDepth 100000 in
set_option maxHeartbeats 1000000 in
theorem num_bad (R : Nat) (bv ev : Value) (p : Nat) (q : Int) (c : Nat) (lo hi : Int) (l : List Nat) {w : World} {E : Nat → Addr}
    (hB : Blk w R 79 (rdrCs bv p ev)) (he : IsErr w E ev (.at q c)) :
    Calls Tryd.prog 30 #[.pointer (some ⟨R, 0, none⟩), .int .i64 lo, .int .i64 hi] w (numRes E R bv w (numR l lo hi (p, .at q c))) := by
  have he' := he
  obtain ⟨h1, b, rfl, hb⟩ := he
  have hr : numR l lo hi (p, .at q c) = (0, (p, .at q c)) := rfl
  have c2 : w.cell? ⟨R, 2, none⟩ = some (.iface 65 (.pointer (some ⟨b, 0, none⟩))) := hB.cell 2
  rw [hr]
  clear hr
  go_enter Tryd.func30, Tryd.ntmps30
  go_wp2_with fail
  go_returns
  exact ⟨rfl, _, hB, he', World.grownBy.refl _ _⟩

set_option maxRecDepth 100000 in
set_option maxHeartbeats 2000000 in
theorem num_good (R : Nat) (bv : Value) (l : List Nat) (hby : ∀ c ∈ l, c < 256) (p : Nat) (hp : p ≤ l.length) (hl : l.length ≤ 1000000000) (lo hi : Int) {w : World} {E : Nat → Addr} (g : GW w E)
    (hB : Blk w R 79 (rdrCs bv p .nilIface)) (hv : Rd w bv (u8s l)) :
    Calls Tryd.prog 30 #[.pointer (some ⟨R, 0, none⟩), .int .i64 lo, .int .i64 hi] w (numRes E R bv w (numR l lo hi (p, .none))) := by
  have hn := number_rd R bv .nilIface l hby p hp hl g hB hv
  have c1 : w.cell? ⟨R, 1, none⟩ = some (.int .i64 p) := hB.cell 1
  have c2 : w.cell? ⟨R, 2, none⟩ = some .nilIface := hB.cell 2
  cases hr : rdN (l.drop p) 0 0 with
  | error c =>
    have hc : 101 ≤ c ∧ c ≤ 121 := by have := rdN_code _ _ _ _ hr; omega
    have hres : numR l lo hi (p, .none) = (0, (p, .at p c)) := by unfold numR; simp only [hr]
    rw [hres]
    rw [hr, numV, errV_iface E hc.1] at hn
    clear hr hres
    go_enter Tryd.func30, Tryd.ntmps30
    go_wp2_with (first | (go_at_call 45; refine hn.mono ?_; rintro e w1 ⟨rfl, hb1⟩) | (go_at_call 46; refine (fail_rd R bv p .nilIface c hc.1 hc.2 (E := E) (hB.later hb1)).mono ?_; rintro e w2 ⟨rfl, ev', hB2, he2, hg2⟩))
    go_returns
    exact ⟨rfl, ev', hB2, he2, (grown_of_later hb1 _).trans hg2⟩
  | ok r =>
    obtain ⟨z, k⟩ := r
    have hk := rdN_count _ _ _ _ _ hr
    have hkl : p + k ≤ l.length := by simp at hk; omega
    rw [hr, numV] at hn
    by_cases hbad : unzig z < lo ∨ hi < unzig z
    · have hres : numR l lo hi (p, .none) = (0, (p, .at p 103)) := by unfold numR; simp only [hr]; rw [if_pos hbad]
      rw [hres]
      have e3 := g.e103
      generalize unzig z = n at hn hbad
      clear hr hres hk
      have ht : decide (n < lo) = true ∨ decide (n < lo) = false ∧ decide (n > hi) = true := by
        by_cases h : n < lo
        · left; simpa using h
        · right; exact ⟨by simpa using h, by simp; omega⟩
      clear hbad
      rcases ht with t1 | ⟨t1, t2⟩
      all_goals
        go_enter Tryd.func30, Tryd.ntmps30
        go_wp2_with (first | (go_at_call 45; refine hn.mono ?_; rintro e w1 ⟨rfl, hb1⟩; have e3' := Later.cell hb1 e3) | (go_at_call 46; refine (fail_rd R bv p .nilIface 103 (by omega) (by omega) (E := E) (hB.later hb1)).mono ?_; rintro e w2 ⟨rfl, ev', hB2, he2, hg2⟩))
        go_returns
        exact ⟨rfl, ev', hB2, he2, (grown_of_later hb1 _).trans hg2⟩
    · have hres : numR l lo hi (p, .none) = (unzig z, (p + k, .none)) := by unfold numR; simp only [hr]; rw [if_neg hbad]
      rw [hres]
      generalize unzig z = n at hn hbad
      have t1 : decide (n < lo) = false := by simp; omega
      have t2 : decide (n > hi) = false := by simp; omega
      clear hr hres hk hbad
      go_enter Tryd.func30, Tryd.ntmps30
      go_wp2_with (first | (go_at_call 45; refine hn.mono ?_; rintro e w1 ⟨rfl, hb1⟩; have hB1 := hB.later hb1; have d1 : w1.cell? ⟨R, 1, none⟩ = some (.int .i64 p) := hB1.cell 1; have f1 := hB1.frozen 1))
      go_returns
      refine ⟨rfl, .nilIface, hB1.put 1 (.int .i64 ((p + k : Nat) : Int)), rfl, (grown_of_later hb1 _).trans (grown_set _ _ _ _)⟩

theorem numR_any (R : Nat) (bv ev : Value) (l : List Nat) (hby : ∀ c ∈ l, c < 256) (s : Nat × Er) (hp : s.1 ≤ l.length) (hl : l.length ≤ 1000000000) (lo hi : Int) (hs : s.2 = .none ∨ ∃ q c, s.2 = .at q c) {w : World} {E : Nat → Addr} (g : GW w E)
    (hB : Blk w R 79 (rdrCs bv s.1 ev)) (he : IsErr w E ev s.2) (hv : Rd w bv (u8s l)) :
    Calls Tryd.prog 30 #[.pointer (some ⟨R, 0, none⟩), .int .i64 lo, .int .i64 hi] w (numRes E R bv w (numR l lo hi s)) := by
  obtain ⟨p, er⟩ := s
  rcases hs with h | ⟨q, c, h⟩
  · simp only at h
    subst h
    have : ev = .nilIface := he
    subst this
    exact num_good R bv l hby p hp hl lo hi g hB hv
  · simp only at h
    subst h
    exact num_bad R bv ev p q c lo hi l hB he

theorem numR_er (l : List Nat) (lo hi : Int) (s : Nat × Er) (hs : s.2 = .none ∨ ∃ q c, s.2 = .at q c) : (numR l lo hi s).2.2 = .none ∨ ∃ q c, (numR l lo hi s).2.2 = .at q c := by
  unfold numR
  split
  · split
    · exact .inr ⟨_, _, rfl⟩
    · split
      · exact .inr ⟨_, _, rfl⟩
      · exact .inl rfl
  · exact hs

theorem err_any (R : Nat) (bv ev : Value) (p : Nat) {w : World} (hB : Blk w R 79 (rdrCs bv p ev)) :
    Calls Tryd.prog 31 #[.pointer (some ⟨R, 0, none⟩)] w fun e w' => e = .returned ev ∧ w = w' := by
  have c2 : w.cell? ⟨R, 2, none⟩ = some ev := hB.cell 2
  go_enter Tryd.func31, Tryd.ntmps31
  go_wp2_with fail
  go_returns
  exact ⟨rfl, rfl⟩
theorem at_any (R : Nat) (bv ev : Value) (p : Nat) {w : World} (hB : Blk w R 79 (rdrCs bv p ev)) :
    Calls Tryd.prog 33 #[.pointer (some ⟨R, 0, none⟩)] w fun e w' => e = .returned (.int .i64 p) ∧ w = w' := by
  have c1 : w.cell? ⟨R, 1, none⟩ = some (.int .i64 p) := hB.cell 1
  go_enter Tryd.func33, Tryd.ntmps33
  go_wp2_with fail
  go_returns
  exact ⟨rfl, rfl⟩
theorem left_any (R : Nat) (bv ev : Value) (l : List Nat) (p : Nat) (hp : p ≤ l.length) (hl : l.length ≤ 1000000000) {w : World} (hB : Blk w R 79 (rdrCs bv p ev)) (hv : Rd w bv (u8s l)) :
    Calls Tryd.prog 32 #[.pointer (some ⟨R, 0, none⟩)] w fun e w' => e = .returned (.int .i64 ((l.length - p : Nat) : Int)) ∧ Below w.heap.size w w' := by
  have hlen : (u8s l).length = l.length := by simp [u8s]
  have c1 : w.cell? ⟨R, 1, none⟩ = some (.int .i64 p) := hB.cell 1
  have c0 : w.cell? ⟨R, 0, none⟩ = some bv := hB.cell 0
  have hRl := hB.lt
  obtain ⟨A, c, rfl⟩ : ∃ A c, bv = .slice A l.length c := by
    rcases hv with ⟨rfl, h0⟩ | ⟨b, off, c, rfl, _⟩
    · exact ⟨none, 0, by rw [← hlen, h0]; rfl⟩
    · exact ⟨_, _, by rw [hlen]⟩
  have e1 : (l.length : Int) - (p : Int) = ((l.length - p : Nat) : Int) := by omega
  have H1 := Lib.hid e1
  clear e1 hlen
  go_enter Tryd.func32, Tryd.ntmps32
  go_wp2_with fail
  go_quiet (fail)
  go_wp2_with fail
  go_returns
  exact ⟨by rw [← H1.out]; rfl, below_drewN (Below.refl _ _) _⟩
end Go.Proofs.YtcgdgopjomilnaaDoor
