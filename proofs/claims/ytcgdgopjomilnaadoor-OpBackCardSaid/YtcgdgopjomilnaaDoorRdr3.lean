/-
  An operation read from bytes.
-/
import Derived.Test.YtcgdgopjomilnaaDoorRdr2
import Derived.RegionTactic
import Derived.BigRegion
import Derived.Laws.Tables
import Derived.Laws.Rows
namespace Go.Proofs.YtcgdgopjomilnaaDoor
open Go Go.RowKit

theorem own_slice {w : World} {base e n s : Nat} {v : Value} {xs : List Value} (h : w.ownsRow base e s v n xs) : ∃ A c, v = .slice A n c := by
  rcases h.2 with ⟨rfl, rfl⟩ | ⟨g, cap, cur, rfl, _⟩
  · exact ⟨none, 0, rfl⟩
  · exact ⟨_, cap, rfl⟩
set_option maxRecDepth 100000 in
theorem new_any (v : Value) (l : List Nat) (hl : l.length ≤ 1000000000) {w : World} (hv : Rd w v (u8s l)) :
    Calls Tryd.prog 29 #[v] w fun e w' => ∃ R bv, e = .returned (.pointer (some ⟨R, 0, none⟩)) ∧ Blk w' R 79 (rdrCs bv 0 .nilIface) ∧ w'.ownsRow w.heap.size 5 1 bv l.length (u8s l) ∧ w.heap.size ≤ R ∧ Below w.heap.size w w' := by
  have hlen : (u8s l).length = l.length := by simp [u8s]
  have hcl := clone_rd v (u8s l) (by omega) hv (u8s_one l)
  rw [hlen] at hcl
  clear hlen hv
  go_enter Tryd.func29, Tryd.ntmps29
  go_wp2_with (go_at_call 43; refine hcl.mono ?_; rintro e w1 ⟨v1, rfl, hown1, hb1⟩; obtain ⟨A1, c1, rfl⟩ := own_slice hown1)
  go_returns
  exact ⟨_, _, rfl, Blk.new _ _ _, own_later hown1 (later_alloc _ _), hb1.size, Later.alloc hb1 _⟩

theorem blk_ne {w : World} {b b' : Nat} {t t' : TypeId} {cs cs' : Array Value} (h : Blk w b t cs) (h' : Blk w b' t' cs') (hne : t ≠ t') : b ≠ b' := by
  intro e
  subst e
  unfold Blk at h h'
  rw [h] at h'
  injection h' with h'
  injection h' with _ h'
  exact hne h'
theorem own_own {w : World} {base e n base' e' n' : Nat} {v v' : Value} {xs xs' : List Value} {s s' : Nat} (h : w.ownsRow base e s v n xs) (h' : w.ownsRow base' e' s' v' n' xs') (hne : e ≠ e') : v.ownBlock = none ∨ v.ownBlock ≠ v'.ownBlock := by
  rcases h.2 with ⟨rfl, _⟩ | ⟨g, cap, cur, rfl, _, hh, _⟩
  · exact .inl rfl
  · right
    rcases h'.2 with ⟨rfl, _⟩ | ⟨g', cap', cur', rfl, _, hh', _⟩
    · simp [Value.ownBlock]
    · intro he
      have : g = g' := by simpa [Value.ownBlock] using he
      subst this
      rw [hh] at hh'
      injection hh' with hh'
      injection hh' with _ h
      exact hne h
/-- An error's block is of no other type than its own. -/
theorem IsErr.kept {w w' : World} {E : Nat → Addr} {v : Value} {e : Er} {base n s : Nat} {ty : TypeId} {u : Value} {xs : List Value} (h : IsErr w E v e) (own : w.ownsRow base ty s u n xs) (hg : w.grownBy w' u.ownBlock) (ht : ty ≠ 67) : IsErr w' E v e := by
  cases e with
  | none => exact h
  | code c => exact h
  | «at» p c =>
    obtain ⟨h1, b, rfl, hb⟩ := h
    exact ⟨h1, b, rfl, hb.grown hg (own_ne own hb ht)⟩

abbrev zero8 : Array Value := #[.int .i64 0, .int .i64 0, .int .i64 0, .int .i64 0, .int .i64 0, .int .i64 0, .int .i64 0, .int .i64 0]
set_option maxRecDepth 100000 in
set_option maxHeartbeats 1000000 in
theorem read_long (v : Value) (l : List Nat) (hl : 256 < l.length) {w : World} {E : Nat → Addr} (g : GW w E) (hv : Rd w v (u8s l)) :
    Calls Tryd.prog 11 #[v] w fun e w' => e = .returned (.tuple #[O.v .zero, errV E 105]) ∧ Below w.heap.size w w' := by
  have hlen : (u8s l).length = l.length := by simp [u8s]
  obtain ⟨A, c, rfl⟩ : ∃ A c, v = .slice A l.length c := by
    rcases hv with ⟨rfl, h0⟩ | ⟨b, off, c, rfl, _⟩
    · exact ⟨none, 0, by rw [← hlen, h0]; rfl⟩
    · exact ⟨_, _, by rw [hlen]⟩
  have e0 : w.cell? ⟨2, 0, none⟩ = some (.iface 132 (.pointer (some (E 105)))) := g.err 105 (by omega) (by omega)
  have hlo := g.lo
  clear hv hlen
  go_enter Tryd.func11, Tryd.ntmps11
  go_wp2_with fail
  go_region
  all_goals (go_wp2; go_returns; exact ⟨rfl, by go_grown⟩)

/-- Eight cells stored, one behind the other. -/
theorem put8 {w : World} {b : Nat} {t : TypeId} {c0 c1 c2 c3 c4 c5 c6 c7 : Value} (h : Blk w b t #[c0, c1, c2, c3, c4, c5, c6, c7]) (x0 x1 x2 x3 x4 x5 x6 x7 : Value) :
    Blk ((((((((w.setCell ⟨b, 0, none⟩ x0).setCell ⟨b, 1, none⟩ x1).setCell ⟨b, 2, none⟩ x2).setCell ⟨b, 3, none⟩ x3).setCell ⟨b, 4, none⟩ x4).setCell ⟨b, 5, none⟩ x5).setCell ⟨b, 6, none⟩ x6).setCell ⟨b, 7, none⟩ x7) b t #[x0, x1, x2, x3, x4, x5, x6, x7] ∧ w.grownBy ((((((((w.setCell ⟨b, 0, none⟩ x0).setCell ⟨b, 1, none⟩ x1).setCell ⟨b, 2, none⟩ x2).setCell ⟨b, 3, none⟩ x3).setCell ⟨b, 4, none⟩ x4).setCell ⟨b, 5, none⟩ x5).setCell ⟨b, 6, none⟩ x6).setCell ⟨b, 7, none⟩ x7) (some b) := by
  constructor
  · have h8 := (((((((h.put 0 x0).put 1 x1).put 2 x2).put 3 x3).put 4 x4).put 5 x5).put 6 x6).put 7 x7
    have e : (((((((((#[c0, c1, c2, c3, c4, c5, c6, c7] : Array Value).setIfInBounds 0 x0).setIfInBounds 1 x1).setIfInBounds 2 x2).setIfInBounds 3 x3).setIfInBounds 4 x4).setIfInBounds 5 x5).setIfInBounds 6 x6).setIfInBounds 7 x7) = #[x0, x1, x2, x3, x4, x5, x6, x7] := by simp
    rw [e] at h8
    exact h8
  · repeat (first | (with_reducible exact grown_set _ _ _ _) | (with_reducible refine World.grownBy.trans ?_ (grown_set _ _ _ _)))

theorem made_two (id k : Int) (A : Nat) (c : Nat) (x0 x1 x2 x3 x4 x5 : Int) (w : World) (hc : ∀ j v, #[x0, x1, x2, x3, x4, x5][j]? = some v → w.cell? ⟨A, 2 + j, none⟩ = some (.int .i64 v)) :
    Calls Tryd.prog 23 #[.int .i64 id, .int .i64 k, .slice (some ⟨A, 2, none⟩) 6 c] w fun e w' => e = .returned (O.v ⟨id, k, x0, x1, x2, x3, x4, x5⟩) ∧ Below w.heap.size w w' := by
  have c0 := hc 0 x0 rfl
  have c1 := hc 1 x1 rfl
  have c2 := hc 2 x2 rfl
  have c3 := hc 3 x3 rfl
  have c4 := hc 4 x4 rfl
  have c5 := hc 5 x5 rfl
  clear hc
  have hA : A < w.heap.size := World.block_lt_of_cell? w _ c0
  go_enter Tryd.func23, Tryd.ntmps23
  go_wp2
  go_region_held3 (fun W => W.cell? ⟨A, 2, none⟩ = some (.int .i64 x0) ∧ W.cell? ⟨A, 3, none⟩ = some (.int .i64 x1) ∧ W.cell? ⟨A, 4, none⟩ = some (.int .i64 x2) ∧ W.cell? ⟨A, 5, none⟩ = some (.int .i64 x3) ∧ W.cell? ⟨A, 6, none⟩ = some (.int .i64 x4) ∧ W.cell? ⟨A, 7, none⟩ = some (.int .i64 x5))
    ((refine ⟨Later.cell (w := w) ?_ c0, Later.cell (w := w) ?_ c1, Later.cell (w := w) ?_ c2, Later.cell (w := w) ?_ c3, Later.cell (w := w) ?_ c4, Later.cell (w := w) ?_ c5⟩ <;> go_grown))
    (fail)
  all_goals (go_wp2; go_returns; exact ⟨rfl, by go_grown⟩)
theorem post_at {P : Program} {f : Func} {R : Ending → World → Prop} {x : Exit} {a : Act} {W : World} (X : World → Prop) (hx : X W) (h : ∀ W', X W' → bodyPost P f R x a W') : bodyPost P f R x a W := h W hx
theorem then_at {K : Act → World → Prop} {Q : Exit → Act → World → Prop} {e : Exit} {a : Act} {W : World} (X : World → Prop) (hx : X W) (h : ∀ W', X W' → Exit.then K Q e a W') : Exit.then K Q e a W := h W hx
theorem at_cell (R : Nat) (p : Nat) {w : World} (c1 : w.cell? ⟨R, 1, none⟩ = some (.int .i64 p)) :
    Calls Tryd.prog 33 #[.pointer (some ⟨R, 0, none⟩)] w fun e w' => e = .returned (.int .i64 p) ∧ w = w' := by
  go_enter Tryd.func33, Tryd.ntmps33
  go_wp2_with fail
  go_returns
  exact ⟨rfl, rfl⟩
/-- What becomes of the loop that reads eight numbers. -/
structure Mid (w : World) (E : Nat → Addr) (l : List Nat) (R : Nat) (bv : Value) (k : Nat) (u : Value) (wr : World) : Prop where
  below : Below w.heap.size w wr
  own : wr.ownsRow w.heap.size 2 1 u k (i64s (runR l k (0, .none)).1)
  rdr : ∃ ev, Blk wr R 79 (rdrCs bv (runR l k (0, .none)).2.1 ev) ∧ IsErr wr E ev (runR l k (0, .none)).2.2
  bytes : wr.ownsRow w.heap.size 5 1 bv l.length (u8s l)
  res : Blk wr w.heap.size 26 zero8
theorem runR_le (l : List Nat) (k : Nat) : (runR l k (0, .none)).2.1 ≤ l.length := by
  induction k with
  | zero => simp [runR]
  | succ k ih => rw [runR_succ]; exact numR_le _ _ _ _ ih
theorem runR_er (l : List Nat) (k : Nat) : (runR l k (0, .none)).2.2 = .none ∨ ∃ q c, (runR l k (0, .none)).2.2 = .at q c := by
  induction k with
  | zero => exact .inl rfl
  | succ k ih => rw [runR_succ]; exact numR_er _ _ _ _ ih

set_option maxRecDepth 100000 in
set_option maxHeartbeats 4000000 in
theorem read_short (v : Value) (l : List Nat) (hl : l.length ≤ 256) (hby : ∀ c ∈ l, c < 256) {w : World} {E : Nat → Addr} (g : GW w E) (hv : Rd w v (u8s l)) :
    Calls Tryd.prog 11 #[v] w fun e w' => ∃ ev, e = .returned (.tuple #[O.v (readP l).1, ev]) ∧ IsErr w' E ev (readP l).2 ∧ Below w.heap.size w w' := by
  obtain ⟨i0, hi, hq0, hq1, hq2⟩ := info_parts info_i64
  have hz8 : zero8.all (·.oneCell') = true := by simp [Value.oneCell']
  have hi26 : (Tryd.prog.info? 26).map (·.size) = some zero8.size := by kernel_rfl
  have hnew := new_any v l (by omega) (hv.later (later_alloc w (.cells zero8 26)))
  have hlen : (u8s l).length = l.length := by simp [u8s]
  obtain ⟨A, c, rfl⟩ : ∃ A c, v = .slice A l.length c := by
    rcases hv with ⟨rfl, h0⟩ | ⟨b, off, c, rfl, _⟩
    · exact ⟨none, 0, by rw [← hlen, h0]; rfl⟩
    · exact ⟨_, _, by rw [hlen]⟩
  have t0 : decide ((l.length : Int) > 256) = false := by simp; omega
  have hB0 := Blk.new w 26 zero8
  clear hlen hv
  go_enter Tryd.func11, Tryd.ntmps11
  go_wp2_with (go_at_call 29; refine hnew.mono ?_; rintro e w1 ⟨R, bv, rfl, hR1, hown1, hRge, hb1⟩)
  have M0 : Mid w E l R bv 0 (.slice none 0 0) w1 := ⟨Later.trans (later_alloc _ _) hb1, World.ownsRow_nil _ _ _ _, ⟨_, hR1, rfl⟩, own_base hown1 (by simp), hB0.later hb1⟩
  have hRw : w.heap.size ≤ R := by simp at hRge; omega
  clear hR1 hown1 hRge hb1 hnew hB0
  go_loopw [5, 15] (fun u i wr => ∃ k : Nat, k ≤ 8 ∧ i = .int .i64 k ∧ Mid w E l R bv k u wr) (fun _ i _ => 8 - (intOf i).toNat)
  case atStart => exact ⟨0, by omega, rfl, M0⟩
  case round =>
    obtain ⟨k, hk, rfl, M⟩ := hrel
    by_cases hlt : k < 8
    · obtain ⟨hb, hown, ⟨ev, hR, he⟩, hby1, hres⟩ := M
      have hnum := numR_any R bv ev l hby (runR l k (0, .none)).2 (runR_le l k) (by omega) 0 4611686018427387904 (runR_er l k) (g.later hb) hR he (rd_own hby1)
      have hsucc := runR_succ l k (0, .none)
      have HS := Lib.hid hsucc
      clear hsucc
      generalize numR l 0 4611686018427387904 (runR l k (0, .none)).2 = nr at hnum HS
      have hown2 : ∀ w2, wr.grownBy w2 (some R) → w2.ownsRow w.heap.size 2 1 u5 k (i64s (runR l k (0, .none)).1) := fun w2 hg => hown.kept hg (.inr (own_ne hown hR (by decide)))
      have hby2 : ∀ w2, wr.grownBy w2 (some R) → w2.ownsRow w.heap.size 5 1 bv l.length (u8s l) := fun w2 hg => hby1.kept hg (.inr (own_ne hby1 hR (by decide)))
      have hb2 : ∀ w2, wr.grownBy w2 (some R) → Below w.heap.size w w2 := fun w2 hg => hb.grown hg hb.size (fun j hj => by cases hj; exact hRw)
      have hres2 : ∀ w2, wr.grownBy w2 (some R) → Blk w2 w.heap.size 26 zero8 := fun w2 hg => hres.grownS hg (blk_ne hres hR (by decide))
      have Hown2 := Lib.hid hown2
      have Hby2 := Lib.hid hby2
      have Hb2 := Lib.hid hb2
      have Hres2 := Lib.hid hres2
      clear hown2 hby2 hb2 hres2 hown hby1 hres hR he M0
      go_wp2_with (first | (go_at_call 30; refine hnum.mono ?_; rintro e w2 ⟨rfl, ev', hR2, he2, hg2⟩; have own2 := Hown2.out _ hg2; have b2 := Hb2.out _ hg2) | (at_builtin; refine wpList_append_own _ rfl (.tmp 17) (.tmp 20) _ rfl w.heap.size 2 i0 _ 1 8 Tryd.underlying50 hi hq0 hq1 hq2 rfl (by decide) u5 k _ rfl (own2.alloc _) ⟨w2.heap.size, 0, none⟩ 1 1 [.int .i64 nr.1] rfl rfl (cell_one_new _ _ _) (by simp [Value.oneCell']) ?_ ?_ ?_ ?_; (unfold maxLen; omega); omega; (have := b2.size; simp; omega); intro v6 w6 hown6 hg6 _))
      go_roundw
      case rel =>
        have a2 := own2.alloc (.cells #[.int .i64 nr.1] 2)
        refine ⟨k + 1, by omega, by go_num, ⟨(Later.alloc b2 _).grown hg6 (Later.alloc b2 _).size (fun j hj => (own2.lt j hj).1), ?_, ⟨ev', ?_, ?_⟩, ?_, ?_⟩⟩
        · rw [HS.out]
          simp only [i64s, List.map_append, List.map_cons, List.map_nil]
          exact hown6
        · rw [HS.out]
          exact (hR2.alloc _).grown hg6 (own_ne a2 (hR2.alloc _) (by decide))
        · rw [HS.out]
          exact (he2.later (later_alloc _ _)).kept a2 hg6 (by decide)
        · exact ((Hby2.out _ hg2).alloc _).kept hg6 (own_own ((Hby2.out _ hg2).alloc _) a2 (by decide))
        · exact ((Hres2.out _ hg2).alloc _).grown hg6 (own_ne a2 ((Hres2.out _ hg2).alloc _) (by decide))
      case measure => simp [intOf]; omega
    · obtain rfl : k = 8 := by omega
      obtain ⟨hb, hown, ⟨ev, hR, he⟩, hby1, hres⟩ := M
      have gr := g.later hb
      have hple := runR_le l 8
      have her := runR_er l 8
      have hlen8 := runR_len l 8 (0, .none)
      have hread : Hid (readP l = readQ l.length (runR l 8 (0, .none))) := by unfold Hid readP; rw [if_neg (by omega)]
      generalize runR l 8 (0, .none) = rr at hown hR he hple her hlen8 hread
      obtain ⟨xs, p, er⟩ := rr
      simp only at hown hR he hple her hlen8
      have hlo := g.lo
      have z0 : wr.cell? ⟨w.heap.size, 0, none⟩ = some (.int .i64 0) := hres.cell 0
      have f0 := hres.frozen 0
      have z1 : wr.cell? ⟨w.heap.size, 1, none⟩ = some (.int .i64 0) := hres.cell 1
      have f1 := hres.frozen 1
      have z2 : wr.cell? ⟨w.heap.size, 2, none⟩ = some (.int .i64 0) := hres.cell 2
      have f2 := hres.frozen 2
      have z3 : wr.cell? ⟨w.heap.size, 3, none⟩ = some (.int .i64 0) := hres.cell 3
      have f3 := hres.frozen 3
      have z4 : wr.cell? ⟨w.heap.size, 4, none⟩ = some (.int .i64 0) := hres.cell 4
      have f4 := hres.frozen 4
      have z5 : wr.cell? ⟨w.heap.size, 5, none⟩ = some (.int .i64 0) := hres.cell 5
      have f5 := hres.frozen 5
      have z6 : wr.cell? ⟨w.heap.size, 6, none⟩ = some (.int .i64 0) := hres.cell 6
      have f6 := hres.frozen 6
      have z7 : wr.cell? ⟨w.heap.size, 7, none⟩ = some (.int .i64 0) := hres.cell 7
      have f7 := hres.frozen 7
      clear hlt hk M0
      rcases her with rfl | ⟨q, c', rfl⟩
      · have hev : ev = .nilIface := he
        subst hev
        by_cases hleft : p < l.length
        · have hrd : readP l = (.zero, .at p 102) := by rw [hread.out]; simp only [readQ]; rw [if_pos hleft]
          have HRD := Lib.hid hrd
          have herr := err_any R bv _ p hR
          have hlf := left_any R bv _ l p hple (by omega) hR (rd_own hby1)
          have t5 : 0 < l.length - p := by omega
          generalize l.length - p = m at hlf t5
          clear hrd hread hleft z0 f0 z1 f1 z2 f2 z3 f3 z4 f4 z5 f5 z6 f6 z7 f7
          go_wp2_with (first | (go_at_call 31; refine herr.mono ?_; rintro e w3 ⟨rfl, rfl⟩) | (go_at_call 32; refine hlf.mono ?_; rintro e w3 ⟨rfl, hb3⟩; have hres3 := hres.later hb3; have a0 : w3.cell? ⟨w.heap.size, 0, none⟩ = some (.int .i64 0) := hres3.cell 0; have g0 := hres3.frozen 0; have a1 : w3.cell? ⟨w.heap.size, 1, none⟩ = some (.int .i64 0) := hres3.cell 1; have g1 := hres3.frozen 1; have a2 : w3.cell? ⟨w.heap.size, 2, none⟩ = some (.int .i64 0) := hres3.cell 2; have g2 := hres3.frozen 2; have a3 : w3.cell? ⟨w.heap.size, 3, none⟩ = some (.int .i64 0) := hres3.cell 3; have g3 := hres3.frozen 3; have a4 : w3.cell? ⟨w.heap.size, 4, none⟩ = some (.int .i64 0) := hres3.cell 4; have g4 := hres3.frozen 4; have a5 : w3.cell? ⟨w.heap.size, 5, none⟩ = some (.int .i64 0) := hres3.cell 5; have g5 := hres3.frozen 5; have a6 : w3.cell? ⟨w.heap.size, 6, none⟩ = some (.int .i64 0) := hres3.cell 6; have g6 := hres3.frozen 6; have a7 : w3.cell? ⟨w.heap.size, 7, none⟩ = some (.int .i64 0) := hres3.cell 7; have g7 := hres3.frozen 7))
          have hR3 := hR.later hb3
          have hl3 := hres3.lt
          have e2 := (gr.later hb3).e102
          have hlo3 := (gr.later hb3).lo
          have hat := fun W (h : Below w3.heap.size w3 W) => at_any R bv _ p (hR3.later h)
          clear herr hlf
          have hne1 := blk_ne hR3 hres3 (by decide)
          have hne2 := Ne.symm hne1
          have c1 : w3.cell? ⟨R, 1, none⟩ = some (.int .i64 p) := hR3.cell 1
          clear hat
          have hneE : 3 ≠ w.heap.size := by have := g.size; omega
          have hneE2 := Ne.symm hneE
          have HH := Lib.hid (And.intro hple hRw)
          clear hlo hlo3
          go_region_held3 (fun W => W.cell? ⟨3, 0, none⟩ = some (.iface 132 (.pointer (some (E 102)))) ∧ W.cell? ⟨R, 1, none⟩ = some (.int .i64 p))
            (first | (with_reducible assumption) | go_keep)
            (first | (go_at_call 33; go_split_ands; refine (at_cell R p ?_).mono ?_; with_reducible assumption; rintro e w4 ⟨rfl, rfl⟩))
          all_goals
            rename_i hhh
            clear hhh
            repeat go_step
            refine post_at (fun W => Blk W w.heap.size 26 zero8 ∧ IsErr W E (.iface 65 (.pointer (some ⟨w3.heap.size, 0, none⟩))) (.at p 102) ∧ Below w.heap.size w W) ?_ (fun W hW => ?_)
            · have P := put8 hres3 (.int .i64 0) (.int .i64 0) (.int .i64 0) (.int .i64 0) (.int .i64 0) (.int .i64 0) (.int .i64 0) (.int .i64 0)
              refine ⟨(P.1.alloc _).drew, ⟨⟨by omega, by omega⟩, _, rfl, ?_⟩, ?_⟩
              · rw [errV_iface E (show 101 ≤ 102 by omega)]
                exact (Blk.new' (by simp [World.setCell]) _ _).drew
              · have hb8 := Later.trans hb hb3
                have hb9 := hb8.grown P.2 hb8.size (fun j hj => by cases hj; exact Nat.le_refl _)
                exact (Later.alloc hb9 _).drew
            · obtain ⟨P1, he1, hb1⟩ := hW
              have y0 := P1.cell 0
              have y1 := P1.cell 1
              have y2 := P1.cell 2
              have y3 := P1.cell 3
              have y4 := P1.cell 4
              have y5 := P1.cell 5
              have y6 := P1.cell 6
              have y7 := P1.cell 7
              refine bodyPost_ret (v := .tuple #[.agg zero8, .iface 65 (.pointer (some ⟨w3.heap.size, 0, none⟩))]) (by simp [results, Tryd.results11, go_sem, y0, y1, y2, y3, y4, y5, y6, y7]) rfl ⟨_, by rw [HRD.out], ?_, hb1⟩
              rw [HRD.out]
              exact he1
        · have hp8 : p = l.length := by omega
          obtain ⟨x0, x1, x2, x3, x4, x5, x6, x7, rfl⟩ : ∃ x0 x1 x2 x3 x4 x5 x6 x7, xs = [x0, x1, x2, x3, x4, x5, x6, x7] := by
            match xs, hlen8 with
            | [x0, x1, x2, x3, x4, x5, x6, x7], _ => exact ⟨x0, x1, x2, x3, x4, x5, x6, x7, rfl⟩
          have hrd : readP l = if validC ⟨x0, x1, x2, x3, x4, x5, x6, x7⟩ = 0 then (⟨x0, x1, x2, x3, x4, x5, x6, x7⟩, .none) else (.zero, .code (validC ⟨x0, x1, x2, x3, x4, x5, x6, x7⟩)) := by
            rw [hread.out]; simp only [readQ]; rw [if_neg hleft]; rfl
          have HRD := Lib.hid hrd
          have herr := err_any R bv _ p hR
          have hlf := left_any R bv _ l p hple (by omega) hR (rd_own hby1)
          have t5 : l.length - p = 0 := by omega
          rw [t5] at hlf
          obtain ⟨gb, cap, rfl, hgb, hgl, hcap, hcm, hcell⟩ := own_form hown (by omega)
          have b0 : wr.cell? ⟨gb, 0, none⟩ = some (.int .i64 x0) := hcell 0 _ rfl
          have b1 : wr.cell? ⟨gb, 1, none⟩ = some (.int .i64 x1) := hcell 1 _ rfl
          have b2 : ∀ j v, #[x2, x3, x4, x5, x6, x7][j]? = some v → wr.cell? ⟨gb, 2 + j, none⟩ = some (.int .i64 v) := fun j v hv => hcell (2 + j) _ (by
            have hv' : [x2, x3, x4, x5, x6, x7][j]? = some v := by simpa using hv
            simp only [i64s, List.map_cons, List.map_nil]
            rw [Nat.add_comm]
            simp only [List.getElem?_cons_succ]
            rw [show [Value.int IntKind.i64 x2, .int .i64 x3, .int .i64 x4, .int .i64 x5, .int .i64 x6, .int .i64 x7] = [x2, x3, x4, x5, x6, x7].map (Value.int .i64) from rfl, List.getElem?_map, hv']
            rfl)
          clear hrd hread hleft z0 f0 z1 f1 z2 f2 z3 f3 z4 f4 z5 f5 z6 f6 z7 f7 hp8 t5 hcell hown
          have B2 := Lib.hid b2
          clear b2
          go_wp2_with (first | (go_at_call 31; refine herr.mono ?_; rintro e w3 ⟨rfl, rfl⟩) | (go_at_call 32; refine hlf.mono ?_; rintro e w3 ⟨rfl, hb3⟩))
          have hcap2 : cap ≠ 2 := by omega
          have hgl3 := Nat.lt_of_lt_of_le hgl hb3.size
          have hgn1 := Nat.ne_of_lt hgl3
          have hgn2 := Ne.symm hgn1
          have b0' := Later.cell hb3 b0
          have b1' := Later.cell hb3 b1
          have hm := fun W (h : Below w3.heap.size w3 W) => made_two x0 x1 gb (cap - 2) x2 x3 x4 x5 x6 x7 W (fun j v hv => Later.cell (Later.trans hb3 h) (B2.out j v hv))
          clear herr hlf b0 b1
          go_region_held3 (fun W => W.cell? ⟨gb, 0, none⟩ = some (.int .i64 x0) ∧ W.cell? ⟨gb, 1, none⟩ = some (.int .i64 x1))
            (first | (with_reducible assumption) | ((with_reducible refine ⟨Later.cell hb4 ?_, Later.cell hb4 ?_⟩) <;> (first | (with_reducible assumption) | go_keep)) | go_keep)
            (first | (go_at_call 23; (with_reducible refine (hm _ ?_).mono ?_); (· go_grown); rintro e w4 ⟨rfl, hb4⟩; (first | (have hBz := Blk.later (Blk.drew (Blk.new w3 26 zero8)) hb4; have q0 : w4.cell? ⟨w3.heap.size, 0, none⟩ = some (.int .i64 0) := hBz.cell 0; have p0 := hBz.frozen 0; have q1 : w4.cell? ⟨w3.heap.size, 1, none⟩ = some (.int .i64 0) := hBz.cell 1; have p1 := hBz.frozen 1; have q2 : w4.cell? ⟨w3.heap.size, 2, none⟩ = some (.int .i64 0) := hBz.cell 2; have p2 := hBz.frozen 2; have q3 : w4.cell? ⟨w3.heap.size, 3, none⟩ = some (.int .i64 0) := hBz.cell 3; have p3 := hBz.frozen 3; have q4 : w4.cell? ⟨w3.heap.size, 4, none⟩ = some (.int .i64 0) := hBz.cell 4; have p4 := hBz.frozen 4; have q5 : w4.cell? ⟨w3.heap.size, 5, none⟩ = some (.int .i64 0) := hBz.cell 5; have p5 := hBz.frozen 5; have q6 : w4.cell? ⟨w3.heap.size, 6, none⟩ = some (.int .i64 0) := hBz.cell 6; have p6 := hBz.frozen 6; have q7 : w4.cell? ⟨w3.heap.size, 7, none⟩ = some (.int .i64 0) := hBz.cell 7; have p7 := hBz.frozen 7) | (have e0 : w4.cell? ⟨gb, 0, none⟩ = some (.int .i64 x0) := Later.cell (Later.trans (Below.drew (Below.refl w3.heap.size w3)) hb4) b0'; have e1 : w4.cell? ⟨gb, 1, none⟩ = some (.int .i64 x1) := Later.cell (Later.trans (Below.drew (Below.refl w3.heap.size w3)) hb4) b1'))))
          all_goals
            rename_i hhh
            clear hhh
            obtain ⟨oo, hoo⟩ : ∃ oo : O, oo = ⟨x0, x1, x2, x3, x4, x5, x6, x7⟩ := ⟨_, rfl⟩
            have hb4' : Below w3.heap.size w3 w4 := by
              first
              | (have hBz' := hBz
                 exact Later.trans (Below.drew (later_alloc _ _)) hb4)
              | exact Later.trans (Below.drew (Below.refl _ _)) hb4
            have hres4 := (hres.later hb3).later hb4'
            have hbw4 := Later.trans (Later.trans hb hb3) hb4'
            first
            | (have Pz := put8 hBz (.int .i64 x0) (.int .i64 x1) (.int .i64 x2) (.int .i64 x3) (.int .i64 x4) (.int .i64 x5) (.int .i64 x6) (.int .i64 x7)
               refine then_at (fun W => Blk W w3.heap.size 26 (O.cs ⟨x0, x1, x2, x3, x4, x5, x6, x7⟩) ∧ Blk W w.heap.size 26 zero8 ∧ Below w.heap.size w W) ⟨Pz.1, hres4.grownS Pz.2 (fun h => by have := (hres.later hb3).lt; omega), hbw4.grown Pz.2 hbw4.size (fun j hj => by cases hj; exact (Later.trans hb hb3).size)⟩ (fun W hW => ?_)
               generalize w3.heap.size = ob at hW ⊢)
            | (refine then_at (fun W => Blk W w4.heap.size 26 (O.cs ⟨x0, x1, x2, x3, x4, x5, x6, x7⟩) ∧ Blk W w.heap.size 26 zero8 ∧ Below w.heap.size w W) ⟨Blk.new _ _ _, hres4.alloc _, Later.alloc hbw4 _⟩ (fun W hW => ?_)
               generalize w4.heap.size = ob at hW ⊢)
            all_goals
              obtain ⟨hOW, hBW, hbW⟩ := hW
              have gW := g.later hbW
              have hval := valid_any ⟨x0, x1, x2, x3, x4, x5, x6, x7⟩ W E gW
              have hcode := validC_code ⟨x0, x1, x2, x3, x4, x5, x6, x7⟩
              have v0 : W.cell? ⟨ob, 0, none⟩ = some (.int .i64 x0) := hOW.cell 0
              have v1 : W.cell? ⟨ob, 1, none⟩ = some (.int .i64 x1) := hOW.cell 1
              have v2 : W.cell? ⟨ob, 2, none⟩ = some (.int .i64 x2) := hOW.cell 2
              have v3 : W.cell? ⟨ob, 3, none⟩ = some (.int .i64 x3) := hOW.cell 3
              have v4 : W.cell? ⟨ob, 4, none⟩ = some (.int .i64 x4) := hOW.cell 4
              have v5 : W.cell? ⟨ob, 5, none⟩ = some (.int .i64 x5) := hOW.cell 5
              have v6 : W.cell? ⟨ob, 6, none⟩ = some (.int .i64 x6) := hOW.cell 6
              have v7 : W.cell? ⟨ob, 7, none⟩ = some (.int .i64 x7) := hOW.cell 7
              obtain ⟨cd, hcd⟩ : ∃ cd, validC ⟨x0, x1, x2, x3, x4, x5, x6, x7⟩ = cd := ⟨_, rfl⟩
              rw [hcd] at hval hcode
              have HRD : Hid (readP l = if cd = 0 then (⟨x0, x1, x2, x3, x4, x5, x6, x7⟩, .none) else (.zero, .code cd)) := by have := HRD.out; rw [hcd] at this; exact this
              clear hcd hoo oo hres4 hbw4 hb4' hm
              by_cases h0 : cd = 0
              · subst h0
                rw [show errV E 0 = .nilIface from rfl] at hval
                have HRD : Hid (readP l = (⟨x0, x1, x2, x3, x4, x5, x6, x7⟩, .none)) := by have := HRD.out; rw [if_pos rfl] at this; exact this
                go_wp2_with (first | (go_at_call 24; refine hval.mono ?_; rintro e w7 ⟨rfl, hb7⟩; have hB7 := hBW.later hb7; have hO7 := hOW.later hb7; have o0 : w7.cell? ⟨ob, 0, none⟩ = some (.int .i64 x0) := hO7.cell 0; have o1 : w7.cell? ⟨ob, 1, none⟩ = some (.int .i64 x1) := hO7.cell 1; have o2 : w7.cell? ⟨ob, 2, none⟩ = some (.int .i64 x2) := hO7.cell 2; have o3 : w7.cell? ⟨ob, 3, none⟩ = some (.int .i64 x3) := hO7.cell 3; have o4 : w7.cell? ⟨ob, 4, none⟩ = some (.int .i64 x4) := hO7.cell 4; have o5 : w7.cell? ⟨ob, 5, none⟩ = some (.int .i64 x5) := hO7.cell 5; have o6 : w7.cell? ⟨ob, 6, none⟩ = some (.int .i64 x6) := hO7.cell 6; have o7 : w7.cell? ⟨ob, 7, none⟩ = some (.int .i64 x7) := hO7.cell 7; have z0 : w7.cell? ⟨w.heap.size, 0, none⟩ = some (.int .i64 0) := hB7.cell 0; have f0 := hB7.frozen 0; have z1 : w7.cell? ⟨w.heap.size, 1, none⟩ = some (.int .i64 0) := hB7.cell 1; have f1 := hB7.frozen 1; have z2 : w7.cell? ⟨w.heap.size, 2, none⟩ = some (.int .i64 0) := hB7.cell 2; have f2 := hB7.frozen 2; have z3 : w7.cell? ⟨w.heap.size, 3, none⟩ = some (.int .i64 0) := hB7.cell 3; have f3 := hB7.frozen 3; have z4 : w7.cell? ⟨w.heap.size, 4, none⟩ = some (.int .i64 0) := hB7.cell 4; have f4 := hB7.frozen 4; have z5 : w7.cell? ⟨w.heap.size, 5, none⟩ = some (.int .i64 0) := hB7.cell 5; have f5 := hB7.frozen 5; have z6 : w7.cell? ⟨w.heap.size, 6, none⟩ = some (.int .i64 0) := hB7.cell 6; have f6 := hB7.frozen 6; have z7 : w7.cell? ⟨w.heap.size, 7, none⟩ = some (.int .i64 0) := hB7.cell 7; have f7 := hB7.frozen 7))
                have P := put8 hB7 (.int .i64 x0) (.int .i64 x1) (.int .i64 x2) (.int .i64 x3) (.int .i64 x4) (.int .i64 x5) (.int .i64 x6) (.int .i64 x7)
                obtain ⟨P1, P2⟩ := P
                have y0 := P1.cell 0
                have y1 := P1.cell 1
                have y2 := P1.cell 2
                have y3 := P1.cell 3
                have y4 := P1.cell 4
                have y5 := P1.cell 5
                have y6 := P1.cell 6
                have y7 := P1.cell 7
                have hb8 := Later.trans hbW hb7
                refine bodyPost_ret (v := .tuple #[.agg #[.int .i64 x0, .int .i64 x1, .int .i64 x2, .int .i64 x3, .int .i64 x4, .int .i64 x5, .int .i64 x6, .int .i64 x7], .nilIface]) (by simp [results, Tryd.results11, go_sem, y0, y1, y2, y3, y4, y5, y6, y7]) rfl ⟨_, by (rw [HRD.out]) <;> rfl, ?_, hb8.grown P2 hb8.size (fun j hj => by cases hj; exact Nat.le_refl _)⟩
                rw [HRD.out]
                exact rfl
              · have HCD : Hid (101 ≤ cd ∧ cd ≤ 121) := by unfold Hid; omega
                rw [errV_iface E (show 101 ≤ cd by omega)] at hval
                have HRD : Hid (readP l = (.zero, .code cd)) := by have := HRD.out; rw [if_neg h0] at this; exact this
                clear hcode h0
                go_wp2_with (first | (go_at_call 24; refine hval.mono ?_; rintro e w7 ⟨rfl, hb7⟩; have hB7 := hBW.later hb7; have hO7 := hOW.later hb7; have o0 : w7.cell? ⟨ob, 0, none⟩ = some (.int .i64 x0) := hO7.cell 0; have o1 : w7.cell? ⟨ob, 1, none⟩ = some (.int .i64 x1) := hO7.cell 1; have o2 : w7.cell? ⟨ob, 2, none⟩ = some (.int .i64 x2) := hO7.cell 2; have o3 : w7.cell? ⟨ob, 3, none⟩ = some (.int .i64 x3) := hO7.cell 3; have o4 : w7.cell? ⟨ob, 4, none⟩ = some (.int .i64 x4) := hO7.cell 4; have o5 : w7.cell? ⟨ob, 5, none⟩ = some (.int .i64 x5) := hO7.cell 5; have o6 : w7.cell? ⟨ob, 6, none⟩ = some (.int .i64 x6) := hO7.cell 6; have o7 : w7.cell? ⟨ob, 7, none⟩ = some (.int .i64 x7) := hO7.cell 7; have z0 : w7.cell? ⟨w.heap.size, 0, none⟩ = some (.int .i64 0) := hB7.cell 0; have f0 := hB7.frozen 0; have z1 : w7.cell? ⟨w.heap.size, 1, none⟩ = some (.int .i64 0) := hB7.cell 1; have f1 := hB7.frozen 1; have z2 : w7.cell? ⟨w.heap.size, 2, none⟩ = some (.int .i64 0) := hB7.cell 2; have f2 := hB7.frozen 2; have z3 : w7.cell? ⟨w.heap.size, 3, none⟩ = some (.int .i64 0) := hB7.cell 3; have f3 := hB7.frozen 3; have z4 : w7.cell? ⟨w.heap.size, 4, none⟩ = some (.int .i64 0) := hB7.cell 4; have f4 := hB7.frozen 4; have z5 : w7.cell? ⟨w.heap.size, 5, none⟩ = some (.int .i64 0) := hB7.cell 5; have f5 := hB7.frozen 5; have z6 : w7.cell? ⟨w.heap.size, 6, none⟩ = some (.int .i64 0) := hB7.cell 6; have f6 := hB7.frozen 6; have z7 : w7.cell? ⟨w.heap.size, 7, none⟩ = some (.int .i64 0) := hB7.cell 7; have f7 := hB7.frozen 7))
                have P := put8 hB7 (.int .i64 0) (.int .i64 0) (.int .i64 0) (.int .i64 0) (.int .i64 0) (.int .i64 0) (.int .i64 0) (.int .i64 0)
                obtain ⟨P1, P2⟩ := P
                have y0 := P1.cell 0
                have y1 := P1.cell 1
                have y2 := P1.cell 2
                have y3 := P1.cell 3
                have y4 := P1.cell 4
                have y5 := P1.cell 5
                have y6 := P1.cell 6
                have y7 := P1.cell 7
                have hb8 := Later.trans hbW hb7
                refine bodyPost_ret (v := .tuple #[.agg zero8, .iface 132 (.pointer (some (E cd)))]) (by simp [results, Tryd.results11, go_sem, y0, y1, y2, y3, y4, y5, y6, y7]) rfl ⟨_, by (rw [HRD.out]) <;> rfl, ?_, hb8.grown P2 hb8.size (fun j hj => by cases hj; exact Nat.le_refl _)⟩
                rw [HRD.out]
                exact ⟨HCD.out, (errV_iface E (by have := HCD.out; omega)).symm⟩
      · have he' := he
        obtain ⟨h1, be, rfl, hbe⟩ := he'
        have hwb := blk_ne hbe hres (by decide)
        have herr := err_any R bv _ p hR
        go_wp2_with (first | (go_at_call 31; go_loud (refine herr.mono ?_; rintro e w3 ⟨rfl, rfl⟩)))
        have P := put8 hres (.int .i64 0) (.int .i64 0) (.int .i64 0) (.int .i64 0) (.int .i64 0) (.int .i64 0) (.int .i64 0) (.int .i64 0)
        obtain ⟨P1, P2⟩ := P
        have y0 := P1.cell 0
        have y1 := P1.cell 1
        have y2 := P1.cell 2
        have y3 := P1.cell 3
        have y4 := P1.cell 4
        have y5 := P1.cell 5
        have y6 := P1.cell 6
        have y7 := P1.cell 7
        refine bodyPost_ret (v := .tuple #[.agg zero8, .iface 65 (.pointer (some ⟨be, 0, none⟩))]) (by simp [results, Tryd.results11, go_sem, y0, y1, y2, y3, y4, y5, y6, y7]) rfl ⟨_, by rw [hread.out]; rfl, ?_, ?_⟩
        · rw [hread.out]
          exact he.grown P2 hres (by decide)
        · exact hb.grown P2 hb.size (fun j hj => by cases hj; exact Nat.le_refl _)
end Go.Proofs.YtcgdgopjomilnaaDoor
