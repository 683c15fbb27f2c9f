import Derived.Test.YtcgdgopjomilnaaDoorOp2
namespace Go.Proofs.YtcgdgopjomilnaaDoor
open Go.RowKit

def fld (o : O) : Nat → Int | 0 => o.A | 1 => o.B | 2 => o.C | 3 => o.D | 4 => o.N | _ => o.M
def most (i : Nat) : Int := if i < 4 then 1048576 else 1000000000000000
def letterB : Nat → ByteArray | 0 => ⟨#[65]⟩ | 1 => ⟨#[66]⟩ | 2 => ⟨#[67]⟩ | 3 => ⟨#[68]⟩ | 4 => ⟨#[78]⟩ | _ => ⟨#[77]⟩
def usedB (k : Int) (i : Nat) : Bool := Lib.contains (useB k).data.toList (letterB i).data.toList
def okF (o : O) (i : Nat) : Bool := decide (0 ≤ fld o i) && decide (fld o i ≤ most i) && (decide (fld o i = 0) || usedB o.K i)
def validF (o : O) : Nat → Nat → Nat
  | 0, _ => 0
  | d + 1, i => if okF o i then validF o d (i + 1) else 103
def validC (o : O) : Nat := if o.ID < 1 ∨ 1099511627776 < o.ID then 103 else if o.K < 1 ∨ 16 < o.K then 111 else validF o 6 0

theorem GW.e103 {w : World} {E : Nat → Addr} (g : GW w E) : w.cell? ⟨4, 0, none⟩ = some (.iface 132 (.pointer (some (E 103)))) := g.err 103 (by omega) (by omega)
theorem GW.e111 {w : World} {E : Nat → Addr} (g : GW w E) : w.cell? ⟨5, 0, none⟩ = some (.iface 132 (.pointer (some (E 111)))) := g.err 111 (by omega) (by omega)
theorem below_alloc2 (w : World) (a : Obj) : Below w.heap.size w (w.alloc a) := (Below.refl _ _).alloc (Nat.le_refl _) _

theorem valid_id (o : O) (w : World) (E : Nat → Addr) (g : GW w E) (h : o.ID < 1 ∨ 1099511627776 < o.ID) :
    Calls Tryd.prog 24 #[o.v] w fun e w' => e = .returned (errV E 103) ∧ Below w.heap.size w w' := by
  have e4 := g.e103
  have hlo := g.lo
  rcases h with h | h
  · go_enter Tryd.func24, Tryd.ntmps24
    go_wp2
    go_returns
    exact ⟨rfl, below_alloc2 _ _⟩
  · have h1 : ¬ o.ID < 1 := by omega
    go_enter Tryd.func24, Tryd.ntmps24
    go_wp2
    go_returns
    exact ⟨rfl, below_alloc2 _ _⟩

theorem valid_kind (o : O) (w : World) (E : Nat → Addr) (g : GW w E) (h0 : 1 ≤ o.ID) (h1 : o.ID ≤ 1099511627776) (h : o.K < 1 ∨ 16 < o.K) :
    Calls Tryd.prog 24 #[o.v] w fun e w' => e = .returned (errV E 111) ∧ Below w.heap.size w w' := by
  have e4 := g.e111
  have hlo := g.lo
  have hd : decide (1 ≤ o.K ∧ o.K ≤ 16) = false := by simp; omega
  go_enter Tryd.func24, Tryd.ntmps24
  go_wp2_with (go_at_call 25; refine (is_any _ _).mono ?_; rintro e w' ⟨rfl, rfl⟩)
  go_returns
  exact ⟨rfl, below_alloc2 _ _⟩

theorem useB_size (k : Int) : (useB k).size < 4294967281 := by unfold useB; split <;> decide

theorem nx_all {V V' : Nat} {x M : Int} {us : Bool} (h : V = if (decide (0 ≤ x) && decide (x ≤ M) && (decide (x = 0) || us)) = true then V' else 103) :
    (x < 0 → V = 103) ∧ (M < x → V = 103) ∧ (0 ≤ x → x ≤ M → x = 0 → V = V') ∧ (0 ≤ x → x ≤ M → us = true → V = V') ∧ (x ≠ 0 → us = false → V = 103) := by
  refine ⟨fun a => ?_, fun a => ?_, fun a b c => ?_, fun a b c => ?_, fun a b => ?_⟩
  · rw [h, if_neg]; simp; omega
  · rw [h, if_neg]; simp; omega
  · rw [h, if_pos]; subst c; simp; exact b
  · rw [h, if_pos]; simp [a, b, c]
  · rw [h, if_neg]; simp [a, b]

set_option maxHeartbeats 4000000 in
theorem valid_loop (o : O) (w : World) (E : Nat → Addr) (g : GW w E) (h0 : 1 ≤ o.ID) (h1 : o.ID ≤ 1099511627776) (h2 : 1 ≤ o.K) (h3 : o.K ≤ 16) :
    Calls Tryd.prog 24 #[o.v] w fun e w' => e = .returned (errV E (validF o 6 0)) ∧ Below w.heap.size w w' := by
  obtain ⟨m, hm⟩ := g.maxlen
  have hd : decide (1 ≤ o.K ∧ o.K ≤ 16) = true := by simp; omega
  go_enter Tryd.func24, Tryd.ntmps24
  go_wp2_with (first | (go_at_call 25; refine (is_any _ _).mono ?_; rintro e w' ⟨rfl, rfl⟩) | (go_at_call 28; refine (fields_any _ _).mono ?_; rintro e w' ⟨rfl, rfl⟩))
  go_loopw [25] (fun i wr => ∃ k : Nat, k ≤ 6 ∧ i = .int .i64 k ∧ Below w.heap.size w wr ∧ Blk wr w.heap.size 26 o.cs ∧ Blk wr (w.heap.size + 1 + 1) 2 #[.int .i64 o.A, .int .i64 o.B, .int .i64 o.C, .int .i64 o.D, .int .i64 o.N, .int .i64 o.M] ∧ Hid (validF o 6 0 = validF o (6 - k) k)) (fun i _ => 6 - (intOf i).toNat)
  case atStart => exact ⟨0, by omega, rfl, ((later_alloc _ _).alloc (by simp) _).alloc (by simp; omega) _, ((Blk.new _ _ _).alloc _).alloc _, Blk.new' (by simp) _ _, rfl⟩
  case round =>
    obtain ⟨k, hk, rfl, hb, hB0, hB2, hv⟩ := hrel
    have e4 := Later.cell hb g.e103
    have hmr := Later.cell hb hm
    have hck := hB0.cell 1
    have hcf : ∀ j, j < 6 → wr.cell? ⟨w.heap.size + 1 + 1, j, none⟩ = some (.int .i64 (fld o j)) := by
      intro j hj
      rw [hB2.cell]
      have : j = 0 ∨ j = 1 ∨ j = 2 ∨ j = 3 ∨ j = 4 ∨ j = 5 := by omega
      rcases this with rfl | rfl | rfl | rfl | rfl | rfl <;> rfl
    clear hm
    have hk' : k = 0 ∨ k = 1 ∨ k = 2 ∨ k = 3 ∨ k = 4 ∨ k = 5 ∨ k = 6 := by omega
    rcases hk' with rfl | rfl | rfl | rfl | rfl | rfl | rfl
    · have c0 := hcf 0 (by omega)
      have l0 : ∀ h, (({ data := #[65, 66, 67, 68, 78, 77] } : ByteArray)[0]'h).toNat = 65 := fun _ => rfl
      have hw : IntKind.i64.wrap 1 = 1 := by decide
      have Hu : Hid (usedB o.K 0 = Lib.contains (useB o.K).data.toList [65]) := rfl
      have nx : validF o 6 0 = if (decide (0 ≤ fld o 0) && decide (fld o 0 ≤ 1048576) && (decide (fld o 0 = 0) || usedB o.K 0)) = true then validF o (6 - 1) 1 else 103 := by rw [hv.out]; rfl
      clear hcf hv
      generalize fld o 0 = x at *
      generalize usedB o.K 0 = us at *
      obtain ⟨f1, f2, f3, f4, f5⟩ := nx_all nx
      have F1 := Lib.hid f1
      have F2 := Lib.hid f2
      have F3 := Lib.hid f3
      have F4 := Lib.hid f4
      have F5 := Lib.hid f5
      clear nx f1 f2 f3 f4 f5
      by_cases x1 : x < 0
      · go_wp2
        go_quiet (fail)
        go_wp2
        go_returns
        exact ⟨by rw [F1.out x1]; rfl, below_drewN hb _⟩
      · have d1 : decide (x < 0) = false := by simpa using x1
        by_cases x2 : 1048576 < x
        · have d2 : decide (1048576 < x) = true := by simpa using x2
          go_wp2
          go_quiet (fail)
          go_wp2
          go_returns
          exact ⟨by rw [F2.out x2]; rfl, below_drewN hb _⟩
        · have d2 : decide (1048576 < x) = false := by simpa using x2
          by_cases x3 : x = 0
          · have x3' : (x != 0) = false := by simp [x3]
            have X3 := Lib.hid x3
            clear x3
            go_wp2
            go_quiet (fail)
            go_wp2
            go_roundw
            case rel => exact ⟨1, by omega, rfl, below_drewN hb _, hB0.drewN _, hB2.drewN _, F3.out (by omega) (by omega) X3.out⟩
            case measure => simp [intOf]
          · have x3' : (x != 0) = true := by simp [x3]
            have hbs := hB0.lt
            have h7 := g.lo 7 (by omega)
            have h4 := Nat.lt_of_lt_of_le (g.lo 4 (by omega)) hb.size
            have hus : (useB o.K).size < 4294967281 := useB_size _
            cases us with
            | true =>
              have hc : Lib.contains (useB o.K).data.toList [65] = true := Hu.out.symm
              go_wp2
              go_region_held3 (fun W => W.cell? ⟨w.heap.size, 1, none⟩ = some (.int .i64 o.K) ∧ W.cell? ⟨7, 0, none⟩ = some (.int .i64 m))
                (first | go_keep | (go_split_ands; refine ⟨?_, ?_⟩; · go_simp; · go_simp))
                (first | (go_at_call 20; refine (uses_any _ h2 h3 _ m ?_).mono ?_; assumption; rintro e w' ⟨rfl, rfl⟩) | (go_at_call 42; go_split_ands; refine (_root_.Go.Proofs.Tryd.strings_Contains _ _ m _ hus ?_).mono ?_; assumption; rintro e w' ⟨rfl, rfl⟩))
              go_wp2
              go_roundw
              case rel => exact ⟨1, by omega, rfl, ((hb.alloc hb.size _).drew), (hB0.alloc _).drew, (hB2.alloc _).drew, F4.out (by omega) (by omega) (by first | rfl | trivial)⟩
              case measure => simp [intOf]
            | false =>
              have hc : Lib.contains (useB o.K).data.toList [65] = false := Hu.out.symm
              go_wp2
              go_region_held3 (fun W => W.cell? ⟨w.heap.size, 1, none⟩ = some (.int .i64 o.K) ∧ W.cell? ⟨7, 0, none⟩ = some (.int .i64 m))
                (first | go_keep | (go_split_ands; refine ⟨?_, ?_⟩; · go_simp; · go_simp))
                (first | (go_at_call 20; refine (uses_any _ h2 h3 _ m ?_).mono ?_; assumption; rintro e w' ⟨rfl, rfl⟩) | (go_at_call 42; go_split_ands; refine (_root_.Go.Proofs.Tryd.strings_Contains _ _ m _ hus ?_).mono ?_; assumption; rintro e w' ⟨rfl, rfl⟩))
              go_wp2
              go_returns
              exact ⟨by rw [F5.out x3 (by first | rfl | trivial)]; rfl, ((hb.alloc hb.size _).drew)⟩
    · have c0 := hcf 1 (by omega)
      have l0 : ∀ h, (({ data := #[65, 66, 67, 68, 78, 77] } : ByteArray)[1]'h).toNat = 66 := fun _ => rfl
      have hw : IntKind.i64.wrap 2 = 2 := by decide
      have Hu : Hid (usedB o.K 1 = Lib.contains (useB o.K).data.toList [66]) := rfl
      have nx : validF o 6 0 = if (decide (0 ≤ fld o 1) && decide (fld o 1 ≤ 1048576) && (decide (fld o 1 = 0) || usedB o.K 1)) = true then validF o (6 - 2) 2 else 103 := by rw [hv.out]; rfl
      clear hcf hv
      generalize fld o 1 = x at *
      generalize usedB o.K 1 = us at *
      obtain ⟨f1, f2, f3, f4, f5⟩ := nx_all nx
      have F1 := Lib.hid f1
      have F2 := Lib.hid f2
      have F3 := Lib.hid f3
      have F4 := Lib.hid f4
      have F5 := Lib.hid f5
      clear nx f1 f2 f3 f4 f5
      by_cases x1 : x < 0
      · go_wp2
        go_quiet (fail)
        go_wp2
        go_returns
        exact ⟨by rw [F1.out x1]; rfl, below_drewN hb _⟩
      · have d1 : decide (x < 0) = false := by simpa using x1
        by_cases x2 : 1048576 < x
        · have d2 : decide (1048576 < x) = true := by simpa using x2
          go_wp2
          go_quiet (fail)
          go_wp2
          go_returns
          exact ⟨by rw [F2.out x2]; rfl, below_drewN hb _⟩
        · have d2 : decide (1048576 < x) = false := by simpa using x2
          by_cases x3 : x = 0
          · have x3' : (x != 0) = false := by simp [x3]
            have X3 := Lib.hid x3
            clear x3
            go_wp2
            go_quiet (fail)
            go_wp2
            go_roundw
            case rel => exact ⟨2, by omega, rfl, below_drewN hb _, hB0.drewN _, hB2.drewN _, F3.out (by omega) (by omega) X3.out⟩
            case measure => simp [intOf]
          · have x3' : (x != 0) = true := by simp [x3]
            have hbs := hB0.lt
            have h7 := g.lo 7 (by omega)
            have h4 := Nat.lt_of_lt_of_le (g.lo 4 (by omega)) hb.size
            have hus : (useB o.K).size < 4294967281 := useB_size _
            cases us with
            | true =>
              have hc : Lib.contains (useB o.K).data.toList [66] = true := Hu.out.symm
              go_wp2
              go_region_held3 (fun W => W.cell? ⟨w.heap.size, 1, none⟩ = some (.int .i64 o.K) ∧ W.cell? ⟨7, 0, none⟩ = some (.int .i64 m))
                (first | go_keep | (go_split_ands; refine ⟨?_, ?_⟩; · go_simp; · go_simp))
                (first | (go_at_call 20; refine (uses_any _ h2 h3 _ m ?_).mono ?_; assumption; rintro e w' ⟨rfl, rfl⟩) | (go_at_call 42; go_split_ands; refine (_root_.Go.Proofs.Tryd.strings_Contains _ _ m _ hus ?_).mono ?_; assumption; rintro e w' ⟨rfl, rfl⟩))
              go_wp2
              go_roundw
              case rel => exact ⟨2, by omega, rfl, ((hb.alloc hb.size _).drew), (hB0.alloc _).drew, (hB2.alloc _).drew, F4.out (by omega) (by omega) (by first | rfl | trivial)⟩
              case measure => simp [intOf]
            | false =>
              have hc : Lib.contains (useB o.K).data.toList [66] = false := Hu.out.symm
              go_wp2
              go_region_held3 (fun W => W.cell? ⟨w.heap.size, 1, none⟩ = some (.int .i64 o.K) ∧ W.cell? ⟨7, 0, none⟩ = some (.int .i64 m))
                (first | go_keep | (go_split_ands; refine ⟨?_, ?_⟩; · go_simp; · go_simp))
                (first | (go_at_call 20; refine (uses_any _ h2 h3 _ m ?_).mono ?_; assumption; rintro e w' ⟨rfl, rfl⟩) | (go_at_call 42; go_split_ands; refine (_root_.Go.Proofs.Tryd.strings_Contains _ _ m _ hus ?_).mono ?_; assumption; rintro e w' ⟨rfl, rfl⟩))
              go_wp2
              go_returns
              exact ⟨by rw [F5.out x3 (by first | rfl | trivial)]; rfl, ((hb.alloc hb.size _).drew)⟩
    · have c0 := hcf 2 (by omega)
      have l0 : ∀ h, (({ data := #[65, 66, 67, 68, 78, 77] } : ByteArray)[2]'h).toNat = 67 := fun _ => rfl
      have hw : IntKind.i64.wrap 3 = 3 := by decide
      have Hu : Hid (usedB o.K 2 = Lib.contains (useB o.K).data.toList [67]) := rfl
      have nx : validF o 6 0 = if (decide (0 ≤ fld o 2) && decide (fld o 2 ≤ 1048576) && (decide (fld o 2 = 0) || usedB o.K 2)) = true then validF o (6 - 3) 3 else 103 := by rw [hv.out]; rfl
      clear hcf hv
      generalize fld o 2 = x at *
      generalize usedB o.K 2 = us at *
      obtain ⟨f1, f2, f3, f4, f5⟩ := nx_all nx
      have F1 := Lib.hid f1
      have F2 := Lib.hid f2
      have F3 := Lib.hid f3
      have F4 := Lib.hid f4
      have F5 := Lib.hid f5
      clear nx f1 f2 f3 f4 f5
      by_cases x1 : x < 0
      · go_wp2
        go_quiet (fail)
        go_wp2
        go_returns
        exact ⟨by rw [F1.out x1]; rfl, below_drewN hb _⟩
      · have d1 : decide (x < 0) = false := by simpa using x1
        by_cases x2 : 1048576 < x
        · have d2 : decide (1048576 < x) = true := by simpa using x2
          go_wp2
          go_quiet (fail)
          go_wp2
          go_returns
          exact ⟨by rw [F2.out x2]; rfl, below_drewN hb _⟩
        · have d2 : decide (1048576 < x) = false := by simpa using x2
          by_cases x3 : x = 0
          · have x3' : (x != 0) = false := by simp [x3]
            have X3 := Lib.hid x3
            clear x3
            go_wp2
            go_quiet (fail)
            go_wp2
            go_roundw
            case rel => exact ⟨3, by omega, rfl, below_drewN hb _, hB0.drewN _, hB2.drewN _, F3.out (by omega) (by omega) X3.out⟩
            case measure => simp [intOf]
          · have x3' : (x != 0) = true := by simp [x3]
            have hbs := hB0.lt
            have h7 := g.lo 7 (by omega)
            have h4 := Nat.lt_of_lt_of_le (g.lo 4 (by omega)) hb.size
            have hus : (useB o.K).size < 4294967281 := useB_size _
            cases us with
            | true =>
              have hc : Lib.contains (useB o.K).data.toList [67] = true := Hu.out.symm
              go_wp2
              go_region_held3 (fun W => W.cell? ⟨w.heap.size, 1, none⟩ = some (.int .i64 o.K) ∧ W.cell? ⟨7, 0, none⟩ = some (.int .i64 m))
                (first | go_keep | (go_split_ands; refine ⟨?_, ?_⟩; · go_simp; · go_simp))
                (first | (go_at_call 20; refine (uses_any _ h2 h3 _ m ?_).mono ?_; assumption; rintro e w' ⟨rfl, rfl⟩) | (go_at_call 42; go_split_ands; refine (_root_.Go.Proofs.Tryd.strings_Contains _ _ m _ hus ?_).mono ?_; assumption; rintro e w' ⟨rfl, rfl⟩))
              go_wp2
              go_roundw
              case rel => exact ⟨3, by omega, rfl, ((hb.alloc hb.size _).drew), (hB0.alloc _).drew, (hB2.alloc _).drew, F4.out (by omega) (by omega) (by first | rfl | trivial)⟩
              case measure => simp [intOf]
            | false =>
              have hc : Lib.contains (useB o.K).data.toList [67] = false := Hu.out.symm
              go_wp2
              go_region_held3 (fun W => W.cell? ⟨w.heap.size, 1, none⟩ = some (.int .i64 o.K) ∧ W.cell? ⟨7, 0, none⟩ = some (.int .i64 m))
                (first | go_keep | (go_split_ands; refine ⟨?_, ?_⟩; · go_simp; · go_simp))
                (first | (go_at_call 20; refine (uses_any _ h2 h3 _ m ?_).mono ?_; assumption; rintro e w' ⟨rfl, rfl⟩) | (go_at_call 42; go_split_ands; refine (_root_.Go.Proofs.Tryd.strings_Contains _ _ m _ hus ?_).mono ?_; assumption; rintro e w' ⟨rfl, rfl⟩))
              go_wp2
              go_returns
              exact ⟨by rw [F5.out x3 (by first | rfl | trivial)]; rfl, ((hb.alloc hb.size _).drew)⟩
    · have c0 := hcf 3 (by omega)
      have l0 : ∀ h, (({ data := #[65, 66, 67, 68, 78, 77] } : ByteArray)[3]'h).toNat = 68 := fun _ => rfl
      have hw : IntKind.i64.wrap 4 = 4 := by decide
      have Hu : Hid (usedB o.K 3 = Lib.contains (useB o.K).data.toList [68]) := rfl
      have nx : validF o 6 0 = if (decide (0 ≤ fld o 3) && decide (fld o 3 ≤ 1048576) && (decide (fld o 3 = 0) || usedB o.K 3)) = true then validF o (6 - 4) 4 else 103 := by rw [hv.out]; rfl
      clear hcf hv
      generalize fld o 3 = x at *
      generalize usedB o.K 3 = us at *
      obtain ⟨f1, f2, f3, f4, f5⟩ := nx_all nx
      have F1 := Lib.hid f1
      have F2 := Lib.hid f2
      have F3 := Lib.hid f3
      have F4 := Lib.hid f4
      have F5 := Lib.hid f5
      clear nx f1 f2 f3 f4 f5
      by_cases x1 : x < 0
      · go_wp2
        go_quiet (fail)
        go_wp2
        go_returns
        exact ⟨by rw [F1.out x1]; rfl, below_drewN hb _⟩
      · have d1 : decide (x < 0) = false := by simpa using x1
        by_cases x2 : 1048576 < x
        · have d2 : decide (1048576 < x) = true := by simpa using x2
          go_wp2
          go_quiet (fail)
          go_wp2
          go_returns
          exact ⟨by rw [F2.out x2]; rfl, below_drewN hb _⟩
        · have d2 : decide (1048576 < x) = false := by simpa using x2
          by_cases x3 : x = 0
          · have x3' : (x != 0) = false := by simp [x3]
            have X3 := Lib.hid x3
            clear x3
            go_wp2
            go_quiet (fail)
            go_wp2
            go_roundw
            case rel => exact ⟨4, by omega, rfl, below_drewN hb _, hB0.drewN _, hB2.drewN _, F3.out (by omega) (by omega) X3.out⟩
            case measure => simp [intOf]
          · have x3' : (x != 0) = true := by simp [x3]
            have hbs := hB0.lt
            have h7 := g.lo 7 (by omega)
            have h4 := Nat.lt_of_lt_of_le (g.lo 4 (by omega)) hb.size
            have hus : (useB o.K).size < 4294967281 := useB_size _
            cases us with
            | true =>
              have hc : Lib.contains (useB o.K).data.toList [68] = true := Hu.out.symm
              go_wp2
              go_region_held3 (fun W => W.cell? ⟨w.heap.size, 1, none⟩ = some (.int .i64 o.K) ∧ W.cell? ⟨7, 0, none⟩ = some (.int .i64 m))
                (first | go_keep | (go_split_ands; refine ⟨?_, ?_⟩; · go_simp; · go_simp))
                (first | (go_at_call 20; refine (uses_any _ h2 h3 _ m ?_).mono ?_; assumption; rintro e w' ⟨rfl, rfl⟩) | (go_at_call 42; go_split_ands; refine (_root_.Go.Proofs.Tryd.strings_Contains _ _ m _ hus ?_).mono ?_; assumption; rintro e w' ⟨rfl, rfl⟩))
              go_wp2
              go_roundw
              case rel => exact ⟨4, by omega, rfl, ((hb.alloc hb.size _).drew), (hB0.alloc _).drew, (hB2.alloc _).drew, F4.out (by omega) (by omega) (by first | rfl | trivial)⟩
              case measure => simp [intOf]
            | false =>
              have hc : Lib.contains (useB o.K).data.toList [68] = false := Hu.out.symm
              go_wp2
              go_region_held3 (fun W => W.cell? ⟨w.heap.size, 1, none⟩ = some (.int .i64 o.K) ∧ W.cell? ⟨7, 0, none⟩ = some (.int .i64 m))
                (first | go_keep | (go_split_ands; refine ⟨?_, ?_⟩; · go_simp; · go_simp))
                (first | (go_at_call 20; refine (uses_any _ h2 h3 _ m ?_).mono ?_; assumption; rintro e w' ⟨rfl, rfl⟩) | (go_at_call 42; go_split_ands; refine (_root_.Go.Proofs.Tryd.strings_Contains _ _ m _ hus ?_).mono ?_; assumption; rintro e w' ⟨rfl, rfl⟩))
              go_wp2
              go_returns
              exact ⟨by rw [F5.out x3 (by first | rfl | trivial)]; rfl, ((hb.alloc hb.size _).drew)⟩
    · have c0 := hcf 4 (by omega)
      have l0 : ∀ h, (({ data := #[65, 66, 67, 68, 78, 77] } : ByteArray)[4]'h).toNat = 78 := fun _ => rfl
      have hw : IntKind.i64.wrap 5 = 5 := by decide
      have Hu : Hid (usedB o.K 4 = Lib.contains (useB o.K).data.toList [78]) := rfl
      have nx : validF o 6 0 = if (decide (0 ≤ fld o 4) && decide (fld o 4 ≤ 1000000000000000) && (decide (fld o 4 = 0) || usedB o.K 4)) = true then validF o (6 - 5) 5 else 103 := by rw [hv.out]; rfl
      clear hcf hv
      generalize fld o 4 = x at *
      generalize usedB o.K 4 = us at *
      obtain ⟨f1, f2, f3, f4, f5⟩ := nx_all nx
      have F1 := Lib.hid f1
      have F2 := Lib.hid f2
      have F3 := Lib.hid f3
      have F4 := Lib.hid f4
      have F5 := Lib.hid f5
      clear nx f1 f2 f3 f4 f5
      by_cases x1 : x < 0
      · go_wp2
        go_quiet (fail)
        go_wp2
        go_returns
        exact ⟨by rw [F1.out x1]; rfl, below_drewN hb _⟩
      · have d1 : decide (x < 0) = false := by simpa using x1
        by_cases x2 : 1000000000000000 < x
        · have d2 : decide (1000000000000000 < x) = true := by simpa using x2
          go_wp2
          go_quiet (fail)
          go_wp2
          go_returns
          exact ⟨by rw [F2.out x2]; rfl, below_drewN hb _⟩
        · have d2 : decide (1000000000000000 < x) = false := by simpa using x2
          by_cases x3 : x = 0
          · have x3' : (x != 0) = false := by simp [x3]
            have X3 := Lib.hid x3
            clear x3
            go_wp2
            go_quiet (fail)
            go_wp2
            go_roundw
            case rel => exact ⟨5, by omega, rfl, below_drewN hb _, hB0.drewN _, hB2.drewN _, F3.out (by omega) (by omega) X3.out⟩
            case measure => simp [intOf]
          · have x3' : (x != 0) = true := by simp [x3]
            have hbs := hB0.lt
            have h7 := g.lo 7 (by omega)
            have h4 := Nat.lt_of_lt_of_le (g.lo 4 (by omega)) hb.size
            have hus : (useB o.K).size < 4294967281 := useB_size _
            cases us with
            | true =>
              have hc : Lib.contains (useB o.K).data.toList [78] = true := Hu.out.symm
              go_wp2
              go_region_held3 (fun W => W.cell? ⟨w.heap.size, 1, none⟩ = some (.int .i64 o.K) ∧ W.cell? ⟨7, 0, none⟩ = some (.int .i64 m))
                (first | go_keep | (go_split_ands; refine ⟨?_, ?_⟩; · go_simp; · go_simp))
                (first | (go_at_call 20; refine (uses_any _ h2 h3 _ m ?_).mono ?_; assumption; rintro e w' ⟨rfl, rfl⟩) | (go_at_call 42; go_split_ands; refine (_root_.Go.Proofs.Tryd.strings_Contains _ _ m _ hus ?_).mono ?_; assumption; rintro e w' ⟨rfl, rfl⟩))
              go_wp2
              go_roundw
              case rel => exact ⟨5, by omega, rfl, ((hb.alloc hb.size _).drew), (hB0.alloc _).drew, (hB2.alloc _).drew, F4.out (by omega) (by omega) (by first | rfl | trivial)⟩
              case measure => simp [intOf]
            | false =>
              have hc : Lib.contains (useB o.K).data.toList [78] = false := Hu.out.symm
              go_wp2
              go_region_held3 (fun W => W.cell? ⟨w.heap.size, 1, none⟩ = some (.int .i64 o.K) ∧ W.cell? ⟨7, 0, none⟩ = some (.int .i64 m))
                (first | go_keep | (go_split_ands; refine ⟨?_, ?_⟩; · go_simp; · go_simp))
                (first | (go_at_call 20; refine (uses_any _ h2 h3 _ m ?_).mono ?_; assumption; rintro e w' ⟨rfl, rfl⟩) | (go_at_call 42; go_split_ands; refine (_root_.Go.Proofs.Tryd.strings_Contains _ _ m _ hus ?_).mono ?_; assumption; rintro e w' ⟨rfl, rfl⟩))
              go_wp2
              go_returns
              exact ⟨by rw [F5.out x3 (by first | rfl | trivial)]; rfl, ((hb.alloc hb.size _).drew)⟩
    · have c0 := hcf 5 (by omega)
      have l0 : ∀ h, (({ data := #[65, 66, 67, 68, 78, 77] } : ByteArray)[5]'h).toNat = 77 := fun _ => rfl
      have hw : IntKind.i64.wrap 6 = 6 := by decide
      have Hu : Hid (usedB o.K 5 = Lib.contains (useB o.K).data.toList [77]) := rfl
      have nx : validF o 6 0 = if (decide (0 ≤ fld o 5) && decide (fld o 5 ≤ 1000000000000000) && (decide (fld o 5 = 0) || usedB o.K 5)) = true then validF o (6 - 6) 6 else 103 := by rw [hv.out]; rfl
      clear hcf hv
      generalize fld o 5 = x at *
      generalize usedB o.K 5 = us at *
      obtain ⟨f1, f2, f3, f4, f5⟩ := nx_all nx
      have F1 := Lib.hid f1
      have F2 := Lib.hid f2
      have F3 := Lib.hid f3
      have F4 := Lib.hid f4
      have F5 := Lib.hid f5
      clear nx f1 f2 f3 f4 f5
      by_cases x1 : x < 0
      · go_wp2
        go_quiet (fail)
        go_wp2
        go_returns
        exact ⟨by rw [F1.out x1]; rfl, below_drewN hb _⟩
      · have d1 : decide (x < 0) = false := by simpa using x1
        by_cases x2 : 1000000000000000 < x
        · have d2 : decide (1000000000000000 < x) = true := by simpa using x2
          go_wp2
          go_quiet (fail)
          go_wp2
          go_returns
          exact ⟨by rw [F2.out x2]; rfl, below_drewN hb _⟩
        · have d2 : decide (1000000000000000 < x) = false := by simpa using x2
          by_cases x3 : x = 0
          · have x3' : (x != 0) = false := by simp [x3]
            have X3 := Lib.hid x3
            clear x3
            go_wp2
            go_quiet (fail)
            go_wp2
            go_roundw
            case rel => exact ⟨6, by omega, rfl, below_drewN hb _, hB0.drewN _, hB2.drewN _, F3.out (by omega) (by omega) X3.out⟩
            case measure => simp [intOf]
          · have x3' : (x != 0) = true := by simp [x3]
            have hbs := hB0.lt
            have h7 := g.lo 7 (by omega)
            have h4 := Nat.lt_of_lt_of_le (g.lo 4 (by omega)) hb.size
            have hus : (useB o.K).size < 4294967281 := useB_size _
            cases us with
            | true =>
              have hc : Lib.contains (useB o.K).data.toList [77] = true := Hu.out.symm
              go_wp2
              go_region_held3 (fun W => W.cell? ⟨w.heap.size, 1, none⟩ = some (.int .i64 o.K) ∧ W.cell? ⟨7, 0, none⟩ = some (.int .i64 m))
                (first | go_keep | (go_split_ands; refine ⟨?_, ?_⟩; · go_simp; · go_simp))
                (first | (go_at_call 20; refine (uses_any _ h2 h3 _ m ?_).mono ?_; assumption; rintro e w' ⟨rfl, rfl⟩) | (go_at_call 42; go_split_ands; refine (_root_.Go.Proofs.Tryd.strings_Contains _ _ m _ hus ?_).mono ?_; assumption; rintro e w' ⟨rfl, rfl⟩))
              go_wp2
              go_roundw
              case rel => exact ⟨6, by omega, rfl, ((hb.alloc hb.size _).drew), (hB0.alloc _).drew, (hB2.alloc _).drew, F4.out (by omega) (by omega) (by first | rfl | trivial)⟩
              case measure => simp [intOf]
            | false =>
              have hc : Lib.contains (useB o.K).data.toList [77] = false := Hu.out.symm
              go_wp2
              go_region_held3 (fun W => W.cell? ⟨w.heap.size, 1, none⟩ = some (.int .i64 o.K) ∧ W.cell? ⟨7, 0, none⟩ = some (.int .i64 m))
                (first | go_keep | (go_split_ands; refine ⟨?_, ?_⟩; · go_simp; · go_simp))
                (first | (go_at_call 20; refine (uses_any _ h2 h3 _ m ?_).mono ?_; assumption; rintro e w' ⟨rfl, rfl⟩) | (go_at_call 42; go_split_ands; refine (_root_.Go.Proofs.Tryd.strings_Contains _ _ m _ hus ?_).mono ?_; assumption; rintro e w' ⟨rfl, rfl⟩))
              go_wp2
              go_returns
              exact ⟨by rw [F5.out x3 (by first | rfl | trivial)]; rfl, ((hb.alloc hb.size _).drew)⟩
    · clear hcf
      go_wp2
      go_returns
      exact ⟨by rw [hv.out]; rfl, hb⟩

/-- What is amiss with an operation, as data. -/
def validE (o : O) : Er := if validC o = 0 then .none else .code (validC o)
theorem validF_code (o : O) : ∀ d i, validF o d i = 0 ∨ validF o d i = 103 := by
  intro d
  induction d with
  | zero => intro i; exact .inl rfl
  | succ d ih => intro i; unfold validF; split <;> simp [ih]
theorem validC_code (o : O) : validC o = 0 ∨ validC o = 103 ∨ validC o = 111 := by
  unfold validC
  split
  · simp
  · split
    · simp
    · rcases validF_code o 6 0 with h | h <;> simp [h]
theorem validE_is (w : World) (E : Nat → Addr) (o : O) : IsErr w E (errV E (validC o)) (validE o) := by
  unfold validE
  rcases validC_code o with h | h | h <;> simp [h, IsErr, errV]
theorem valid_any (o : O) (w : World) (E : Nat → Addr) (g : GW w E) :
    Calls Tryd.prog 24 #[o.v] w fun e w' => e = .returned (errV E (validC o)) ∧ Below w.heap.size w w' := by
  unfold validC
  split
  · exact valid_id o w E g ‹_›
  · split
    · exact valid_kind o w E g (by omega) (by omega) ‹_›
    · exact valid_loop o w E g (by omega) (by omega) (by omega) (by omega)
end Go.Proofs.YtcgdgopjomilnaaDoor
