/-
  Names of kinds; a word read as a number.
-/
import Derived.Test.YtcgdgopjomilnaaDoorOp3
namespace Go.Proofs.YtcgdgopjomilnaaDoor
open Go Go.RowKit

theorem below_grow (w : World) (os : Array Obj) : Below w.heap.size w (Sort.grow w os) :=
  ⟨rfl, rfl, rfl, by simp [Sort.grow], fun k hk => by simp [Sort.grow, Array.getElem?_append, hk]⟩
theorem below_freeze {B : Nat} {a w : World} (h : Below B a w) {p : Addr} (hp : B ≤ p.block) (n : Nat) : Below B a (w.freeze p n) := by
  unfold World.freeze
  split
  · exact h
  · exact h.trans ⟨rfl, rfl, rfl, by simp, fun k hk => by simp only [Array.getElem?_modify]; rw [if_neg (by omega)]⟩
theorem below_bytesWorld (w : World) (e : TypeId) (s : ByteArray) : Below w.heap.size w (Lib.bytesWorld w e s) :=
  below_freeze ((Below.drew (Below.refl _ _)).alloc (Nat.le_refl _) _) (Nat.le_refl _) 1

def nameL : List ByteArray := [⟨#[106, 111, 105, 110]⟩, ⟨#[97, 115, 115, 101, 116]⟩, ⟨#[112, 114, 105, 99, 101]⟩, ⟨#[114, 97, 116, 101]⟩, ⟨#[99, 117, 116]⟩, ⟨#[102, 120, 99, 117, 116]⟩, ⟨#[101, 108, 105, 103]⟩, ⟨#[99, 97, 112]⟩, ⟨#[110, 101, 101, 100]⟩, ⟨#[100, 101, 112, 111, 115, 105, 116]⟩, ⟨#[119, 105, 116, 104, 100, 114, 97, 119]⟩, ⟨#[101, 120, 99, 104, 97, 110, 103, 101]⟩, ⟨#[116, 105, 99, 107]⟩, ⟨#[114, 101, 98, 97, 116, 101]⟩, ⟨#[115, 99, 101, 110, 101]⟩, ⟨#[102, 117, 110, 100]⟩]
def nameCs : Array Value := (nameL.map Value.string).toArray
def nameB (k : Int) : ByteArray := if 1 ≤ k ∧ k ≤ 16 then nameL.getD (k.toNat - 1) ⟨#[]⟩ else ⟨#[]⟩
theorem nameCs_at (j : Nat) (h : j < 16) : nameCs[j]? = some (.string (nameL.getD j ⟨#[]⟩)) := by
  have : j = 0 ∨ j = 1 ∨ j = 2 ∨ j = 3 ∨ j = 4 ∨ j = 5 ∨ j = 6 ∨ j = 7 ∨ j = 8 ∨ j = 9 ∨ j = 10 ∨ j = 11 ∨ j = 12 ∨ j = 13 ∨ j = 14 ∨ j = 15 := by omega
  rcases this with h | h | h | h | h | h | h | h | h | h | h | h | h | h | h | h <;> subst h <;> rfl
def namesConst : ByteArray := { data := #[106, 111, 105, 110, 32, 97, 115, 115, 101, 116, 32, 112, 114, 105, 99, 101, 32, 114, 97, 116, 101, 32, 99, 117, 116, 32, 102, 120, 99, 117, 116, 32, 101, 108, 105, 103, 32, 99, 97, 112, 32, 110, 101, 101, 100, 32, 100, 101, 112, 111, 115, 105, 116, 32, 119, 105, 116, 104, 100, 114, 97, 119, 32, 101, 120, 99, 104, 97, 110, 103, 101, 32, 116, 105, 99, 107, 32, 114, 101, 98, 97, 116, 101, 32, 115, 99, 101, 110, 101, 32, 102, 117, 110, 100] }
theorem split_names (w : World) (m : Int) (hm : w.cell? ⟨7, 0, none⟩ = some (.int .i64 m)) :
    Calls Tryd.prog 39 #[.string namesConst, .string { data := #[32] }] w fun e w' =>
      e = .returned (.slice (some ⟨w.heap.size, 0, none⟩) 16 16) ∧ w.alloc (.cells nameCs 9) = w' := by
  have h := _root_.Go.Proofs.Tryd.strings_Split namesConst { data := #[32] } m w (by decide) hm (by decide)
  rw [show Lib.countB namesConst { data := #[32] } = 15 from by decide +kernel, show Lib.splitB { data := #[32] } 0 15 namesConst = nameL from by decide +kernel] at h
  refine h.mono ?_
  rintro e w' ⟨rfl, rfl⟩
  exact ⟨rfl, rfl⟩

theorem names_any (w : World) (m : Int) (hm : w.cell? ⟨7, 0, none⟩ = some (.int .i64 m)) :
    Calls Tryd.prog 19 #[] w fun e w' => e = .returned (.slice (some ⟨w.heap.size, 0, none⟩) 16 16) ∧ w.alloc (.cells nameCs 9) = w' := by
  go_enter Tryd.func19, Tryd.ntmps19
  go_wp2_with (go_at_call 39; refine (split_names _ m hm).mono ?_; rintro e w' ⟨rfl, rfl⟩)
  go_returns
  exact ⟨rfl, rfl⟩

theorem name_any (k : Int) (w : World) (m : Int) (hm : w.cell? ⟨7, 0, none⟩ = some (.int .i64 m)) :
    Calls Tryd.prog 8 #[.int .i64 k] w fun e w' => e = .returned (.string (nameB k)) ∧ Below w.heap.size w w' := by
  by_cases hk : 1 ≤ k ∧ k ≤ 16
  · have hd : decide (1 ≤ k ∧ k ≤ 16) = true := by simpa using hk
    obtain ⟨h1, h2⟩ := hk
    have hc := nameCs_at (k.toNat - 1) (by omega)
    go_enter Tryd.func8, Tryd.ntmps8
    go_wp2_with (first | (go_at_call 25; refine (is_any _ _).mono ?_; rintro e w' ⟨rfl, rfl⟩) | (go_at_call 19; refine (names_any _ m hm).mono ?_; rintro e w' ⟨rfl, rfl⟩))
    go_returns
    exact ⟨by rw [nameB, if_pos ⟨h1, h2⟩]; rfl, later_alloc _ _⟩
  · have hd : decide (1 ≤ k ∧ k ≤ 16) = false := by simpa using hk
    have hn : nameB k = ⟨#[]⟩ := by rw [nameB, if_neg hk]
    clear hk
    go_enter Tryd.func8, Tryd.ntmps8
    go_wp2_with (first | (go_at_call 25; refine (is_any _ _).mono ?_; rintro e w' ⟨rfl, rfl⟩))
    go_returns
    exact ⟨by rw [hn]; rfl, Below.refl _ _⟩

theorem made_any (id k : Int) (A : Nat) (c : Nat) (x0 x1 x2 x3 x4 x5 : Int) (w : World) (hc : ∀ j v, #[x0, x1, x2, x3, x4, x5][j]? = some v → w.cell? ⟨A, j, none⟩ = some (.int .i64 v)) :
    Calls Tryd.prog 23 #[.int .i64 id, .int .i64 k, .slice (some ⟨A, 0, none⟩) 6 c] w fun e w' => e = .returned (O.v ⟨id, k, x0, x1, x2, x3, x4, x5⟩) ∧ Below w.heap.size w w' := by
  have c0 := hc 0 x0 rfl
  have c1 := hc 1 x1 rfl
  have c2 := hc 2 x2 rfl
  have c3 := hc 3 x3 rfl
  have c4 := hc 4 x4 rfl
  have c5 := hc 5 x5 rfl
  clear hc
  have hA : A < w.heap.size := World.block_lt_of_cell? w _ c0
  go_enter Tryd.func23, Tryd.ntmps23
  go_wp2
  go_region_held3 (fun W => W.cell? ⟨A, 0, none⟩ = some (.int .i64 x0) ∧ W.cell? ⟨A, 1, none⟩ = some (.int .i64 x1) ∧ W.cell? ⟨A, 2, none⟩ = some (.int .i64 x2) ∧ W.cell? ⟨A, 3, none⟩ = some (.int .i64 x3) ∧ W.cell? ⟨A, 4, none⟩ = some (.int .i64 x4) ∧ W.cell? ⟨A, 5, none⟩ = some (.int .i64 x5))
    ((refine ⟨Later.cell (w := w) ?_ c0, Later.cell (w := w) ?_ c1, Later.cell (w := w) ?_ c2, Later.cell (w := w) ?_ c3, Later.cell (w := w) ?_ c4, Later.cell (w := w) ?_ c5⟩ <;> go_grown))
    (fail)
  all_goals (go_wp2; go_returns; exact ⟨rfl, by go_grown⟩)

theorem blist (s : ByteArray) : s.toList = s.data.toList := ByteArray.toList_eq s

/-- What a word says, and whether it is a number. -/
def numP (s : ByteArray) : Int × Bool :=
  if 18 < s.size then (0, false) else
  match Lib.parseIntB 64 s.data.toList with
  | .ok v => (v, decide (0 ≤ v) && (Lib.itoa v == s.data.toList))
  | .«syntax» => (0, false)
  | .range => (Lib.intSat 64 s.data.toList, false)

theorem below_parse {w w' : World} (h : w' = w ∨ ∃ t, w' = Lib.bytesWorld w 5 t) : Below w.heap.size w w' := by
  rcases h with rfl | ⟨t, rfl⟩
  · exact Below.refl _ _
  · exact below_bytesWorld _ _ _
theorem below_fmt {w w' : World} (h : ∃ k os, w' = Sort.grow (w.drewN k) os) : Below w.heap.size w w' := by
  obtain ⟨k, os, rfl⟩ := h
  exact Later.trans (below_drewN (Below.refl _ _) k) (below_grow _ _)
theorem parse_bd {l : List UInt8} {v : Int} (h : Lib.parseIntB 64 l = .ok v) : -9223372036854775808 ≤ v ∧ v ≤ 9223372036854775807 := by
  unfold Lib.parseIntB at h
  split at h
  · cases h
  · dsimp only at h
    split at h
    · cases h
    · cases h
    · split at h
      · cases h
      · split at h
        · cases h
        · rename_i a b
          cases h
          split <;> simp_all <;> omega

theorem number_any (s : ByteArray) (hs : s.size ≤ 140737488355328) {w : World} {E : Nat → Addr} (g : GW w E) :
    Calls Tryd.prog 21 #[.string s] w fun e w' => e = .returned (.tuple #[.int .i64 (numP s).1, .bool (numP s).2]) ∧ Below w.heap.size w w' := by
  unfold numP
  by_cases h18 : 18 < s.size
  · go_enter Tryd.func21, Tryd.ntmps21
    go_wp2_with fail
    go_returns
    exact ⟨rfl, Below.refl _ _⟩
  · rw [if_neg h18]
    cases hp : Lib.parseIntB 64 s.data.toList with
    | ok v =>
      have hP := _root_.Go.Proofs.Tryd.strconv_ParseInt_10_at64_ok s (by omega) v hp
      have hv := parse_bd hp
      by_cases h0 : 0 ≤ v
      · go_enter Tryd.func21, Tryd.ntmps21
        go_wp2_with (first | (go_at_call 40; refine (hP _).mono ?_; rintro e w1 ⟨rfl, hw1⟩; have hb1 := below_parse hw1; have ht := (g.later hb1).pow10; clear hw1) | (go_at_call 34; refine (_root_.Go.Proofs.Tryd.strconv_FormatInt_10 _ hv.1 hv.2 _ ht).mono ?_; rintro e w2 ⟨rfl, hw2⟩; have hb2 := below_fmt hw2; clear hw2))
        go_returns
        exact ⟨by simp [h0, blist s], Later.trans hb1 hb2⟩
      · have hd : decide (0 ≤ v) = false := by simpa using h0
        go_enter Tryd.func21, Tryd.ntmps21
        go_wp2_with (first | (go_at_call 40; refine (hP _).mono ?_; rintro e w1 ⟨rfl, hw1⟩; have hb1 := below_parse hw1; clear hw1))
        go_returns
        exact ⟨by simp; intro h; omega, hb1⟩
    | «syntax» =>
      obtain ⟨tp, p, hs2⟩ := g.syn
      have hP := _root_.Go.Proofs.Tryd.strconv_ParseInt_10_at64_syntax_var s (by omega) hp tp p w hs2
      go_enter Tryd.func21, Tryd.ntmps21
      go_wp2_with (first | (go_at_call 40; refine hP.mono ?_; rintro e w1 ⟨N, rfl, hN1, hN2, hb1⟩; clear hN2))
      go_returns
      exact ⟨rfl, hb1⟩
    | range =>
      obtain ⟨tp, p, hs2⟩ := g.rng
      have hP := _root_.Go.Proofs.Tryd.strconv_ParseInt_10_at64_range_var s (by omega) hp tp p w hs2
      go_enter Tryd.func21, Tryd.ntmps21
      go_wp2_with (first | (go_at_call 40; refine hP.mono ?_; rintro e w1 ⟨N, rfl, hN1, hN2, hb1⟩; clear hN2))
      go_returns
      exact ⟨rfl, hb1⟩
end Go.Proofs.YtcgdgopjomilnaaDoor
