/-
  pledgeref's copies and equalities.
-/
import Derived.Test.YtcgdgopjomilnaaDoorRdr3
import Derived.OwnWalk
namespace Go.Proofs.YtcgdgopjomilnaaDoor
open Go Go.RowKit

theorem read_any (v : Value) (l : List Nat) (hby : ∀ c ∈ l, c < 256) {w : World} {E : Nat → Addr} (g : GW w E) (hv : Rd w v (u8s l)) :
    Calls Tryd.prog 11 #[v] w fun e w' => ∃ ev, e = .returned (.tuple #[O.v (readP l).1, ev]) ∧ IsErr w' E ev (readP l).2 ∧ Below w.heap.size w w' := by
  by_cases hl : 256 < l.length
  · have : readP l = (.zero, .code 105) := by unfold readP; rw [if_pos hl]
    rw [this]
    refine (read_long v l hl g hv).mono ?_
    rintro e w' ⟨rfl, hb⟩
    exact ⟨_, rfl, ⟨⟨by omega, by omega⟩, rfl⟩, hb⟩
  · exact read_short v l (by omega) hby g hv

/-- Are two operations the same? -/
def sameO (o p : O) : Bool := o.ID == p.ID && o.K == p.K && o.A == p.A && o.B == p.B && o.C == p.C && o.D == p.D && o.N == p.N && o.M == p.M
theorem sameO_iff (o p : O) : sameO o p = true ↔ o = p := by
  obtain ⟨a0, a1, a2, a3, a4, a5, a6, a7⟩ := o
  obtain ⟨b0, b1, b2, b3, b4, b5, b6, b7⟩ := p
  simp [sameO, and_assoc]
set_option maxRecDepth 100000 in
set_option maxHeartbeats 4000000 in
theorem sameOp_any (o p : O) (w : World) :
    Calls Tryd.prog 16 #[o.v, p.v] w fun e w' => e = .returned (.bool (sameO o p)) ∧ Below w.heap.size w w' := by
  unfold sameO
  cases h0 : o.ID == p.ID
  · go_enter Tryd.func16, Tryd.ntmps16
    go_wp2
    go_returns
    exact ⟨rfl, (later_alloc _ _).alloc (by simp) _⟩
  · cases h1 : o.K == p.K
    · go_enter Tryd.func16, Tryd.ntmps16
      go_wp2
      go_returns
      exact ⟨rfl, (later_alloc _ _).alloc (by simp) _⟩
    · cases h2 : o.A == p.A
      · go_enter Tryd.func16, Tryd.ntmps16
        go_wp2
        go_returns
        exact ⟨rfl, (later_alloc _ _).alloc (by simp) _⟩
      · cases h3 : o.B == p.B
        · go_enter Tryd.func16, Tryd.ntmps16
          go_wp2
          go_returns
          exact ⟨rfl, (later_alloc _ _).alloc (by simp) _⟩
        · cases h4 : o.C == p.C
          · go_enter Tryd.func16, Tryd.ntmps16
            go_wp2
            go_returns
            exact ⟨rfl, (later_alloc _ _).alloc (by simp) _⟩
          · cases h5 : o.D == p.D
            · go_enter Tryd.func16, Tryd.ntmps16
              go_wp2
              go_returns
              exact ⟨rfl, (later_alloc _ _).alloc (by simp) _⟩
            · cases h6 : o.N == p.N
              · go_enter Tryd.func16, Tryd.ntmps16
                go_wp2
                go_returns
                exact ⟨rfl, (later_alloc _ _).alloc (by simp) _⟩
              · cases h7 : o.M == p.M
                · go_enter Tryd.func16, Tryd.ntmps16
                  go_wp2
                  go_returns
                  exact ⟨rfl, (later_alloc _ _).alloc (by simp) _⟩
                · go_enter Tryd.func16, Tryd.ntmps16
                  go_wp2
                  go_returns
                  exact ⟨rfl, (later_alloc _ _).alloc (by simp) _⟩

theorem rd_form {w : World} {v : Value} {xs : List Value} (h : Rd w v xs) : ∃ A c, v = .slice A xs.length c := by
  rcases h with ⟨rfl, rfl⟩ | ⟨b, off, c, rfl, _⟩
  · exact ⟨none, 0, rfl⟩
  · exact ⟨_, _, rfl⟩
theorem u8s_len (l : List Nat) : (u8s l).length = l.length := by simp [u8s]

set_option maxRecDepth 100000 in
set_option maxHeartbeats 1000000 in
theorem refBytes_any (v : Value) (l : List Nat) (hl : l.length ≤ 1000000000) {w : World} (hv : Rd w v (u8s l)) :
    Calls Tryd.prog 12 #[v] w fun e w' => ∃ v', e = .returned v' ∧ w'.ownsRow w.heap.size 5 1 v' l.length (u8s l) ∧ Below w.heap.size w w' := by
  obtain ⟨i0, hi, hz0, hz1, hz2⟩ := info_parts info_u8
  have hcell : ∀ k (h : k < l.length), ∃ b off c, v = .slice (some ⟨b, off, none⟩) l.length c ∧ w.cell? ⟨b, off + k, none⟩ = some (.int .u8 (l[k] : Nat)) := by
    intro k h
    rcases hv with ⟨_, h0⟩ | ⟨b, off, c, rfl, hlt, hc, hcell⟩
    · have := u8s_len l
      rw [h0] at this
      simp at this
      omega
    · exact ⟨b, off, c, by rw [u8s_len], hcell k _ (by simp [u8s, h])⟩
  obtain ⟨A, c, rfl⟩ := rd_form hv
  rw [u8s_len] at hcell ⊢
  have HC := Lib.hid hcell
  clear hcell hv
  go_enter Tryd.func12, Tryd.ntmps12
  go_wp2_with (refine wpList_make_own _ rfl _ _ _ rfl w.heap.size 5 i0 _ 1 Tryd.underlying35 hi hz0 hz1 .i64 .i64 _ l.length rfl rfl rfl ?_ ?_ ?_ ?_; (rw [hz2]; omega); (unfold maxLen; omega); exact Nat.le_refl _; intro w1 hown1 hg1)
  have hb1 : Below w.heap.size w w1 := (Below.refl _ _).grown hg1 (Nat.le_refl _) (fun j hj => by cases hj)
  go_loopw [3, 4] (fun u i wr => ∃ k : Nat, k ≤ l.length ∧ i = .int .i64 k ∧ wr.ownsRow w.heap.size 5 1 u k (u8s (l.take k)) ∧ Below w.heap.size w wr) (fun _ i _ => l.length - (intOf i).toNat)
  case atStart => exact ⟨0, by omega, rfl, by simpa [u8s] using hown1, hb1⟩
  case round =>
    obtain ⟨k, hk, rfl, hown, hb⟩ := hrel
    by_cases hlt : k < l.length
    · obtain ⟨b, off, c', hsl, hck⟩ := HC.out k hlt
      injection hsl with hA _ hcc
      subst hA
      subst hcc
      have ck := Later.cell hb hck
      have hts : u8s (l.take (k + 1)) = u8s (l.take k) ++ [.int .u8 (l[k] : Nat)] := by rw [List.take_succ_eq_append_getElem hlt]; simp only [u8s, List.map_append, List.map_cons, List.map_nil]
      have HTS := Lib.hid hts
      clear hts hck hown1 hb1 hg1
      generalize l[k] = x at ck HTS
      have hkn : (k : Int) < (l.length : Int) := by omega
      go_wp2_with (at_builtin; refine wpList_append_own _ rfl (.tmp 14) (.tmp 19) _ rfl w.heap.size 5 i0 _ 1 1 Tryd.underlying35 hi hz0 hz1 hz2 rfl (by decide) u3 k _ rfl (hown.alloc _) ⟨wr.heap.size, 0, none⟩ 1 1 [.int .u8 (x : Int)] rfl rfl (cell_one_new _ _ _) (by simp [Value.oneCell']) ?_ ?_ ?_ ?_; (unfold maxLen; omega); omega; (have := hb.size; simp; omega); intro v6 w6 hown6 hg6 _)
      go_roundw
      case rel => exact ⟨k + 1, by omega, by go_num, by rw [HTS.out]; exact hown6, (Later.alloc hb _).grown hg6 (Later.alloc hb _).size (fun j hj => (hown.lt j hj).1)⟩
      case measure => simp [intOf]; omega
    · have hkn : ¬ (k : Int) < (l.length : Int) := by omega
      have hk' : k = l.length := by omega
      have HK := Lib.hid hk'
      clear hk'
      go_wp2_with fail
      go_returns
      exact ⟨u3, rfl, by have := hown; rw [HK.out, List.take_length] at this; exact this, hb⟩

set_option maxRecDepth 100000 in
set_option maxHeartbeats 1000000 in
theorem sameBytes_any (v v' : Value) (l l' : List Nat) (hl : l.length ≤ 1000000000) (hl' : l'.length ≤ 1000000000) {w : World} (hv : Rd w v (u8s l)) (hv' : Rd w v' (u8s l')) :
    Calls Tryd.prog 17 #[v, v'] w fun e w' => e = .returned (.bool (decide (l = l'))) ∧ Below w.heap.size w w' := by
  have hcl : ∀ (v : Value) (l : List Nat), Rd w v (u8s l) → ∀ k (h : k < l.length), ∃ b off c, v = .slice (some ⟨b, off, none⟩) l.length c ∧ w.cell? ⟨b, off + k, none⟩ = some (.int .u8 (l[k] : Nat)) := by
    intro v l hv k h
    rcases hv with ⟨_, h0⟩ | ⟨b, off, c, rfl, hlt, hc, hcell⟩
    · have := u8s_len l
      rw [h0] at this
      simp at this
      omega
    · exact ⟨b, off, c, by rw [u8s_len], hcell k _ (by simp [u8s, h])⟩
  have HC := Lib.hid (hcl v l hv)
  have HC' := Lib.hid (hcl v' l' hv')
  clear hcl
  obtain ⟨A, c, rfl⟩ := rd_form hv
  obtain ⟨A', c', rfl⟩ := rd_form hv'
  rw [u8s_len] at HC ⊢
  rw [u8s_len] at HC' ⊢
  clear hv hv'
  by_cases hlen : l.length = l'.length
  · have t0 : ((l.length : Int) != (l'.length : Int)) = false := by simp; omega
    have HL := Lib.hid hlen
    clear hlen
    go_enter Tryd.func17, Tryd.ntmps17
    go_wp2_with fail
    go_loopw [5] (fun i wr => ∃ k : Nat, k ≤ l.length ∧ i = .int .i64 k ∧ Below w.heap.size w wr ∧ Hid (l.take k = l'.take k)) (fun i _ => l.length - (intOf i).toNat)
    case atStart => exact ⟨0, by omega, rfl, Below.refl _ _, by simp [Hid]⟩
    case round =>
      obtain ⟨k, hk, rfl, hb, HE⟩ := hrel
      by_cases hlt : k < l.length
      · have hlt' : k < l'.length := by have := HL.out; omega
        obtain ⟨b, off, c1, hsl, hck⟩ := HC.out k hlt
        injection hsl with hA _ hcc
        subst hA
        subst hcc
        obtain ⟨b', off', c1', hsl', hck'⟩ := HC'.out k hlt'
        injection hsl' with hA' _ hcc'
        subst hA'
        subst hcc'
        have ck := Later.cell hb hck
        have ck' := Later.cell hb hck'
        have hkn : (k : Int) < (l.length : Int) := by omega
        have hkn' : (k : Int) < (l'.length : Int) := by omega
        clear hck hck'
        by_cases hx : l[k] = l'[k]
        · have HE2 : Hid (l.take (k + 1) = l'.take (k + 1)) := by
            unfold Hid
            rw [List.take_succ_eq_append_getElem hlt, List.take_succ_eq_append_getElem hlt', HE.out, hx]
          rw [← hx] at ck'
          clear hx
          generalize l[k] = x at ck ck'
          go_wp2_with fail
          go_quiet (fail)
          go_wp2_with fail
          go_roundw
          case rel => exact ⟨k + 1, by omega, by go_num, below_drewN hb _, HE2⟩
          case measure => simp [intOf]; omega
        · have hne : decide (l = l') = false := by
            simp only [decide_eq_false_iff_not]
            intro h
            subst h
            exact hx rfl
          have hxy : (((l[k] : Nat) : Int) == ((l'[k] : Nat) : Int)) = false := by simp; omega
          have HNE := Lib.hid hne
          clear hne hx
          generalize l[k] = x at ck hxy
          generalize l'[k] = y at ck' hxy
          go_wp2_with fail
          go_quiet (fail)
          go_wp2_with fail
          go_returns
          exact ⟨by rw [HNE.out]; rfl, below_drewN hb _⟩
      · have hkn : ¬ (k : Int) < (l.length : Int) := by omega
        have hk' : k = l.length := by omega
        have HD : Hid (decide (l = l') = true) := by
          unfold Hid
          have := HE.out
          rw [hk', List.take_length, HL.out, List.take_length] at this
          simpa using this
        clear hk'
        go_wp2_with fail
        go_returns
        exact ⟨by rw [HD.out]; rfl, hb⟩
  · have t0 : ((l.length : Int) != (l'.length : Int)) = true := by simp; omega
    have hne : decide (l = l') = false := by
      simp only [decide_eq_false_iff_not]
      intro h
      exact hlen (by rw [h])
    have HNE := Lib.hid hne
    clear hne hlen
    go_enter Tryd.func17, Tryd.ntmps17
    go_wp2_with fail
    go_returns
    exact ⟨by rw [HNE.out]; rfl, Below.refl _ _⟩
end Go.Proofs.YtcgdgopjomilnaaDoor
