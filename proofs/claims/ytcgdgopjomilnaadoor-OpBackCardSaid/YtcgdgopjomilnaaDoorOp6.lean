/-
  Words as an operation.
-/
import Derived.Test.YtcgdgopjomilnaaDoorOp5
import Derived.RegionTactic
import Derived.BigRegion
namespace Go.Proofs.YtcgdgopjomilnaaDoor
open Go Go.RowKit

abbrev O.zero : O := ⟨0, 0, 0, 0, 0, 0, 0, 0⟩
def wd (ws : List ByteArray) (j : Nat) : ByteArray := ws.getD j ByteArray.empty
def kindOf (ws : List ByteArray) : Int := Lib.idxOfS nameL (wd ws 1) + 1
def numAt (ws : List ByteArray) (j : Nat) : Int := (numP (wd ws j)).1
def numOk (ws : List ByteArray) (j : Nat) : Bool := (numP (wd ws j)).2
/-- The fields as far as k letters have set them. -/
def setTo (ws : List ByteArray) (K : Int) : Nat → List Int
  | 0 => [0, 0, 0, 0, 0, 0]
  | k + 1 => (setTo ws K k).set (ltr ((useB K).data.toList.getD k 0)) (numAt ws (2 + k))
def opOf (ws : List ByteArray) : O :=
  let K := kindOf ws
  let f := setTo ws K (useB K).size
  ⟨numAt ws 0, K, f.getD 0 0, f.getD 1 0, f.getD 2 0, f.getD 3 0, f.getD 4 0, f.getD 5 0⟩
/-- The first word from i on, but the second one, that is no number. -/
def numsOk (ws : List ByteArray) : Bool := (List.range ws.length).all fun i => i == 1 || numOk ws i
def parseC (ws : List ByteArray) : Nat :=
  if ws.length < 2 then 118 else
  if kindOf ws = 0 ∨ (ws.length : Int) - 2 ≠ (useB (kindOf ws)).size then 118 else
  if numsOk ws = false then 119 else validC (opOf ws)
def parseO (ws : List ByteArray) : O := if parseC ws = 0 then opOf ws else .zero

theorem GW.e118 {w : World} {E : Nat → Addr} (g : GW w E) : w.cell? ⟨0, 0, none⟩ = some (.iface 132 (.pointer (some (E 118)))) := g.err 118 (by omega) (by omega)
theorem GW.e119 {w : World} {E : Nat → Addr} (g : GW w E) : w.cell? ⟨1, 0, none⟩ = some (.iface 132 (.pointer (some (E 119)))) := g.err 119 (by omega) (by omega)

set_option maxRecDepth 100000 in
set_option maxHeartbeats 1000000 in
theorem parse_few (A : Option Addr) (n c : Nat) (hn : n < 2) {w : World} {E : Nat → Addr} (g : GW w E) :
    Calls Tryd.prog 6 #[.slice A n c] w fun e w' => e = .returned (.tuple #[O.v .zero, errV E 118]) ∧ Below w.heap.size w w' := by
  have e0 := g.e118
  have hlo := g.lo
  go_enter Tryd.func6, Tryd.ntmps6
  go_wp2_with fail
  go_region
  all_goals (go_wp2; go_returns; exact ⟨rfl, by go_grown⟩)

theorem nameL_len : nameL.length = 16 := rfl
theorem idxFrom_lt (x : ByteArray) : ∀ (zs : List ByteArray) (i : Nat), Lib.idxFromS zs x i = -1 ∨ ((i : Int) ≤ Lib.idxFromS zs x i ∧ Lib.idxFromS zs x i < i + zs.length) := by
  intro zs
  induction zs with
  | nil => intro i; exact .inl rfl
  | cons z zs ih =>
    intro i
    unfold Lib.idxFromS
    split
    · right; simp; omega
    · rcases ih (i + 1) with h | h
      · exact .inl h
      · right; simp at h ⊢; omega
theorem idx_lt (x : ByteArray) : -1 ≤ Lib.idxOfS nameL x ∧ Lib.idxOfS nameL x < 16 := by
  have := idxFrom_lt x nameL 0
  have h16 : (nameL.length : Int) = 16 := rfl
  unfold Lib.idxOfS
  omega

theorem names_index (W : World) (n : Nat) (x : ByteArray) (hn : n = W.heap.size) :
    Calls Tryd.prog 18 #[.slice (some ⟨n, 0, none⟩) 16 16, .string x] (W.alloc (.cells nameCs 9)).drew fun e w' => e = .returned (.int .i64 (Lib.idxOfS nameL x)) ∧ (W.alloc (.cells nameCs 9)).drew = w' := by
  refine (_root_.Go.Proofs.Tryd.slices_Index_string n 0 16 16 nameL x _ (by decide) (by decide) (fun j hj => ?_)).mono ?_
  · subst hn
    rw [World.cell?_drew, Nat.zero_add]
    exact ((Blk.new W 9 nameCs).cell j).trans (nameCs_at j hj)
  · rintro e w' ⟨rfl, rfl⟩
    exact ⟨rfl, rfl⟩

abbrev zeroCs : Array Value := #[.int .i64 0, .int .i64 0, .int .i64 0, .int .i64 0, .int .i64 0, .int .i64 0, .int .i64 0, .int .i64 0]

theorem info_i64 : (Tryd.prog.info? 2).map (fun i => (i.zero, i.size, i.bytes)) = some (some (.int .i64 0), 1, 8) := by kernel_rfl
abbrev numsV (ws : List ByteArray) (k : Nat) : List Value := (List.range k).map fun j => .int .i64 (numAt ws j)
theorem numsV_succ (ws : List ByteArray) (k : Nat) : numsV ws (k + 1) = numsV ws k ++ [.int .i64 (numAt ws k)] := by simp [numsV, List.range_succ]
theorem numsOk_false (ws : List ByteArray) (k : Nat) (hk : k < ws.length) (h1 : k ≠ 1) (h : numOk ws k = false) : numsOk ws = false := by
  unfold numsOk
  rw [List.all_eq_false]
  exact ⟨k, by simpa using hk, by simp [h, h1]⟩
theorem numsOk_true (ws : List ByteArray) (h : ∀ j, j < ws.length → j ≠ 1 → numOk ws j = true) : numsOk ws = true := by
  unfold numsOk
  rw [List.all_eq_true]
  intro j hj
  by_cases h1 : j = 1
  · simp [h1]
  · simp [h j (by simpa using hj) h1]

theorem own_drew {w : World} {base : Nat} {e : TypeId} {size n : Nat} {v : Value} {xs : List Value} (h : w.ownsRow base e size v n xs) : w.drew.ownsRow base e size v n xs := h
theorem set_all {w W : World} {v u : Value} {e T : TypeId} {n i : Nat} {xs : List Value} {bx bi fb : Nat} {cs : Array Value} {s : ByteArray} {p : Nat}
    (hb : Below w.heap.size w W) (hB : Blk W bx T cs) (hit : W.heap[bi]? = some (.stringIter s p)) (own : W.ownsRow w.heap.size e 1 v n xs) (hfb : w.heap.size ≤ fb) (h1 : bx ≠ fb) (h2 : bi ≠ fb) (h3 : v.ownBlock ≠ some fb) :
    Below w.heap.size w (W.setCell ⟨fb, i, none⟩ u) ∧ Blk (W.setCell ⟨fb, i, none⟩ u) bx T cs ∧ (W.setCell ⟨fb, i, none⟩ u).heap[bi]? = some (.stringIter s p) ∧ (W.setCell ⟨fb, i, none⟩ u).ownsRow w.heap.size e 1 v n xs :=
  ⟨hb.setCell (p := ⟨fb, i, none⟩) hfb u, hB.far (p := ⟨fb, i, none⟩) h1 u, (Below.heap_setCell W ⟨fb, i, none⟩ u bi h2).trans hit,
    own.kept (row := some fb) ⟨rfl, rfl, rfl, by simp [World.setCell], fun j _ hne => Below.heap_setCell W ⟨fb, i, none⟩ u j (fun h => hne (by rw [h]))⟩ (.inr h3)⟩

theorem setTo_len (ws : List ByteArray) (K : Int) (k : Nat) : (setTo ws K k).length = 6 := by
  induction k with
  | zero => rfl
  | succ k ih => rw [setTo, List.length_set]; exact ih

set_option maxRecDepth 100000 in
set_option maxHeartbeats 8000000 in
theorem parse_many (b off c : Nat) (ws : List ByteArray) (hn : 2 ≤ ws.length) (hmax : ws.length ≤ 8796093022208) {w : World} {E : Nat → Addr} (g : GW w E)
    (hc : ∀ j, j < ws.length → w.cell? ⟨b, off + j, none⟩ = some (.string (wd ws j))) (hsz : ∀ j, j < ws.length → (wd ws j).size ≤ 140737488355328) :
    Calls Tryd.prog 6 #[.slice (some ⟨b, off, none⟩) ws.length c] w fun e w' => e = .returned (.tuple #[O.v (parseO ws), errV E (parseC ws)]) ∧ Below w.heap.size w w' := by
  have e0 := g.e118
  have hlo := g.lo
  have c1 := hc 1 (by omega)
  obtain ⟨hix1, hix2⟩ := idx_lt (wd ws 1)
  have hn1 : (1 : Int) < (ws.length : Int) := by omega
  have hk : Hid (kindOf ws = Lib.idxOfS nameL (wd ws 1) + 1) := rfl
  have hix := names_index (w.alloc (.cells zeroCs 26)) (w.heap.size + 1) (wd ws 1) (by simp)
  generalize Lib.idxOfS nameL (wd ws 1) = ix at hix1 hix2 hk hix
  go_enter Tryd.func6, Tryd.ntmps6
  go_wp2_with fail
  go_region_held3 (fun W => Below w.heap.size w W ∧ W.cell? ⟨b, off + 1, none⟩ = some (.string (wd ws 1)))
    ((go_split_ands; refine ⟨?_, Later.cell (w := w) ?_ c1⟩ <;> go_grown))
    (first | (go_at_call 19; go_split_ands; obtain ⟨m1, hm1⟩ := (g.later (by assumption)).maxlen; refine (names_any _ m1 hm1).mono ?_; rintro e w2 ⟨rfl, rfl⟩) | (go_at_call 18; refine hix.mono ?_; rintro e w3 ⟨rfl, rfl⟩))
  go_split_ands
  have hbW : Below w.heap.size w ((w.alloc (.cells zeroCs 26)).alloc (.cells nameCs 9)).drew := by go_grown
  have gW := g.later hbW
  obtain ⟨m, hm⟩ := gW.maxlen
  clear hix
  by_cases hz : ix + 1 = 0
  · have hz1 : (ix + 1 == 0) = true := by simpa using hz
    have hp : parseC ws = 118 := by unfold parseC; rw [if_neg (by omega), hk.out, if_pos (.inl hz)]
    have hpo : parseO ws = .zero := by unfold parseO; rw [hp]; rfl
    have HP := Lib.hid hp
    have HPO := Lib.hid hpo
    clear hz hp hpo
    go_wp2_with fail
    go_region
    all_goals (go_wp2; go_returns; exact ⟨by rw [HP.out, HPO.out]; rfl, by go_grown⟩)
  · have hz1 : (ix + 1 == 0) = false := by simpa using hz
    have hk1 : 1 ≤ ix + 1 := by omega
    have hk2 : ix + 1 ≤ 16 := by omega
    have hsu := useB_short (ix + 1)
    by_cases hl : (ws.length : Int) - 2 = (useB (ix + 1)).size
    · have hl1 : ((ws.length : Int) - 2 != ((useB (ix + 1)).size : Int)) = false := by simpa using hl
      have HL := Lib.hid hl
      obtain ⟨i0, hi, hq0, hq1, hq2⟩ := info_parts info_i64
      have hB0 : Blk ((w.alloc (.cells zeroCs 26)).alloc (.cells nameCs 9)).drew w.heap.size 26 zeroCs := ((Blk.new w _ _).alloc _).drew
      clear hl hz c1
      go_wp2_with (first | (go_at_call 20; refine (uses_any _ hk1 hk2 _ m hm).mono ?_; rintro e w4 ⟨rfl, rfl⟩))
      go_loopw [5, 41] (fun v i wr => ∃ k : Nat, k ≤ ws.length ∧ i = .int .i64 k ∧ wr.ownsRow w.heap.size 2 1 v k (numsV ws k) ∧ Below w.heap.size w wr ∧ Blk wr w.heap.size 26 zeroCs ∧ Hid (∀ j, j < k → j ≠ 1 → numOk ws j = true)) (fun _ i _ => ws.length - (intOf i).toNat)
      case atStart => exact ⟨0, by omega, rfl, World.ownsRow_nil _ _ _ _, by go_grown, (hB0.alloc _), fun j hj => by omega⟩
      case round =>
        obtain ⟨k, hk0, rfl, hown, hb, hB, hoks⟩ := hrel
        by_cases hlt : k < ws.length
        · have ck := Later.cell hb (hc k hlt)
          have hnum := number_any (wd ws k) (hsz k hlt) (g.later hb)
          have hkn1 : (k : Int) < (ws.length : Int) := by omega
          have hno : numOk ws k = (numP (wd ws k)).2 := rfl
          have hna : numAt ws k = (numP (wd ws k)).1 := rfl
          rw [← hno, ← hna] at hnum
          clear hno hna
          have hsk := numsV_succ ws k
          have hbad := numsOk_false ws k hlt
          obtain ⟨ok, hok⟩ : ∃ b, numOk ws k = b := ⟨_, rfl⟩
          rw [hok] at hnum hbad
          have HOK := Lib.hid hok
          clear hok
          obtain ⟨nk, hnk⟩ : ∃ x, numAt ws k = x := ⟨_, rfl⟩
          rw [hnk] at hnum hsk
          clear hnk
          have HSK := Lib.hid hsk
          have HBAD := Lib.hid hbad
          clear hsk hbad
          by_cases hk1' : k = 1
          · have t1 : ((k : Int) != 1) = false := by simp; omega
            have HK1 := Lib.hid hk1'
            clear hk1'
            go_wp2_with (first | (go_at_call 21; refine hnum.mono ?_; rintro e w5 ⟨rfl, hb5⟩; have own5 := own_later hown hb5; have hbw5 := hb.trans (hb5.mono hb.size); have hB5 := hB.later hb5) | (at_builtin; refine wpList_append_own _ rfl (.tmp 59) (.tmp 61) _ rfl w.heap.size 2 i0 _ 1 8 Tryd.underlying50 hi hq0 hq1 hq2 rfl (by decide) u5 k _ rfl (own5.alloc _) ⟨w5.heap.size, 0, none⟩ 1 1 [.int .i64 nk] rfl rfl (cell_one_new _ _ _) (by simp [Value.oneCell']) ?_ ?_ ?_ ?_; (unfold maxLen; omega); omega; (have := hbw5.size; simp; omega); intro v6 w6 hown6 hg6 _))
            go_roundw
            case rel => exact ⟨k + 1, by omega, by go_num, by rw [HSK.out]; exact hown6, (Later.alloc hbw5 _).grown hg6 (Later.alloc hbw5 _).size (fun j hj => (own5.lt j hj).1), (hB5.alloc _).grown hg6 (own_ne own5 hB5 (by decide)), fun j hj h1 => hoks.out j (by have := HK1.out; omega) h1⟩
            case measure => simp [intOf]; omega
          · have t1 : ((k : Int) != 1) = true := by simp; omega
            have HK1 := Lib.hid hk1'
            clear hk1'
            cases ok with
            | true =>
              go_wp2_with (first | (go_at_call 21; refine hnum.mono ?_; rintro e w5 ⟨rfl, hb5⟩; have own5 := own_later hown hb5; have hbw5 := hb.trans (hb5.mono hb.size); have hB5 := hB.later hb5) | (at_builtin; refine wpList_append_own _ rfl (.tmp 59) (.tmp 61) _ rfl w.heap.size 2 i0 _ 1 8 Tryd.underlying50 hi hq0 hq1 hq2 rfl (by decide) u5 k _ rfl (own5.alloc _) ⟨w5.heap.size, 0, none⟩ 1 1 [.int .i64 nk] rfl rfl (cell_one_new _ _ _) (by simp [Value.oneCell']) ?_ ?_ ?_ ?_; (unfold maxLen; omega); omega; (have := hbw5.size; simp; omega); intro v6 w6 hown6 hg6 _))
              go_roundw
              case rel => exact ⟨k + 1, by omega, by go_num, by rw [HSK.out]; exact hown6, (Later.alloc hbw5 _).grown hg6 (Later.alloc hbw5 _).size (fun j hj => (own5.lt j hj).1), (hB5.alloc _).grown hg6 (own_ne own5 hB5 (by decide)), fun j hj h1 => (if hjk : j = k then hjk ▸ HOK.out else hoks.out j (by omega) h1)⟩
              case measure => simp [intOf]; omega
            | false =>
              have hnok := HBAD.out HK1.out rfl
              have hp : parseC ws = 119 := by unfold parseC; rw [if_neg (by omega), hk.out, if_neg (by simpa using ⟨by omega, HL.out⟩), if_pos hnok]
              have hpo : parseO ws = .zero := by unfold parseO; rw [hp]; rfl
              have HP := Lib.hid hp
              have HPO := Lib.hid hpo
              clear hp hpo hnok
              have e9 := g.e119
              go_wp2_with (first | (go_at_call 21; refine hnum.mono ?_; rintro e w5 ⟨rfl, hb5⟩; have own5 := own_later hown hb5; have hbw5 := hb.trans (hb5.mono hb.size); have hB5 := hB.later hb5) | (at_builtin; refine wpList_append_own _ rfl (.tmp 59) (.tmp 61) _ rfl w.heap.size 2 i0 _ 1 8 Tryd.underlying50 hi hq0 hq1 hq2 rfl (by decide) u5 k _ rfl (own5.alloc _) ⟨w5.heap.size, 0, none⟩ 1 1 [.int .i64 nk] rfl rfl (cell_one_new _ _ _) (by simp [Value.oneCell']) ?_ ?_ ?_ ?_; (unfold maxLen; omega); omega; (have := hbw5.size; simp; omega); intro v6 w6 hown6 hg6 _))
              have e9' := Later.cell hbw5 e9
              have hne1 : w.heap.size ≠ 1 := by have := g.size; omega
              have hne2 : 1 ≠ w.heap.size := by have := g.size; omega
              have z0 : w5.cell? ⟨w.heap.size, 0, none⟩ = some (.int .i64 0) := hB5.cell 0
              have f0 := hB5.frozen 0
              have z1 : w5.cell? ⟨w.heap.size, 1, none⟩ = some (.int .i64 0) := hB5.cell 1
              have f1 := hB5.frozen 1
              have z2 : w5.cell? ⟨w.heap.size, 2, none⟩ = some (.int .i64 0) := hB5.cell 2
              have f2 := hB5.frozen 2
              have z3 : w5.cell? ⟨w.heap.size, 3, none⟩ = some (.int .i64 0) := hB5.cell 3
              have f3 := hB5.frozen 3
              have z4 : w5.cell? ⟨w.heap.size, 4, none⟩ = some (.int .i64 0) := hB5.cell 4
              have f4 := hB5.frozen 4
              have z5 : w5.cell? ⟨w.heap.size, 5, none⟩ = some (.int .i64 0) := hB5.cell 5
              have f5 := hB5.frozen 5
              have z6 : w5.cell? ⟨w.heap.size, 6, none⟩ = some (.int .i64 0) := hB5.cell 6
              have f6 := hB5.frozen 6
              have z7 : w5.cell? ⟨w.heap.size, 7, none⟩ = some (.int .i64 0) := hB5.cell 7
              have f7 := hB5.frozen 7
              have hBf := ((((((((hB5.put 0 (.int .i64 0)).put 1 (.int .i64 0)).put 2 (.int .i64 0)).put 3 (.int .i64 0)).put 4 (.int .i64 0)).put 5 (.int .i64 0)).put 6 (.int .i64 0)).put 7 (.int .i64 0)).drew
              have hZ : Hid (zeroCs = ((((((((zeroCs.setIfInBounds 0 (.int .i64 0)).setIfInBounds 1 (.int .i64 0)).setIfInBounds 2 (.int .i64 0)).setIfInBounds 3 (.int .i64 0)).setIfInBounds 4 (.int .i64 0)).setIfInBounds 5 (.int .i64 0)).setIfInBounds 6 (.int .i64 0)).setIfInBounds 7 (.int .i64 0))) := rfl
              rw [← hZ.out] at hBf
              have y0 := hBf.cell 0
              have y1 := hBf.cell 1
              have y2 := hBf.cell 2
              have y3 := hBf.cell 3
              have y4 := hBf.cell 4
              have y5 := hBf.cell 5
              have y6 := hBf.cell 6
              have y7 := hBf.cell 7
              clear own5 hB hown
              go_region
              all_goals (go_wp2; refine bodyPost_ret (v := .tuple #[O.v .zero, .iface 132 (.pointer (some (E 119)))]) (by simp [results, Tryd.results6, go_sem, y0, y1, y2, y3, y4, y5, y6, y7]) rfl ⟨by rw [HP.out, HPO.out]; rfl, by go_grown⟩)
        · have hkn : k = ws.length := by omega
          subst hkn
          have hnok := numsOk_true ws (fun j hj h1 => hoks.out j hj h1)
          have hpc : parseC ws = validC (opOf ws) := by unfold parseC; rw [if_neg (by omega), hk.out, if_neg (by simpa using ⟨by omega, HL.out⟩), if_neg (by simp [hnok])]
          have HPC := Lib.hid hpc
          clear hpc hnok
          obtain ⟨gb, cap, rfl, hgb0, hgl, hcap, _, hcell⟩ := own_form hown (by omega)
          have gr := g.later hb
          obtain ⟨mr, hmr⟩ := gr.maxlen
          have hmk : ∀ W : World, (Instr.makeSlice 50 (.int .i64 6) (.int .i64 6)).run Tryd.prog W = .ok (.slice (some ⟨W.heap.size, 0, none⟩) 6 6) (W.alloc (.cells #[.int .i64 0, .int .i64 0, .int .i64 0, .int .i64 0, .int .i64 0, .int .i64 0] 2)) := fun _ => by kernel_rfl
          clear hlt hoks
          go_wp2_with (first | (go_at_call 20; refine (uses_any _ hk1 hk2 _ mr ?_).mono ?_; exact Later.cell (later_alloc _ _) hmr; rintro e w4 ⟨rfl, rfl⟩))
          obtain ⟨wo, rfl⟩ : ∃ wo : World, wo = wr := ⟨_, rfl⟩
          have hfb : gb < wo.heap.size := hgl
          have hwo : w.heap.size ≤ wo.heap.size := hb.size
          go_loopw [12] (fun _ wr => ∃ k : Nat, k ≤ (useB (ix + 1)).size ∧ Blk wr wo.heap.size 2 ((setTo ws (ix + 1) k).map (Value.int .i64)).toArray ∧ wr.ownsRow w.heap.size 2 1 (.slice (some ⟨gb, 0, none⟩) ws.length cap) ws.length (numsV ws ws.length) ∧ Below w.heap.size w wr ∧ Blk wr w.heap.size 26 zeroCs ∧ wr.heap[wo.heap.size + 1 + 1]? = some (.stringIter (useB (ix + 1)) k)) (fun _ wr => (useB (ix + 1)).size - wr.iterPos (wo.heap.size + 1 + 1))
          case atStart =>
            refine ⟨0, by omega, ((Blk.new wo _ _).alloc _).alloc _, own_later ((hown.alloc _).alloc _) (later_alloc _ _), ((hb.alloc hb.size _).alloc (by simp; omega) _).alloc (by simp; omega) _, ((hB.alloc _).alloc _).alloc _, ?_⟩
            have := World.iter_heap ((wo.alloc (.cells #[.int .i64 0, .int .i64 0, .int .i64 0, .int .i64 0, .int .i64 0, .int .i64 0] 2)).alloc (.cells useCs 9)) (useB (ix + 1)) 0
            simpa using this
          case round =>
            obtain ⟨k, hk3, hF, hown2, hb2, hB2, hit⟩ := hrel
            by_cases hlt : k < (useB (ix + 1)).size
            · have hbi : w.heap.size ≤ wo.heap.size + 1 + 1 := by omega
              have ha : ((useB (ix + 1))[k]'hlt).toNat < 128 := by
                rcases useB_letters (ix + 1) ((useB (ix + 1))[k]'hlt) (by simp [ByteArray.getElem_eq_getElem_data]) with h | h | h | h | h | h <;> rw [h] <;> decide
              have hcs : (useB (ix + 1)).data.toList.getD k 0 = (useB (ix + 1))[k]'hlt := by simp [ByteArray.getElem_eq_getElem_data, hlt]
              have hnx := fun ty => Lib.run_next_ascii_at (P := Tryd.prog) wr _ _ k ty hit hlt ha
              have hc6 := useB_letters (ix + 1) ((useB (ix + 1))[k]'hlt) (by simp [ByteArray.getElem_eq_getElem_data])
              have hst : setTo ws (ix + 1) (k + 1) = (setTo ws (ix + 1) k).set (ltr ((useB (ix + 1))[k]'hlt)) (numAt ws (2 + k)) := by rw [← hcs]; rfl
              have hb4 := Lib.below_iterAt hb2 hbi (useB (ix + 1)) (k + 1)
              have hB4 : Blk (wr.iterAt (wo.heap.size + 1 + 1) (useB (ix + 1)) (k + 1)) w.heap.size 26 zeroCs := (Lib.iterAt_other wr _ _ _ _ (by omega)).trans hB2
              have hF4 : Blk (wr.iterAt (wo.heap.size + 1 + 1) (useB (ix + 1)) (k + 1)) wo.heap.size 2 ((setTo ws (ix + 1) k).map (Value.int .i64)).toArray := (Lib.iterAt_other wr _ _ _ _ (by omega)).trans hF
              have own4 : (wr.iterAt (wo.heap.size + 1 + 1) (useB (ix + 1)) (k + 1)).ownsRow w.heap.size 2 1 (.slice (some ⟨gb, 0, none⟩) ws.length cap) ws.length (numsV ws ws.length) :=
                hown2.kept (row := some (wo.heap.size + 1 + 1)) ⟨rfl, rfl, rfl, by rw [Lib.iterAt_size]; exact Nat.le_refl _, fun i _ hne => Lib.iterAt_other wr _ _ _ _ (fun h => hne (by rw [h]))⟩ (.inr (fun h => own_ne_obj hown2 hit (fun _ _ _ => by simp) h))
              have hit4 := Lib.iterAt_heap wr _ _ _ (k + 1) hit
              have HP := Lib.hid (iterPos_of hit)
              generalize wr.iterAt (wo.heap.size + 1 + 1) (useB (ix + 1)) (k + 1) = W4 at hnx hb4 hB4 own4 hit4 hF4
              generalize (useB (ix + 1))[k]'hlt = ch at hnx hc6 hst
              have HST := Lib.hid hst
              have hsl : (setTo ws (ix + 1) k).length = 6 := setTo_len ws (ix + 1) k
              clear hst ha hcs hit hown2 hb2 hB2 hF
              have hnn : 2 + k < ws.length := by have := HL.out; omega
              have cl : W4.cell? ⟨gb, 2 + k, none⟩ = some (.int .i64 (numAt ws (2 + k))) := by
                obtain ⟨g', cap', hv, _, _, _, _, hcl⟩ := own_form own4 (by omega)
                have hg' : gb = g' := by injection hv with hv; injection hv with hv; injection hv
                subst hg'
                exact hcl (2 + k) _ (by simp [hnn])
              have hn2 : (2 : Int) + (k : Int) < (ws.length : Int) := by omega
              have hn3 : (0 : Int) ≤ 2 + (k : Int) := by omega
              have hn4 : ((2 : Int) + (k : Int)).toNat = 2 + k := by omega
              have hn5 : IntKind.i64.wrap (2 + (k : Int)) = 2 + (k : Int) := IntWalk.i64_in _ (by omega)
              have hg4 : W4.heap.size = W4.heap.size := rfl
              clear hg4
              have hgne : gb ≠ wo.heap.size := by omega
              have hgne2 : wo.heap.size ≠ gb := by omega
              generalize numAt ws (2 + k) = nk at cl HST
              rcases hc6 with rfl | rfl | rfl | rfl | rfl | rfl
              · have cf : W4.cell? ⟨wo.heap.size, 0, none⟩ = some (.int .i64 ((setTo ws (ix + 1) k)[0]'(by omega))) := by rw [hF4.cell]; simp [hsl]
                have ff := hF4.frozen 0
                have HF4 := hF4.put 0 (.int .i64 nk)
                generalize (setTo ws (ix + 1) k)[0]'(by omega) = fo at cf
                have HSL := Lib.hid hsl
                clear hsl
                go_wp2_with fail
                go_region_held3 (fun W => W.cell? ⟨gb, 2 + k, none⟩ = some (.int .i64 nk))
                  (first | assumption | go_keep)
                  (first | (go_at_call 22; refine (ix_any 65 0 (by decide) _).mono ?_; rintro e w5 ⟨rfl, rfl⟩))
                go_wp2
                go_roundw
                case rel =>
                  obtain ⟨r1, r2, r3, r4⟩ := set_all (u := .int .i64 nk) (i := 0) hb4 hB4 hit4 own4 hwo (by omega) (by omega) (by simpa [Value.ownBlock] using hgne)
                  exact ⟨k + 1, by omega, by rw [HST.out]; have := HF4.drew; simpa [ltr] using this, own_drew r4, r1.drew, r2.drew, r3⟩
                case measure =>
                  obtain ⟨r1, r2, r3, r4⟩ := set_all (u := .int .i64 nk) (i := 0) hb4 hB4 hit4 own4 hwo (by omega) (by omega) (by simpa [Value.ownBlock] using hgne)
                  change (useB (ix + 1)).size - (W4.setCell ⟨wo.heap.size, 0, none⟩ (.int .i64 nk)).iterPos (wo.heap.size + 1 + 1) < _
                  rw [iterPos_of r3, HP.out]
                  omega
              · have cf : W4.cell? ⟨wo.heap.size, 1, none⟩ = some (.int .i64 ((setTo ws (ix + 1) k)[1]'(by omega))) := by rw [hF4.cell]; simp [hsl]
                have ff := hF4.frozen 1
                have HF4 := hF4.put 1 (.int .i64 nk)
                generalize (setTo ws (ix + 1) k)[1]'(by omega) = fo at cf
                have HSL := Lib.hid hsl
                clear hsl
                go_wp2_with fail
                go_region_held3 (fun W => W.cell? ⟨gb, 2 + k, none⟩ = some (.int .i64 nk))
                  (first | assumption | go_keep)
                  (first | (go_at_call 22; refine (ix_any 66 1 (by decide) _).mono ?_; rintro e w5 ⟨rfl, rfl⟩))
                go_wp2
                go_roundw
                case rel =>
                  obtain ⟨r1, r2, r3, r4⟩ := set_all (u := .int .i64 nk) (i := 1) hb4 hB4 hit4 own4 hwo (by omega) (by omega) (by simpa [Value.ownBlock] using hgne)
                  exact ⟨k + 1, by omega, by rw [HST.out]; have := HF4.drew; simpa [ltr] using this, own_drew r4, r1.drew, r2.drew, r3⟩
                case measure =>
                  obtain ⟨r1, r2, r3, r4⟩ := set_all (u := .int .i64 nk) (i := 1) hb4 hB4 hit4 own4 hwo (by omega) (by omega) (by simpa [Value.ownBlock] using hgne)
                  change (useB (ix + 1)).size - (W4.setCell ⟨wo.heap.size, 1, none⟩ (.int .i64 nk)).iterPos (wo.heap.size + 1 + 1) < _
                  rw [iterPos_of r3, HP.out]
                  omega
              · have cf : W4.cell? ⟨wo.heap.size, 2, none⟩ = some (.int .i64 ((setTo ws (ix + 1) k)[2]'(by omega))) := by rw [hF4.cell]; simp [hsl]
                have ff := hF4.frozen 2
                have HF4 := hF4.put 2 (.int .i64 nk)
                generalize (setTo ws (ix + 1) k)[2]'(by omega) = fo at cf
                have HSL := Lib.hid hsl
                clear hsl
                go_wp2_with fail
                go_region_held3 (fun W => W.cell? ⟨gb, 2 + k, none⟩ = some (.int .i64 nk))
                  (first | assumption | go_keep)
                  (first | (go_at_call 22; refine (ix_any 67 2 (by decide) _).mono ?_; rintro e w5 ⟨rfl, rfl⟩))
                go_wp2
                go_roundw
                case rel =>
                  obtain ⟨r1, r2, r3, r4⟩ := set_all (u := .int .i64 nk) (i := 2) hb4 hB4 hit4 own4 hwo (by omega) (by omega) (by simpa [Value.ownBlock] using hgne)
                  exact ⟨k + 1, by omega, by rw [HST.out]; have := HF4.drew; simpa [ltr] using this, own_drew r4, r1.drew, r2.drew, r3⟩
                case measure =>
                  obtain ⟨r1, r2, r3, r4⟩ := set_all (u := .int .i64 nk) (i := 2) hb4 hB4 hit4 own4 hwo (by omega) (by omega) (by simpa [Value.ownBlock] using hgne)
                  change (useB (ix + 1)).size - (W4.setCell ⟨wo.heap.size, 2, none⟩ (.int .i64 nk)).iterPos (wo.heap.size + 1 + 1) < _
                  rw [iterPos_of r3, HP.out]
                  omega
              · have cf : W4.cell? ⟨wo.heap.size, 3, none⟩ = some (.int .i64 ((setTo ws (ix + 1) k)[3]'(by omega))) := by rw [hF4.cell]; simp [hsl]
                have ff := hF4.frozen 3
                have HF4 := hF4.put 3 (.int .i64 nk)
                generalize (setTo ws (ix + 1) k)[3]'(by omega) = fo at cf
                have HSL := Lib.hid hsl
                clear hsl
                go_wp2_with fail
                go_region_held3 (fun W => W.cell? ⟨gb, 2 + k, none⟩ = some (.int .i64 nk))
                  (first | assumption | go_keep)
                  (first | (go_at_call 22; refine (ix_any 68 3 (by decide) _).mono ?_; rintro e w5 ⟨rfl, rfl⟩))
                go_wp2
                go_roundw
                case rel =>
                  obtain ⟨r1, r2, r3, r4⟩ := set_all (u := .int .i64 nk) (i := 3) hb4 hB4 hit4 own4 hwo (by omega) (by omega) (by simpa [Value.ownBlock] using hgne)
                  exact ⟨k + 1, by omega, by rw [HST.out]; have := HF4.drew; simpa [ltr] using this, own_drew r4, r1.drew, r2.drew, r3⟩
                case measure =>
                  obtain ⟨r1, r2, r3, r4⟩ := set_all (u := .int .i64 nk) (i := 3) hb4 hB4 hit4 own4 hwo (by omega) (by omega) (by simpa [Value.ownBlock] using hgne)
                  change (useB (ix + 1)).size - (W4.setCell ⟨wo.heap.size, 3, none⟩ (.int .i64 nk)).iterPos (wo.heap.size + 1 + 1) < _
                  rw [iterPos_of r3, HP.out]
                  omega
              · have cf : W4.cell? ⟨wo.heap.size, 4, none⟩ = some (.int .i64 ((setTo ws (ix + 1) k)[4]'(by omega))) := by rw [hF4.cell]; simp [hsl]
                have ff := hF4.frozen 4
                have HF4 := hF4.put 4 (.int .i64 nk)
                generalize (setTo ws (ix + 1) k)[4]'(by omega) = fo at cf
                have HSL := Lib.hid hsl
                clear hsl
                go_wp2_with fail
                go_region_held3 (fun W => W.cell? ⟨gb, 2 + k, none⟩ = some (.int .i64 nk))
                  (first | assumption | go_keep)
                  (first | (go_at_call 22; refine (ix_any 78 4 (by decide) _).mono ?_; rintro e w5 ⟨rfl, rfl⟩))
                go_wp2
                go_roundw
                case rel =>
                  obtain ⟨r1, r2, r3, r4⟩ := set_all (u := .int .i64 nk) (i := 4) hb4 hB4 hit4 own4 hwo (by omega) (by omega) (by simpa [Value.ownBlock] using hgne)
                  exact ⟨k + 1, by omega, by rw [HST.out]; have := HF4.drew; simpa [ltr] using this, own_drew r4, r1.drew, r2.drew, r3⟩
                case measure =>
                  obtain ⟨r1, r2, r3, r4⟩ := set_all (u := .int .i64 nk) (i := 4) hb4 hB4 hit4 own4 hwo (by omega) (by omega) (by simpa [Value.ownBlock] using hgne)
                  change (useB (ix + 1)).size - (W4.setCell ⟨wo.heap.size, 4, none⟩ (.int .i64 nk)).iterPos (wo.heap.size + 1 + 1) < _
                  rw [iterPos_of r3, HP.out]
                  omega
              · have cf : W4.cell? ⟨wo.heap.size, 5, none⟩ = some (.int .i64 ((setTo ws (ix + 1) k)[5]'(by omega))) := by rw [hF4.cell]; simp [hsl]
                have ff := hF4.frozen 5
                have HF4 := hF4.put 5 (.int .i64 nk)
                generalize (setTo ws (ix + 1) k)[5]'(by omega) = fo at cf
                have HSL := Lib.hid hsl
                clear hsl
                go_wp2_with fail
                go_region_held3 (fun W => W.cell? ⟨gb, 2 + k, none⟩ = some (.int .i64 nk))
                  (first | assumption | go_keep)
                  (first | (go_at_call 22; refine (ix_any 77 5 (by decide) _).mono ?_; rintro e w5 ⟨rfl, rfl⟩))
                go_wp2
                go_roundw
                case rel =>
                  obtain ⟨r1, r2, r3, r4⟩ := set_all (u := .int .i64 nk) (i := 5) hb4 hB4 hit4 own4 hwo (by omega) (by omega) (by simpa [Value.ownBlock] using hgne)
                  exact ⟨k + 1, by omega, by rw [HST.out]; have := HF4.drew; simpa [ltr] using this, own_drew r4, r1.drew, r2.drew, r3⟩
                case measure =>
                  obtain ⟨r1, r2, r3, r4⟩ := set_all (u := .int .i64 nk) (i := 5) hb4 hB4 hit4 own4 hwo (by omega) (by omega) (by simpa [Value.ownBlock] using hgne)
                  change (useB (ix + 1)).size - (W4.setCell ⟨wo.heap.size, 5, none⟩ (.int .i64 nk)).iterPos (wo.heap.size + 1 + 1) < _
                  rw [iterPos_of r3, HP.out]
                  omega
            · have hk5 : k = (useB (ix + 1)).size := by omega
              have hnx := fun ty => Lib.run_next_end_at (P := Tryd.prog) wr _ _ k ty hit hlt
              obtain ⟨x0, x1, x2, x3, x4, x5, hx⟩ : ∃ x0 x1 x2 x3 x4 x5, setTo ws (ix + 1) k = [x0, x1, x2, x3, x4, x5] := by
                have := setTo_len ws (ix + 1) k
                match h : setTo ws (ix + 1) k, this with
                | [x0, x1, x2, x3, x4, x5], _ => exact ⟨x0, x1, x2, x3, x4, x5, rfl⟩
              have hop : opOf ws = ⟨numAt ws 0, ix + 1, x0, x1, x2, x3, x4, x5⟩ := by
                unfold opOf
                rw [hk.out]
                simp only []
                rw [← hk5, hx]
                rfl
              rw [hx] at hF
              have c0 : wr.cell? ⟨gb, 0, none⟩ = some (.int .i64 (numAt ws 0)) := by
                obtain ⟨g', cap', hv, _, _, _, _, hcl⟩ := own_form hown2 (by omega)
                have hg' : gb = g' := by injection hv with hv; injection hv with hv; injection hv
                subst hg'
                exact hcl 0 _ (by simp [show 0 < ws.length by omega])
              have hmade := made_any (numAt ws 0) (ix + 1) wo.heap.size 6 x0 x1 x2 x3 x4 x5 wr (fun j v hj => by
                have hj' : [x0, x1, x2, x3, x4, x5][j]? = some v := by simpa using hj
                rw [hF.cell, List.getElem?_toArray, List.getElem?_map, hj']
                rfl)
              have gw := g.later hb2
              have HOP := Lib.hid hop
              have hlen0 : (0 : Int) < (ws.length : Int) := by omega
              clear hop hk5 hx
              generalize numAt ws 0 = n0 at c0 hmade HOP
              obtain ⟨oo, hoo⟩ : ∃ oo : O, oo = ⟨n0, ix + 1, x0, x1, x2, x3, x4, x5⟩ := ⟨_, rfl⟩
              have hval := fun W h => valid_any ⟨n0, ix + 1, x0, x1, x2, x3, x4, x5⟩ W E h
              rw [← hoo] at HOP
              have HC := validC_code oo
              have hvc : validC ⟨n0, ix + 1, x0, x1, x2, x3, x4, x5⟩ = validC oo := by rw [hoo]
              rw [hvc] at hval
              have HOO := Lib.hid hoo
              clear hvc hoo
              rcases HC with h0 | h0 | h0
              · rw [h0, show errV E 0 = .nilIface from rfl] at hval
                have hp := HPC.out
                rw [HOP.out, h0] at hp
                have hpo : parseO ws = oo := by unfold parseO; rw [if_pos hp, HOP.out]
                have HP1 := Lib.hid hp
                have HPO := Lib.hid hpo
                have H0 := Lib.hid h0
                clear hp hpo h0
                go_wp2_with (first | (go_at_call 23; refine hmade.mono ?_; rintro e w5 ⟨rfl, hb5⟩) | (go_at_call 24; refine (hval _ ?_).mono ?_; exact (gw.later hb5).alloc _; rintro e w7 ⟨rfl, hb7⟩; have hB7 := ((hB2.later hb5).alloc (.cells (O.cs ⟨n0, ix + 1, x0, x1, x2, x3, x4, x5⟩) 26)).later hb7; have hO7 := (Blk.new w5 26 (O.cs ⟨n0, ix + 1, x0, x1, x2, x3, x4, x5⟩)).later hb7; have o0 : w7.cell? ⟨w5.heap.size, 0, none⟩ = some (.int .i64 n0) := hO7.cell 0; have o1 : w7.cell? ⟨w5.heap.size, 1, none⟩ = some (.int .i64 (ix + 1)) := hO7.cell 1; have o2 : w7.cell? ⟨w5.heap.size, 2, none⟩ = some (.int .i64 x0) := hO7.cell 2; have o3 : w7.cell? ⟨w5.heap.size, 3, none⟩ = some (.int .i64 x1) := hO7.cell 3; have o4 : w7.cell? ⟨w5.heap.size, 4, none⟩ = some (.int .i64 x2) := hO7.cell 4; have o5 : w7.cell? ⟨w5.heap.size, 5, none⟩ = some (.int .i64 x3) := hO7.cell 5; have o6 : w7.cell? ⟨w5.heap.size, 6, none⟩ = some (.int .i64 x4) := hO7.cell 6; have o7 : w7.cell? ⟨w5.heap.size, 7, none⟩ = some (.int .i64 x5) := hO7.cell 7; have z0 : w7.cell? ⟨w.heap.size, 0, none⟩ = some (.int .i64 0) := hB7.cell 0; have f0 := hB7.frozen 0; have z1 : w7.cell? ⟨w.heap.size, 1, none⟩ = some (.int .i64 0) := hB7.cell 1; have f1 := hB7.frozen 1; have z2 : w7.cell? ⟨w.heap.size, 2, none⟩ = some (.int .i64 0) := hB7.cell 2; have f2 := hB7.frozen 2; have z3 : w7.cell? ⟨w.heap.size, 3, none⟩ = some (.int .i64 0) := hB7.cell 3; have f3 := hB7.frozen 3; have z4 : w7.cell? ⟨w.heap.size, 4, none⟩ = some (.int .i64 0) := hB7.cell 4; have f4 := hB7.frozen 4; have z5 : w7.cell? ⟨w.heap.size, 5, none⟩ = some (.int .i64 0) := hB7.cell 5; have f5 := hB7.frozen 5; have z6 : w7.cell? ⟨w.heap.size, 6, none⟩ = some (.int .i64 0) := hB7.cell 6; have f6 := hB7.frozen 6; have z7 : w7.cell? ⟨w.heap.size, 7, none⟩ = some (.int .i64 0) := hB7.cell 7; have f7 := hB7.frozen 7))
                have hBf := ((((((((hB7.put 0 (.int .i64 n0)).put 1 (.int .i64 (ix + 1))).put 2 (.int .i64 x0)).put 3 (.int .i64 x1)).put 4 (.int .i64 x2)).put 5 (.int .i64 x3)).put 6 (.int .i64 x4)).put 7 (.int .i64 x5))
                have hZ : Hid ((#[.int .i64 n0, .int .i64 (ix + 1), .int .i64 x0, .int .i64 x1, .int .i64 x2, .int .i64 x3, .int .i64 x4, .int .i64 x5] : Array Value) = ((((((((zeroCs.setIfInBounds 0 (.int .i64 n0)).setIfInBounds 1 (.int .i64 (ix + 1))).setIfInBounds 2 (.int .i64 x0)).setIfInBounds 3 (.int .i64 x1)).setIfInBounds 4 (.int .i64 x2)).setIfInBounds 5 (.int .i64 x3)).setIfInBounds 6 (.int .i64 x4)).setIfInBounds 7 (.int .i64 x5))) := rfl
                rw [← hZ.out] at hBf
                have y0 := hBf.cell 0
                have y1 := hBf.cell 1
                have y2 := hBf.cell 2
                have y3 := hBf.cell 3
                have y4 := hBf.cell 4
                have y5 := hBf.cell 5
                have y6 := hBf.cell 6
                have y7 := hBf.cell 7
                refine bodyPost_ret (v := .tuple #[.agg #[.int .i64 n0, .int .i64 (ix + 1), .int .i64 x0, .int .i64 x1, .int .i64 x2, .int .i64 x3, .int .i64 x4, .int .i64 x5], .nilIface]) (by simp [results, Tryd.results6, go_sem, y0, y1, y2, y3, y4, y5, y6, y7]) rfl ⟨by rw [HP1.out, HPO.out, HOO.out]; rfl, ?_⟩
                have hb8 := Later.trans hb2 (Later.trans (Later.alloc hb5 (.cells (O.cs ⟨n0, ix + 1, x0, x1, x2, x3, x4, x5⟩) 26)) hb7)
                go_grown
              · rw [h0, errV_iface E (show 101 ≤ 103 by omega)] at hval
                have hp := HPC.out
                rw [HOP.out, h0] at hp
                have hpo : parseO ws = .zero := by unfold parseO; rw [hp]; rfl
                have HP1 := Lib.hid hp
                have HPO := Lib.hid hpo
                have H0 := Lib.hid h0
                clear hp hpo h0
                go_wp2_with (first | (go_at_call 23; refine hmade.mono ?_; rintro e w5 ⟨rfl, hb5⟩) | (go_at_call 24; refine (hval _ ?_).mono ?_; exact (gw.later hb5).alloc _; rintro e w7 ⟨rfl, hb7⟩; have hB7 := ((hB2.later hb5).alloc (.cells (O.cs ⟨n0, ix + 1, x0, x1, x2, x3, x4, x5⟩) 26)).later hb7; have hO7 := (Blk.new w5 26 (O.cs ⟨n0, ix + 1, x0, x1, x2, x3, x4, x5⟩)).later hb7; have o0 : w7.cell? ⟨w5.heap.size, 0, none⟩ = some (.int .i64 n0) := hO7.cell 0; have o1 : w7.cell? ⟨w5.heap.size, 1, none⟩ = some (.int .i64 (ix + 1)) := hO7.cell 1; have o2 : w7.cell? ⟨w5.heap.size, 2, none⟩ = some (.int .i64 x0) := hO7.cell 2; have o3 : w7.cell? ⟨w5.heap.size, 3, none⟩ = some (.int .i64 x1) := hO7.cell 3; have o4 : w7.cell? ⟨w5.heap.size, 4, none⟩ = some (.int .i64 x2) := hO7.cell 4; have o5 : w7.cell? ⟨w5.heap.size, 5, none⟩ = some (.int .i64 x3) := hO7.cell 5; have o6 : w7.cell? ⟨w5.heap.size, 6, none⟩ = some (.int .i64 x4) := hO7.cell 6; have o7 : w7.cell? ⟨w5.heap.size, 7, none⟩ = some (.int .i64 x5) := hO7.cell 7; have z0 : w7.cell? ⟨w.heap.size, 0, none⟩ = some (.int .i64 0) := hB7.cell 0; have f0 := hB7.frozen 0; have z1 : w7.cell? ⟨w.heap.size, 1, none⟩ = some (.int .i64 0) := hB7.cell 1; have f1 := hB7.frozen 1; have z2 : w7.cell? ⟨w.heap.size, 2, none⟩ = some (.int .i64 0) := hB7.cell 2; have f2 := hB7.frozen 2; have z3 : w7.cell? ⟨w.heap.size, 3, none⟩ = some (.int .i64 0) := hB7.cell 3; have f3 := hB7.frozen 3; have z4 : w7.cell? ⟨w.heap.size, 4, none⟩ = some (.int .i64 0) := hB7.cell 4; have f4 := hB7.frozen 4; have z5 : w7.cell? ⟨w.heap.size, 5, none⟩ = some (.int .i64 0) := hB7.cell 5; have f5 := hB7.frozen 5; have z6 : w7.cell? ⟨w.heap.size, 6, none⟩ = some (.int .i64 0) := hB7.cell 6; have f6 := hB7.frozen 6; have z7 : w7.cell? ⟨w.heap.size, 7, none⟩ = some (.int .i64 0) := hB7.cell 7; have f7 := hB7.frozen 7))
                have hBf := ((((((((hB7.put 0 (.int .i64 0)).put 1 (.int .i64 0)).put 2 (.int .i64 0)).put 3 (.int .i64 0)).put 4 (.int .i64 0)).put 5 (.int .i64 0)).put 6 (.int .i64 0)).put 7 (.int .i64 0))
                have hZ : Hid ((#[.int .i64 0, .int .i64 0, .int .i64 0, .int .i64 0, .int .i64 0, .int .i64 0, .int .i64 0, .int .i64 0] : Array Value) = ((((((((zeroCs.setIfInBounds 0 (.int .i64 0)).setIfInBounds 1 (.int .i64 0)).setIfInBounds 2 (.int .i64 0)).setIfInBounds 3 (.int .i64 0)).setIfInBounds 4 (.int .i64 0)).setIfInBounds 5 (.int .i64 0)).setIfInBounds 6 (.int .i64 0)).setIfInBounds 7 (.int .i64 0))) := rfl
                rw [← hZ.out] at hBf
                have y0 := hBf.cell 0
                have y1 := hBf.cell 1
                have y2 := hBf.cell 2
                have y3 := hBf.cell 3
                have y4 := hBf.cell 4
                have y5 := hBf.cell 5
                have y6 := hBf.cell 6
                have y7 := hBf.cell 7
                refine bodyPost_ret (v := .tuple #[.agg #[.int .i64 0, .int .i64 0, .int .i64 0, .int .i64 0, .int .i64 0, .int .i64 0, .int .i64 0, .int .i64 0], .iface 132 (.pointer (some (E 103)))]) (by simp [results, Tryd.results6, go_sem, y0, y1, y2, y3, y4, y5, y6, y7]) rfl ⟨by rw [HP1.out, HPO.out]; rfl, ?_⟩
                have hb8 := Later.trans hb2 (Later.trans (Later.alloc hb5 (.cells (O.cs ⟨n0, ix + 1, x0, x1, x2, x3, x4, x5⟩) 26)) hb7)
                go_grown
              · rw [h0, errV_iface E (show 101 ≤ 111 by omega)] at hval
                have hp := HPC.out
                rw [HOP.out, h0] at hp
                have hpo : parseO ws = .zero := by unfold parseO; rw [hp]; rfl
                have HP1 := Lib.hid hp
                have HPO := Lib.hid hpo
                have H0 := Lib.hid h0
                clear hp hpo h0
                go_wp2_with (first | (go_at_call 23; refine hmade.mono ?_; rintro e w5 ⟨rfl, hb5⟩) | (go_at_call 24; refine (hval _ ?_).mono ?_; exact (gw.later hb5).alloc _; rintro e w7 ⟨rfl, hb7⟩; have hB7 := ((hB2.later hb5).alloc (.cells (O.cs ⟨n0, ix + 1, x0, x1, x2, x3, x4, x5⟩) 26)).later hb7; have hO7 := (Blk.new w5 26 (O.cs ⟨n0, ix + 1, x0, x1, x2, x3, x4, x5⟩)).later hb7; have o0 : w7.cell? ⟨w5.heap.size, 0, none⟩ = some (.int .i64 n0) := hO7.cell 0; have o1 : w7.cell? ⟨w5.heap.size, 1, none⟩ = some (.int .i64 (ix + 1)) := hO7.cell 1; have o2 : w7.cell? ⟨w5.heap.size, 2, none⟩ = some (.int .i64 x0) := hO7.cell 2; have o3 : w7.cell? ⟨w5.heap.size, 3, none⟩ = some (.int .i64 x1) := hO7.cell 3; have o4 : w7.cell? ⟨w5.heap.size, 4, none⟩ = some (.int .i64 x2) := hO7.cell 4; have o5 : w7.cell? ⟨w5.heap.size, 5, none⟩ = some (.int .i64 x3) := hO7.cell 5; have o6 : w7.cell? ⟨w5.heap.size, 6, none⟩ = some (.int .i64 x4) := hO7.cell 6; have o7 : w7.cell? ⟨w5.heap.size, 7, none⟩ = some (.int .i64 x5) := hO7.cell 7; have z0 : w7.cell? ⟨w.heap.size, 0, none⟩ = some (.int .i64 0) := hB7.cell 0; have f0 := hB7.frozen 0; have z1 : w7.cell? ⟨w.heap.size, 1, none⟩ = some (.int .i64 0) := hB7.cell 1; have f1 := hB7.frozen 1; have z2 : w7.cell? ⟨w.heap.size, 2, none⟩ = some (.int .i64 0) := hB7.cell 2; have f2 := hB7.frozen 2; have z3 : w7.cell? ⟨w.heap.size, 3, none⟩ = some (.int .i64 0) := hB7.cell 3; have f3 := hB7.frozen 3; have z4 : w7.cell? ⟨w.heap.size, 4, none⟩ = some (.int .i64 0) := hB7.cell 4; have f4 := hB7.frozen 4; have z5 : w7.cell? ⟨w.heap.size, 5, none⟩ = some (.int .i64 0) := hB7.cell 5; have f5 := hB7.frozen 5; have z6 : w7.cell? ⟨w.heap.size, 6, none⟩ = some (.int .i64 0) := hB7.cell 6; have f6 := hB7.frozen 6; have z7 : w7.cell? ⟨w.heap.size, 7, none⟩ = some (.int .i64 0) := hB7.cell 7; have f7 := hB7.frozen 7))
                have hBf := ((((((((hB7.put 0 (.int .i64 0)).put 1 (.int .i64 0)).put 2 (.int .i64 0)).put 3 (.int .i64 0)).put 4 (.int .i64 0)).put 5 (.int .i64 0)).put 6 (.int .i64 0)).put 7 (.int .i64 0))
                have hZ : Hid ((#[.int .i64 0, .int .i64 0, .int .i64 0, .int .i64 0, .int .i64 0, .int .i64 0, .int .i64 0, .int .i64 0] : Array Value) = ((((((((zeroCs.setIfInBounds 0 (.int .i64 0)).setIfInBounds 1 (.int .i64 0)).setIfInBounds 2 (.int .i64 0)).setIfInBounds 3 (.int .i64 0)).setIfInBounds 4 (.int .i64 0)).setIfInBounds 5 (.int .i64 0)).setIfInBounds 6 (.int .i64 0)).setIfInBounds 7 (.int .i64 0))) := rfl
                rw [← hZ.out] at hBf
                have y0 := hBf.cell 0
                have y1 := hBf.cell 1
                have y2 := hBf.cell 2
                have y3 := hBf.cell 3
                have y4 := hBf.cell 4
                have y5 := hBf.cell 5
                have y6 := hBf.cell 6
                have y7 := hBf.cell 7
                refine bodyPost_ret (v := .tuple #[.agg #[.int .i64 0, .int .i64 0, .int .i64 0, .int .i64 0, .int .i64 0, .int .i64 0, .int .i64 0, .int .i64 0], .iface 132 (.pointer (some (E 111)))]) (by simp [results, Tryd.results6, go_sem, y0, y1, y2, y3, y4, y5, y6, y7]) rfl ⟨by rw [HP1.out, HPO.out]; rfl, ?_⟩
                have hb8 := Later.trans hb2 (Later.trans (Later.alloc hb5 (.cells (O.cs ⟨n0, ix + 1, x0, x1, x2, x3, x4, x5⟩) 26)) hb7)
                go_grown
    · have hl1 : ((ws.length : Int) - 2 != ((useB (ix + 1)).size : Int)) = true := by simpa using hl
      have hp : parseC ws = 118 := by unfold parseC; rw [if_neg (by omega), hk.out, if_pos (.inr hl)]
      have hpo : parseO ws = .zero := by unfold parseO; rw [hp]; rfl
      have HP := Lib.hid hp
      have HPO := Lib.hid hpo
      clear hl hp hpo hz
      go_wp2_with (first | (go_at_call 20; refine (uses_any _ hk1 hk2 _ m hm).mono ?_; rintro e w4 ⟨rfl, rfl⟩))
      go_region
      all_goals (go_wp2; go_returns; exact ⟨by rw [HP.out, HPO.out]; rfl, by go_grown⟩)
end Go.Proofs.YtcgdgopjomilnaaDoor
