/-
  An operation as text.
-/
import Derived.Test.YtcgdgopjomilnaaDoorOp4
import Derived.Lib.OthersKept
import Derived.Lib.ItoaLen
namespace Go.Proofs.YtcgdgopjomilnaaDoor
open Go Go.RowKit

theorem info_str : (Tryd.prog.info? 9).map (fun i => (i.zero, i.size, i.bytes)) = some (some (.string ⟨#[]⟩), 1, 16) := by kernel_rfl

/-- The place of a letter's field. -/
def ltr (c : UInt8) : Nat := if c = 65 then 0 else if c = 66 then 1 else if c = 67 then 2 else if c = 68 then 3 else if c = 78 then 4 else 5
/-- An operation's words. -/
def partsTo (o : O) (k : Nat) : List ByteArray := ⟨(Lib.itoa o.ID).toArray⟩ :: nameB o.K :: ((useB o.K).data.toList.take k).map fun c => ⟨(Lib.itoa (fld o (ltr c))).toArray⟩
def parts (o : O) : List ByteArray := partsTo o (useB o.K).size
def textB (o : O) : ByteArray := if validC o = 0 then ⟨(Lib.join ((parts o).map (·.data.toList)) [32]).toArray⟩ else ⟨#[]⟩

theorem useB_letters (K : Int) : ∀ c ∈ (useB K).data.toList, c = 65 ∨ c = 66 ∨ c = 67 ∨ c = 68 ∨ c = 78 ∨ c = 77 := by
  unfold useB
  split <;> decide
theorem useB_short (K : Int) : (useB K).size ≤ 5 := by
  unfold useB
  split <;> decide

theorem validF_fields (o : O) : ∀ d i, validF o d i = 0 → ∀ j, i ≤ j → j < i + d → 0 ≤ fld o j ∧ fld o j ≤ most j := by
  intro d
  induction d with
  | zero => intro i _ j h1 h2; omega
  | succ d ih =>
    intro i h j h1 h2
    unfold validF at h
    split at h
    · rename_i hk
      by_cases hj : j = i
      · subst hj
        unfold okF at hk
        simp only [Bool.and_eq_true, decide_eq_true_eq] at hk
        exact hk.1
      · exact ih (i + 1) h j (by omega) (by omega)
    · cases h
theorem valid_fields (o : O) (h : validC o = 0) : ∀ j, j < 6 → 0 ≤ fld o j ∧ fld o j ≤ 1000000000000000 := by
  intro j hj
  unfold validC at h
  split at h
  · cases h
  · split at h
    · cases h
    · have := validF_fields o 6 0 h j (by omega) (by omega)
      unfold most at this
      split at this <;> omega

theorem ix_any (c : Int) (n : Nat) (h : Lib.indexByte [65, 66, 67, 68, 78, 77] c.toNat.toUInt8 = n) (w : World) :
    Calls Tryd.prog 22 #[.string { data := #[65, 66, 67, 68, 78, 77] }, .int .u8 c] w fun e w' => e = .returned (.int .i64 n) ∧ w = w' :=
  (_root_.Go.Proofs.Tryd.strings_IndexByte _ c w).mono fun e w' ⟨h1, h2⟩ => ⟨by rw [h1, h], h2.symm⟩

theorem partsTo_succ (o : O) (k : Nat) (c : UInt8) (h : (useB o.K).data.toList[k]? = some c) : partsTo o (k + 1) = partsTo o k ++ [⟨(Lib.itoa (fld o (ltr c))).toArray⟩] := by
  unfold partsTo
  rw [List.take_add_one, h]
  simp

theorem joinTail_len (sep : List UInt8) (B : Nat) : ∀ l : List (List UInt8), (∀ x ∈ l, x.length ≤ B) → (Lib.joinTail sep l).length ≤ l.length * (B + sep.length) := by
  intro l
  induction l with
  | nil => intro _; simp [Lib.joinTail]
  | cons x r ih =>
    intro h
    have h1 := h x (by simp)
    have h2 := ih (fun y hy => h y (by simp [hy]))
    simp only [Lib.joinTail, List.map_cons, List.flatten_cons, List.length_append, List.length_cons] at h2 ⊢
    rw [Nat.succ_mul]
    omega
theorem join_len (sep : List UInt8) (B : Nat) (l : List (List UInt8)) (h : ∀ x ∈ l, x.length ≤ B) : (Lib.join l sep).length ≤ l.length * (B + sep.length) := by
  cases l with
  | nil => simp [Lib.join_nil]
  | cons x r =>
    have h1 := h x (by simp)
    have h2 := joinTail_len sep B r (fun y hy => h y (by simp [hy]))
    rw [Lib.join_cons, List.length_append, List.length_cons, Nat.succ_mul]
    omega
theorem nameB_short (K : Int) : (nameB K).size ≤ 8 := by
  unfold nameB
  split
  · rename_i h
    obtain ⟨n, rfl⟩ := Int.eq_ofNat_of_zero_le (show 0 ≤ K by omega)
    rw [Int.toNat_natCast]
    have : n = 1 ∨ n = 2 ∨ n = 3 ∨ n = 4 ∨ n = 5 ∨ n = 6 ∨ n = 7 ∨ n = 8 ∨ n = 9 ∨ n = 10 ∨ n = 11 ∨ n = 12 ∨ n = 13 ∨ n = 14 ∨ n = 15 ∨ n = 16 := by omega
    rcases this with h | h | h | h | h | h | h | h | h | h | h | h | h | h | h | h <;> subst h <;> decide
  · decide
theorem fld_six (o : O) (j : Nat) (h : 6 ≤ j) : fld o j = fld o 5 := by
  match j, h with
  | j + 6, _ => rfl
theorem join_short (o : O) (h : validC o = 0) (k : Nat) : (Lib.join ((partsTo o k).map (·.data.toList)) ({ data := #[32] } : ByteArray).data.toList).length ≤ 140737488355328 := by
  have hid : 1 ≤ o.ID ∧ o.ID ≤ 1099511627776 := by
    unfold validC at h
    split at h <;> omega
  have hl : (partsTo o k).length ≤ 7 := by
    have := useB_short o.K
    have h2 : ((useB o.K).data.toList.take k).length ≤ 5 := by simp; omega
    simp only [partsTo, List.length_cons, List.length_map]
    omega
  have := join_len ({ data := #[32] } : ByteArray).data.toList 21 ((partsTo o k).map (·.data.toList)) (by
    intro x hx
    simp only [partsTo, List.map_cons, List.map_map, List.mem_cons, List.mem_map] at hx
    rcases hx with rfl | rfl | ⟨c, _, rfl⟩
    · exact Lib.itoa_length_le _ (by omega) (by omega)
    · have := nameB_short o.K
      simpa using (by omega : (nameB o.K).size ≤ 21)
    · have hf : 0 ≤ fld o (ltr c) ∧ fld o (ltr c) ≤ 1000000000000000 := by
        refine valid_fields o h _ ?_
        unfold ltr
        repeat' split
        all_goals omega
      exact Lib.itoa_length_le _ (by omega) (by omega))
  rw [List.length_map] at this
  have h32 : ({ data := #[32] } : ByteArray).data.toList.length = 1 := rfl
  rw [h32] at this
  have : (partsTo o k).length * (21 + 1) ≤ 7 * 22 := Nat.mul_le_mul hl (Nat.le_refl _)
  omega

/-- A row of the call's own grows: a block of another type, an iterator, all that was there stand. -/
theorem keep_all {w W5 w6 : World} {v : Value} {e T : TypeId} {n : Nat} {xs : List Value} {bx bi : Nat} {cs : Array Value} {s : ByteArray} {p : Nat}
    (hb : Below w.heap.size w W5) (hB : Blk W5 bx T cs) (hit : W5.heap[bi]? = some (.stringIter s p)) (own : W5.ownsRow w.heap.size e 1 v n xs) (hne : e ≠ T) (hg : W5.grownBy w6 v.ownBlock) :
    Below w.heap.size w w6 ∧ Blk w6 bx T cs ∧ w6.heap[bi]? = some (.stringIter s p) :=
  ⟨hb.grown hg hb.size (fun k hk => (own.lt k hk).1), hB.grown hg (own_ne own hB hne),
    (hg.block bi (Array.getElem?_eq_some_iff.1 hit).1 (fun h => own_ne_obj own hit (fun _ _ _ => by simp) h.symm)).trans hit⟩

set_option maxRecDepth 100000 in
set_option maxHeartbeats 1000000 in
theorem text_bad (o : O) {w : World} {E : Nat → Addr} (g : GW w E) (h : validC o ≠ 0) :
    Calls Tryd.prog 13 #[o.v] w fun e w' => e = .returned (.string ⟨#[]⟩) ∧ Below w.heap.size w w' := by
  have g1 := g.alloc (.cells o.cs 26)
  have hc := validC_code o
  have hv := valid_any o _ E g1
  rw [errV_iface E (show 101 ≤ validC o by omega)] at hv
  go_enter Tryd.func13, Tryd.ntmps13
  go_wp2_with (first | (go_at_call 24; refine hv.mono ?_; rintro e w1 ⟨rfl, hb1⟩))
  go_returns
  exact ⟨rfl, Later.trans (later_alloc _ _) hb1⟩

set_option maxRecDepth 100000 in
set_option maxHeartbeats 1000000 in
theorem text_good (o : O) {w : World} {E : Nat → Addr} (g : GW w E) (h : validC o = 0) :
    Calls Tryd.prog 13 #[o.v] w fun e w' => e = .returned (.string (textB o)) ∧ Below w.heap.size w w' := by
  obtain ⟨hid1, hid2, hk1, hk2⟩ : 1 ≤ o.ID ∧ o.ID ≤ 1099511627776 ∧ 1 ≤ o.K ∧ o.K ≤ 16 := by
    unfold validC at h
    split at h
    · omega
    · split at h <;> omega
  have g1 := g.alloc (.cells o.cs 26)
  have hv := valid_any o _ E g1
  rw [h, show errV E 0 = .nilIface from rfl] at hv
  obtain ⟨m, hm⟩ := g.maxlen
  have hB := Blk.new w 26 o.cs
  obtain ⟨i0, hi, hz0, hz1, hz2⟩ := info_parts info_str
  generalize hW : w.alloc (.cells o.cs 26) = W at g1 hv hB
  have hbw : Below w.heap.size w W := by rw [← hW]; exact later_alloc _ _
  have HW := Lib.hid hW
  clear hW
  go_enter Tryd.func13, Tryd.ntmps13
  go_wp2_with (first | (go_at_call 24; rw [HW.out]; refine hv.mono ?_; rintro e w1 ⟨rfl, hb1⟩))
  have g2 := g1.later hb1
  have hB1 := hB.later hb1
  have hbw1 := Later.trans hbw hb1
  have c0 : w1.cell? ⟨w.heap.size, 0, none⟩ = some (.int .i64 o.ID) := hB1.cell 0
  have c1 : w1.cell? ⟨w.heap.size, 1, none⟩ = some (.int .i64 o.K) := hB1.cell 1
  clear hv hb1 hm
  go_region_held3 (fun W' => Below w1.heap.size w1 W' ∧ W'.cell? ⟨w.heap.size, 0, none⟩ = some (.int .i64 o.ID) ∧ W'.cell? ⟨w.heap.size, 1, none⟩ = some (.int .i64 o.K))
    ((first | exact ⟨Below.drew (Below.refl _ _), c0, c1⟩ | (go_split_ands; refine ⟨Later.alloc ?_ _, Later.cell (Later.alloc ?_ _) c0, Later.cell (Later.alloc ?_ _) c1⟩ <;> assumption) | (go_split_ands; refine ⟨Later.trans ?_ hbx, Later.cell (Later.trans ?_ hbx) c0, Later.cell (Later.trans ?_ hbx) c1⟩ <;> assumption)))
    (first | (go_at_call 34; go_split_ands; refine (_root_.Go.Proofs.Tryd.strconv_FormatInt_10 _ ?_ ?_ _ ?_).mono ?_; omega; omega; exact (g2.later (by assumption)).pow10; rintro e w2 ⟨rfl, hw2⟩; have hbx := below_fmt hw2; clear hw2) | (go_at_call 8; go_split_ands; obtain ⟨m, hm⟩ := (g2.later (by assumption)).maxlen; refine (name_any _ _ m hm).mono ?_; rintro e w2 ⟨rfl, hbx⟩))
  go_split_ands
  have hb3 : Below w1.heap.size w1 (w2.alloc (.cells #[.string { data := (Lib.itoa o.ID).toArray }, .string (nameB o.K)] 9)) := by assumption
  have hsz2 : w.heap.size ≤ w2.heap.size := by
    refine Nat.le_trans hbw1.size (Nat.le_trans (Below.size (B := w1.heap.size) ?_) hbx.size)
    assumption
  have own3 : (w2.alloc (.cells #[.string { data := (Lib.itoa o.ID).toArray }, .string (nameB o.K)] 9)).ownsRow w.heap.size 9 1 (.slice (some ⟨w2.heap.size, 0, none⟩) 2 2) 2 ((partsTo o 0).map Value.string) :=
    World.ownsRow_lit w2 #[.string { data := (Lib.itoa o.ID).toArray }, .string (nameB o.K)] 2 hsz2 (by decide) rfl
  generalize w2.alloc (.cells #[.string { data := (Lib.itoa o.ID).toArray }, .string (nameB o.K)] 9) = W3 at hb3 own3 ⊢
  generalize Value.slice (some ⟨w2.heap.size, 0, none⟩) 2 2 = v3 at own3 ⊢
  have hbw3 := Later.trans hbw1 hb3
  have g3 := g2.later hb3
  have hB3 := hB1.later hb3
  clear hbx c0 c1 hB hB1 g1 g2
  obtain ⟨m3, hm3⟩ := g3.maxlen
  have c1 : W3.cell? ⟨w.heap.size, 1, none⟩ = some (.int .i64 o.K) := hB3.cell 1
  go_wp2_with (first | (go_at_call 20; refine (uses_any _ hk1 hk2 _ m3 hm3).mono ?_; rintro e w4 ⟨rfl, rfl⟩))
  go_loopw [3] (fun v wr => ∃ k, k ≤ (useB o.K).size ∧ wr.ownsRow w.heap.size 9 1 v (2 + k) ((partsTo o k).map Value.string) ∧ Below w.heap.size w wr ∧ Blk wr w.heap.size 26 o.cs ∧ wr.heap[W3.heap.size + 1]? = some (.stringIter (useB o.K) k) ∧ GW wr E) (fun _ wr => (useB o.K).size - wr.iterPos (W3.heap.size + 1))
  case atStart =>
    refine ⟨0, by omega, own_later (own3.alloc _) (later_alloc _ _), (Later.alloc hbw3 _).alloc (by have := hbw3.size; simp; omega) _, (hB3.alloc _).alloc _, ?_, (g3.alloc _).alloc _⟩
    have := World.iter_heap (W3.alloc (.cells useCs 9)) (useB o.K) 0
    simpa using this
  case round =>
    obtain ⟨k, hk, hown, hb, hBr, hit, gr⟩ := hrel
    have hbi : w.heap.size ≤ W3.heap.size + 1 := by have := hbw3.size; omega
    by_cases hlt : k < (useB o.K).size
    · have ha : ((useB o.K)[k]'hlt).toNat < 128 := by
        rcases useB_letters o.K ((useB o.K)[k]'hlt) (by simp [ByteArray.getElem_eq_getElem_data]) with h | h | h | h | h | h <;> rw [h] <;> decide
      have hcs : (useB o.K).data.toList[k]? = some ((useB o.K)[k]'hlt) := by simp [ByteArray.getElem_eq_getElem_data, hlt]
      have hnx := fun ty => Lib.run_next_ascii_at (P := Tryd.prog) wr _ _ k ty hit hlt ha
      have hc6 := useB_letters o.K ((useB o.K)[k]'hlt) (by simp [ByteArray.getElem_eq_getElem_data])
      have hb4 := Lib.below_iterAt hb hbi (useB o.K) (k + 1)
      have hB4 : Blk (wr.iterAt (W3.heap.size + 1) (useB o.K) (k + 1)) w.heap.size 26 o.cs := (Lib.iterAt_other wr _ _ _ _ (by have := hbw3.size; omega)).trans hBr
      have own4 : (wr.iterAt (W3.heap.size + 1) (useB o.K) (k + 1)).ownsRow w.heap.size 9 1 u3 (2 + k) ((partsTo o k).map Value.string) :=
        hown.kept (row := some (W3.heap.size + 1)) ⟨rfl, rfl, rfl, by rw [Lib.iterAt_size]; exact Nat.le_refl _, fun i _ hne => Lib.iterAt_other wr _ _ _ _ (fun h => hne (by rw [h]))⟩ (.inr (fun h => own_ne_obj hown hit (fun _ _ _ => by simp) h))
      have hit4 := Lib.iterAt_heap wr _ _ _ (k + 1) hit
      have hps := partsTo_succ o k _ hcs
      generalize wr.iterAt (W3.heap.size + 1) (useB o.K) (k + 1) = W4 at hnx hb4 hB4 own4 hit4
      generalize (useB o.K)[k]'hlt = c at hnx hc6 hps
      have g4 := g.later hb4
      have HPS := Lib.hid hps
      have HP := Lib.hid (iterPos_of hit)
      clear hps ha hcs hit hown hb hBr gr
      have c0 : W4.cell? ⟨w.heap.size, 0, none⟩ = some (.int .i64 o.ID) := hB4.cell 0
      have c1 : W4.cell? ⟨w.heap.size, 1, none⟩ = some (.int .i64 o.K) := hB4.cell 1
      have c2 : W4.cell? ⟨w.heap.size, 2, none⟩ = some (.int .i64 o.A) := hB4.cell 2
      have c3 : W4.cell? ⟨w.heap.size, 3, none⟩ = some (.int .i64 o.B) := hB4.cell 3
      have c4 : W4.cell? ⟨w.heap.size, 4, none⟩ = some (.int .i64 o.C) := hB4.cell 4
      have c5 : W4.cell? ⟨w.heap.size, 5, none⟩ = some (.int .i64 o.D) := hB4.cell 5
      have c6 : W4.cell? ⟨w.heap.size, 6, none⟩ = some (.int .i64 o.N) := hB4.cell 6
      have c7 : W4.cell? ⟨w.heap.size, 7, none⟩ = some (.int .i64 o.M) := hB4.cell 7
      rcases hc6 with rfl | rfl | rfl | rfl | rfl | rfl
      · have hbd : 0 ≤ o.A ∧ o.A ≤ 1000000000000000 := valid_fields o h 0 (by omega)
        go_wp2_with (first | (go_at_call 28; refine (fields_any _ _).mono ?_; rintro e w5 ⟨rfl, rfl⟩) | (go_at_call 22; refine (ix_any 65 0 (by decide) _).mono ?_; rintro e w5 ⟨rfl, rfl⟩) | (go_at_call 34; refine (_root_.Go.Proofs.Tryd.strconv_FormatInt_10 _ ?_ ?_ _ ?_).mono ?_; omega; omega; exact ((g4.alloc _).alloc _).pow10; rintro e w5 ⟨rfl, hw5⟩; have hb5 : Below W4.heap.size W4 w5 := Later.trans (Later.alloc (later_alloc _ _) _) (below_fmt hw5); clear hw5; have own5 := own_later own4 hb5; have hB5 := hB4.later hb5; have hit5 := (hb5.block _ (Array.getElem?_eq_some_iff.1 hit4).1).trans hit4; have hbw5 := hb4.trans (hb5.mono hb4.size)) | (at_builtin; refine wpList_append_own _ rfl (.tmp 23) (.tmp 32) _ rfl w.heap.size 9 i0 _ 1 16 Tryd.underlying23 hi hz0 hz1 hz2 rfl (by decide) u3 (2 + k) _ rfl (own5.alloc _) ⟨w5.heap.size, 0, none⟩ 1 1 [.string ⟨(Lib.itoa o.A).toArray⟩] rfl rfl (cell_one_new _ _ _) (by simp [Value.oneCell']) ?_ ?_ ?_ ?_; (have := useB_short o.K; unfold maxLen; omega); (have := useB_short o.K; omega); (have := hbw5.size; simp; omega); intro v6 w6 hown6 hg6 _))
        go_roundw
        case rel =>
          obtain ⟨r1, r2, r3⟩ := keep_all (Later.alloc hbw5 _) (hB5.alloc _) ((Below.heap_alloc w5 _ _ (Array.getElem?_eq_some_iff.1 hit5).1).trans hit5) (own5.alloc _) (by decide) hg6
          exact ⟨k + 1, by omega, by rw [HPS.out, List.map_append]; exact hown6, r1, r2, r3, g.later r1⟩
        case measure =>
          obtain ⟨r1, r2, r3⟩ := keep_all (Later.alloc hbw5 _) (hB5.alloc _) ((Below.heap_alloc w5 _ _ (Array.getElem?_eq_some_iff.1 hit5).1).trans hit5) (own5.alloc _) (by decide) hg6
          rw [iterPos_of r3, HP.out]
          omega
      · have hbd : 0 ≤ o.B ∧ o.B ≤ 1000000000000000 := valid_fields o h 1 (by omega)
        go_wp2_with (first | (go_at_call 28; refine (fields_any _ _).mono ?_; rintro e w5 ⟨rfl, rfl⟩) | (go_at_call 22; refine (ix_any 66 1 (by decide) _).mono ?_; rintro e w5 ⟨rfl, rfl⟩) | (go_at_call 34; refine (_root_.Go.Proofs.Tryd.strconv_FormatInt_10 _ ?_ ?_ _ ?_).mono ?_; omega; omega; exact ((g4.alloc _).alloc _).pow10; rintro e w5 ⟨rfl, hw5⟩; have hb5 : Below W4.heap.size W4 w5 := Later.trans (Later.alloc (later_alloc _ _) _) (below_fmt hw5); clear hw5; have own5 := own_later own4 hb5; have hB5 := hB4.later hb5; have hit5 := (hb5.block _ (Array.getElem?_eq_some_iff.1 hit4).1).trans hit4; have hbw5 := hb4.trans (hb5.mono hb4.size)) | (at_builtin; refine wpList_append_own _ rfl (.tmp 23) (.tmp 32) _ rfl w.heap.size 9 i0 _ 1 16 Tryd.underlying23 hi hz0 hz1 hz2 rfl (by decide) u3 (2 + k) _ rfl (own5.alloc _) ⟨w5.heap.size, 0, none⟩ 1 1 [.string ⟨(Lib.itoa o.B).toArray⟩] rfl rfl (cell_one_new _ _ _) (by simp [Value.oneCell']) ?_ ?_ ?_ ?_; (have := useB_short o.K; unfold maxLen; omega); (have := useB_short o.K; omega); (have := hbw5.size; simp; omega); intro v6 w6 hown6 hg6 _))
        go_roundw
        case rel =>
          obtain ⟨r1, r2, r3⟩ := keep_all (Later.alloc hbw5 _) (hB5.alloc _) ((Below.heap_alloc w5 _ _ (Array.getElem?_eq_some_iff.1 hit5).1).trans hit5) (own5.alloc _) (by decide) hg6
          exact ⟨k + 1, by omega, by rw [HPS.out, List.map_append]; exact hown6, r1, r2, r3, g.later r1⟩
        case measure =>
          obtain ⟨r1, r2, r3⟩ := keep_all (Later.alloc hbw5 _) (hB5.alloc _) ((Below.heap_alloc w5 _ _ (Array.getElem?_eq_some_iff.1 hit5).1).trans hit5) (own5.alloc _) (by decide) hg6
          rw [iterPos_of r3, HP.out]
          omega
      · have hbd : 0 ≤ o.C ∧ o.C ≤ 1000000000000000 := valid_fields o h 2 (by omega)
        go_wp2_with (first | (go_at_call 28; refine (fields_any _ _).mono ?_; rintro e w5 ⟨rfl, rfl⟩) | (go_at_call 22; refine (ix_any 67 2 (by decide) _).mono ?_; rintro e w5 ⟨rfl, rfl⟩) | (go_at_call 34; refine (_root_.Go.Proofs.Tryd.strconv_FormatInt_10 _ ?_ ?_ _ ?_).mono ?_; omega; omega; exact ((g4.alloc _).alloc _).pow10; rintro e w5 ⟨rfl, hw5⟩; have hb5 : Below W4.heap.size W4 w5 := Later.trans (Later.alloc (later_alloc _ _) _) (below_fmt hw5); clear hw5; have own5 := own_later own4 hb5; have hB5 := hB4.later hb5; have hit5 := (hb5.block _ (Array.getElem?_eq_some_iff.1 hit4).1).trans hit4; have hbw5 := hb4.trans (hb5.mono hb4.size)) | (at_builtin; refine wpList_append_own _ rfl (.tmp 23) (.tmp 32) _ rfl w.heap.size 9 i0 _ 1 16 Tryd.underlying23 hi hz0 hz1 hz2 rfl (by decide) u3 (2 + k) _ rfl (own5.alloc _) ⟨w5.heap.size, 0, none⟩ 1 1 [.string ⟨(Lib.itoa o.C).toArray⟩] rfl rfl (cell_one_new _ _ _) (by simp [Value.oneCell']) ?_ ?_ ?_ ?_; (have := useB_short o.K; unfold maxLen; omega); (have := useB_short o.K; omega); (have := hbw5.size; simp; omega); intro v6 w6 hown6 hg6 _))
        go_roundw
        case rel =>
          obtain ⟨r1, r2, r3⟩ := keep_all (Later.alloc hbw5 _) (hB5.alloc _) ((Below.heap_alloc w5 _ _ (Array.getElem?_eq_some_iff.1 hit5).1).trans hit5) (own5.alloc _) (by decide) hg6
          exact ⟨k + 1, by omega, by rw [HPS.out, List.map_append]; exact hown6, r1, r2, r3, g.later r1⟩
        case measure =>
          obtain ⟨r1, r2, r3⟩ := keep_all (Later.alloc hbw5 _) (hB5.alloc _) ((Below.heap_alloc w5 _ _ (Array.getElem?_eq_some_iff.1 hit5).1).trans hit5) (own5.alloc _) (by decide) hg6
          rw [iterPos_of r3, HP.out]
          omega
      · have hbd : 0 ≤ o.D ∧ o.D ≤ 1000000000000000 := valid_fields o h 3 (by omega)
        go_wp2_with (first | (go_at_call 28; refine (fields_any _ _).mono ?_; rintro e w5 ⟨rfl, rfl⟩) | (go_at_call 22; refine (ix_any 68 3 (by decide) _).mono ?_; rintro e w5 ⟨rfl, rfl⟩) | (go_at_call 34; refine (_root_.Go.Proofs.Tryd.strconv_FormatInt_10 _ ?_ ?_ _ ?_).mono ?_; omega; omega; exact ((g4.alloc _).alloc _).pow10; rintro e w5 ⟨rfl, hw5⟩; have hb5 : Below W4.heap.size W4 w5 := Later.trans (Later.alloc (later_alloc _ _) _) (below_fmt hw5); clear hw5; have own5 := own_later own4 hb5; have hB5 := hB4.later hb5; have hit5 := (hb5.block _ (Array.getElem?_eq_some_iff.1 hit4).1).trans hit4; have hbw5 := hb4.trans (hb5.mono hb4.size)) | (at_builtin; refine wpList_append_own _ rfl (.tmp 23) (.tmp 32) _ rfl w.heap.size 9 i0 _ 1 16 Tryd.underlying23 hi hz0 hz1 hz2 rfl (by decide) u3 (2 + k) _ rfl (own5.alloc _) ⟨w5.heap.size, 0, none⟩ 1 1 [.string ⟨(Lib.itoa o.D).toArray⟩] rfl rfl (cell_one_new _ _ _) (by simp [Value.oneCell']) ?_ ?_ ?_ ?_; (have := useB_short o.K; unfold maxLen; omega); (have := useB_short o.K; omega); (have := hbw5.size; simp; omega); intro v6 w6 hown6 hg6 _))
        go_roundw
        case rel =>
          obtain ⟨r1, r2, r3⟩ := keep_all (Later.alloc hbw5 _) (hB5.alloc _) ((Below.heap_alloc w5 _ _ (Array.getElem?_eq_some_iff.1 hit5).1).trans hit5) (own5.alloc _) (by decide) hg6
          exact ⟨k + 1, by omega, by rw [HPS.out, List.map_append]; exact hown6, r1, r2, r3, g.later r1⟩
        case measure =>
          obtain ⟨r1, r2, r3⟩ := keep_all (Later.alloc hbw5 _) (hB5.alloc _) ((Below.heap_alloc w5 _ _ (Array.getElem?_eq_some_iff.1 hit5).1).trans hit5) (own5.alloc _) (by decide) hg6
          rw [iterPos_of r3, HP.out]
          omega
      · have hbd : 0 ≤ o.N ∧ o.N ≤ 1000000000000000 := valid_fields o h 4 (by omega)
        go_wp2_with (first | (go_at_call 28; refine (fields_any _ _).mono ?_; rintro e w5 ⟨rfl, rfl⟩) | (go_at_call 22; refine (ix_any 78 4 (by decide) _).mono ?_; rintro e w5 ⟨rfl, rfl⟩) | (go_at_call 34; refine (_root_.Go.Proofs.Tryd.strconv_FormatInt_10 _ ?_ ?_ _ ?_).mono ?_; omega; omega; exact ((g4.alloc _).alloc _).pow10; rintro e w5 ⟨rfl, hw5⟩; have hb5 : Below W4.heap.size W4 w5 := Later.trans (Later.alloc (later_alloc _ _) _) (below_fmt hw5); clear hw5; have own5 := own_later own4 hb5; have hB5 := hB4.later hb5; have hit5 := (hb5.block _ (Array.getElem?_eq_some_iff.1 hit4).1).trans hit4; have hbw5 := hb4.trans (hb5.mono hb4.size)) | (at_builtin; refine wpList_append_own _ rfl (.tmp 23) (.tmp 32) _ rfl w.heap.size 9 i0 _ 1 16 Tryd.underlying23 hi hz0 hz1 hz2 rfl (by decide) u3 (2 + k) _ rfl (own5.alloc _) ⟨w5.heap.size, 0, none⟩ 1 1 [.string ⟨(Lib.itoa o.N).toArray⟩] rfl rfl (cell_one_new _ _ _) (by simp [Value.oneCell']) ?_ ?_ ?_ ?_; (have := useB_short o.K; unfold maxLen; omega); (have := useB_short o.K; omega); (have := hbw5.size; simp; omega); intro v6 w6 hown6 hg6 _))
        go_roundw
        case rel =>
          obtain ⟨r1, r2, r3⟩ := keep_all (Later.alloc hbw5 _) (hB5.alloc _) ((Below.heap_alloc w5 _ _ (Array.getElem?_eq_some_iff.1 hit5).1).trans hit5) (own5.alloc _) (by decide) hg6
          exact ⟨k + 1, by omega, by rw [HPS.out, List.map_append]; exact hown6, r1, r2, r3, g.later r1⟩
        case measure =>
          obtain ⟨r1, r2, r3⟩ := keep_all (Later.alloc hbw5 _) (hB5.alloc _) ((Below.heap_alloc w5 _ _ (Array.getElem?_eq_some_iff.1 hit5).1).trans hit5) (own5.alloc _) (by decide) hg6
          rw [iterPos_of r3, HP.out]
          omega
      · have hbd : 0 ≤ o.M ∧ o.M ≤ 1000000000000000 := valid_fields o h 5 (by omega)
        go_wp2_with (first | (go_at_call 28; refine (fields_any _ _).mono ?_; rintro e w5 ⟨rfl, rfl⟩) | (go_at_call 22; refine (ix_any 77 5 (by decide) _).mono ?_; rintro e w5 ⟨rfl, rfl⟩) | (go_at_call 34; refine (_root_.Go.Proofs.Tryd.strconv_FormatInt_10 _ ?_ ?_ _ ?_).mono ?_; omega; omega; exact ((g4.alloc _).alloc _).pow10; rintro e w5 ⟨rfl, hw5⟩; have hb5 : Below W4.heap.size W4 w5 := Later.trans (Later.alloc (later_alloc _ _) _) (below_fmt hw5); clear hw5; have own5 := own_later own4 hb5; have hB5 := hB4.later hb5; have hit5 := (hb5.block _ (Array.getElem?_eq_some_iff.1 hit4).1).trans hit4; have hbw5 := hb4.trans (hb5.mono hb4.size)) | (at_builtin; refine wpList_append_own _ rfl (.tmp 23) (.tmp 32) _ rfl w.heap.size 9 i0 _ 1 16 Tryd.underlying23 hi hz0 hz1 hz2 rfl (by decide) u3 (2 + k) _ rfl (own5.alloc _) ⟨w5.heap.size, 0, none⟩ 1 1 [.string ⟨(Lib.itoa o.M).toArray⟩] rfl rfl (cell_one_new _ _ _) (by simp [Value.oneCell']) ?_ ?_ ?_ ?_; (have := useB_short o.K; unfold maxLen; omega); (have := useB_short o.K; omega); (have := hbw5.size; simp; omega); intro v6 w6 hown6 hg6 _))
        go_roundw
        case rel =>
          obtain ⟨r1, r2, r3⟩ := keep_all (Later.alloc hbw5 _) (hB5.alloc _) ((Below.heap_alloc w5 _ _ (Array.getElem?_eq_some_iff.1 hit5).1).trans hit5) (own5.alloc _) (by decide) hg6
          exact ⟨k + 1, by omega, by rw [HPS.out, List.map_append]; exact hown6, r1, r2, r3, g.later r1⟩
        case measure =>
          obtain ⟨r1, r2, r3⟩ := keep_all (Later.alloc hbw5 _) (hB5.alloc _) ((Below.heap_alloc w5 _ _ (Array.getElem?_eq_some_iff.1 hit5).1).trans hit5) (own5.alloc _) (by decide) hg6
          rw [iterPos_of r3, HP.out]
          omega
    · have hk' : k = (useB o.K).size := by omega
      have hnx := fun ty => Lib.run_next_end_at (P := Tryd.prog) wr _ _ k ty hit hlt
      have HK := Lib.hid hk'
      clear hk'
      obtain ⟨gb, cap, rfl, _, hgl, hcap, _, hcell⟩ := own_form hown (by omega)
      have hlen : (partsTo o k).length = 2 + k := by have := hown.1; simpa using this
      have hJ := _root_.Go.Proofs.Tryd.strings_Join gb 0 cap (partsTo o k) { data := #[32] } wr (fun j x hx => by have := hcell j (.string x) (by simp [hx]); simpa using this) hgl (by have := useB_short o.K; omega) (by omega) (join_short o h k)
      rw [hlen] at hJ
      go_wp2_with (first | (go_at_call 35; refine hJ.mono ?_; rintro e w5 ⟨rfl, hb5⟩))
      go_returns
      exact ⟨by rw [textB, if_pos h, parts, ← HK.out]; rfl, hb.trans (hb5.mono hb.size)⟩
end Go.Proofs.YtcgdgopjomilnaaDoor
