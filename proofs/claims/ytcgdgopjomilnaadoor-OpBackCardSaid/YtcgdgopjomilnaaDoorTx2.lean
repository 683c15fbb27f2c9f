/-
  An operation's words read back are the operation (plain law).
-/
import Derived.Test.YtcgdgopjomilnaaDoorTx1
import Derived.Test.YtcgdgopjomilnaaDoorOp7
namespace Go.Proofs.YtcgdgopjomilnaaDoor
open Go Go.RowKit

theorem nDig_le : ∀ (d u : Nat), u < 10 ^ d → 0 < d → Lib.nDigits u ≤ d := by
  intro d
  induction d with
  | zero => intro u _ h; omega
  | succ d ih =>
    intro u h _
    by_cases hu : u < 10
    · rw [Lib.nDigits_small hu]; omega
    · rw [Lib.nDigits_big hu]
      have hd : 0 < d := by
        rcases Nat.eq_zero_or_pos d with h0 | h0
        · subst h0; simp at h; omega
        · exact h0
      have := ih (u / 10) (by rw [Nat.pow_succ] at h; omega) hd
      omega
theorem itoa_nat (n : Nat) : Lib.itoa (n : Int) = Lib.decDigits n := by unfold Lib.itoa; rw [if_neg (by omega)]; simp
theorem numP_itoa (n : Nat) (h : n < 1000000000000000000) : numP ⟨(Lib.itoa (n : Int)).toArray⟩ = ((n : Int), true) := by
  have hl : (Lib.itoa (n : Int)).length ≤ 18 := by
    rw [itoa_nat, Lib.decDigits_length]
    exact nDig_le 18 n (by omega) (by omega)
  have hs : (⟨(Lib.itoa (n : Int)).toArray⟩ : ByteArray).size = (Lib.itoa (n : Int)).length := by simp [ByteArray.size]
  have hd : (⟨(Lib.itoa (n : Int)).toArray⟩ : ByteArray).data.toList = Lib.itoa (n : Int) := by simp
  unfold numP
  rw [if_neg (by omega), hd, parse_itoa n (by omega)]
  simp
theorem itoa_plain (n : Int) (h : 0 ≤ n) : ∀ c ∈ Lib.itoa n, c ≠ 32 := by
  obtain ⟨m, rfl⟩ := Int.eq_ofNat_of_zero_le h
  intro c hc e
  rw [itoa_nat] at hc
  have := dec_digit m m (Nat.le_refl _) c hc
  subst e
  have : (32 : UInt8).toNat = 32 := rfl
  omega
theorem kind_cases {K : Int} (h1 : 1 ≤ K) (h2 : K ≤ 16) : K = 1 ∨ K = 2 ∨ K = 3 ∨ K = 4 ∨ K = 5 ∨ K = 6 ∨ K = 7 ∨ K = 8 ∨ K = 9 ∨ K = 10 ∨ K = 11 ∨ K = 12 ∨ K = 13 ∨ K = 14 ∨ K = 15 ∨ K = 16 := by omega
theorem name_index (K : Int) (h1 : 1 ≤ K) (h2 : K ≤ 16) : Lib.idxOfS nameL (nameB K) + 1 = K := by
  rcases kind_cases h1 h2 with h | h | h | h | h | h | h | h | h | h | h | h | h | h | h | h <;> subst h <;> decide +kernel
theorem name_plain (K : Int) (h1 : 1 ≤ K) (h2 : K ≤ 16) : ∀ c ∈ (nameB K).data.toList, c ≠ 32 := by
  rcases kind_cases h1 h2 with h | h | h | h | h | h | h | h | h | h | h | h | h | h | h | h <;> subst h <;> decide +kernel
theorem valid_k (o : O) (h : validC o = 0) : (1 ≤ o.ID ∧ o.ID ≤ 1099511627776) ∧ (1 ≤ o.K ∧ o.K ≤ 16) := by
  unfold validC at h
  split at h
  · cases h
  · split at h
    · cases h
    · omega
theorem ub_len (b : ByteArray) : b.data.toList.length = b.size := by rw [Array.length_toList]; rfl
theorem parts_len (o : O) : (parts o).length = (useB o.K).size + 2 := by
  have := ub_len (useB o.K)
  simp only [parts, partsTo, List.length_cons, List.length_map, List.length_take]
  omega
theorem wd_id (o : O) : wd (parts o) 0 = ⟨(Lib.itoa o.ID).toArray⟩ := rfl
theorem wd_name (o : O) : wd (parts o) 1 = nameB o.K := rfl
theorem wd_fld (o : O) (j : Nat) (h : j < (useB o.K).size) : wd (parts o) (2 + j) = ⟨(Lib.itoa (fld o (ltr ((useB o.K).data.toList.getD j 0)))).toArray⟩ := by
  have hj : j < (useB o.K).data.toList.length := by rw [ub_len]; exact h
  unfold wd parts partsTo
  rw [Nat.add_comm 2 j]
  have ht : (useB o.K).data.toList.take (useB o.K).size = (useB o.K).data.toList := List.take_of_length_le (by rw [ub_len]; exact Nat.le_refl _)
  rw [ht, List.getD_eq_getElem?_getD, List.getElem?_cons_succ, List.getElem?_cons_succ, List.getElem?_map, List.getD_eq_getElem?_getD, List.getElem?_eq_getElem hj]
  rfl
theorem fld_bd (o : O) (h : validC o = 0) (c : UInt8) : 0 ≤ fld o (ltr c) ∧ fld o (ltr c) ≤ 1000000000000000 := by
  refine valid_fields o h _ ?_
  unfold ltr
  repeat' split
  all_goals omega
theorem num_fld (o : O) (h : validC o = 0) (j : Nat) (hj : j < (useB o.K).size) : numP (wd (parts o) (2 + j)) = (fld o (ltr ((useB o.K).data.toList.getD j 0)), true) := by
  rw [wd_fld o j hj]
  have hb := fld_bd o h ((useB o.K).data.toList.getD j 0)
  generalize fld o (ltr ((useB o.K).data.toList.getD j 0)) = x at hb ⊢
  obtain ⟨n, rfl⟩ := Int.eq_ofNat_of_zero_le hb.1
  exact numP_itoa n (by omega)
theorem num_id (o : O) (h : validC o = 0) : numP (wd (parts o) 0) = (o.ID, true) := by
  rw [wd_id]
  have hb := (valid_k o h).1
  generalize o.ID = x at hb ⊢
  obtain ⟨n, rfl⟩ := Int.eq_ofNat_of_zero_le (show 0 ≤ x by omega)
  exact numP_itoa n (by omega)
theorem parts_ok (o : O) (h : validC o = 0) : numsOk (parts o) = true := by
  refine numsOk_true _ fun j hj h1 => ?_
  rw [parts_len] at hj
  unfold numOk
  rcases Nat.lt_or_ge j 2 with h2 | h2
  · obtain rfl : j = 0 := by omega
    rw [num_id o h]
  · obtain ⟨k, rfl⟩ : ∃ k, j = 2 + k := ⟨j - 2, by omega⟩
    rw [num_fld o h k (by omega)]
theorem valid_okF (o : O) : ∀ (d i : Nat), validF o d i = 0 → ∀ j, i ≤ j → j < i + d → okF o j = true := by
  intro d
  induction d with
  | zero => intro i _ j h1 h2; omega
  | succ d ih =>
    intro i h j h1 h2
    unfold validF at h
    split at h
    · rename_i hk
      by_cases hj : j = i
      · subst hj; exact hk
      · exact ih (i + 1) h j (by omega) (by omega)
    · cases h
theorem unused (o : O) (h : validC o = 0) (i : Nat) (hi : i < 6) (hu : usedB o.K i = false) : fld o i = 0 := by
  unfold validC at h
  split at h
  · cases h
  · split at h
    · cases h
    · have := valid_okF o 6 0 h i (by omega) (by omega)
      unfold okF at this
      rw [hu] at this
      simp at this
      exact this.2
theorem set_all_fields (o : O) (h : validC o = 0) (j : Nat) (hj : j ≤ (useB o.K).size) :
    ∀ i, i < 6 → (setTo (parts o) o.K j).getD i 0 = if ((useB o.K).data.toList.take j).any (fun c => ltr c == i) then fld o i else 0 := by
  induction j with
  | zero =>
    intro i hi
    have : i = 0 ∨ i = 1 ∨ i = 2 ∨ i = 3 ∨ i = 4 ∨ i = 5 := by omega
    rcases this with rfl | rfl | rfl | rfl | rfl | rfl <;> rfl
  | succ j ih =>
    intro i hi
    have hjl : j < (useB o.K).data.toList.length := by rw [ub_len]; omega
    have hn : numAt (parts o) (2 + j) = fld o (ltr ((useB o.K).data.toList.getD j 0)) := by unfold numAt; rw [num_fld o h j (by omega)]
    rw [setTo, hn, List.take_succ_eq_append_getElem hjl, List.any_append]
    have hc : (useB o.K).data.toList.getD j 0 = (useB o.K).data.toList[j] := by rw [List.getD_eq_getElem?_getD, List.getElem?_eq_getElem hjl, Option.getD_some]
    rw [hc]
    have hlen := setTo_len (parts o) o.K j
    have ih' := ih (by omega) i hi
    generalize (useB o.K).data.toList[j] = cc
    generalize ((useB o.K).data.toList.take j).any (fun c => ltr c == i) = bb at ih' ⊢
    by_cases he : ltr cc = i
    · rw [he, List.getD_eq_getElem?_getD, List.getElem?_set_self (by omega), Option.getD_some, if_pos]
      simp only [List.any_cons, List.any_nil, Bool.or_false, he, beq_self_eq_true, Bool.or_true]
    · rw [List.getD_eq_getElem?_getD, List.getElem?_set_ne he, ← List.getD_eq_getElem?_getD, ih']
      have : ([cc].any fun c => ltr c == i) = false := by
        simp only [List.any_cons, List.any_nil, Bool.or_false, beq_eq_false_iff_ne, ne_eq]
        exact he
      rw [this, Bool.or_false]
theorem used_any (K : Int) (h1 : 1 ≤ K) (h2 : K ≤ 16) : ∀ i : Fin 6, usedB K i.val = ((useB K).data.toList.take (useB K).size).any (fun c => ltr c == i.val) := by
  rcases kind_cases h1 h2 with h | h | h | h | h | h | h | h | h | h | h | h | h | h | h | h <;> subst h <;> decide +kernel
theorem opOf_parts (o : O) (h : validC o = 0) : opOf (parts o) = o := by
  obtain ⟨hid, hk1, hk2⟩ := valid_k o h
  have hK : kindOf (parts o) = o.K := by unfold kindOf; rw [wd_name]; exact name_index o.K hk1 hk2
  have hid : numAt (parts o) 0 = o.ID := by unfold numAt; rw [num_id o h]
  have hf : ∀ i, i < 6 → (setTo (parts o) o.K (useB o.K).size).getD i 0 = fld o i := by
    intro i hi
    rw [set_all_fields o h _ (Nat.le_refl _) i hi, ← used_any o.K hk1 hk2 ⟨i, hi⟩]
    cases hu : usedB o.K i with
    | true => rfl
    | false => rw [unused o h i hi hu]; rfl
  unfold opOf
  simp only [hK, hid]
  rw [hf 0 (by omega), hf 1 (by omega), hf 2 (by omega), hf 3 (by omega), hf 4 (by omega), hf 5 (by omega)]
  rfl
theorem parse_parts (o : O) (h : validC o = 0) : parseC (parts o) = 0 ∧ parseO (parts o) = o := by
  obtain ⟨hid, hk1, hk2⟩ := valid_k o h
  have hK : kindOf (parts o) = o.K := by unfold kindOf; rw [wd_name]; exact name_index o.K hk1 hk2
  have hc : parseC (parts o) = 0 := by
    unfold parseC
    rw [parts_len, if_neg (by omega), hK, if_neg (by omega), if_neg (by rw [parts_ok o h]; simp), opOf_parts o h, h]
  exact ⟨hc, by unfold parseO; rw [if_pos hc, opOf_parts o h]⟩
/-- The words of an operation's text. -/
theorem text_words (o : O) (h : validC o = 0) : splitR (textB o).data.toList [] = (parts o).map (·.data.toList) := by
  obtain ⟨⟨hid, _⟩, hk1, hk2⟩ := valid_k o h
  unfold textB
  rw [if_pos h]
  simp only
  have : (parts o).map (·.data.toList) = Lib.itoa o.ID :: (nameB o.K).data.toList :: ((useB o.K).data.toList.take (useB o.K).size).map fun c => Lib.itoa (fld o (ltr c)) := by
    simp [parts, partsTo, Function.comp_def]
  rw [this]
  refine splitR_join _ _ fun y hy => ?_
  simp only [List.mem_cons, List.mem_map] at hy
  rcases hy with rfl | rfl | ⟨c, _, rfl⟩
  · exact itoa_plain _ (by omega)
  · exact name_plain _ hk1 hk2
  · exact itoa_plain _ (fld_bd o h c).1
theorem parts_of_text {o p : O} (ho : validC o = 0) (hp : validC p = 0) (h : textB o = textB p) : o = p := by
  have h1 := text_words o ho
  rw [h, text_words p hp] at h1
  have hinj : Function.Injective (fun x : ByteArray => x.data.toList) := by
    rintro ⟨⟨a⟩⟩ ⟨⟨b⟩⟩ hab
    simp only at hab
    rw [hab]
  have h2 : parts p = parts o := List.map_inj_right (f := fun x : ByteArray => x.data.toList) (fun a b hab => hinj hab) |>.1 h1
  have h3 := (parse_parts o ho).2
  rw [← h2, (parse_parts p hp).2] at h3
  exact h3.symm
end Go.Proofs.YtcgdgopjomilnaaDoor
