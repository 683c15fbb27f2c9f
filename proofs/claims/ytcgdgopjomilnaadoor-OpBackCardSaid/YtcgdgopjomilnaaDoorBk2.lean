/-
  The statement on what is read back: the walk, where the operation may be.
-/
import Derived.Test.YtcgdgopjomilnaaDoorBk1
namespace Go.Proofs.YtcgdgopjomilnaaDoor
open Go Go.RowKit

theorem rd_cut {w : World} {gb cap n : Nat} {l : List Nat} (h : Rd w (.slice (some ⟨gb, 0, none⟩) l.length cap) (u8s l)) (hn : n ≤ l.length) (hl : 0 < l.length) : Rd w (.slice (some ⟨gb, 0, none⟩) n cap) (u8s (l.take n)) := by
  rcases h with ⟨h, _⟩ | ⟨b, off, c, hv, hlt, hc, hcell⟩
  · cases h
  · injection hv with ha hb hc'
    injection ha with ha
    injection ha with ha1 ha2
    subst ha1
    subst ha2
    subst hc'
    have hlen : (u8s (l.take n)).length = n := by rw [u8s_len, List.length_take]; omega
    refine .inr ⟨gb, 0, cap, by rw [hlen], hlt, by rw [hlen]; have := u8s_len l; omega, fun j u hu => hcell j u ?_⟩
    have hj : j < n := by have := (List.getElem?_eq_some_iff.1 hu).1; omega
    have e : u8s (l.take n) = (u8s l).take n := by simp [u8s, List.map_take]
    rw [e, List.getElem?_take_of_lt hj] at hu
    exact hu

theorem iserr_iface {w : World} {E : Nat → Addr} {v : Value} {e : Er} (h : IsErr w E v e) (hne : e ≠ .none) : ∃ t u, v = .iface t u := by
  cases e with
  | none => exact absurd rfl hne
  | code c => exact ⟨_, _, h.2.trans (errV_iface E h.1.1)⟩
  | «at» p c => obtain ⟨_, b, rfl, _⟩ := h; exact ⟨_, _, rfl⟩

theorem text_short (o : O) (h : validC o = 0) : (textB o).size ≤ 154 := by
  have hid : 1 ≤ o.ID ∧ o.ID ≤ 1099511627776 := (valid_k o h).1
  have hl : (parts o).length ≤ 7 := by have := useB_short o.K; rw [parts_len]; omega
  have := join_len ({ data := #[32] } : ByteArray).data.toList 21 ((parts o).map (·.data.toList)) (by
    intro x hx
    simp only [parts, partsTo, List.map_cons, List.map_map, List.mem_cons, List.mem_map] at hx
    rcases hx with rfl | rfl | ⟨c, _, rfl⟩
    · exact Lib.itoa_length_le _ (by omega) (by omega)
    · have := nameB_short o.K
      simpa using (by omega : (nameB o.K).size ≤ 21)
    · have hf := fld_bd o h c
      exact Lib.itoa_length_le _ (by omega) (by omega))
  rw [List.length_map] at this
  have h32 : ({ data := #[32] } : ByteArray).data.toList.length = 1 := rfl
  rw [h32] at this
  have h2 : (parts o).length * (21 + 1) ≤ 7 * 22 := Nat.mul_le_mul hl (Nat.le_refl _)
  unfold textB
  rw [if_pos h]
  simp only [ByteArray.size, List.size_toArray]
  exact Nat.le_trans this (by omega)
theorem bytes_inj {a b : ByteArray} (h : a.data.toList = b.data.toList) : a = b := by
  obtain ⟨⟨a⟩⟩ := a
  obtain ⟨⟨b⟩⟩ := b
  simp only at h
  rw [h]
theorem parts_size (o : O) (h : validC o = 0) : ∀ j, j < (parts o).length → (wd (parts o) j).size ≤ 21 := by
  intro j hj
  have hm : wd (parts o) j ∈ parts o := by
    unfold wd
    rw [List.getD_eq_getElem?_getD, List.getElem?_eq_getElem hj]
    exact List.getElem_mem hj
  have hid := (valid_k o h).1
  simp only [parts, partsTo, List.mem_cons, List.mem_map] at hm
  rcases hm with hx | hx | ⟨c, _, hx⟩
  · have hx' : (wd (parts o) j).size = (Lib.itoa o.ID).length := by simp only [parts, partsTo]; rw [hx]; simp [ByteArray.size]
    rw [hx']
    exact Lib.itoa_length_le _ (by omega) (by omega)
  · have hx' : (wd (parts o) j).size = (nameB o.K).size := by simp only [parts, partsTo]; rw [hx]
    rw [hx']
    have := nameB_short o.K
    omega
  · have hx' : (wd (parts o) j).size = (Lib.itoa (fld o (ltr c))).length := by simp only [parts, partsTo]; rw [← hx]; simp [ByteArray.size]
    rw [hx']
    have hf := fld_bd o h c
    exact Lib.itoa_length_le _ (by omega) (by omega)
/-- What is still to be split, where a word began at f and the k-th byte is next. -/
def splitTo (T : List UInt8) (f k : Nat) : List (List UInt8) := if k ≤ T.length then splitR (T.drop k) ((T.drop f).take (k - f)) else []
theorem splitTo_end (T : List UInt8) (f k : Nat) (h : k = T.length) : splitTo T f k = [(T.drop f).take (k - f)] := by
  unfold splitTo
  rw [if_pos (by omega), List.drop_eq_nil_of_le (by omega)]
  rfl
theorem splitTo_past (T : List UInt8) (f k : Nat) (h : T.length < k) : splitTo T f k = [] := by
  unfold splitTo
  rw [if_neg (by omega)]
theorem splitTo_blank (T : List UInt8) (f k : Nat) (h : k < T.length) (hc : T[k] = 32) : splitTo T f k = (T.drop f).take (k - f) :: splitTo T (k + 1) (k + 1) := by
  unfold splitTo
  rw [if_pos (by omega), if_pos (by omega), ← List.getElem_cons_drop h, splitR, if_pos hc]
  simp
theorem splitTo_other (T : List UInt8) (f k : Nat) (h : k < T.length) (hf : f ≤ k) (hc : T[k] ≠ 32) : splitTo T f k = splitTo T f (k + 1) := by
  unfold splitTo
  rw [if_pos (by omega), if_pos (by omega), ← List.getElem_cons_drop h, splitR, if_neg hc]
  congr 1
  have e : k + 1 - f = (k - f) + 1 := by omega
  rw [e, List.take_succ_eq_append_getElem (by simp; omega)]
  congr 2
  rw [List.getElem_drop]
  congr 1
  omega
def SplitAt (w0 : World) (T : ByteArray) (u f i : Value) (wr : World) : Prop :=
  ∃ (k j : Nat) (ws : List ByteArray), k ≤ T.size + 1 ∧ i = .int .i64 k ∧ f = .int .i64 j ∧ j ≤ k ∧ ws.length ≤ k ∧ wr.ownsRow w0.heap.size 9 1 u ws.length (ws.map Value.string) ∧ Below w0.heap.size w0 wr ∧
    Hid (splitR T.data.toList [] = ws.map (·.data.toList) ++ splitTo T.data.toList j k)

set_option maxRecDepth 100000 in
set_option maxHeartbeats 16000000 in
theorem back_good (o p : O) (cut : Int) {w : World} {E : Nat → Addr} (g : GW w E) (h : validC o = 0) :
    Calls Tryd.prog 4 #[o.v, p.v, .int .i64 cut] w fun e w' => e = .returned (.bool true) ∧ Below w.heap.size w w' := by
  obtain ⟨i0, hi, hz0, hz1, hz2⟩ := info_parts info_u8
  obtain ⟨j0, hj, hy0, hy1, hy2⟩ := info_parts info_str
  have g1 := (g.alloc (.cells o.cs 26)).alloc (.cells p.cs 26)
  have hf := first_any g1
  have hO := (Blk.new w 26 o.cs).alloc (.cells p.cs 26)
  have hP : Blk ((w.alloc (.cells o.cs 26)).alloc (.cells p.cs 26)) (w.heap.size + 1) 26 p.cs := Blk.new' (by simp) _ _
  have hpos := bytes_pos o
  have hle := bytes_le o h
  have H := Lib.hid h
  clear h
  go_enter Tryd.func4, Tryd.ntmps4
  go_wp2_with (go_at_call 5; refine hf.mono ?_; rintro e w1 ⟨rfl, hb1⟩; have hO1 := hO.later hb1; have c0 : w1.cell? ⟨w.heap.size, 0, none⟩ = some (.int .i64 o.ID) := hO1.cell 0; have c1 : w1.cell? ⟨w.heap.size, 1, none⟩ = some (.int .i64 o.K) := hO1.cell 1; have c2 : w1.cell? ⟨w.heap.size, 2, none⟩ = some (.int .i64 o.A) := hO1.cell 2; have c3 : w1.cell? ⟨w.heap.size, 3, none⟩ = some (.int .i64 o.B) := hO1.cell 3; have c4 : w1.cell? ⟨w.heap.size, 4, none⟩ = some (.int .i64 o.C) := hO1.cell 4; have c5 : w1.cell? ⟨w.heap.size, 5, none⟩ = some (.int .i64 o.D) := hO1.cell 5; have c6 : w1.cell? ⟨w.heap.size, 6, none⟩ = some (.int .i64 o.N) := hO1.cell 6; have c7 : w1.cell? ⟨w.heap.size, 7, none⟩ = some (.int .i64 o.M) := hO1.cell 7)
  clear c0 c1 c2 c3 c4 c5 c6 c7
  have hw1 : Below w.heap.size w w1 := Later.trans (Later.alloc (later_alloc _ _) _) hb1
  have hP1 := hP.later hb1
  have gw1 := g.later hw1
  have hby := bytes_good o gw1 H.out
  clear hf g1 hO hP
  go_wp2_with (go_at_call 10; refine hby.mono ?_; rintro e w2 ⟨v1, rfl, hown2, hb2⟩; obtain ⟨gb, cap, rfl, hgb1, hgb2, hcap, hcm, _⟩ := own_form hown2 hpos)
  have hRd2 := rd_own hown2
  have gw2 := gw1.later hb2
  have hrd := read_any _ (bytesL o) (enc_byte _) gw2 hRd2
  rw [readP_bytes o H.out] at hrd
  clear hby
  go_wp2_with (go_at_call 11; refine hrd.mono ?_; rintro e w3 ⟨ev, rfl, he3, hb3⟩; obtain rfl : ev = .nilIface := he3)
  obtain ⟨m, hm⟩ : ∃ m : Nat, cut % ((bytesL o).length : Int) = m := Int.eq_ofNat_of_zero_le (Int.emod_nonneg _ (by omega))
  have hml : m < (bytesL o).length := by have := Int.emod_lt_of_pos cut (show (0 : Int) < ((bytesL o).length : Int) by omega); omega
  have hnum := fun W => num_any cut ((bytesL o).length : Int) (by omega) (by omega) W
  rw [hm] at hnum
  have hmc : (m : Int) ≤ (cap : Int) := by omega
  have hmc' : m ≤ cap := by omega
  clear hm hrd
  have hb13 : Below w1.heap.size w1 w3 := Later.trans hb2 hb3
  have gw3 := gw2.later hb3
  have hA4 := later_alloc w3 (.cells o.cs 26)
  have gw4 := gw3.later hA4
  have hRd4 := (hRd2.later hb3).later hA4
  have hX4 := Blk.new w3 26 o.cs
  have hrd2 := read_any _ ((bytesL o).take m) (fun c hc => enc_byte _ c (List.mem_of_mem_take hc)) gw4 (rd_cut hRd4 (by omega) hpos)
  have hbad := readP_cut o H.out m hml
  generalize readP ((bytesL o).take m) = r2 at hrd2 hbad
  obtain ⟨o2, er2⟩ := r2
  have HBAD := Lib.hid hbad
  clear hbad
  go_wp2_with (first | (go_at_call 7; refine (hnum _).mono ?_; rintro e w5 ⟨rfl, rfl⟩) | (go_at_call 11; refine hrd2.mono ?_; rintro e w5 ⟨ev2, rfl, he5, hb5⟩; obtain ⟨ty2, u2, rfl⟩ := iserr_iface he5 HBAD.out))
  clear hrd2 hnum
  have hA6 := later_alloc w5 (.cells o2.cs 26)
  have hb46 := Later.trans hb5 hA6
  have gw6 := gw4.later hb46
  have hRd6 := hRd4.later hb46
  have hrb := refBytes_any _ (bytesL o) (by omega) hRd6
  go_wp2_with (first | (go_at_call 12; refine hrb.mono ?_; rintro e w7 ⟨v3, rfl, hown7, hb7⟩) | (at_builtin; refine wpList_append_own _ rfl (.tmp 58) (.tmp 59) _ rfl _ 5 i0 _ 1 1 Tryd.underlying35 hi hz0 hz1 hz2 rfl (by decide) v3 (bytesL o).length _ rfl (hown7.alloc _) ⟨w7.heap.size, 0, none⟩ 1 1 [.int .u8 0] rfl rfl (cell_one_new _ _ _) (by simp [Value.oneCell']) ?_ ?_ ?_ ?_; (unfold maxLen; omega); omega; (have := hb7.size; simp at this ⊢; omega); intro v8 w8 hown8 hg8 _))
  clear hrb
  have hb68 : Below (w5.alloc (.cells o2.cs 26)).heap.size (w5.alloc (.cells o2.cs 26)) w8 := (Later.alloc hb7 _).grown hg8 (Later.alloc hb7 _).size (fun j hj => (hown7.lt j hj).1)
  have gw8 := gw6.later hb68
  have hRd8 : Rd w8 v8 (u8s (bytesL o ++ [0])) := by
    have := rd_own hown8
    rw [u8s_app]
    exact this
  have hrd3 := read_any v8 (bytesL o ++ [0]) (fun c hc => by rcases List.mem_append.1 hc with hc | hc; exact enc_byte _ c hc; simp at hc; omega) gw8 hRd8
  rw [readP_zero o H.out] at hrd3
  clear hown7 hown8 hg8 hRd8
  go_wp2_with (go_at_call 11; refine hrd3.mono ?_; rintro e w9 ⟨ev3, rfl, he9, hb9⟩; obtain ⟨ty3, u3, rfl⟩ := iserr_iface he9 (by simp); have hb19 : Below w1.heap.size w1 w9 := Later.trans hb13 (Later.trans hA4 (Later.trans hb46 (Later.trans hb68 hb9))); have hO9 := hO1.later hb19; have hl9 := hO9.lt; have d0 : w9.cell? ⟨w.heap.size, 0, none⟩ = some (.int .i64 o.ID) := hO9.cell 0; have d1 : w9.cell? ⟨w.heap.size, 1, none⟩ = some (.int .i64 o.K) := hO9.cell 1; have d2 : w9.cell? ⟨w.heap.size, 2, none⟩ = some (.int .i64 o.A) := hO9.cell 2; have d3 : w9.cell? ⟨w.heap.size, 3, none⟩ = some (.int .i64 o.B) := hO9.cell 3; have d4 : w9.cell? ⟨w.heap.size, 4, none⟩ = some (.int .i64 o.C) := hO9.cell 4; have d5 : w9.cell? ⟨w.heap.size, 5, none⟩ = some (.int .i64 o.D) := hO9.cell 5; have d6 : w9.cell? ⟨w.heap.size, 6, none⟩ = some (.int .i64 o.N) := hO9.cell 6; have d7 : w9.cell? ⟨w.heap.size, 7, none⟩ = some (.int .i64 o.M) := hO9.cell 7)
  clear d0 d1 d2 d3 d4 d5 d6 d7
  have gw9 := gw1.later hb19
  have hAA := later_alloc w9 (.cells (O.cs O.zero) 26)
  have gwA := gw9.later hAA
  have htx := text_good o gwA H.out
  have hsz := text_short o H.out
  have hwords := text_words o H.out
  have hsame := @parts_of_text o
  generalize hT : textB o = T at htx hsz hwords
  have HT := Lib.hid hT
  have HW := Lib.hid hwords
  clear hT hwords hsame hrd3
  go_wp2_with (go_at_call 13; refine htx.mono ?_; rintro e wB ⟨rfl, hbB⟩)
  clear htx
  go_loopw [17, 18, 19] (fun u f i wr => SplitAt wB T u f i wr) (fun _ _ i _ => T.size + 1 - (intOf i).toNat)
  case atStart => exact ⟨0, 0, [], by omega, rfl, rfl, by omega, by simp, World.ownsRow_nil _ _ _ _, Below.refl _ _, by unfold Hid splitTo; rw [if_pos (by omega)]; simp⟩
  case round =>
    obtain ⟨k, f, ws, hk, rfl, rfl, hfk, hwl, hown, hb, hs⟩ := hrel
    by_cases hlt : k ≤ T.size
    · have hkn : (k : Int) ≤ (T.size : Int) := by omega
      have hfk' : (f : Int) ≤ (k : Int) := by omega
      have hf0 : (0 : Int) ≤ (f : Int) := by omega
      have hex : (T.extract f k).data.toList = (T.data.toList.drop f).take (k - f) := by simp [ByteArray.data_extract, Array.toList_extract, List.extract_eq_take_drop]
      have HEX := Lib.hid hex
      clear hex
      by_cases hend : k = T.size
      · have t1 : ((k : Int) == (T.size : Int)) = true := by simp; omega
        have HE := Lib.hid hend
        clear hend
        go_wp2_with (at_builtin; refine wpList_append_own _ rfl (.tmp 82) (.tmp 87) _ rfl _ 9 j0 _ 1 16 Tryd.underlying23 hj hy0 hy1 hy2 rfl (by decide) u17 ws.length _ rfl (hown.alloc _) ⟨wr.heap.size, 0, none⟩ 1 1 [.string (T.extract f k)] rfl rfl (cell_one_new _ _ _) (by simp [Value.oneCell']) ?_ ?_ ?_ ?_; (unfold maxLen; omega); omega; (have := hb.size; simp; omega); intro v6 w6 hown6 hg6 _)
        go_roundw
        case rel =>
          refine ⟨k + 1, k + 1, ws ++ [T.extract f k], by have := HE.out; omega, by go_num, by go_num, by omega, by simp; omega, by simpa using hown6, (Later.alloc hb _).grown hg6 (Later.alloc hb _).size (fun j hj => (hown.lt j hj).1), ?_⟩
          unfold Hid
          rw [hs.out, List.map_append, List.map_cons, List.map_nil, HEX.out, splitTo_end _ _ _ (by rw [ub_len]; exact HE.out), splitTo_past _ _ _ (by rw [ub_len]; have := HE.out; omega), List.append_nil]
        case measure => simp [intOf]; have := HE.out; omega
      · have t1 : ((k : Int) == (T.size : Int)) = false := by simp; omega
        have hlt' : k < T.size := by omega
        have hkn2 : (k : Int) < (T.size : Int) := by omega
        by_cases hbl : T[k] = 32
        · have t2 : ((T[k].toNat : Int) == 32) = true := by rw [hbl]; rfl
          have HBL := Lib.hid hbl
          clear hend hbl
          go_wp2_with (at_builtin; refine wpList_append_own _ rfl (.tmp 82) (.tmp 87) _ rfl _ 9 j0 _ 1 16 Tryd.underlying23 hj hy0 hy1 hy2 rfl (by decide) u17 ws.length _ rfl (hown.alloc _) ⟨wr.heap.size, 0, none⟩ 1 1 [.string (T.extract f k)] rfl rfl (cell_one_new _ _ _) (by simp [Value.oneCell']) ?_ ?_ ?_ ?_; (unfold maxLen; omega); omega; (have := hb.size; simp; omega); intro v6 w6 hown6 hg6 _)
          go_roundw
          case rel =>
            refine ⟨k + 1, k + 1, ws ++ [T.extract f k], by omega, by go_num, by go_num, by omega, by simp; omega, by simpa using hown6, (Later.alloc hb _).grown hg6 (Later.alloc hb _).size (fun j hj => (hown.lt j hj).1), ?_⟩
            unfold Hid
            rw [hs.out, List.map_append, List.map_cons, List.map_nil, HEX.out, splitTo_blank _ _ _ (by rw [ub_len]; exact hlt') HBL.out]
            simp
          case measure => simp [intOf]; omega
        · have t2 : ((T[k].toNat : Int) == 32) = false := by
            simp only [beq_eq_false_iff_ne, ne_eq]
            intro h
            exact hbl (UInt8.toNat_inj.1 (Int.ofNat_inj.1 h))
          have HBL := Lib.hid hbl
          clear hend hbl
          go_wp2_with fail
          go_roundw
          case rel =>
            refine ⟨k + 1, f, ws, by omega, by go_num, rfl, by omega, by omega, hown, hb, ?_⟩
            unfold Hid
            rw [hs.out, splitTo_other _ _ _ (by rw [ub_len]; exact hlt') hfk HBL.out]
          case measure => simp [intOf]; omega
    · have hkn : ¬ (k : Int) ≤ (T.size : Int) := by omega
      have hws : ws = parts o := by
        have h1 := hs.out
        rw [HW.out, splitTo_past _ _ _ (by rw [ub_len]; omega), List.append_nil] at h1
        exact ((List.map_inj_right (f := fun x : ByteArray => x.data.toList) (fun a b hab => bytes_inj hab)).1 h1).symm
      subst hws
      have hplen := parts_len o
      have hps := parts_size o H.out
      obtain ⟨gw, capw, rfl, hgw1, hgw2, hcapw, hcmw, hcellw⟩ := own_form hown (by omega)
      have hbA : Below w1.heap.size w1 wr := Later.trans hb19 (Later.trans hAA (Later.trans hbB hb))
      have gwr := gw1.later hbA
      have hparse := parse_any (some ⟨gw, 0, none⟩) capw (parts o) (by have := useB_short o.K; omega) gwr (.inr ⟨gw, 0, rfl, fun j hj => by rw [Nat.zero_add]; exact hcellw j _ (by rw [List.getElem?_map, List.getElem?_eq_getElem hj]; simp [wd, List.getD, hj])⟩) (fun j hj => Nat.le_trans (hps j hj) (by omega))
      rw [(parse_parts o H.out).1, (parse_parts o H.out).2, show errV E 0 = .nilIface from rfl] at hparse
      generalize (parts o).length = np at hparse
      clear hown hcellw hplen hps hs
      go_wp2_with (go_at_call 6; refine hparse.mono ?_; rintro e wC ⟨rfl, hbC⟩)
      have hbC1 : Below w1.heap.size w1 (wC.alloc (.cells o.cs 26)) := Later.alloc (Later.trans hbA hbC) _
      have gD := gw1.later hbC1
      have hY := Blk.new wC 26 o.cs
      have hb3C : Below (w3.alloc (.cells o.cs 26)).heap.size (w3.alloc (.cells o.cs 26)) (wC.alloc (.cells o.cs 26)) := Later.alloc (Later.trans (Later.trans hb46 (Later.trans hb68 (Later.trans hb9 (Later.trans hAA (Later.trans hbB hb))))) hbC) _
      have hX := hX4.later hb3C
      have hOD := hO1.later hbC1
      have hPD := hP1.later hbC1
      have he9C : IsErr (wC.alloc (.cells o.cs 26)) E (.iface ty3 u3) (.at ((bytesL o).length : Int) 102) := he9.later (Later.alloc (Later.trans (Later.trans hAA (Later.trans hbB hb)) hbC) _)
      have hRdD := hRd2.later (Later.trans hb3 (Later.trans hA4 hb3C))
      generalize hWD : wC.alloc (.cells o.cs 26) = WD at hbC1 gD hY hb3C hX hOD hPD he9C hRdD ⊢
      have HWD := Lib.hid hWD
      clear hWD hb3C hparse
      have hsm := same_any (gD.alloc (.cells #[.int .i64 102, .bool true, .int .i64 ((bytesL o).length : Int)] 43)) _ _ (he9C.later (later_alloc WD (.cells #[.int .i64 102, .bool true, .int .i64 ((bytesL o).length : Int)] 43))) 102 true ((bytesL o).length : Int)
      rw [show sameF (.at ((bytesL o).length : Int) 102) 102 true ((bytesL o).length : Int) = true by simp [sameF, Er.num, Er.placed, Er.pos]] at hsm
      go_wp2_with (first | (go_at_call 15; refine (placed_any 102 _ (by omega) _).mono ?_; rintro e wE ⟨rfl, rfl⟩) | (go_at_call 14; refine hsm.mono ?_; rintro e wS ⟨rfl, hbS⟩; have hDS : Below WD.heap.size WD wS := Later.trans (later_alloc _ _) hbS; have hXS := hX.later hDS; have hOS := hOD.later hDS; have x0 : wS.cell? ⟨w3.heap.size, 0, none⟩ = some (.int .i64 o.ID) := hXS.cell 0; have x1 : wS.cell? ⟨w3.heap.size, 1, none⟩ = some (.int .i64 o.K) := hXS.cell 1; have x2 : wS.cell? ⟨w3.heap.size, 2, none⟩ = some (.int .i64 o.A) := hXS.cell 2; have x3 : wS.cell? ⟨w3.heap.size, 3, none⟩ = some (.int .i64 o.B) := hXS.cell 3; have x4 : wS.cell? ⟨w3.heap.size, 4, none⟩ = some (.int .i64 o.C) := hXS.cell 4; have x5 : wS.cell? ⟨w3.heap.size, 5, none⟩ = some (.int .i64 o.D) := hXS.cell 5; have x6 : wS.cell? ⟨w3.heap.size, 6, none⟩ = some (.int .i64 o.N) := hXS.cell 6; have x7 : wS.cell? ⟨w3.heap.size, 7, none⟩ = some (.int .i64 o.M) := hXS.cell 7; have d0 : wS.cell? ⟨w.heap.size, 0, none⟩ = some (.int .i64 o.ID) := hOS.cell 0; have d1 : wS.cell? ⟨w.heap.size, 1, none⟩ = some (.int .i64 o.K) := hOS.cell 1; have d2 : wS.cell? ⟨w.heap.size, 2, none⟩ = some (.int .i64 o.A) := hOS.cell 2; have d3 : wS.cell? ⟨w.heap.size, 3, none⟩ = some (.int .i64 o.B) := hOS.cell 3; have d4 : wS.cell? ⟨w.heap.size, 4, none⟩ = some (.int .i64 o.C) := hOS.cell 4; have d5 : wS.cell? ⟨w.heap.size, 5, none⟩ = some (.int .i64 o.D) := hOS.cell 5; have d6 : wS.cell? ⟨w.heap.size, 6, none⟩ = some (.int .i64 o.N) := hOS.cell 6; have d7 : wS.cell? ⟨w.heap.size, 7, none⟩ = some (.int .i64 o.M) := hOS.cell 7))
      clear x0 x1 x2 x3 x4 x5 x6 x7
      clear d0 d1 d2 d3 d4 d5 d6 d7
      have hYS := hY.later hDS
      have hPS := hPD.later hDS
      have hso := fun W => sameOp_any o o W
      rw [show sameO o o = true from (sameO_iff o o).2 rfl] at hso
      go_wp2_with (go_at_call 16; refine (hso _).mono ?_; rintro e wT ⟨rfl, hbT⟩; have hYT := hYS.later hbT; have hOT := hOS.later hbT; have y0 : wT.cell? ⟨wC.heap.size, 0, none⟩ = some (.int .i64 o.ID) := hYT.cell 0; have y1 : wT.cell? ⟨wC.heap.size, 1, none⟩ = some (.int .i64 o.K) := hYT.cell 1; have y2 : wT.cell? ⟨wC.heap.size, 2, none⟩ = some (.int .i64 o.A) := hYT.cell 2; have y3 : wT.cell? ⟨wC.heap.size, 3, none⟩ = some (.int .i64 o.B) := hYT.cell 3; have y4 : wT.cell? ⟨wC.heap.size, 4, none⟩ = some (.int .i64 o.C) := hYT.cell 4; have y5 : wT.cell? ⟨wC.heap.size, 5, none⟩ = some (.int .i64 o.D) := hYT.cell 5; have y6 : wT.cell? ⟨wC.heap.size, 6, none⟩ = some (.int .i64 o.N) := hYT.cell 6; have y7 : wT.cell? ⟨wC.heap.size, 7, none⟩ = some (.int .i64 o.M) := hYT.cell 7; have d0 : wT.cell? ⟨w.heap.size, 0, none⟩ = some (.int .i64 o.ID) := hOT.cell 0; have d1 : wT.cell? ⟨w.heap.size, 1, none⟩ = some (.int .i64 o.K) := hOT.cell 1; have d2 : wT.cell? ⟨w.heap.size, 2, none⟩ = some (.int .i64 o.A) := hOT.cell 2; have d3 : wT.cell? ⟨w.heap.size, 3, none⟩ = some (.int .i64 o.B) := hOT.cell 3; have d4 : wT.cell? ⟨w.heap.size, 4, none⟩ = some (.int .i64 o.C) := hOT.cell 4; have d5 : wT.cell? ⟨w.heap.size, 5, none⟩ = some (.int .i64 o.D) := hOT.cell 5; have d6 : wT.cell? ⟨w.heap.size, 6, none⟩ = some (.int .i64 o.N) := hOT.cell 6; have d7 : wT.cell? ⟨w.heap.size, 7, none⟩ = some (.int .i64 o.M) := hOT.cell 7)
      clear y0 y1 y2 y3 y4 y5 y6 y7
      clear d0 d1 d2 d3 d4 d5 d6 d7
      have hPT := hPS.later hbT
      go_wp2_with (go_at_call 16; refine (hso _).mono ?_; rintro e wU ⟨rfl, hbU⟩; have hPU := hPT.later hbU; have q0 : wU.cell? ⟨w.heap.size + 1, 0, none⟩ = some (.int .i64 p.ID) := hPU.cell 0; have q1 : wU.cell? ⟨w.heap.size + 1, 1, none⟩ = some (.int .i64 p.K) := hPU.cell 1; have q2 : wU.cell? ⟨w.heap.size + 1, 2, none⟩ = some (.int .i64 p.A) := hPU.cell 2; have q3 : wU.cell? ⟨w.heap.size + 1, 3, none⟩ = some (.int .i64 p.B) := hPU.cell 3; have q4 : wU.cell? ⟨w.heap.size + 1, 4, none⟩ = some (.int .i64 p.C) := hPU.cell 4; have q5 : wU.cell? ⟨w.heap.size + 1, 5, none⟩ = some (.int .i64 p.D) := hPU.cell 5; have q6 : wU.cell? ⟨w.heap.size + 1, 6, none⟩ = some (.int .i64 p.N) := hPU.cell 6; have q7 : wU.cell? ⟨w.heap.size + 1, 7, none⟩ = some (.int .i64 p.M) := hPU.cell 7)
      clear q0 q1 q2 q3 q4 q5 q6 q7
      have hOU := hOT.later hbU
      have hDU : Below WD.heap.size WD wU := Later.trans hDS (Later.trans hbT hbU)
      have gU := gD.later hDU
      have hRdU := hRdD.later hDU
      have hb1U := Later.trans hbC1 hDU
      clear hsm hso hX hY hXS hYS hYT hPS hPT
      by_cases hp : validC p = 0
      · have hbb := bytes_good p gU hp
        have hple := bytes_le p hp
        have htp := fun W (gW : GW W E) => text_good p gW hp
        have hse : Hid (∃ sm : Bool, sameO o p = sm ∧ decide (bytesL o = bytesL p) = sm ∧ ((textB p).toList == T.toList) = sm) := by
          unfold Hid
          by_cases hop : o = p
          · refine ⟨true, (sameO_iff o p).2 hop, by rw [hop]; simp, ?_⟩
            rw [← HT.out, hop]
            simp
          · refine ⟨false, ?_, ?_, ?_⟩
            · rw [Bool.eq_false_iff]
              exact fun h => hop ((sameO_iff o p).1 h)
            · simp only [decide_eq_false_iff_not]
              exact fun h => hop (bytesL_inj o p H.out hp h)
            · rw [beq_eq_false_iff_ne]
              intro h
              rw [← HT.out, blist, blist] at h
              exact hop (parts_of_text H.out hp (bytes_inj h.symm))
        have HTP := Lib.hid htp
        clear hp htp
        go_wp2_with (go_at_call 10; refine hbb.mono ?_; rintro e wV ⟨v5, rfl, hown5, hbV⟩; have hPV := hPU.later hbV; have hOV := hOU.later hbV; have q0 : wV.cell? ⟨w.heap.size + 1, 0, none⟩ = some (.int .i64 p.ID) := hPV.cell 0; have q1 : wV.cell? ⟨w.heap.size + 1, 1, none⟩ = some (.int .i64 p.K) := hPV.cell 1; have q2 : wV.cell? ⟨w.heap.size + 1, 2, none⟩ = some (.int .i64 p.A) := hPV.cell 2; have q3 : wV.cell? ⟨w.heap.size + 1, 3, none⟩ = some (.int .i64 p.B) := hPV.cell 3; have q4 : wV.cell? ⟨w.heap.size + 1, 4, none⟩ = some (.int .i64 p.C) := hPV.cell 4; have q5 : wV.cell? ⟨w.heap.size + 1, 5, none⟩ = some (.int .i64 p.D) := hPV.cell 5; have q6 : wV.cell? ⟨w.heap.size + 1, 6, none⟩ = some (.int .i64 p.N) := hPV.cell 6; have q7 : wV.cell? ⟨w.heap.size + 1, 7, none⟩ = some (.int .i64 p.M) := hPV.cell 7; have d0 : wV.cell? ⟨w.heap.size, 0, none⟩ = some (.int .i64 o.ID) := hOV.cell 0; have d1 : wV.cell? ⟨w.heap.size, 1, none⟩ = some (.int .i64 o.K) := hOV.cell 1; have d2 : wV.cell? ⟨w.heap.size, 2, none⟩ = some (.int .i64 o.A) := hOV.cell 2; have d3 : wV.cell? ⟨w.heap.size, 3, none⟩ = some (.int .i64 o.B) := hOV.cell 3; have d4 : wV.cell? ⟨w.heap.size, 4, none⟩ = some (.int .i64 o.C) := hOV.cell 4; have d5 : wV.cell? ⟨w.heap.size, 5, none⟩ = some (.int .i64 o.D) := hOV.cell 5; have d6 : wV.cell? ⟨w.heap.size, 6, none⟩ = some (.int .i64 o.N) := hOV.cell 6; have d7 : wV.cell? ⟨w.heap.size, 7, none⟩ = some (.int .i64 o.M) := hOV.cell 7)
        clear q0 q1 q2 q3 q4 q5 q6 q7
        clear d0 d1 d2 d3 d4 d5 d6 d7
        have hsop := sameOp_any o p wV
        obtain ⟨sm, hs1, hs2, hs3⟩ := hse.out
        rw [hs1] at hsop
        have HS3 := Lib.hid hs3
        have HS2 := Lib.hid hs2
        clear hs1 hs2 hs3 hbb
        go_wp2_with (go_at_call 16; refine hsop.mono ?_; rintro e wX ⟨rfl, hbX⟩)
        have hbUX := Later.trans hbV hbX
        have hsb := sameBytes_any _ v5 (bytesL o) (bytesL p) (by omega) (by omega) (hRdU.later hbUX) ((rd_own hown5).later hbX)
        rw [HS2.out] at hsb
        have hPX := hPV.later hbX
        have hs4 : ((textB p).toList == T.toList) = sm := HS3.out
        generalize textB p = Tp at hs4 HTP
        have gX := gU.later hbUX
        have heq : (sm == sm) = true := by simp
        go_wp2_with (first | (go_at_call 17; refine hsb.mono ?_; rintro e wY ⟨rfl, hbY⟩; have hPY := hPX.later hbY; have gY := gX.later hbY; have q0 : wY.cell? ⟨w.heap.size + 1, 0, none⟩ = some (.int .i64 p.ID) := hPY.cell 0; have q1 : wY.cell? ⟨w.heap.size + 1, 1, none⟩ = some (.int .i64 p.K) := hPY.cell 1; have q2 : wY.cell? ⟨w.heap.size + 1, 2, none⟩ = some (.int .i64 p.A) := hPY.cell 2; have q3 : wY.cell? ⟨w.heap.size + 1, 3, none⟩ = some (.int .i64 p.B) := hPY.cell 3; have q4 : wY.cell? ⟨w.heap.size + 1, 4, none⟩ = some (.int .i64 p.C) := hPY.cell 4; have q5 : wY.cell? ⟨w.heap.size + 1, 5, none⟩ = some (.int .i64 p.D) := hPY.cell 5; have q6 : wY.cell? ⟨w.heap.size + 1, 6, none⟩ = some (.int .i64 p.N) := hPY.cell 6; have q7 : wY.cell? ⟨w.heap.size + 1, 7, none⟩ = some (.int .i64 p.M) := hPY.cell 7) | (go_at_call 13; refine (HTP.out _ gY).mono ?_; rintro e wZ ⟨rfl, hbZ⟩))
        go_returns
        exact ⟨rfl, Later.trans hw1 (Later.trans hb1U (Later.trans hbUX (Later.trans hbY hbZ)))⟩
      · have hbb := bytes_bad p gU hp
        have hc := validC_code p
        rw [errV_iface E (show 101 ≤ validC p by omega)] at hbb
        generalize validC p = cp at hbb
        clear hp hc
        go_wp2_with (go_at_call 10; refine hbb.mono ?_; rintro e wV ⟨rfl, hbV⟩)
        go_returns
        exact ⟨rfl, Later.trans hw1 (Later.trans hb1U hbV)⟩
theorem back_any (o p : O) (cut : Int) {w : World} {E : Nat → Addr} (g : GW w E) :
    Calls Tryd.prog 4 #[o.v, p.v, .int .i64 cut] w fun e w' => e = .returned (.bool true) ∧ Below w.heap.size w w' := by
  by_cases h : validC o = 0
  · exact back_good o p cut g h
  · exact back_bad o p cut g h
end Go.Proofs.YtcgdgopjomilnaaDoor
