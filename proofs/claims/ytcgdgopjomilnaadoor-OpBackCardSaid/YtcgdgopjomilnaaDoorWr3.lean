/-
  Numbers behind bytes: wire.Put; an operation's bytes.
-/
import Derived.Test.YtcgdgopjomilnaaDoorSl
import Derived.Test.YtcgdgopjomilnaaDoorRd1
import Derived.Deep.RegionWith
namespace Go.Proofs.YtcgdgopjomilnaaDoor
open Go Go.RowKit

def i64s (l : List Int) : List Value := l.map fun (n : Int) => .int .i64 n
theorem enc_snoc (ns : List Int) (k : Nat) (h : k < ns.length) : enc (ns.take (k + 1)) = enc (ns.take k) ++ vl (2 * (ns.getD k 0).toNat) := by
  have : ns.getD k 0 = ns[k] := by simp [List.getD, h]
  rw [List.take_succ_eq_append_getElem h, this]
  simp only [enc, List.map_append, List.flatten_append, List.map_cons, List.map_nil, List.flatten_cons, List.flatten_nil, List.append_nil]
theorem take_mem {ns : List Int} {k : Nat} {P : Int → Prop} (h : ∀ n ∈ ns, P n) : ∀ n ∈ ns.take k, P n := fun n hn => h n (List.mem_of_mem_take hn)
theorem u8s_app (a b : List Nat) : u8s (a ++ b) = u8s a ++ u8s b := by simp [u8s]
theorem i64s_at {l : List Int} {j : Nat} (h : j < l.length) : (i64s l)[j]? = some (.int .i64 (l.getD j 0)) := by simp [i64s, h]

set_option maxRecDepth 100000 in
set_option maxHeartbeats 1000000 in
theorem wput_any (v : Value) (xs : List Value) (b off c : Nat) (ns : List Int) (hn : ∀ n ∈ ns, 0 ≤ n ∧ n < 4611686018427387904) (hlen : xs.length ≤ 1000000000) (hlen2 : ns.length ≤ 1000) {w : World}
    (hv : Rd w v xs) (h1 : ∀ u ∈ xs, u.oneCell' = true) (hl : ∀ j, j < ns.length → w.cell? ⟨b, off + j, none⟩ = some (.int .i64 (ns.getD j 0))) :
    Calls Tryd.prog 27 #[v, .slice (some ⟨b, off, none⟩) ns.length c] w fun e w' => ∃ v', e = .returned v' ∧
      w'.ownsRow w.heap.size 5 1 v' (xs.length + (enc ns).length) (xs ++ u8s (enc ns)) ∧ Below w.heap.size w w' := by
  have hcl := clone_rd v xs (by omega) hv h1
  clear hv
  go_enter Tryd.func27, Tryd.ntmps27
  go_wp2_with (go_at_call 43; refine hcl.mono ?_; rintro e w1 ⟨v1, rfl, hown1, hb1⟩)
  go_loopw [0, 11] (fun u i wr => ∃ k : Nat, k ≤ ns.length ∧ i = .int .i64 k ∧ wr.ownsRow w.heap.size 5 1 u (xs.length + (enc (ns.take k)).length) (xs ++ u8s (enc (ns.take k))) ∧ Below w.heap.size w wr) (fun _ i _ => ns.length - (intOf i).toNat)
  case atStart => exact ⟨0, by omega, rfl, by simpa [enc, u8s] using hown1, hb1⟩
  case round =>
    obtain ⟨k, hk, rfl, hown, hb⟩ := hrel
    by_cases hlt : k < ns.length
    · have ck := Later.cell hb (hl k hlt)
      have hnk := hn _ (List.getElem_mem hlt)
      have e : ns.getD k 0 = ns[k] := by simp [List.getD, hlt]
      rw [← e] at hnk
      have hsn := enc_snoc ns k hlt
      have hel := enc_len (ns.take k) (take_mem fun n h => ⟨(hn n h).1, by have := (hn n h).2; omega⟩)
      have hkl : (ns.take k).length ≤ 1000 := by simp; omega
      clear e hl hn hcl hown1 hb1
      obtain ⟨m, hm⟩ := Int.eq_ofNat_of_zero_le hnk.1
      rw [hm] at ck hnk hsn
      clear hm
      rw [Int.toNat_natCast] at hsn
      have HSN := Lib.hid hsn
      clear hsn
      have hput := put_any w.heap.size u0 _ _ m (by omega) (by omega) hb.size hown
      have hkn : (k : Int) < (ns.length : Int) := by omega
      go_wp2_with (go_at_call 44; refine hput.mono ?_; rintro e w2 ⟨v2, rfl, hown2, hb2⟩)
      go_roundw
      case rel => exact ⟨k + 1, by omega, by go_num, by rw [HSN.out, List.length_append, u8s_app, ← Nat.add_assoc, ← List.append_assoc]; exact hown2, hb.trans hb2⟩
      case measure => simp [intOf]; omega
    · have hkn : ¬ (k : Int) < (ns.length : Int) := by omega
      have hk' : k = ns.length := by omega
      have HK := Lib.hid hk'
      clear hk'
      go_wp2_with fail
      go_returns
      exact ⟨u0, rfl, by have := hown; rw [HK.out, List.take_length] at this; exact this, hb⟩

theorem fields_rd (o : O) (w : World) :
    Calls Tryd.prog 28 #[o.v] w fun e w' => ∃ b, e = .returned (.slice (some ⟨b, 0, none⟩) 6 6) ∧ Blk w' b 2 #[.int .i64 o.A, .int .i64 o.B, .int .i64 o.C, .int .i64 o.D, .int .i64 o.N, .int .i64 o.M] ∧ Below w.heap.size w w' := by
  refine (fields_any o w).mono ?_
  rintro e w' ⟨rfl, rfl⟩
  exact ⟨_, rfl, Blk.new' (by simp) _ _, Later.alloc (later_alloc _ _) _⟩
theorem wput_two (b c : Nat) (x y : Int) (hx : 0 ≤ x ∧ x < 4611686018427387904) (hy : 0 ≤ y ∧ y < 4611686018427387904) {w : World} {t : TypeId} (hB : Blk w b t #[.int .i64 x, .int .i64 y]) :
    Calls Tryd.prog 27 #[.slice none 0 0, .slice (some ⟨b, 0, none⟩) 2 c] w fun e w' => ∃ v', e = .returned v' ∧ Rd w' v' (u8s (enc [x, y])) ∧ Below w.heap.size w w' := by
  refine (wput_any (.slice none 0 0) [] b 0 c [x, y] (by intro n hn; simp at hn; rcases hn with rfl | rfl <;> assumption) (by simp) (by simp) (rd_nil w) (by simp) (fun j hj => ?_)).mono ?_
  · rw [Nat.zero_add, hB.cell]
    have : j = 0 ∨ j = 1 := by simp at hj; omega
    rcases this with rfl | rfl <;> rfl
  · rintro e w' ⟨v', rfl, hown, hb⟩
    exact ⟨v', rfl, rd_own hown, hb⟩
theorem wput_six (v : Value) (o : O) (l : List Nat) (hl : l.length ≤ 1000) (b c : Nat) (h : validC o = 0) {w : World} {t : TypeId} (hv : Rd w v (u8s l)) (hB : Blk w b t #[.int .i64 o.A, .int .i64 o.B, .int .i64 o.C, .int .i64 o.D, .int .i64 o.N, .int .i64 o.M]) :
    Calls Tryd.prog 27 #[v, .slice (some ⟨b, 0, none⟩) 6 c] w fun e w' => ∃ v', e = .returned v' ∧ w'.ownsRow w.heap.size 5 1 v' (l ++ enc [o.A, o.B, o.C, o.D, o.N, o.M]).length (u8s (l ++ enc [o.A, o.B, o.C, o.D, o.N, o.M])) ∧ Below w.heap.size w w' := by
  have ha := valid_all o h
  have hll : (u8s l).length = l.length := by simp [u8s]
  refine (wput_any v (u8s l) b 0 c [o.A, o.B, o.C, o.D, o.N, o.M] (fun n hn => ?_) (by omega) (by simp) hv (u8s_one l) (fun j hj => ?_)).mono ?_
  · have := ha n (by simp only [allF, List.mem_cons] at hn ⊢; rcases hn with h | h | h | h | h | h | h <;> simp [h])
    have hf := valid_fields o h
    have h0 : o.A ≤ 1000000000000000 := (hf 0 (by omega)).2
    have h1 : o.B ≤ 1000000000000000 := (hf 1 (by omega)).2
    have h2 : o.C ≤ 1000000000000000 := (hf 2 (by omega)).2
    have h3 : o.D ≤ 1000000000000000 := (hf 3 (by omega)).2
    have h4 : o.N ≤ 1000000000000000 := (hf 4 (by omega)).2
    have h5 : o.M ≤ 1000000000000000 := (hf 5 (by omega)).2
    simp only [List.mem_cons, List.not_mem_nil, or_false] at hn
    omega
  · rw [Nat.zero_add, hB.cell]
    have : j = 0 ∨ j = 1 ∨ j = 2 ∨ j = 3 ∨ j = 4 ∨ j = 5 := by simp at hj; omega
    rcases this with rfl | rfl | rfl | rfl | rfl | rfl <;> rfl
  · rintro e w' ⟨v', rfl, hown, hb⟩
    exact ⟨v', rfl, by rw [u8s_app, List.length_append, ← hll]; exact hown, hb⟩

theorem bytesL_eq (o : O) : bytesL o = enc [o.ID, o.K] ++ enc [o.A, o.B, o.C, o.D, o.N, o.M] := by simp [bytesL, allF, enc]
theorem valid_id_k (o : O) (h : validC o = 0) : (0 ≤ o.ID ∧ o.ID < 4611686018427387904) ∧ (0 ≤ o.K ∧ o.K < 4611686018427387904) := by
  unfold validC at h
  split at h
  · cases h
  · split at h
    · cases h
    · omega
theorem own_base {w : World} {base base' n size : Nat} {e : TypeId} {v : Value} {xs : List Value} (h : w.ownsRow base e size v n xs) (hb : base' ≤ base) : w.ownsRow base' e size v n xs := by
  refine ⟨h.1, ?_⟩
  rcases h.2 with h | ⟨g, cap, cur, rfl, h1, h2⟩
  · exact .inl h
  · exact .inr ⟨g, cap, cur, rfl, Nat.le_trans hb h1, h2⟩
theorem enc2_len (o : O) (h : validC o = 0) : (enc [o.ID, o.K]).length ≤ 1000 := by
  have := valid_id_k o h
  have := enc_len [o.ID, o.K] (fun n hn => by simp only [List.mem_cons, List.not_mem_nil, or_false] at hn; rcases hn with rfl | rfl <;> omega)
  simp only [List.length_cons, List.length_nil] at this
  omega

set_option maxRecDepth 100000 in
set_option maxHeartbeats 1000000 in
theorem bytes_good (o : O) {w : World} {E : Nat → Addr} (g : GW w E) (h : validC o = 0) :
    Calls Tryd.prog 10 #[o.v] w fun e w' => ∃ v, e = .returned (.tuple #[v, .nilIface]) ∧ w'.ownsRow w.heap.size 5 1 v (bytesL o).length (u8s (bytesL o)) ∧ Below w.heap.size w w' := by
  have g1 := g.alloc (.cells o.cs 26)
  have hv := valid_any o _ E g1
  have H := Lib.hid h
  rw [h, show errV E 0 = .nilIface from rfl] at hv
  have hB := Blk.new w 26 o.cs
  have hik := valid_id_k o h
  have hlen2 := enc2_len o h
  clear h
  go_enter Tryd.func10, Tryd.ntmps10
  go_wp2_with (go_at_call 24; refine hv.mono ?_; rintro e w1 ⟨rfl, hb1⟩)
  have hB1 := hB.later hb1
  have gg := g1.later hb1
  have hbw : Below w.heap.size w w1 := Later.trans (later_alloc _ _) hb1
  clear hv g1 hB
  have c0 : w1.cell? ⟨w.heap.size, 0, none⟩ = some (.int .i64 o.ID) := hB1.cell 0
  have c1 : w1.cell? ⟨w.heap.size, 1, none⟩ = some (.int .i64 o.K) := hB1.cell 1
  have c2 : w1.cell? ⟨w.heap.size, 2, none⟩ = some (.int .i64 o.A) := hB1.cell 2
  have c3 : w1.cell? ⟨w.heap.size, 3, none⟩ = some (.int .i64 o.B) := hB1.cell 3
  have c4 : w1.cell? ⟨w.heap.size, 4, none⟩ = some (.int .i64 o.C) := hB1.cell 4
  have c5 : w1.cell? ⟨w.heap.size, 5, none⟩ = some (.int .i64 o.D) := hB1.cell 5
  have c6 : w1.cell? ⟨w.heap.size, 6, none⟩ = some (.int .i64 o.N) := hB1.cell 6
  have c7 : w1.cell? ⟨w.heap.size, 7, none⟩ = some (.int .i64 o.M) := hB1.cell 7
  clear hB1
  go_region_held3 (fun W => W.cell? ⟨w.heap.size, 0, none⟩ = some (.int .i64 o.ID) ∧ W.cell? ⟨w.heap.size, 1, none⟩ = some (.int .i64 o.K) ∧ W.cell? ⟨w.heap.size, 2, none⟩ = some (.int .i64 o.A) ∧ W.cell? ⟨w.heap.size, 3, none⟩ = some (.int .i64 o.B) ∧ W.cell? ⟨w.heap.size, 4, none⟩ = some (.int .i64 o.C) ∧ W.cell? ⟨w.heap.size, 5, none⟩ = some (.int .i64 o.D) ∧ W.cell? ⟨w.heap.size, 6, none⟩ = some (.int .i64 o.N) ∧ W.cell? ⟨w.heap.size, 7, none⟩ = some (.int .i64 o.M))
    (first | (refine ⟨Later.cell (w := w1) ?_ c0, Later.cell (w := w1) ?_ c1, Later.cell (w := w1) ?_ c2, Later.cell (w := w1) ?_ c3, Later.cell (w := w1) ?_ c4, Later.cell (w := w1) ?_ c5, Later.cell (w := w1) ?_ c6, Later.cell (w := w1) ?_ c7⟩ <;> (go_grown; done)) | (go_split_ands; refine ⟨Later.cell (by with_reducible assumption) ?_, Later.cell (by with_reducible assumption) ?_, Later.cell (by with_reducible assumption) ?_, Later.cell (by with_reducible assumption) ?_, Later.cell (by with_reducible assumption) ?_, Later.cell (by with_reducible assumption) ?_, Later.cell (by with_reducible assumption) ?_, Later.cell (by with_reducible assumption) ?_⟩ <;> (first | (with_reducible assumption) | go_simp)))
    (first | (go_at_call 28; refine (fields_rd o _).mono ?_; rintro e wf ⟨bf, rfl, hBf, hbf⟩) | (go_at_call 27; (with_reducible refine (wput_two _ _ _ _ hik.1 hik.2 (t := 2) ?_).mono ?_); (first | exact (Blk.new' (by simp) _ _).drew | exact Blk.new' (by simp) _ _ | exact Blk.later (Blk.new' (by simp) _ _).drew (by with_reducible assumption)); rintro e wp ⟨vp, rfl, hRp, hbp⟩) | (go_at_call 27; (with_reducible refine (wput_six _ o (enc [o.ID, o.K]) ?_ _ _ H.out (t := 2) ?_ ?_).mono ?_); exact hlen2; (first | exact hRp | exact hRp.later hbf); (first | exact hBf | exact hBf.later hbp); rintro e wq ⟨vq, rfl, hOq, hbq⟩))
  all_goals
    go_wp2
    go_returns
    have hx : Below w.heap.size w wf := by
      first
      | exact Later.trans hbw (Later.trans (Later.trans (Below.drew (later_alloc _ _)) hbp) hbf)
      | exact Later.trans hbw (Later.trans (Later.trans (later_alloc _ _) hbp) hbf)
    refine ⟨vq, rfl, ?_, Later.trans hx hbq⟩
    rw [bytesL_eq]
    exact own_base hOq hx.size
theorem bytes_bad (o : O) {w : World} {E : Nat → Addr} (g : GW w E) (h : validC o ≠ 0) :
    Calls Tryd.prog 10 #[o.v] w fun e w' => e = .returned (.tuple #[.slice none 0 0, errV E (validC o)]) ∧ Below w.heap.size w w' := by
  have g1 := g.alloc (.cells o.cs 26)
  have hv := valid_any o _ E g1
  have hc := validC_code o
  rw [errV_iface E (show 101 ≤ validC o by omega)] at hv ⊢
  generalize validC o = c at hv
  clear hc h
  go_enter Tryd.func10, Tryd.ntmps10
  go_wp2_with (go_at_call 24; refine hv.mono ?_; rintro e w1 ⟨rfl, hb1⟩)
  go_returns
  exact ⟨rfl, Later.trans (later_alloc _ _) hb1⟩
end Go.Proofs.YtcgdgopjomilnaaDoor
