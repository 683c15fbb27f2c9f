/-
  Numbers read from bytes, and an operation read from bytes: what is amiss, or the operation (plain law).
-/
import Derived.Test.YtcgdgopjomilnaaDoorWr2
import Derived.Test.YtcgdgopjomilnaaDoorOp6
namespace Go.Proofs.YtcgdgopjomilnaaDoor
open Go Go.RowKit

/-- A number of bytes, from the i-th on, where those ahead say a: what is amiss, or the number and how many bytes it has. -/
def rdN : List Nat → Nat → Nat → Except Nat (Nat × Nat)
  | [], _, _ => .error 101
  | c :: r, i, a =>
    if i = 9 ∧ 1 < c then .error 102 else
    if 128 ≤ c then rdN r (i + 1) (a + c % 128 * 128 ^ i) else
    if c = 0 ∧ 0 < i then .error 102 else .ok (a + c % 128 * 128 ^ i, i + 1)

theorem rdN_vl (r : List Nat) : ∀ (n m i a : Nat), m ≤ n → a + m * 128 ^ i < 18446744073709551616 → (i = 0 ∨ 0 < m) → rdN (vl m ++ r) i a = .ok (a + m * 128 ^ i, i + (vl m).length) := by
  intro n
  induction n with
  | zero =>
    intro m i a hm hb h
    obtain rfl : m = 0 := by omega
    obtain rfl : i = 0 := by omega
    rw [vl_lo (by omega)]
    simp [rdN]
  | succ n ih =>
    intro m i a hm hb h
    by_cases hlt : m < 128
    · rw [vl_lo hlt]
      have h9 : i = 9 → m ≤ 1 := by
        rintro rfl
        omega
      simp only [List.cons_append, List.nil_append, rdN, List.length_cons, List.length_nil]
      rw [if_neg (by omega), if_neg (by omega), if_neg (by omega), Nat.mod_eq_of_lt hlt]
    · rw [vl_hi hlt]
      have h9 : i ≠ 9 := by
        rintro rfl
        omega
      simp only [List.cons_append, rdN, List.length_cons]
      rw [if_neg (by omega), if_pos (by omega)]
      have e1 : (m % 128 + 128) % 128 = m % 128 := by omega
      have e2 : a + m % 128 * 128 ^ i + m / 128 * 128 ^ (i + 1) = a + m * 128 ^ i := by
        rw [Nat.pow_succ, Nat.add_assoc, Nat.mul_comm (128 ^ i) 128, ← Nat.mul_assoc, ← Nat.add_mul]
        congr 2
        omega
      rw [e1, ih (m / 128) (i + 1) _ (by omega) (by omega) (by omega), e2]
      congr 2
      omega

theorem rdN_short : ∀ (n m i a k : Nat), m ≤ n → m * 128 ^ i < 18446744073709551616 → k < (vl m).length → rdN ((vl m).take k) i a = .error 101 := by
  intro n
  induction n with
  | zero =>
    intro m i a k hm hb hk
    obtain rfl : m = 0 := by omega
    rw [vl_lo (by omega)] at hk ⊢
    simp at hk
    subst hk
    rfl
  | succ n ih =>
    intro m i a k hm hb hk
    by_cases hlt : m < 128
    · rw [vl_lo hlt] at hk ⊢
      simp at hk
      subst hk
      rfl
    · rw [vl_hi hlt] at hk ⊢
      cases k with
      | zero => rfl
      | succ k =>
        have h9 : i ≠ 9 := by
          rintro rfl
          omega
        simp only [List.take_succ_cons, rdN]
        rw [if_neg (by omega), if_pos (by omega)]
        refine ih (m / 128) (i + 1) _ k (by omega) ?_ (by simpa using hk)
        rw [Nat.pow_succ, Nat.mul_comm (128 ^ i) 128, ← Nat.mul_assoc]
        exact Nat.lt_of_le_of_lt (Nat.mul_le_mul_right _ (by omega)) hb

def unzig (z : Nat) : Int := if z % 2 = 0 then ((z / 2 : Nat) : Int) else -((z / 2 : Nat) : Int) - 1
/-- One number read: what it says, where the reader stands, what is amiss. -/
def numR (l : List Nat) (lo hi : Int) (s : Nat × Er) : Int × (Nat × Er) :=
  match s.2 with
  | .none => match rdN (l.drop s.1) 0 0 with
    | .error c => (0, (s.1, .at s.1 c))
    | .ok (z, k) => if unzig z < lo ∨ hi < unzig z then (0, (s.1, .at s.1 103)) else (unzig z, (s.1 + k, .none))
  | _ => (0, s)
def runR (l : List Nat) : Nat → (Nat × Er) → List Int × (Nat × Er)
  | 0, s => ([], s)
  | k + 1, s => let r := numR l 0 4611686018427387904 s; let t := runR l k r.2; (r.1 :: t.1, t.2)
theorem runR_succ (l : List Nat) : ∀ (k : Nat) (s : Nat × Er), runR l (k + 1) s = ((runR l k s).1 ++ [(numR l 0 4611686018427387904 (runR l k s).2).1], (numR l 0 4611686018427387904 (runR l k s).2).2) := by
  intro k
  induction k with
  | zero => intro s; rfl
  | succ k ih =>
    intro s
    rw [show runR l (k + 1 + 1) s = ((numR l 0 4611686018427387904 s).1 :: (runR l (k + 1) (numR l 0 4611686018427387904 s).2).1, (runR l (k + 1) (numR l 0 4611686018427387904 s).2).2) from rfl, ih]
    rfl
theorem runR_len (l : List Nat) : ∀ (k : Nat) (s : Nat × Er), (runR l k s).1.length = k := by
  intro k
  induction k with
  | zero => intro s; rfl
  | succ k ih => intro s; simp [runR, ih]
theorem numR_bad (l : List Nat) (lo hi : Int) (s : Nat × Er) (h : s.2 ≠ .none) : numR l lo hi s = (0, s) := by
  unfold numR
  split
  · contradiction
  · rfl
theorem runR_bad (l : List Nat) : ∀ (k : Nat) (s : Nat × Er), s.2 ≠ .none → (runR l k s).2 = s := by
  intro k
  induction k with
  | zero => intro s _; rfl
  | succ k ih =>
    intro s h
    simp only [runR]
    rw [numR_bad l _ _ s h]
    exact ih s h
def enc (ns : List Int) : List Nat := (ns.map fun (n : Int) => vl (2 * n.toNat)).flatten
theorem enc_cons (n : Int) (ns : List Int) : enc (n :: ns) = vl (2 * n.toNat) ++ enc ns := rfl
theorem unzig_two (n : Nat) : unzig (2 * n) = n := by
  unfold unzig
  rw [if_pos (by omega)]
  congr 1
  omega
theorem numR_enc (l : List Nat) (s : Nat × Er) (n : Int) (r : List Nat) (hs : s.2 = .none) (h0 : 0 ≤ n) (h1 : n ≤ 4611686018427387904) (hl : l.drop s.1 = vl (2 * n.toNat) ++ r) :
    numR l 0 4611686018427387904 s = (n, (s.1 + (vl (2 * n.toNat)).length, .none)) := by
  unfold numR
  rw [hs]
  simp only [hl]
  rw [rdN_vl r _ (2 * n.toNat) 0 0 (Nat.le_refl _) (by omega) (.inl rfl)]
  simp only [Nat.pow_zero, Nat.mul_one, Nat.zero_add]
  rw [unzig_two, if_neg (by omega)]
  congr 1
  omega
theorem runR_enc (l : List Nat) : ∀ (ns : List Int) (s : Nat × Er) (r : List Nat), s.2 = .none → (∀ n ∈ ns, 0 ≤ n ∧ n ≤ 4611686018427387904) → l.drop s.1 = enc ns ++ r →
    runR l ns.length s = (ns, (s.1 + (enc ns).length, .none)) := by
  intro ns
  induction ns with
  | nil => intro s r hs _ _; obtain ⟨a, e⟩ := s; simp only at hs; subst hs; rfl
  | cons n ns ih =>
    intro s r hs hn hl
    rw [enc_cons, List.append_assoc] at hl
    have h1 := numR_enc l s n _ hs (hn n (by simp)).1 (hn n (by simp)).2 hl
    simp only [List.length_cons, runR]
    rw [h1]
    have h2 := ih (s.1 + (vl (2 * n.toNat)).length, .none) r rfl (fun m hm => hn m (by simp [hm])) (by
      simp only
      rw [← List.drop_drop, hl, List.drop_left])
    rw [h2]
    simp only [enc_cons, List.length_append, Nat.add_assoc]
theorem runR_cut (l : List Nat) : ∀ (ns : List Int) (s : Nat × Er) (c : Nat), s.2 = .none → (∀ n ∈ ns, 0 ≤ n ∧ n ≤ 4611686018427387904) → l.drop s.1 = (enc ns).take c → c < (enc ns).length →
    (runR l ns.length s).2.2 ≠ .none := by
  intro ns
  induction ns with
  | nil => intro s c _ _ _ hc; simp [enc] at hc
  | cons n ns ih =>
    intro s c hs hn hl hc
    have hn1 := hn n (by simp)
    simp only [List.length_cons, runR]
    by_cases hk : c < (vl (2 * n.toNat)).length
    · have h1 : numR l 0 4611686018427387904 s = (0, (s.1, .at s.1 101)) := by
        unfold numR
        rw [hs]
        simp only [hl]
        rw [enc_cons, List.take_append_of_le_length (by omega), rdN_short _ (2 * n.toNat) 0 0 c (Nat.le_refl _) (by omega) hk]
      rw [h1, runR_bad l _ _ (by simp)]
      simp
    · rw [enc_cons, List.take_append] at hl
      rw [List.take_of_length_le (by omega)] at hl
      rw [numR_enc l s n _ hs hn1.1 hn1.2 hl]
      refine ih (s.1 + (vl (2 * n.toNat)).length, .none) (c - (vl (2 * n.toNat)).length) rfl (fun m hm => hn m (by simp [hm])) ?_ ?_
      · simp only
        rw [← List.drop_drop, hl, List.drop_left]
      · rw [enc_cons, List.length_append] at hc
        omega
theorem vl_len' (d : Nat) : ∀ z, z < 128 ^ d → 0 < d → (vl z).length ≤ d := by
  induction d with
  | zero => intro z h hz; omega
  | succ d ih =>
    intro z h _
    by_cases hz : z < 128
    · rw [vl_lo hz]; simp
    · rw [vl_hi hz]
      have hd : 0 < d := by
        rcases Nat.eq_zero_or_pos d with h0 | h0
        · subst h0; simp at h; omega
        · exact h0
      have := ih (z / 128) (by rw [Nat.pow_succ] at h; omega) hd
      simp; omega
def allF (o : O) : List Int := [o.ID, o.K, o.A, o.B, o.C, o.D, o.N, o.M]
theorem valid_all (o : O) (h : validC o = 0) : ∀ n ∈ allF o, 0 ≤ n ∧ n ≤ 4611686018427387904 := by
  have hf := valid_fields o h
  have h0 : 0 ≤ o.A ∧ o.A ≤ 1000000000000000 := hf 0 (by omega)
  have h1 : 0 ≤ o.B ∧ o.B ≤ 1000000000000000 := hf 1 (by omega)
  have h2 : 0 ≤ o.C ∧ o.C ≤ 1000000000000000 := hf 2 (by omega)
  have h3 : 0 ≤ o.D ∧ o.D ≤ 1000000000000000 := hf 3 (by omega)
  have h4 : 0 ≤ o.N ∧ o.N ≤ 1000000000000000 := hf 4 (by omega)
  have h5 : 0 ≤ o.M ∧ o.M ≤ 1000000000000000 := hf 5 (by omega)
  have hid : 1 ≤ o.ID ∧ o.ID ≤ 1099511627776 ∧ 1 ≤ o.K ∧ o.K ≤ 16 := by
    unfold validC at h
    split at h
    · cases h
    · split at h
      · cases h
      · omega
  intro n hn
  simp only [allF, List.mem_cons, List.not_mem_nil, or_false] at hn
  rcases hn with rfl | rfl | rfl | rfl | rfl | rfl | rfl | rfl <;> omega
def bytesL (o : O) : List Nat := enc (allF o)
def ofL (x : List Int) : O := ⟨x.getD 0 0, x.getD 1 0, x.getD 2 0, x.getD 3 0, x.getD 4 0, x.getD 5 0, x.getD 6 0, x.getD 7 0⟩
def readQ (n : Nat) (r : List Int × (Nat × Er)) : O × Er :=
  match r.2.2 with
  | .none => if r.2.1 < n then (.zero, .at r.2.1 102) else if validC (ofL r.1) = 0 then (ofL r.1, .none) else (.zero, .code (validC (ofL r.1)))
  | e => (.zero, e)
def readP (l : List Nat) : O × Er := if 256 < l.length then (.zero, .code 105) else readQ l.length (runR l 8 (0, .none))
theorem enc_len : ∀ ns : List Int, (∀ n ∈ ns, 0 ≤ n ∧ n ≤ 4611686018427387904) → (enc ns).length ≤ 10 * ns.length := by
  intro ns
  induction ns with
  | nil => intro _; simp [enc]
  | cons n ns ih =>
    intro h
    have h1 := h n (by simp)
    have h2 := ih fun m hm => h m (by simp [hm])
    have h3 := vl_len' 10 (2 * n.toNat) (by omega) (by omega)
    rw [enc_cons, List.length_append, List.length_cons]
    omega
theorem readP_bytes (o : O) (h : validC o = 0) : readP (bytesL o) = (o, .none) := by
  have hb := valid_all o h
  have hl := enc_len _ hb
  have h8 : (allF o).length = 8 := rfl
  rw [h8] at hl
  have hr := runR_enc (bytesL o) (allF o) (0, .none) [] rfl hb (by simp [bytesL])
  rw [h8] at hr
  unfold readP
  rw [if_neg (by unfold bytesL; omega)]
  rw [hr]
  simp only [readQ, Nat.zero_add]
  rw [if_neg (by unfold bytesL; omega)]
  have : ofL (allF o) = o := rfl
  rw [this, if_pos h]
theorem readP_zero (o : O) (h : validC o = 0) : readP (bytesL o ++ [0]) = (.zero, .at (bytesL o).length 102) := by
  have hb := valid_all o h
  have hl := enc_len _ hb
  have h8 : (allF o).length = 8 := rfl
  rw [h8] at hl
  have hr := runR_enc (bytesL o ++ [0]) (allF o) (0, .none) [0] rfl hb (by simp [bytesL])
  rw [h8] at hr
  unfold readP
  rw [if_neg (by simp [bytesL]; omega)]
  rw [hr]
  simp only [readQ, Nat.zero_add]
  rw [if_pos (by simp [bytesL])]
  rfl
theorem readP_cut (o : O) (h : validC o = 0) (c : Nat) (hc : c < (bytesL o).length) : (readP ((bytesL o).take c)).2 ≠ .none := by
  have hb := valid_all o h
  have hl := enc_len _ hb
  have h8 : (allF o).length = 8 := rfl
  rw [h8] at hl
  have hr := runR_cut ((bytesL o).take c) (allF o) (0, .none) c rfl hb (by simp [bytesL]) hc
  rw [h8] at hr
  unfold readP
  rw [if_neg (by unfold bytesL at *; simp; omega)]
  generalize runR ((bytesL o).take c) 8 (0, .none) = r at hr
  obtain ⟨x, a, e⟩ := r
  cases e with
  | none => exact absurd rfl hr
  | code c => simp [readQ]
  | «at» p c => simp [readQ]
theorem bytesL_inj (o p : O) (ho : validC o = 0) (hp : validC p = 0) (h : bytesL o = bytesL p) : o = p := by
  have h1 := readP_bytes o ho
  rw [h, readP_bytes p hp] at h1
  exact ((Prod.mk.inj h1).1).symm
end Go.Proofs.YtcgdgopjomilnaaDoor
