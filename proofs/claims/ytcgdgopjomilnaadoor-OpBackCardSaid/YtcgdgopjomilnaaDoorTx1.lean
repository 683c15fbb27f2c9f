/-
  A text cut at its blanks; a number's text read back (plain law).
-/
import Derived.Test.YtcgdgopjomilnaaDoorRd1
import Derived.Lib.ItoaLen
import Derived.Lib.ParseIntB
import Derived.Lib.Join
namespace Go.Proofs.YtcgdgopjomilnaaDoor
open Go Go.RowKit

theorem u8dig (d : Nat) (h : d < 10) : (UInt8.ofNat (48 + d)).toNat = 48 + d := by
  have : ∀ d : Fin 10, (UInt8.ofNat (48 + d.val)).toNat = 48 + d.val := by decide
  exact this ⟨d, h⟩
/-- A text cut at its blanks; cur: what stands ahead of the text. -/
def splitR : List UInt8 → List UInt8 → List (List UInt8)
  | [], cur => [cur]
  | c :: r, cur => if c = 32 then cur :: splitR r [] else splitR r (cur ++ [c])
theorem splitR_one : ∀ (x cur r : List UInt8), (∀ c ∈ x, c ≠ 32) → splitR (x ++ r) cur = splitR r (cur ++ x) := by
  intro x
  induction x with
  | nil => intro cur r _; simp
  | cons c x ih =>
    intro cur r h
    rw [List.cons_append, splitR, if_neg (h c (by simp)), ih _ _ (fun d hd => h d (by simp [hd]))]
    simp
theorem splitR_tail : ∀ (l : List (List UInt8)) (cur : List UInt8), (∀ x ∈ l, ∀ c ∈ x, c ≠ 32) → splitR (Lib.joinTail [32] l) cur = cur :: l := by
  intro l
  induction l with
  | nil => intro cur _; rfl
  | cons x l ih =>
    intro cur h
    have e : Lib.joinTail [32] (x :: l) = 32 :: (x ++ Lib.joinTail [32] l) := by simp [Lib.joinTail]
    rw [e, splitR, if_pos rfl, splitR_one x [] _ (h x (by simp)), ih _ (fun y hy => h y (by simp [hy]))]
    simp
theorem splitR_join (x : List UInt8) (l : List (List UInt8)) (h : ∀ y ∈ x :: l, ∀ c ∈ y, c ≠ 32) : splitR (Lib.join (x :: l) [32]) [] = x :: l := by
  rw [Lib.join_cons, splitR_one x [] _ (h x (by simp)), splitR_tail _ _ (fun y hy => h y (by simp [hy]))]
  simp
theorem dec_digit : ∀ (n u : Nat), u ≤ n → ∀ c ∈ Lib.decDigits u, 48 ≤ c.toNat ∧ c.toNat ≤ 57 := by
  intro n
  induction n with
  | zero =>
    intro u hu c hc
    obtain rfl : u = 0 := by omega
    rw [Lib.decDigits_one (by omega)] at hc
    simp at hc
    subst hc
    decide
  | succ n ih =>
    intro u hu c hc
    by_cases h : u < 10
    · rw [Lib.decDigits_one h] at hc
      rw [List.mem_singleton.1 hc, u8dig u h]
      omega
    · rw [Lib.decDigits, dif_neg h] at hc
      rcases List.mem_append.1 hc with hc | hc
      · exact ih (u / 10) (by omega) c hc
      · rw [List.mem_singleton.1 hc, u8dig _ (by omega)]
        omega
theorem parseM_snoc (M : Nat) (c : UInt8) (hc : 48 ≤ c.toNat ∧ c.toNat ≤ 57) : ∀ (l : List UInt8) (acc v : Nat), Lib.parseUintM M acc l = .ok v → v < 1844674407370955162 → v * 10 + (c.toNat - 48) ≤ M →
    Lib.parseUintM M acc (l ++ [c]) = .ok (v * 10 + (c.toNat - 48)) := by
  intro l
  induction l with
  | nil =>
    intro acc v h h1 h2
    simp only [Lib.parseUintM] at h
    injection h with h
    subst h
    simp only [List.nil_append, Lib.parseUintM]
    rw [if_pos hc, if_neg (by omega), if_neg (by omega)]
  | cons d l ih =>
    intro acc v h h1 h2
    simp only [List.cons_append, Lib.parseUintM] at h ⊢
    split at h
    · rename_i hd
      rw [if_pos hd]
      split at h
      · cases h
      · rename_i hr
        rw [if_neg hr]
        split at h
        · cases h
        · rename_i hm
          rw [if_neg hm]
          exact ih _ _ h h1 h2
    · cases h
theorem parseM_dec (M : Nat) : ∀ (n u : Nat), u ≤ n → u < 10000000000000000000 → u ≤ M → Lib.parseUintM M 0 (Lib.decDigits u) = .ok u := by
  intro n
  induction n with
  | zero =>
    intro u hu _ _
    obtain rfl : u = 0 := by omega
    rw [Lib.decDigits_one (by omega)]
    simp [Lib.parseUintM]
  | succ n ih =>
    intro u hu hb hM
    by_cases h : u < 10
    · rw [Lib.decDigits_one h]
      have e : (UInt8.ofNat (48 + u)).toNat = 48 + u := u8dig u h
      simp only [Lib.parseUintM, e]
      rw [if_pos (by omega), if_neg (by omega), if_neg (by omega)]
      congr 1
      omega
    · rw [Lib.decDigits, dif_neg h]
      have e : (UInt8.ofNat (48 + u % 10)).toNat = 48 + u % 10 := u8dig _ (by omega)
      rw [parseM_snoc M _ (by omega) _ 0 (u / 10) (ih (u / 10) (by omega) (by omega) (by omega)) (by omega) (by omega), e]
      congr 1
      omega
theorem parse_itoa (n : Nat) (h : n < 9223372036854775808) : Lib.parseIntB 64 (Lib.itoa (n : Int)) = .ok (n : Int) := by
  have hi : Lib.itoa (n : Int) = Lib.decDigits n := by unfold Lib.itoa; rw [if_neg (by omega)]; simp
  rw [hi]
  have hne : Lib.decDigits n ≠ [] := by
    have := Lib.nDigits_pos n
    rw [← Lib.decDigits_length] at this
    intro h0
    rw [h0] at this
    simp at this
  have hd := dec_digit n n (Nat.le_refl _)
  have hp := parseM_dec (2 ^ 64 - 1) n n (Nat.le_refl _) (by omega) (by omega)
  unfold Lib.parseIntB
  split
  · rename_i h0; exact absurd h0 hne
  · rename_i c r h0
    have hc := hd c (by rw [h0]; simp)
    have e1 : (if c.toNat = 43 ∨ c.toNat = 45 then r else Lib.decDigits n) = Lib.decDigits n := by rw [if_neg (by omega)]
    simp only
    rw [e1]
    unfold Lib.parseUintB
    rw [if_neg hne, hp]
    simp only
    rw [if_neg (by omega), if_neg (by omega), if_neg (by omega)]
end Go.Proofs.YtcgdgopjomilnaaDoor
