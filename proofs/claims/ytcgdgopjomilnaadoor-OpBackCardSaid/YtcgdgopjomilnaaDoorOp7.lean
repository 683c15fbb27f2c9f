/-
  The chapter's example, and the statement on words.
-/
import Derived.Test.YtcgdgopjomilnaaDoorOp6
namespace Go.Proofs.YtcgdgopjomilnaaDoor
open Go Go.RowKit

abbrev O.one : O := ⟨7, 10, 1, 2, 0, 0, 100, 0⟩
theorem one_valid : validC .one = 0 := by decide +kernel
theorem one_text : textB .one = ⟨#[55, 32, 100, 101, 112, 111, 115, 105, 116, 32, 49, 32, 50, 32, 49, 48, 48]⟩ := by decide +kernel

set_option maxRecDepth 100000 in
set_option maxHeartbeats 1000000 in
theorem first_any {w : World} {E : Nat → Addr} (g : GW w E) :
    Calls Tryd.prog 5 #[] w fun e w' => e = .returned (.bool true) ∧ Below w.heap.size w w' := by
  have ht := text_good .one g one_valid
  rw [one_text] at ht
  go_enter Tryd.func5, Tryd.ntmps5
  go_wp2_with (first | (go_at_call 13; refine ht.mono ?_; rintro e w1 ⟨rfl, hb1⟩))
  go_returns
  exact ⟨rfl, hb1⟩

theorem parse_any (A : Option Addr) (c : Nat) (ws : List ByteArray) (hmax : ws.length ≤ 8796093022208) {w : World} {E : Nat → Addr} (g : GW w E)
    (hc : ws.length = 0 ∨ ∃ b off, A = some ⟨b, off, none⟩ ∧ ∀ j, j < ws.length → w.cell? ⟨b, off + j, none⟩ = some (.string (wd ws j))) (hsz : ∀ j, j < ws.length → (wd ws j).size ≤ 140737488355328) :
    Calls Tryd.prog 6 #[.slice A ws.length c] w fun e w' => e = .returned (.tuple #[O.v (parseO ws), errV E (parseC ws)]) ∧ Below w.heap.size w w' := by
  by_cases hn : ws.length < 2
  · have hp : parseC ws = 118 := by unfold parseC; rw [if_pos hn]
    have hpo : parseO ws = .zero := by unfold parseO; rw [hp]; rfl
    rw [hp, hpo]
    exact parse_few A ws.length c hn g
  · rcases hc with h | ⟨b, off, rfl, hc⟩
    · omega
    · exact parse_many b off c ws (by omega) hmax g hc hsz

theorem parse_blk (b c : Nat) (ws : List ByteArray) (hmax : ws.length ≤ 8796093022208) {w : World} {E : Nat → Addr} (g : GW w E)
    (hb : Blk w b 9 (ws.map Value.string).toArray) (hsz : ∀ j, j < ws.length → (wd ws j).size ≤ 140737488355328) :
    Calls Tryd.prog 6 #[.slice (some ⟨b, 0, none⟩) ws.length c] w fun e w' => e = .returned (.tuple #[O.v (parseO ws), errV E (parseC ws)]) ∧ Below w.heap.size w w' :=
  parse_any _ c ws hmax g (.inr ⟨b, 0, rfl, fun j hj => by rw [Nat.zero_add, hb.cell]; simp [wd, hj]⟩) hsz

def wordsT : List (List ByteArray) := [[⟨#[53]⟩], [⟨#[53]⟩, ⟨#[100, 101, 112, 111, 115, 105, 116, 115]⟩, ⟨#[49]⟩, ⟨#[50]⟩, ⟨#[51]⟩], [⟨#[53]⟩, ⟨#[100, 101, 112, 111, 115, 105, 116]⟩, ⟨#[49]⟩, ⟨#[50]⟩],
  [⟨#[120]⟩, ⟨#[116, 105, 99, 107]⟩, ⟨#[49]⟩, ⟨#[50]⟩], [⟨#[53]⟩, ⟨#[]⟩]]
def numsT : List (List ByteArray) := [[⟨#[120]⟩, ⟨#[116, 105, 99, 107]⟩, ⟨#[49]⟩], [⟨#[53]⟩, ⟨#[110, 101, 101, 100]⟩, ⟨#[49]⟩, ⟨#[48, 49]⟩], [⟨#[48, 53]⟩, ⟨#[116, 105, 99, 107]⟩, ⟨#[49]⟩],
  [⟨#[53]⟩, ⟨#[102, 117, 110, 100]⟩, ⟨#[]⟩, ⟨#[49]⟩], [⟨#[53]⟩, ⟨#[116, 105, 99, 107]⟩, ⟨#[49, 50, 51, 52, 53, 54, 55, 56, 57, 48, 49, 50, 51, 52, 53, 54, 55, 56, 57]⟩]]
def rangT : List (List ByteArray) := [[⟨#[48]⟩, ⟨#[116, 105, 99, 107]⟩, ⟨#[49]⟩], [⟨#[53]⟩, ⟨#[110, 101, 101, 100]⟩, ⟨#[49, 48, 52, 56, 53, 55, 55]⟩, ⟨#[49]⟩],
  [⟨#[53]⟩, ⟨#[116, 105, 99, 107]⟩, ⟨#[49, 48, 48, 48, 48, 48, 48, 48, 48, 48, 48, 48, 48, 48, 48, 49]⟩], [⟨#[49, 48, 57, 57, 53, 49, 49, 54, 50, 55, 55, 55, 55]⟩, ⟨#[116, 105, 99, 107]⟩, ⟨#[49]⟩]]
theorem words_code : wordsT.all (fun ws => parseC ws == 118 && ws.length ≤ 9 && ws.all (fun x => x.size ≤ 99)) = true := by decide +kernel
theorem nums_code : numsT.all (fun ws => parseC ws == 119 && ws.length ≤ 9 && ws.all (fun x => x.size ≤ 99)) = true := by decide +kernel
theorem rangs_code : rangT.all (fun ws => parseC ws == 103 && ws.length ≤ 9 && ws.all (fun x => x.size ≤ 99)) = true := by decide +kernel

theorem parse_bad (b : Nat) (ws : List ByteArray) (C : Nat) (hC : C ≠ 0) {T : List (List ByteArray)} (hT : T.all (fun ws => parseC ws == C && ws.length ≤ 9 && ws.all (fun x => x.size ≤ 99)) = true) (hm : ws ∈ T)
    {w : World} {E : Nat → Addr} (g : GW w E) (hb : Blk w b 9 (ws.map Value.string).toArray) :
    Calls Tryd.prog 6 #[.slice (some ⟨b, 0, none⟩) ws.length ws.length] w fun e w' => e = .returned (.tuple #[O.v .zero, errV E C]) ∧ Below w.heap.size w w' := by
  have h := List.all_eq_true.1 hT ws hm
  simp only [Bool.and_eq_true, beq_iff_eq, decide_eq_true_eq, List.all_eq_true] at h
  obtain ⟨⟨hp, hl⟩, hs⟩ := h
  have hpo : parseO ws = .zero := by unfold parseO; rw [hp, if_neg hC]
  have := parse_blk b ws.length ws (by omega) g hb (fun j hj => by
    have := hs (wd ws j) (by unfold wd; rw [List.getD_eq_getElem?_getD, List.getElem?_eq_getElem hj]; exact List.getElem_mem hj)
    omega)
  rw [hp, hpo] at this
  exact this

abbrev tabW (w : World) : World := (((((((((((((((((w.alloc (.cells #[.string { data := #[53] }] 9)).alloc (.cells #[.string { data := #[53] }, .string { data := #[100, 101, 112, 111, 115, 105, 116, 115] }, .string { data := #[49] }, .string { data := #[50] }, .string { data := #[51] }] 9)).alloc (.cells #[.string { data := #[53] }, .string { data := #[100, 101, 112, 111, 115, 105, 116] }, .string { data := #[49] }, .string { data := #[50] }] 9)).alloc (.cells #[.string { data := #[120] }, .string { data := #[116, 105, 99, 107] }, .string { data := #[49] }, .string { data := #[50] }] 9)).alloc (.cells #[.string { data := #[53] }, .string { data := #[] }] 9)).alloc (.cells #[.slice none 0 0, .slice (some { block := w.heap.size, off := 0 }) 1 1, .slice (some { block := w.heap.size + 1, off := 0 }) 5 5, .slice (some { block := w.heap.size + 1 + 1, off := 0 }) 4 4, .slice (some { block := w.heap.size + 1 + 1 + 1, off := 0 }) 4 4, .slice (some { block := w.heap.size + 1 + 1 + 1 + 1, off := 0 }) 2 2] 23)).alloc (.cells #[.string { data := #[120] }, .string { data := #[116, 105, 99, 107] }, .string { data := #[49] }] 9)).alloc (.cells #[.string { data := #[53] }, .string { data := #[110, 101, 101, 100] }, .string { data := #[49] }, .string { data := #[48, 49] }] 9)).alloc (.cells #[.string { data := #[48, 53] }, .string { data := #[116, 105, 99, 107] }, .string { data := #[49] }] 9)).alloc (.cells #[.string { data := #[53] }, .string { data := #[102, 117, 110, 100] }, .string { data := #[] }, .string { data := #[49] }] 9)).alloc (.cells #[.string { data := #[53] }, .string { data := #[116, 105, 99, 107] }, .string { data := #[49, 50, 51, 52, 53, 54, 55, 56, 57, 48, 49, 50, 51, 52, 53, 54, 55, 56, 57] }] 9)).alloc (.cells #[.slice (some { block := w.heap.size + 1 + 1 + 1 + 1 + 1 + 1, off := 0 }) 3 3, .slice (some { block := w.heap.size + 1 + 1 + 1 + 1 + 1 + 1 + 1, off := 0 }) 4 4, .slice (some { block := w.heap.size + 1 + 1 + 1 + 1 + 1 + 1 + 1 + 1, off := 0 }) 3 3, .slice (some { block := w.heap.size + 1 + 1 + 1 + 1 + 1 + 1 + 1 + 1 + 1, off := 0 }) 4 4, .slice (some { block := w.heap.size + 1 + 1 + 1 + 1 + 1 + 1 + 1 + 1 + 1 + 1, off := 0 }) 3 3] 23)).alloc (.cells #[.string { data := #[48] }, .string { data := #[116, 105, 99, 107] }, .string { data := #[49] }] 9)).alloc (.cells #[.string { data := #[53] }, .string { data := #[110, 101, 101, 100] }, .string { data := #[49, 48, 52, 56, 53, 55, 55] }, .string { data := #[49] }] 9)).alloc (.cells #[.string { data := #[53] }, .string { data := #[116, 105, 99, 107] }, .string { data := #[49, 48, 48, 48, 48, 48, 48, 48, 48, 48, 48, 48, 48, 48, 48, 49] }] 9)).alloc (.cells #[.string { data := #[49, 48, 57, 57, 53, 49, 49, 54, 50, 55, 55, 55, 55] }, .string { data := #[116, 105, 99, 107] }, .string { data := #[49] }] 9)).alloc (.cells #[.slice (some { block := w.heap.size + 1 + 1 + 1 + 1 + 1 + 1 + 1 + 1 + 1 + 1 + 1 + 1, off := 0 }) 3 3, .slice (some { block := w.heap.size + 1 + 1 + 1 + 1 + 1 + 1 + 1 + 1 + 1 + 1 + 1 + 1 + 1, off := 0 }) 4 4, .slice (some { block := w.heap.size + 1 + 1 + 1 + 1 + 1 + 1 + 1 + 1 + 1 + 1 + 1 + 1 + 1 + 1, off := 0 }) 3 3, .slice (some { block := w.heap.size + 1 + 1 + 1 + 1 + 1 + 1 + 1 + 1 + 1 + 1 + 1 + 1 + 1 + 1 + 1, off := 0 }) 3 3] 23))
def tabs (n : Nat) : List Obj := [.cells #[.string { data := #[53] }] 9,
  .cells #[.string { data := #[53] }, .string { data := #[100, 101, 112, 111, 115, 105, 116, 115] }, .string { data := #[49] }, .string { data := #[50] }, .string { data := #[51] }] 9,
  .cells #[.string { data := #[53] }, .string { data := #[100, 101, 112, 111, 115, 105, 116] }, .string { data := #[49] }, .string { data := #[50] }] 9,
  .cells #[.string { data := #[120] }, .string { data := #[116, 105, 99, 107] }, .string { data := #[49] }, .string { data := #[50] }] 9,
  .cells #[.string { data := #[53] }, .string { data := #[] }] 9,
  .cells #[.slice none 0 0, .slice (some { block := n + 0, off := 0 }) 1 1, .slice (some { block := n + 1, off := 0 }) 5 5, .slice (some { block := n + 2, off := 0 }) 4 4, .slice (some { block := n + 3, off := 0 }) 4 4, .slice (some { block := n + 4, off := 0 }) 2 2] 23,
  .cells #[.string { data := #[120] }, .string { data := #[116, 105, 99, 107] }, .string { data := #[49] }] 9,
  .cells #[.string { data := #[53] }, .string { data := #[110, 101, 101, 100] }, .string { data := #[49] }, .string { data := #[48, 49] }] 9,
  .cells #[.string { data := #[48, 53] }, .string { data := #[116, 105, 99, 107] }, .string { data := #[49] }] 9,
  .cells #[.string { data := #[53] }, .string { data := #[102, 117, 110, 100] }, .string { data := #[] }, .string { data := #[49] }] 9,
  .cells #[.string { data := #[53] }, .string { data := #[116, 105, 99, 107] }, .string { data := #[49, 50, 51, 52, 53, 54, 55, 56, 57, 48, 49, 50, 51, 52, 53, 54, 55, 56, 57] }] 9,
  .cells #[.slice (some { block := n + 6, off := 0 }) 3 3, .slice (some { block := n + 7, off := 0 }) 4 4, .slice (some { block := n + 8, off := 0 }) 3 3, .slice (some { block := n + 9, off := 0 }) 4 4, .slice (some { block := n + 10, off := 0 }) 3 3] 23,
  .cells #[.string { data := #[48] }, .string { data := #[116, 105, 99, 107] }, .string { data := #[49] }] 9,
  .cells #[.string { data := #[53] }, .string { data := #[110, 101, 101, 100] }, .string { data := #[49, 48, 52, 56, 53, 55, 55] }, .string { data := #[49] }] 9,
  .cells #[.string { data := #[53] }, .string { data := #[116, 105, 99, 107] }, .string { data := #[49, 48, 48, 48, 48, 48, 48, 48, 48, 48, 48, 48, 48, 48, 48, 49] }] 9,
  .cells #[.string { data := #[49, 48, 57, 57, 53, 49, 49, 54, 50, 55, 55, 55, 55] }, .string { data := #[116, 105, 99, 107] }, .string { data := #[49] }] 9,
  .cells #[.slice (some { block := n + 12, off := 0 }) 3 3, .slice (some { block := n + 13, off := 0 }) 4 4, .slice (some { block := n + 14, off := 0 }) 3 3, .slice (some { block := n + 15, off := 0 }) 3 3] 23]
theorem fold_blk (os : List Obj) : ∀ (w : World) (j : Nat) (cs : Array Value) (t : TypeId), os[j]? = some (.cells cs t) → Blk (os.foldl World.alloc w) (w.heap.size + j) t cs := by
  have keep : ∀ (os : List Obj) (w : World) (b : Nat) (t : TypeId) (cs : Array Value), Blk w b t cs → Blk (os.foldl World.alloc w) b t cs := by
    intro os
    induction os with
    | nil => intro w b t cs h; exact h
    | cons o os ih => intro w b t cs h; exact ih _ _ _ _ (h.alloc o)
  induction os with
  | nil => intro w j cs t h; simp at h
  | cons o os ih =>
    intro w j cs t h
    cases j with
    | zero => simp at h; subst h; exact keep os (w.alloc (.cells cs t)) _ _ _ (Blk.new w t cs)
    | succ j =>
      have := ih (w.alloc o) j cs t (by simpa using h)
      have hs : (w.alloc o).heap.size + j = w.heap.size + (j + 1) := by simp; omega
      rw [hs] at this
      exact this
theorem tab_blk {w : World} (j : Nat) (cs : Array Value) (t : TypeId) (h : (tabs w.heap.size)[j]? = some (.cells cs t)) : Blk (tabW w) (w.heap.size + j) t cs := fold_blk (tabs w.heap.size) w j cs t h
theorem fold_later (os : List Obj) : ∀ w : World, Below w.heap.size w (os.foldl World.alloc w) := by
  induction os with
  | nil => intro w; exact Below.refl _ _
  | cons o os ih => intro w; exact Later.trans (later_alloc w o) (ih _)
theorem tab_later (w : World) : Below w.heap.size w (tabW w) := fold_later (tabs w.heap.size) w
def ParseBad (W : World) (E : Nat → Addr) (v : Value) (C : Nat) : Prop := ∀ W', GW W' E → Below W.heap.size W W' → Calls Tryd.prog 6 #[v] W' fun e w' => e = .returned (.tuple #[O.v .zero, errV E C]) ∧ Below W'.heap.size W' w'
theorem words_at {w : World} {E : Nat → Addr} (i : Nat) (hi : i < 6) : ∃ A n c, (tabW w).cell? ⟨w.heap.size + 5, i, none⟩ = some (.slice A n c) ∧ ParseBad (tabW w) E (.slice A n c) 118 := by
  match i, hi with
  | 0, _ => exact ⟨none, 0, 0, (tab_blk 5 _ _ rfl).cell 0, fun W' g _ => parse_few none 0 0 (by omega) g⟩
  | 1, _ => exact ⟨_, _, _, (tab_blk 5 _ _ rfl).cell 1, fun W' g h => parse_bad (w.heap.size + 0) (wordsT.getD 0 []) 118 (by decide) words_code (List.mem_of_getElem? (i := 0) rfl) g ((tab_blk 0 _ _ rfl).later h)⟩
  | 2, _ => exact ⟨_, _, _, (tab_blk 5 _ _ rfl).cell 2, fun W' g h => parse_bad (w.heap.size + 1) (wordsT.getD 1 []) 118 (by decide) words_code (List.mem_of_getElem? (i := 1) rfl) g ((tab_blk 1 _ _ rfl).later h)⟩
  | 3, _ => exact ⟨_, _, _, (tab_blk 5 _ _ rfl).cell 3, fun W' g h => parse_bad (w.heap.size + 2) (wordsT.getD 2 []) 118 (by decide) words_code (List.mem_of_getElem? (i := 2) rfl) g ((tab_blk 2 _ _ rfl).later h)⟩
  | 4, _ => exact ⟨_, _, _, (tab_blk 5 _ _ rfl).cell 4, fun W' g h => parse_bad (w.heap.size + 3) (wordsT.getD 3 []) 118 (by decide) words_code (List.mem_of_getElem? (i := 3) rfl) g ((tab_blk 3 _ _ rfl).later h)⟩
  | 5, _ => exact ⟨_, _, _, (tab_blk 5 _ _ rfl).cell 5, fun W' g h => parse_bad (w.heap.size + 4) (wordsT.getD 4 []) 118 (by decide) words_code (List.mem_of_getElem? (i := 4) rfl) g ((tab_blk 4 _ _ rfl).later h)⟩
theorem nums_at {w : World} {E : Nat → Addr} (i : Nat) (hi : i < 5) : ∃ A n c, (tabW w).cell? ⟨w.heap.size + 11, i, none⟩ = some (.slice A n c) ∧ ParseBad (tabW w) E (.slice A n c) 119 := by
  match i, hi with
  | 0, _ => exact ⟨_, _, _, (tab_blk 11 _ _ rfl).cell 0, fun W' g h => parse_bad (w.heap.size + 6) (numsT.getD 0 []) 119 (by decide) nums_code (List.mem_of_getElem? (i := 0) rfl) g ((tab_blk 6 _ _ rfl).later h)⟩
  | 1, _ => exact ⟨_, _, _, (tab_blk 11 _ _ rfl).cell 1, fun W' g h => parse_bad (w.heap.size + 7) (numsT.getD 1 []) 119 (by decide) nums_code (List.mem_of_getElem? (i := 1) rfl) g ((tab_blk 7 _ _ rfl).later h)⟩
  | 2, _ => exact ⟨_, _, _, (tab_blk 11 _ _ rfl).cell 2, fun W' g h => parse_bad (w.heap.size + 8) (numsT.getD 2 []) 119 (by decide) nums_code (List.mem_of_getElem? (i := 2) rfl) g ((tab_blk 8 _ _ rfl).later h)⟩
  | 3, _ => exact ⟨_, _, _, (tab_blk 11 _ _ rfl).cell 3, fun W' g h => parse_bad (w.heap.size + 9) (numsT.getD 3 []) 119 (by decide) nums_code (List.mem_of_getElem? (i := 3) rfl) g ((tab_blk 9 _ _ rfl).later h)⟩
  | 4, _ => exact ⟨_, _, _, (tab_blk 11 _ _ rfl).cell 4, fun W' g h => parse_bad (w.heap.size + 10) (numsT.getD 4 []) 119 (by decide) nums_code (List.mem_of_getElem? (i := 4) rfl) g ((tab_blk 10 _ _ rfl).later h)⟩
theorem rangs_at {w : World} {E : Nat → Addr} (i : Nat) (hi : i < 4) : ∃ A n c, (tabW w).cell? ⟨w.heap.size + 16, i, none⟩ = some (.slice A n c) ∧ ParseBad (tabW w) E (.slice A n c) 103 := by
  match i, hi with
  | 0, _ => exact ⟨_, _, _, (tab_blk 16 _ _ rfl).cell 0, fun W' g h => parse_bad (w.heap.size + 12) (rangT.getD 0 []) 103 (by decide) rangs_code (List.mem_of_getElem? (i := 0) rfl) g ((tab_blk 12 _ _ rfl).later h)⟩
  | 1, _ => exact ⟨_, _, _, (tab_blk 16 _ _ rfl).cell 1, fun W' g h => parse_bad (w.heap.size + 13) (rangT.getD 1 []) 103 (by decide) rangs_code (List.mem_of_getElem? (i := 1) rfl) g ((tab_blk 13 _ _ rfl).later h)⟩
  | 2, _ => exact ⟨_, _, _, (tab_blk 16 _ _ rfl).cell 2, fun W' g h => parse_bad (w.heap.size + 14) (rangT.getD 2 []) 103 (by decide) rangs_code (List.mem_of_getElem? (i := 2) rfl) g ((tab_blk 14 _ _ rfl).later h)⟩
  | 3, _ => exact ⟨_, _, _, (tab_blk 16 _ _ rfl).cell 3, fun W' g h => parse_bad (w.heap.size + 15) (rangT.getD 3 []) 103 (by decide) rangs_code (List.mem_of_getElem? (i := 3) rfl) g ((tab_blk 15 _ _ rfl).later h)⟩
end Go.Proofs.YtcgdgopjomilnaaDoor
