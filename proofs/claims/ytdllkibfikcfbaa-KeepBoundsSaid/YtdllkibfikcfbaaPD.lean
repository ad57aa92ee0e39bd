import Derived.Test.YtdllkibfikcfbaaPB
import Derived.Test.YtdllkibfikcfbaaPS
import Derived.Test.YtdllkibfikcfbaaKx15
/- Plain laws, without memory: KeepBounds. -/
namespace Go.Proofs.Ytdllkibfikcfbaa.PA
open Go.RowKit Go.Proofs.YtdllkibfikcfbaaW.PrintWords Go.Proofs.YtdllkibfikcfbaaW.PrintLast Go.Proofs.YtdllkibfikcfbaaW.PrintMore Go.Proofs.Ytdllkibfikcfbaa.K
set_option linter.unusedVariables false
set_option linter.unusedSimpArgs false

def longest : List (List S41) → Int → Int
  | [], a => a
  | b :: s, a => longest s (mx a (b.length : Int))
theorem le_longest (s : List (List S41)) : ∀ a, a ≤ longest s a := by
  induction s with
  | nil => intro a; exact Int.le_refl _
  | cons b s ih => intro a; exact Int.le_trans (le_mx_left a _) (ih _)
theorem mem_longest (s : List (List S41)) : ∀ a, ∀ b ∈ s, (b.length : Int) ≤ longest s a := by
  induction s with
  | nil => intro a b hb; simp at hb
  | cons c s ih =>
    intro a b hb
    rcases List.mem_cons.1 hb with rfl | hb
    · exact Int.le_trans (le_mx_right a _) (le_longest s _)
    · exact ih _ b hb
theorem longest_le (s : List (List S41)) : ∀ a c, a ≤ c → (∀ b ∈ s, (b.length : Int) ≤ c) → longest s a ≤ c := by
  induction s with
  | nil => intro a c h _; exact h
  | cons b s ih => intro a c h1 h2; exact ih _ c (mx_le h1 (h2 b List.mem_cons_self)) (fun z hz => h2 z (List.mem_cons_of_mem _ hz))
def corners : List S43 → Int
  | [] => 0
  | c :: l => (c.f2.length : Int) + corners l
theorem corners_nonneg (l : List S43) : 0 ≤ corners l := by
  induction l with
  | nil => exact Int.le_refl _
  | cons c l ih => simp only [corners]; omega
theorem corners_le (l : List S43) (h : ∀ c ∈ l, c.f2.length ≤ 8) : corners l ≤ 8 * l.length := by
  induction l with
  | nil => exact Int.le_refl _
  | cons c l ih =>
    have h1 := h c List.mem_cons_self
    have h2 := ih (fun z hz => h z (List.mem_cons_of_mem _ hz))
    simp only [corners, List.length_cons]
    omega
theorem pieces_l1 (l : List S43) (hl : l.length ≤ 1000) (h : ∀ c ∈ l, c.f2.length ≤ 8) : ∀ d j : Nat, l.length - j = d → j ≤ l.length → ∀ a : Int, 0 ≤ a → a ≤ 1000000 + 11 * j → Ev (fun k => keep_Pieces.l1 k a l (l.length : Int) (j : Int)) (a + corners (l.drop j) + 3 * ((l.length : Int) - j)) := by
  intro d
  induction d with
  | zero =>
    intro j h1 h2 a ha hb
    rw [List.drop_of_length_le (by omega)]
    have he : a + corners [] + 3 * ((l.length : Int) - j) = a := by simp only [corners]; omega
    rw [he]
    exact Ev.step (f := fun _ => some a) (fun k => by simp only [keep_Pieces.l1]; rw [if_neg (by omega)]) (Ev.now _)
  | succ d ih =>
    intro j h1 h2 a ha hb
    have hj : j < l.length := by omega
    have hz := h l[j] (List.getElem_mem hj)
    rw [List.drop_eq_getElem_cons hj]
    have hw1 : wrap64 ((l[j].f2.length : Int) + 3) = (l[j].f2.length : Int) + 3 := wrap_in (by omega) (by omega)
    have hw2 : wrap64 (a + ((l[j].f2.length : Int) + 3)) = a + ((l[j].f2.length : Int) + 3) := wrap_in (by omega) (by omega)
    have he : a + corners (l[j] :: l.drop (j + 1)) + 3 * ((l.length : Int) - j) = (a + ((l[j].f2.length : Int) + 3)) + corners (l.drop (j + 1)) + 3 * ((l.length : Int) - ((j + 1 : Nat) : Int)) := by simp only [corners]; omega
    rw [he]
    exact Ev.step (f := fun k => keep_Pieces.l1 k (a + ((l[j].f2.length : Int) + 3)) l (l.length : Int) ((j + 1 : Nat) : Int)) (fun k => by simp only [keep_Pieces.l1, rd43 l j hj]; rw [if_pos (by omega), if_pos (by omega), if_pos (by omega), hw1, hw2, wrap_succ hj (by omega)]) (ih (j + 1) (by omega) (by omega) (a + ((l[j].f2.length : Int) + 3)) (by omega) (by omega))
theorem pieces_l0 (s : List (List S41)) (hs : s.length ≤ 1000) (hb : ∀ b ∈ s, b.length ≤ 8) (l : List S43) (hl : l.length ≤ 1000) (h : ∀ c ∈ l, c.f2.length ≤ 8) (n : List S58) (x y : Int) : ∀ d j : Nat, s.length - j = d → j ≤ s.length → ∀ a : Int, 0 ≤ a → a ≤ 8 →
    Ev (fun k => keep_Pieces.l0 k a s (s.length : Int) (j : Int) s l n x y) (longest (s.drop j) a + 4 + corners l + 3 * (l.length : Int)) := by
  intro d
  induction d with
  | zero =>
    intro j h1 h2 a ha0 ha
    rw [List.drop_of_length_le (by omega)]
    have hw : wrap64 (a + 4) = a + 4 := wrap_in (by omega) (by omega)
    have h1 := pieces_l1 l hl h l.length 0 (by omega) (by omega) (a + 4) (by omega) (by omega)
    rw [List.drop_zero] at h1
    refine Ev.step (f := fun k => keep_Pieces.l1 k (a + 4) l (l.length : Int) ((0 : Nat) : Int)) (fun k => by simp only [keep_Pieces.l0]; rw [if_neg (by omega), hw]; rfl) ?_
    have he : longest [] a + 4 + corners l + 3 * (l.length : Int) = a + 4 + corners l + 3 * ((l.length : Int) - ((0 : Nat) : Int)) := by simp only [longest]; omega
    rw [he]
    exact h1
  | succ d ih =>
    intro j h1 h2 a ha0 ha
    have hj : j < s.length := by omega
    have hz := hb s[j] (List.getElem_mem hj)
    rw [List.drop_eq_getElem_cons hj]
    exact Ev.step (f := fun k => keep_Pieces.l0 k (mx a (s[j].length : Int)) s (s.length : Int) ((j + 1 : Nat) : Int) s l n x y) (fun k => by simp only [keep_Pieces.l0, rdL2 s j hj]; rw [if_pos (by omega), if_pos (by omega), if_pos (by omega), wrap_succ hj (by omega)]) (ih (j + 1) (by omega) (by omega) (mx a (s[j].length : Int)) (by have := le_mx_left a (s[j].length : Int); omega) (mx_le ha (by omega)))
theorem pieces_ev {s : List (List S41)} {c : List S43} {n : List S58} {x y : Int} (h : Sized s c n) (ht : TableFit s c n x y) : Ev (fun k => keep_Pieces.f k s c n x y) (longest s 0 + 4 + corners c + 3 * (c.length : Int)) := by
  have h1 := ht.schemes.2.1
  have h2 := ht.contribs.1
  have h0 := pieces_l0 s (by omega) (fun b hb => (fit_schemes h ht b hb).hi) c (by omega) (fun z hz => (fit_contribs h ht z hz).hi) n x y s.length 0 (by omega) (by omega) 0 (by omega) (by omega)
  exact h0
section
variable {s : List (List S41)} {c : List S43} {n : List S58} {x y : Int}
theorem bounds_l1 (h : Sized s c n) (ht : TableFit s c n x y) (P C : Int) (hP : Ev (fun k => keep_Pieces.f k s c n x y) P) (hC0 : 0 ≤ C) (hC1 : C ≤ 1000) (hle : ∀ b ∈ s, C + b.length ≤ P) (hP1 : P ≤ 128) : ∀ d j : Nat, s.length - j = d → j ≤ s.length → Ev (fun k => stipendlaw10_KeepBounds.l1 k (1 + (c.length : Int)) C s (s.length : Int) (j : Int) s c n x y) true := by
  have h2 := ht.contribs.1
  have h8 := ht.schemes.2.1
  intro d
  induction d with
  | zero =>
    intro j h1 hj
    have hw1 : wrap64 ((c.length : Int) + 1) = 1 + (c.length : Int) := by rw [wrap_in (by omega) (by omega)]; omega
    have hw2 : wrap64 (1 + (c.length : Int)) = 1 + (c.length : Int) := wrap_in (by omega) (by omega)
    have hw3 : wrap64 (2 * (1 + (c.length : Int))) = 2 * (1 + (c.length : Int)) := wrap_in (by omega) (by omega)
    have hw4 : wrap64 (2 * (1 + (c.length : Int)) * 20) = 2 * (1 + (c.length : Int)) * 20 := wrap_in (by omega) (by omega)
    have hw5 : wrap64 (2 * (1 + (c.length : Int)) * 20 + 2) = 2 * (1 + (c.length : Int)) * 20 + 2 := wrap_in (by omega) (by omega)
    have hw6 : wrap64 (40 * (1 + (c.length : Int))) = 40 * (1 + (c.length : Int)) := wrap_in (by omega) (by omega)
    have hw7 : wrap64 (40 * (1 + (c.length : Int)) + 2) = 40 * (1 + (c.length : Int)) + 2 := wrap_in (by omega) (by omega)
    refine Ev.step (f := fun k => (keep_Pieces.f k s c n x y).bind fun t => some (decide (t ≤ 128))) (fun k => ?_) (Ev.bind hP (Ev.congr (f := fun _ => some true) (fun k => by simp [hP1]) (Ev.now _)))
    simp only [stipendlaw10_KeepBounds.l1, keep_Window.f, keep_Components.f, Option.bind_some, hw1, hw2, hw3, hw4, hw5, hw6, hw7]
    rw [if_neg (by omega), if_pos (by omega), if_pos trivial, if_pos (by omega)]
  | succ d ih =>
    intro j h1 hj'
    have hj : j < s.length := by omega
    have hb := (fit_schemes h ht s[j] (List.getElem_mem hj)).hi
    have hw : wrap64 (C + (s[j].length : Int)) = C + (s[j].length : Int) := wrap_in (by omega) (by omega)
    have hl := hle s[j] (List.getElem_mem hj)
    refine Ev.step (f := fun k => (keep_Pieces.f k s c n x y).bind fun t => if t < C + (s[j].length : Int) then some false else stipendlaw10_KeepBounds.l1 k (1 + (c.length : Int)) C s (s.length : Int) ((j + 1 : Nat) : Int) s c n x y) (fun k => by simp only [stipendlaw10_KeepBounds.l1, rdL2 s j hj]; rw [if_pos (by omega), if_pos (by omega), if_pos (by omega), wrap_succ hj h.s0, hw]) (Ev.bind hP (Ev.congr (fun k => if_neg (by omega)) (ih (j + 1) (by omega) (by omega))))
theorem bounds_l0 (h : Sized s c n) (ht : TableFit s c n x y) (P : Int) (hP : Ev (fun k => keep_Pieces.f k s c n x y) P) (hle : ∀ b ∈ s, corners c + b.length ≤ P) (hP1 : P ≤ 128) : ∀ d j : Nat, c.length - j = d → j ≤ c.length → ∀ a : Int, 0 ≤ a → a + corners (c.drop j) = corners c → Ev (fun k => stipendlaw10_KeepBounds.l0 k (1 + (c.length : Int)) a c (c.length : Int) (j : Int) s c n x y) true := by
  have hcl := corners_le c (fun z hz => (fit_contribs h ht z hz).hi)
  have h6 := ht.contribs.1
  intro d
  induction d with
  | zero =>
    intro j h1 h2 a ha he
    rw [List.drop_of_length_le (by omega)] at he
    simp only [corners] at he
    have hl := bounds_l1 h ht P a hP ha (by omega) (fun b hb => by have := hle b hb; omega) hP1 s.length 0 (by omega) (by omega)
    exact Ev.step (f := fun k => stipendlaw10_KeepBounds.l1 k (1 + (c.length : Int)) a s (s.length : Int) ((0 : Nat) : Int) s c n x y) (fun k => by simp only [stipendlaw10_KeepBounds.l0]; rw [if_neg (by omega)]; rfl) hl
  | succ d ih =>
    intro j h1 h2 a ha he
    have hj : j < c.length := by omega
    rw [List.drop_eq_getElem_cons hj] at he
    simp only [corners] at he
    have h0 := corners_nonneg (c.drop (j + 1))
    have hw : wrap64 (a + (c[j].f2.length : Int)) = a + (c[j].f2.length : Int) := wrap_in (by omega) (by omega)
    exact Ev.step (f := fun k => stipendlaw10_KeepBounds.l0 k (1 + (c.length : Int)) (a + (c[j].f2.length : Int)) c (c.length : Int) ((j + 1 : Nat) : Int) s c n x y) (fun k => by simp only [stipendlaw10_KeepBounds.l0, rd43 c j hj]; rw [if_pos (by omega), if_pos (by omega), if_pos (by omega), hw, wrap_succ hj h.c0]) (ih (j + 1) (by omega) (by omega) (a + (c[j].f2.length : Int)) (by omega) (by omega))
end
theorem keepBounds_pure (s : List (List S41)) (c : List S43) (n : List S58) (x y : Int) (h : Sized s c n) : ∃ k, stipendlaw10_KeepBounds.f k s c n x y = some true := by
  refine Ev.rounds ?_
  obtain ⟨b, hb⟩ := small_total h x y
  obtain ⟨e, he, hf⟩ := table_total h x y
  have hj0 : Ev (fun k => stipendlaw10_KeepBounds.j0 k true s c n x y) true := Ev.step (f := fun _ => some true) (fun k => by simp only [stipendlaw10_KeepBounds.j0]; rfl) (Ev.now _)
  cases b with
  | false => exact Ev.congr (f := fun k => (stipendlaw10_small.f k s c n x y).bind fun t => if t = true then (table_Check.f k s c n x y).bind fun t2 => stipendlaw10_KeepBounds.j0 k (t2 != 0) s c n x y else stipendlaw10_KeepBounds.j0 k true s c n x y) (fun k => rfl) (Ev.bind hb (Ev.congr (fun k => if_neg (by simp)) hj0))
  | true =>
    refine Ev.congr (f := fun k => (stipendlaw10_small.f k s c n x y).bind fun t => if t = true then (table_Check.f k s c n x y).bind fun t2 => stipendlaw10_KeepBounds.j0 k (t2 != 0) s c n x y else stipendlaw10_KeepBounds.j0 k true s c n x y) (fun k => rfl) (Ev.bind hb (Ev.congr (fun k => if_pos rfl) (Ev.bind he ?_)))
    by_cases h0 : e = 0
    · have ht := hf.1 h0
      subst h0
      have h6 := ht.contribs.1
      have hP := pieces_ev h ht
      have hcl := corners_le c (fun z hz => (fit_contribs h ht z hz).hi)
      have hlo := longest_le s 0 8 (by omega) (fun b hb => by have := (fit_schemes h ht b hb).hi; omega)
      have hw : wrap64 (1 + (c.length : Int)) = 1 + (c.length : Int) := wrap_in (by omega) (by omega)
      have hl := bounds_l0 h ht _ hP (fun b hb => by have := mem_longest s 0 b hb; omega) (by omega) c.length 0 (by omega) (by omega) 0 (by omega) (by rw [List.drop_zero]; omega)
      exact Ev.congr (f := fun k => stipendlaw10_KeepBounds.j0 k false s c n x y) (fun k => rfl) (Ev.step (f := fun k => stipendlaw10_KeepBounds.l0 k (1 + (c.length : Int)) 0 c (c.length : Int) ((0 : Nat) : Int) s c n x y) (fun k => by simp only [stipendlaw10_KeepBounds.j0, keep_Components.f, Option.bind_some, hw]; rfl) hl)
    · have hne : (e != 0) = true := by simpa using h0
      rw [hne]
      exact hj0
end Go.Proofs.Ytdllkibfikcfbaa.PA
