import Derived.Test.YtdllkibfikcfbaaDoorPB
import Derived.Test.YtdllkibfikcfbaaDoorKx12
/- Plain laws, without memory: small answers. -/
namespace Go.Proofs.YtdllkibfikcfbaaDoor.PA
open Go.RowKit Go.Proofs.YtdllkibfikcfbaaDoorW.PrintWords Go.Proofs.YtdllkibfikcfbaaDoorW.PrintLast Go.Proofs.YtdllkibfikcfbaaDoorW.PrintMore Go.Proofs.YtdllkibfikcfbaaDoor.K
set_option linter.unusedVariables false
set_option linter.unusedSimpArgs false

/-! ### small: it answers -/
theorem small_l1 (l : List S43) (hl : l.length ≤ 9223372036854775807) : ∀ d j : Nat, l.length - j = d → j ≤ l.length → ∃ b, Ev (fun k => stipendlaw10_small.l1 k l (l.length : Int) (j : Int)) b := by
  intro d
  induction d with
  | zero => intro j h1 h2; exact ⟨true, Ev.step (f := fun _ => some true) (fun k => by simp only [stipendlaw10_small.l1]; rw [if_neg (by omega)]) (Ev.now _)⟩
  | succ d ih =>
    intro j h1 h2
    have hj : j < l.length := by omega
    obtain ⟨b, hb⟩ := ih (j + 1) (by omega) (by omega)
    by_cases q1 : (l[j].f2.length : Int) > 20
    · exact ⟨false, Ev.step (f := fun _ => some false) (fun k => by simp only [stipendlaw10_small.l1, rd43 l j hj]; rw [if_pos (by omega), if_pos (by omega), if_pos (by omega), if_pos q1]) (Ev.now _)⟩
    · by_cases q2 : (l[j].f0.size : Int) > 60
      · exact ⟨false, Ev.step (f := fun _ => some false) (fun k => by simp only [stipendlaw10_small.l1, rd43 l j hj]; rw [if_pos (by omega), if_pos (by omega), if_pos (by omega), if_neg q1, if_pos q2]) (Ev.now _)⟩
      · exact ⟨b, Ev.step (f := fun k => stipendlaw10_small.l1 k l (l.length : Int) ((j + 1 : Nat) : Int)) (fun k => by simp only [stipendlaw10_small.l1, rd43 l j hj]; rw [if_pos (by omega), if_pos (by omega), if_pos (by omega), if_neg q1, if_neg q2, wrap_succ hj hl]) hb⟩
theorem small_l0 (s : List (List S41)) (hs : s.length ≤ 9223372036854775807) (l : List S43) (hl : l.length ≤ 9223372036854775807) (n : List S58) (x y : Int) : ∀ d j : Nat, s.length - j = d → j ≤ s.length → ∃ b, Ev (fun k => stipendlaw10_small.l0 k s (s.length : Int) (j : Int) s l n x y) b := by
  intro d
  induction d with
  | zero =>
    intro j h1 h2
    obtain ⟨b, hb⟩ := small_l1 l hl l.length 0 (by omega) (by omega)
    exact ⟨b, Ev.step (f := fun k => stipendlaw10_small.l1 k l (l.length : Int) ((0 : Nat) : Int)) (fun k => by simp only [stipendlaw10_small.l0]; rw [if_neg (by omega)]; rfl) hb⟩
  | succ d ih =>
    intro j h1 h2
    have hj : j < s.length := by omega
    obtain ⟨b, hb⟩ := ih (j + 1) (by omega) (by omega)
    by_cases q1 : (s[j].length : Int) > 20
    · exact ⟨false, Ev.step (f := fun _ => some false) (fun k => by simp only [stipendlaw10_small.l0, rdL2 s j hj]; rw [if_pos (by omega), if_pos (by omega), if_pos (by omega), if_pos q1]) (Ev.now _)⟩
    · exact ⟨b, Ev.step (f := fun k => stipendlaw10_small.l0 k s (s.length : Int) ((j + 1 : Nat) : Int) s l n x y) (fun k => by simp only [stipendlaw10_small.l0, rdL2 s j hj]; rw [if_pos (by omega), if_pos (by omega), if_pos (by omega), if_neg q1, wrap_succ hj hs]) hb⟩
theorem small_total {s : List (List S41)} {c : List S43} {n : List S58} (h : Sized s c n) (x y : Int) : ∃ b, Ev (fun k => stipendlaw10_small.f k s c n x y) b := by
  have h1 : ∃ b, Ev (fun k => stipendlaw10_small.j0 k true s c n x y) b := ⟨false, Ev.step (f := fun _ => some false) (fun k => by simp only [stipendlaw10_small.j0]; rfl) (Ev.now _)⟩
  have h2 : ∃ b, Ev (fun k => stipendlaw10_small.j0 k false s c n x y) b := by
    obtain ⟨b, hb⟩ := small_l0 s h.s0 c h.c0 n x y s.length 0 (by omega) (by omega)
    exact ⟨b, Ev.step (f := fun k => stipendlaw10_small.l0 k s (s.length : Int) ((0 : Nat) : Int) s c n x y) (fun k => by simp only [stipendlaw10_small.j0]; rfl) hb⟩
  by_cases q1 : (s.length : Int) > 20
  · obtain ⟨b, hb⟩ := h1
    exact ⟨b, Ev.congr (fun k => by simp only [stipendlaw10_small.f]; rw [if_pos q1]) hb⟩
  · by_cases q2 : (c.length : Int) > 20
    · obtain ⟨b, hb⟩ := h1
      exact ⟨b, Ev.congr (fun k => by simp only [stipendlaw10_small.f]; rw [if_neg q1, if_pos q2]) hb⟩
    · by_cases q3 : (n.length : Int) > 30
      · obtain ⟨b, hb⟩ := h1
        exact ⟨b, Ev.congr (fun k => by simp only [stipendlaw10_small.f]; rw [if_neg q1, if_neg q2, decide_eq_true q3]) hb⟩
      · obtain ⟨b, hb⟩ := h2
        exact ⟨b, Ev.congr (fun k => by simp only [stipendlaw10_small.f]; rw [if_neg q1, if_neg q2, decide_eq_false q3]) hb⟩

end Go.Proofs.YtdllkibfikcfbaaDoor.PA
