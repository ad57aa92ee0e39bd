import Derived.Test.YtdllkibfikcfbaaPB
import Derived.Test.YtdllkibfikcfbaaPS
import Derived.Test.YtdllkibfikcfbaaKx14
/- Plain laws, without memory: KeepChoices. -/
namespace Go.Proofs.Ytdllkibfikcfbaa.PA
open Go.RowKit Go.Proofs.YtdllkibfikcfbaaW.PrintWords Go.Proofs.YtdllkibfikcfbaaW.PrintLast Go.Proofs.YtdllkibfikcfbaaW.PrintMore Go.Proofs.Ytdllkibfikcfbaa.K
set_option linter.unusedVariables false
set_option linter.unusedSimpArgs false
theorem rdI_at (l : List Int) (j : Nat) (h : j < l.length) : rd l (j : Int) = l[j] := by simp [rd, h]
def goL : List S43 → List Int → Int → Option Int
  | [], [], a => some a
  | c :: l, m :: ms, a => if 0 ≤ m ∧ m < (c.f2.length : Int) then goL l ms (a - (rd_T41 c.f2 m).f1) else none
  | _, _, _ => none
def rateOf (s : List (List S41)) (x A B : Int) : Int × Int :=
  if A = -1 ∧ B = -1 then (x, 0) else if A < 0 ∨ A ≥ (s.length : Int) then (x, 81) else if B < 0 ∨ B ≥ ((rd_L2 s A).length : Int) then (x, 3) else ((rd_T41 (rd_L2 s A) B).f1, 0)
def endOf : Option Int → Int × Int
  | some v => (v, 0)
  | none => (0, 3)
def keptOf (s : List (List S41)) (c : List S43) (x A B : Int) (ms : List Int) : Int × Int :=
  if (rateOf s x A B).2 = 0 then (if (ms.length : Int) = (c.length : Int) then endOf (goL c ms (10000 - (rateOf s x A B).1)) else (0, 3)) else (0, (rateOf s x A B).2)
theorem rd_range (l : List S41) (h : ∀ b ∈ l, 0 ≤ b.f1 ∧ b.f1 ≤ 10000) {m : Int} (h0 : 0 ≤ m) (h1 : m < (l.length : Int)) : 0 ≤ (rd_T41 l m).f1 ∧ (rd_T41 l m).f1 ≤ 10000 := by
  have hm : m.toNat < l.length := by omega
  have he : m = ((m.toNat : Nat) : Int) := by omega
  rw [he, rd41 l m.toNat hm]
  exact h _ (List.getElem_mem hm)
section
variable {s : List (List S41)} {c : List S43} {n : List S58} {x y : Int}
theorem rateOf_range (h : Sized s c n) (ht : TableFit s c n x y) (A B : Int) : 0 ≤ (rateOf s x A B).1 ∧ (rateOf s x A B).1 ≤ 10000 := by
  have h1 := ht.limit
  unfold rateOf
  split
  · exact h1
  · split
    · exact h1
    · split
      · exact h1
      · rename_i a b d
        have hA : A.toNat < s.length := by omega
        have he : A = ((A.toNat : Nat) : Int) := by omega
        have hr : rd_L2 s A = s[A.toNat] := by simp [rd_L2, hA]
        rw [hr] at d ⊢
        exact rd_range _ (fit_schemes h ht _ (List.getElem_mem hA)).rates (by omega) (by omega)
theorem kept_l0 (h : Sized s c n) (ht : TableFit s c n x y) (ms : List Int) (hl : ms.length = c.length) : ∀ d j : Nat, ms.length - j = d → j ≤ ms.length → ∀ a : Int, -100000000 + 10000 * ((ms.length : Int) - j) ≤ a → a ≤ 100000000 →
    Ev (fun k => keep_Kept.l0 k a ms (ms.length : Int) (j : Int) s c n x y) (endOf (goL (c.drop j) (ms.drop j) a)) := by
  have h6 := ht.contribs.1
  intro d
  induction d with
  | zero =>
    intro j h1 h2 a h3 h4
    rw [List.drop_of_length_le (l := ms) (by omega), List.drop_of_length_le (l := c) (by omega)]
    exact Ev.step (f := fun _ => some (a, 0)) (fun k => by simp only [keep_Kept.l0]; rw [if_neg (by omega)]) (Ev.now _)
  | succ d ih =>
    intro j h1 h2 a h3 h4
    have hj : j < ms.length := by omega
    have hc : j < c.length := by omega
    have hfit := fit_contribs h ht c[j] (List.getElem_mem hc)
    rw [List.drop_eq_getElem_cons hj, List.drop_eq_getElem_cons hc]
    by_cases q1 : ms[j] < 0
    · simp only [goL]
      rw [if_neg (by omega)]
      exact Ev.step (f := fun _ => some (0, 3)) (fun k => by simp only [keep_Kept.l0, rdI_at ms j hj]; rw [if_pos (by omega), if_pos (by omega), if_pos (by omega), if_pos q1]) (Ev.now _)
    · by_cases q2 : ms[j] ≥ (c[j].f2.length : Int)
      · simp only [goL]
        rw [if_neg (by omega)]
        exact Ev.step (f := fun _ => some (0, 3)) (fun k => by simp only [keep_Kept.l0, rdI_at ms j hj, rd43 c j hc]; rw [if_pos (by omega), if_pos (by omega), if_pos (by omega), if_neg q1, if_pos (by omega), if_pos q2]) (Ev.now _)
      · have hr := rd_range c[j].f2 hfit.rates (m := ms[j]) (by omega) (by omega)
        have hw : wrap64 (a - (rd_T41 c[j].f2 ms[j]).f1) = a - (rd_T41 c[j].f2 ms[j]).f1 := wrap_in (by omega) (by omega)
        simp only [goL]
        rw [if_pos (by omega)]
        exact Ev.step (f := fun k => keep_Kept.l0 k (a - (rd_T41 c[j].f2 ms[j]).f1) ms (ms.length : Int) ((j + 1 : Nat) : Int) s c n x y) (fun k => by simp only [keep_Kept.l0, rdI_at ms j hj, rd43 c j hc]; rw [if_pos (by omega), if_pos (by omega), if_pos (by omega), if_neg q1, if_pos (by omega), if_neg q2, if_pos (by omega), if_pos (by omega), hw, wrap_succ hj (by omega)]) (ih (j + 1) (by omega) (by omega) (a - (rd_T41 c[j].f2 ms[j]).f1) (by omega) (by omega))
theorem kept_j2 (h : Sized s c n) (ht : TableFit s c n x y) (ms : List Int) (A B K R : Int) (h0 : 0 ≤ R) (h1 : R ≤ 10000) : Ev (fun k => keep_Kept.j2 k R s c n x y A B ms K) (if (ms.length : Int) = (c.length : Int) then endOf (goL c ms (10000 - R)) else (0, 3)) := by
  have h6 := ht.contribs.1
  by_cases q : (ms.length : Int) = (c.length : Int)
  · have hw : wrap64 (10000 - R) = 10000 - R := wrap_in (by omega) (by omega)
    have hl := kept_l0 h ht ms (by omega) ms.length 0 (by omega) (by omega) (10000 - R) (by omega) (by omega)
    rw [List.drop_zero, List.drop_zero] at hl
    rw [if_pos q]
    exact Ev.step (f := fun k => keep_Kept.l0 k (10000 - R) ms (ms.length : Int) ((0 : Nat) : Int) s c n x y) (fun k => by simp only [keep_Kept.j2]; rw [if_pos q, hw]; rfl) hl
  · rw [if_neg q]
    exact Ev.step (f := fun _ => some (0, 3)) (fun k => by simp only [keep_Kept.j2]; rw [if_neg q]) (Ev.now _)
theorem kept_ev (h : Sized s c n) (ht : TableFit s c n x y) (hev : Ev (fun k => table_Check.f k s c n x y) 0) (A B K : Int) (ms : List Int) : Ev (fun k => keep_Kept.f k s c n x y A B ms K) (keptOf s c x A B ms) := by
  have hr := rateOf_range h ht A B
  have hj1 : Ev (fun k => keep_Kept.j1 k true s c n x y A B ms K) (0, 81) := Ev.step (f := fun _ => some (0, 81)) (fun k => by simp only [keep_Kept.j1]; rw [if_pos trivial]) (Ev.now _)
  have hf : ∀ r, Ev (fun k => if A = -1 then keep_Kept.j0 k x (B == -1) s c n x y A B ms K else keep_Kept.j0 k x false s c n x y A B ms K) r → Ev (fun k => keep_Kept.f k s c n x y A B ms K) r := fun r hr => Ev.congr (f := fun k => (table_Check.f k s c n x y).bind fun t => if t = 0 then (if A = -1 then keep_Kept.j0 k x (B == -1) s c n x y A B ms K else keep_Kept.j0 k x false s c n x y A B ms K) else some (0, t)) (fun k => rfl) (Ev.bind hev (Ev.congr (fun k => if_pos rfl) hr))
  apply hf
  by_cases q1 : A = -1 ∧ B = -1
  · have he : keptOf s c x A B ms = if (ms.length : Int) = (c.length : Int) then endOf (goL c ms (10000 - x)) else (0, 3) := by unfold keptOf rateOf; rw [if_pos q1, if_pos rfl]
    rw [he]
    have hx := ht.limit
    refine Ev.congr (f := fun k => keep_Kept.j0 k x true s c n x y A B ms K) (fun k => by rw [if_pos q1.1, q1.2]; rfl) (Ev.step (f := fun k => keep_Kept.j2 k x s c n x y A B ms K) (fun k => by simp only [keep_Kept.j0]; rw [if_pos trivial]) (kept_j2 h ht ms A B K x hx.1 hx.2))
  · have hj0 : ∀ r, Ev (fun k => if A < 0 then keep_Kept.j1 k true s c n x y A B ms K else keep_Kept.j1 k (decide (A ≥ (s.length : Int))) s c n x y A B ms K) r → Ev (fun k => if A = -1 then keep_Kept.j0 k x (B == -1) s c n x y A B ms K else keep_Kept.j0 k x false s c n x y A B ms K) r := by
      intro r hr
      have h0 : Ev (fun k => keep_Kept.j0 k x false s c n x y A B ms K) r := Ev.step (f := fun k => if A < 0 then keep_Kept.j1 k true s c n x y A B ms K else keep_Kept.j1 k (decide (A ≥ (s.length : Int))) s c n x y A B ms K) (fun k => by simp only [keep_Kept.j0]; rw [if_neg (by simp)]) hr
      refine Ev.congr (f := fun k => keep_Kept.j0 k x false s c n x y A B ms K) (fun k => ?_) h0
      by_cases a : A = -1
      · have hb : (B == -1) = false := by
          have : ¬ B = -1 := fun b => q1 ⟨a, b⟩
          simpa using this
        rw [if_pos a, hb]
      · rw [if_neg a]
    apply hj0
    by_cases q2 : A < 0 ∨ A ≥ (s.length : Int)
    · have he : keptOf s c x A B ms = (0, 81) := by unfold keptOf rateOf; rw [if_neg q1, if_pos q2]; rfl
      rw [he]
      refine Ev.congr (f := fun k => keep_Kept.j1 k true s c n x y A B ms K) (fun k => ?_) hj1
      by_cases a : A < 0
      · rw [if_pos a]
      · rw [if_neg a, decide_eq_true (by omega)]
    · refine Ev.congr (f := fun k => keep_Kept.j1 k false s c n x y A B ms K) (fun k => by rw [if_neg (by omega), decide_eq_false (by omega)]) ?_
      by_cases q3 : B < 0 ∨ B ≥ ((rd_L2 s A).length : Int)
      · have he : keptOf s c x A B ms = (0, 3) := by unfold keptOf rateOf; rw [if_neg q1, if_neg q2, if_pos q3]; rfl
        rw [he]
        refine Ev.step (f := fun _ => some (0, 3)) (fun k => ?_) (Ev.now _)
        simp only [keep_Kept.j1]
        rw [if_neg (by simp)]
        by_cases b : B < 0
        · rw [if_pos b]
        · rw [if_neg b, if_pos (by omega), if_pos (by omega), if_pos (by omega)]
      · have hq : rateOf s x A B = ((rd_T41 (rd_L2 s A) B).f1, 0) := by unfold rateOf; rw [if_neg q1, if_neg q2, if_neg q3]
        rw [hq] at hr
        have he : keptOf s c x A B ms = if (ms.length : Int) = (c.length : Int) then endOf (goL c ms (10000 - (rd_T41 (rd_L2 s A) B).f1)) else (0, 3) := by unfold keptOf; rw [hq, if_pos rfl]
        rw [he]
        refine Ev.step (f := fun k => keep_Kept.j2 k (rd_T41 (rd_L2 s A) B).f1 s c n x y A B ms K) (fun k => ?_) (kept_j2 h ht ms A B K _ hr.1 hr.2)
        simp only [keep_Kept.j1]
        rw [if_neg (by simp), if_neg (by omega), if_pos (by omega), if_pos (by omega), if_neg (by omega), if_pos (by omega), if_pos (by omega)]
theorem kept_bad {e : Int} (hev : Ev (fun k => table_Check.f k s c n x y) e) (h0 : e ≠ 0) (A B K : Int) (ms : List Int) : Ev (fun k => keep_Kept.f k s c n x y A B ms K) (0, e) :=
  Ev.congr (f := fun k => (table_Check.f k s c n x y).bind fun t => if t = 0 then (if A = -1 then keep_Kept.j0 k x (B == -1) s c n x y A B ms K else keep_Kept.j0 k x false s c n x y A B ms K) else some (0, t)) (fun k => rfl) (Ev.bind hev (Ev.congr (fun k => if_neg h0) (Ev.now _)))
theorem goL_picks : ∀ (l : List S43) (ms : List Int) (a : Int), Picks l ms → goL l ms a = some (a - tops l) ∧ ms.length = l.length := by
  intro l
  induction l with
  | nil =>
    intro ms a hP
    cases ms with
    | nil => simp [goL, tops]
    | cons m ms => exact absurd hP id
  | cons c l ih =>
    intro ms a hP
    cases ms with
    | nil => exact absurd hP id
    | cons m ms =>
      obtain ⟨⟨i, hi, rfl, ht⟩, hP⟩ := hP
      obtain ⟨h1, h2⟩ := ih ms (a - topOf c.f2 0) hP
      simp only [goL, rd41 c.f2 i hi, ht, tops, List.length_cons]
      rw [if_pos (by omega), h1]
      exact ⟨congrArg some (by omega), by omega⟩
theorem goL_least : ∀ (l : List S43) (ms : List Int) (a v : Int), goL l ms a = some v → a - tops l ≤ v := by
  intro l
  induction l with
  | nil =>
    intro ms a v hv
    cases ms with
    | nil =>
      simp only [goL, Option.some.injEq] at hv
      simp only [tops]
      omega
    | cons m ms => simp [goL] at hv
  | cons c l ih =>
    intro ms a v hv
    cases ms with
    | nil => simp [goL] at hv
    | cons m ms =>
      simp only [goL] at hv
      by_cases q : 0 ≤ m ∧ m < (c.f2.length : Int)
      · rw [if_pos q] at hv
        have h1 := ih ms _ v hv
        have hm : m.toNat < c.f2.length := by omega
        have he : m = ((m.toNat : Nat) : Int) := by omega
        rw [he, rd41 c.f2 m.toNat hm] at h1
        have h2 := mem_topOf c.f2 0 c.f2[m.toNat] (List.getElem_mem hm)
        simp only [tops]
        omega
      · rw [if_neg q] at hv
        exact absurd hv (by simp)
theorem rateOf_tax {T sc at_ : Int} (hT : Tax s x T sc at_) : rateOf s x sc at_ = (T, 0) := by
  unfold rateOf
  rcases hT.best with ⟨h1, h2, q⟩ | ⟨i, m, hi, hm, h1, h2, q⟩
  · rw [if_pos ⟨h1, h2⟩, q]
  · subst h1 h2
    rw [if_neg (by omega), if_neg (by omega), rdL2 s i hi, if_neg (by omega), rd41 s[i] m hm, q]
theorem rateOf_le {T sc at_ : Int} (hT : Tax s x T sc at_) (A B : Int) : (rateOf s x A B).1 ≤ T := by
  have h1 := hT.limit
  unfold rateOf
  split
  · exact h1
  · split
    · exact h1
    · split
      · exact h1
      · rename_i a b d
        have hA : A.toNat < s.length := by omega
        have he : A = ((A.toNat : Nat) : Int) := by omega
        have hr : rd_L2 s A = s[A.toNat] := by simp [rd_L2, hA]
        rw [hr] at d ⊢
        have hB : B.toNat < s[A.toNat].length := by omega
        have he2 : B = ((B.toNat : Nat) : Int) := by omega
        rw [he2, rd41 s[A.toNat] B.toNat hB]
        exact hT.all _ (List.getElem_mem hA) _ (List.getElem_mem hB)
theorem choices_l0 (h : Sized s c n) (ht : TableFit s c n x y) (ms : List Int) (hl : ms.length = c.length) (A B K x5 x6 : Int)
    : ∀ d j : Nat, c.length - j = d → j ≤ c.length → ∀ a : Int, -100000000 + 10000 * ((c.length : Int) - j) ≤ a → a ≤ 100000000 →
    (goL (c.drop j) (ms.drop j) a = none → ∀ a, Ev (fun k => stipendlaw10_KeepChoices.j7 k x5 x6 3 a s c n x y) true) → (∀ v, goL (c.drop j) (ms.drop j) a = some v → Ev (fun k => stipendlaw10_KeepChoices.j7 k x5 x6 0 v s c n x y) true) →
    Ev (fun k => stipendlaw10_KeepChoices.l0 k x5 x6 0 a c (c.length : Int) (j : Int) s c n x y A B ms K) true := by
  have h6 := ht.contribs.1
  have hbad : ∀ (j : Nat) (a : Int), j ≤ c.length → (∀ a, Ev (fun k => stipendlaw10_KeepChoices.j7 k x5 x6 3 a s c n x y) true) → Ev (fun k => stipendlaw10_KeepChoices.l0 k x5 x6 3 a c (c.length : Int) (j : Int) s c n x y A B ms K) true := by
    intro j a hj h3
    refine Ev.step (f := fun k => stipendlaw10_KeepChoices.j7 k x5 x6 3 a s c n x y) (fun k => ?_) (h3 a)
    simp only [stipendlaw10_KeepChoices.l0]
    by_cases q : (j : Int) < (c.length : Int)
    · rw [if_pos q, if_pos (by omega), if_pos q, if_neg (by decide)]
    · rw [if_neg q]
  intro d
  induction d with
  | zero =>
    intro j h1 h2 a ha hb hN hv
    rw [List.drop_of_length_le (l := ms) (by omega), List.drop_of_length_le (l := c) (by omega)] at hv
    exact Ev.step (f := fun k => stipendlaw10_KeepChoices.j7 k x5 x6 0 a s c n x y) (fun k => by simp only [stipendlaw10_KeepChoices.l0]; rw [if_neg (by omega)]) (hv a rfl)
  | succ d ih =>
    intro j h1 h2 a ha hb hN hv
    have hc : j < c.length := by omega
    have hj : j < ms.length := by omega
    have hfit := fit_contribs h ht c[j] (List.getElem_mem hc)
    rw [List.drop_eq_getElem_cons hj, List.drop_eq_getElem_cons hc] at hv hN
    simp only [goL] at hv hN
    by_cases q1 : ms[j] < 0
    · exact Ev.step (f := fun k => stipendlaw10_KeepChoices.l0 k x5 x6 3 a c (c.length : Int) ((j + 1 : Nat) : Int) s c n x y A B ms K) (fun k => by simp only [stipendlaw10_KeepChoices.l0, rdI_at ms j hj]; rw [if_pos (by omega), if_pos (by omega), if_pos (by omega), if_pos trivial, if_pos (by omega), if_pos q1, wrap_succ hc h.c0]) (hbad (j + 1) a (by omega) (hN (if_neg (by omega))))
    · by_cases q2 : ms[j] ≥ (c[j].f2.length : Int)
      · exact Ev.step (f := fun k => stipendlaw10_KeepChoices.l0 k x5 x6 3 a c (c.length : Int) ((j + 1 : Nat) : Int) s c n x y A B ms K) (fun k => by simp only [stipendlaw10_KeepChoices.l0, rdI_at ms j hj, rd43 c j hc]; rw [if_pos (by omega), if_pos (by omega), if_pos (by omega), if_pos trivial, if_pos (by omega), if_neg q1, if_pos q2, wrap_succ hc h.c0]) (hbad (j + 1) a (by omega) (hN (if_neg (by omega))))
      · have hr := rd_range c[j].f2 hfit.rates (m := ms[j]) (by omega) (by omega)
        have hw : wrap64 (a - (rd_T41 c[j].f2 ms[j]).f1) = a - (rd_T41 c[j].f2 ms[j]).f1 := wrap_in (by omega) (by omega)
        rw [if_pos (by omega)] at hv hN
        exact Ev.step (f := fun k => stipendlaw10_KeepChoices.l0 k x5 x6 0 (a - (rd_T41 c[j].f2 ms[j]).f1) c (c.length : Int) ((j + 1 : Nat) : Int) s c n x y A B ms K) (fun k => by simp only [stipendlaw10_KeepChoices.l0, rdI_at ms j hj, rd43 c j hc]; rw [if_pos (by omega), if_pos (by omega), if_pos (by omega), if_pos trivial, if_pos (by omega), if_neg q1, if_neg q2, if_pos (by omega), if_pos (by omega), hw, wrap_succ hc h.c0]) (ih (j + 1) (by omega) (by omega) (a - (rd_T41 c[j].f2 ms[j]).f1) (by omega) (by omega) hN hv)
theorem choices_out {w k1 e1 : Int} (hw : w ≠ 0) (hk : k1 = 0) (he : e1 = w) (a : Int) : Ev (fun k => stipendlaw10_KeepChoices.j7 k k1 e1 w a s c n x y) true :=
  Ev.step (f := fun _ => some true) (fun k => by simp only [stipendlaw10_KeepChoices.j7]; rw [if_neg hw, if_pos he, hk]; rfl) (Ev.now _)
theorem choices_j3 (h : Sized s c n) (ht : TableFit s c n x y) (hev : Ev (fun k => table_Check.f k s c n x y) 0) (ms : List Int) (A B K : Int) :
    Ev (fun k => stipendlaw10_KeepChoices.j3 k (keptOf s c x A B ms).1 (keptOf s c x A B ms).2 (rateOf s x A B).1 (rateOf s x A B).2 s c n x y A B ms K) true := by
  have h6 := ht.contribs.1
  have hr := rateOf_range h ht A B
  have hw : wrap64 (10000 - (rateOf s x A B).1) = 10000 - (rateOf s x A B).1 := wrap_in (by omega) (by omega)
  have hout : ∀ w : Int, w ≠ 0 → keptOf s c x A B ms = (0, w) → Ev (fun k => stipendlaw10_KeepChoices.j5 k (keptOf s c x A B ms).1 (keptOf s c x A B ms).2 (rateOf s x A B).1 w s c n x y A B ms K) true := by
    intro w hw0 hk
    refine Ev.step (f := fun k => stipendlaw10_KeepChoices.l0 k (keptOf s c x A B ms).1 (keptOf s c x A B ms).2 w (10000 - (rateOf s x A B).1) c (c.length : Int) ((0 : Nat) : Int) s c n x y A B ms K) (fun k => by simp only [stipendlaw10_KeepChoices.j5]; rw [hw]; rfl) ?_
    refine Ev.step (f := fun k => stipendlaw10_KeepChoices.j7 k (keptOf s c x A B ms).1 (keptOf s c x A B ms).2 w (10000 - (rateOf s x A B).1) s c n x y) (fun k => ?_) (choices_out hw0 (by rw [hk]) (by rw [hk]) _)
    simp only [stipendlaw10_KeepChoices.l0]
    by_cases q : ((0 : Nat) : Int) < (c.length : Int)
    · rw [if_pos q, if_pos (by omega), if_pos q, if_neg hw0]
    · rw [if_neg q]
  by_cases q1 : (rateOf s x A B).2 = 0
  · by_cases q2 : (ms.length : Int) = (c.length : Int)
    · have hk : keptOf s c x A B ms = endOf (goL c ms (10000 - (rateOf s x A B).1)) := by unfold keptOf; rw [if_pos q1, if_pos q2]
      have hne : ((ms.length : Int) != (c.length : Int)) = false := by simpa using q2
      refine Ev.step (f := fun k => stipendlaw10_KeepChoices.j4 k (keptOf s c x A B ms).1 (keptOf s c x A B ms).2 (rateOf s x A B).1 (rateOf s x A B).2 false s c n x y A B ms K) (fun k => by simp only [stipendlaw10_KeepChoices.j3]; rw [if_pos q1, hne]) ?_
      refine Ev.step (f := fun k => stipendlaw10_KeepChoices.j5 k (keptOf s c x A B ms).1 (keptOf s c x A B ms).2 (rateOf s x A B).1 (rateOf s x A B).2 s c n x y A B ms K) (fun k => by simp only [stipendlaw10_KeepChoices.j4]; rw [if_neg (by simp)]) ?_
      refine Ev.step (f := fun k => stipendlaw10_KeepChoices.l0 k (keptOf s c x A B ms).1 (keptOf s c x A B ms).2 0 (10000 - (rateOf s x A B).1) c (c.length : Int) ((0 : Nat) : Int) s c n x y A B ms K) (fun k => by simp only [stipendlaw10_KeepChoices.j5]; rw [hw, q1]; rfl) ?_
      cases hg : goL c ms (10000 - (rateOf s x A B).1) with
      | none =>
        rw [hg] at hk
        exact choices_l0 h ht ms (by omega) A B K _ _ c.length 0 (by omega) (by omega) (10000 - (rateOf s x A B).1) (by omega) (by omega) (fun _ a => choices_out (by decide) (by rw [hk]; rfl) (by rw [hk]; rfl) a) (fun v hv => by rw [List.drop_zero, List.drop_zero, hg] at hv; exact absurd hv (by simp))
      | some v =>
        rw [hg] at hk
        obtain ⟨T, sc, at_, ms', hwo, hT, hP⟩ := worst_ev h ht hev
        obtain ⟨hg', hl'⟩ := goL_picks c ms' (10000 - T) hP
        have hk' := kept_ev h ht hev sc at_ (10000 - T - tops c) ms'
        have hko : keptOf s c x sc at_ ms' = (10000 - T - tops c, 0) := by unfold keptOf; rw [rateOf_tax hT, if_pos rfl, if_pos (by omega), hg']; rfl
        rw [hko] at hk'
        have hle := goL_least c ms _ v hg
        have hle2 := rateOf_le hT A B
        have hj7 : Ev (fun k => stipendlaw10_KeepChoices.j7 k (keptOf s c x A B ms).1 (keptOf s c x A B ms).2 0 v s c n x y) true := by
          rw [hk]
          refine Ev.step (f := fun k => (keep_Worst.f k s c n x y).bind fun bt283 => (keep_Kept.f k s c n x y bt283.1 bt283.2.1 bt283.2.2.1 bt283.2.2.2.1).bind fun bt291 => if (endOf (some v)).2 = 0 then (if (endOf (some v)).1 = v then (if bt291.2 = 0 then (if bt291.1 = bt283.2.2.2.1 then (some (decide (bt291.1 ≤ (endOf (some v)).1))) else (some false)) else (some false)) else (some false)) else (some false)) (fun k => by simp only [stipendlaw10_KeepChoices.j7]; rw [if_pos trivial]) ?_
          refine Ev.bind hwo (Ev.bind hk' (Ev.congr (f := fun _ => some true) (fun k => ?_) (Ev.now _)))
          simp only [endOf]
          rw [if_pos trivial, if_pos trivial, if_pos trivial, if_pos trivial]
          exact congrArg some (decide_eq_true (by omega))
        exact choices_l0 h ht ms (by omega) A B K _ _ c.length 0 (by omega) (by omega) (10000 - (rateOf s x A B).1) (by omega) (by omega) (fun hN => by rw [List.drop_zero, List.drop_zero, hg] at hN; exact absurd hN (by simp)) (fun v' hv' => by rw [List.drop_zero, List.drop_zero, hg] at hv'; rw [← Option.some.inj hv']; exact hj7)
    · have hk : keptOf s c x A B ms = (0, 3) := by unfold keptOf; rw [if_pos q1, if_neg q2]
      have hne : ((ms.length : Int) != (c.length : Int)) = true := by simpa using q2
      refine Ev.step (f := fun k => stipendlaw10_KeepChoices.j4 k (keptOf s c x A B ms).1 (keptOf s c x A B ms).2 (rateOf s x A B).1 (rateOf s x A B).2 true s c n x y A B ms K) (fun k => by simp only [stipendlaw10_KeepChoices.j3]; rw [if_pos q1, hne]) ?_
      exact Ev.step (f := fun k => stipendlaw10_KeepChoices.j5 k (keptOf s c x A B ms).1 (keptOf s c x A B ms).2 (rateOf s x A B).1 3 s c n x y A B ms K) (fun k => by simp only [stipendlaw10_KeepChoices.j4]; rw [if_pos trivial]) (hout 3 (by decide) hk)
  · have hk : keptOf s c x A B ms = (0, (rateOf s x A B).2) := by unfold keptOf; rw [if_neg q1]
    refine Ev.step (f := fun k => stipendlaw10_KeepChoices.j4 k (keptOf s c x A B ms).1 (keptOf s c x A B ms).2 (rateOf s x A B).1 (rateOf s x A B).2 false s c n x y A B ms K) (fun k => by simp only [stipendlaw10_KeepChoices.j3]; rw [if_neg q1]) ?_
    exact Ev.step (f := fun k => stipendlaw10_KeepChoices.j5 k (keptOf s c x A B ms).1 (keptOf s c x A B ms).2 (rateOf s x A B).1 (rateOf s x A B).2 s c n x y A B ms K) (fun k => by simp only [stipendlaw10_KeepChoices.j4]; rw [if_neg (by simp)]) (hout _ q1 hk)
theorem choices_j1 (h : Sized s c n) (ht : TableFit s c n x y) (hev : Ev (fun k => table_Check.f k s c n x y) 0) (ms : List Int) (A B K : Int) :
    Ev (fun k => if A = -1 then stipendlaw10_KeepChoices.j1 k (keptOf s c x A B ms).1 (keptOf s c x A B ms).2 x 0 (B != -1) s c n x y A B ms K else stipendlaw10_KeepChoices.j1 k (keptOf s c x A B ms).1 (keptOf s c x A B ms).2 x 0 true s c n x y A B ms K) true := by
  have h3 := choices_j3 h ht hev ms A B K
  by_cases q1 : A = -1 ∧ B = -1
  · have hq : rateOf s x A B = (x, 0) := by unfold rateOf; rw [if_pos q1]
    rw [hq] at h3
    have hb : (B != -1) = false := by simpa using q1.2
    exact Ev.congr (f := fun k => stipendlaw10_KeepChoices.j1 k (keptOf s c x A B ms).1 (keptOf s c x A B ms).2 x 0 false s c n x y A B ms K) (fun k => by rw [if_pos q1.1, hb]) (Ev.step (f := fun k => stipendlaw10_KeepChoices.j3 k (keptOf s c x A B ms).1 (keptOf s c x A B ms).2 x 0 s c n x y A B ms K) (fun k => by simp only [stipendlaw10_KeepChoices.j1]; rw [if_neg (by simp)]) h3)
  · have hg : ∀ b : Bool, (b = true ↔ (A < 0 ∨ A ≥ (s.length : Int))) → Ev (fun k => stipendlaw10_KeepChoices.j2 k (keptOf s c x A B ms).1 (keptOf s c x A B ms).2 x 0 b s c n x y A B ms K) true := by
      intro b hb
      by_cases q2 : A < 0 ∨ A ≥ (s.length : Int)
      · have hq : rateOf s x A B = (x, 81) := by unfold rateOf; rw [if_neg q1, if_pos q2]
        rw [hq] at h3
        rw [hb.2 q2]
        exact Ev.step (f := fun k => stipendlaw10_KeepChoices.j3 k (keptOf s c x A B ms).1 (keptOf s c x A B ms).2 x 81 s c n x y A B ms K) (fun k => by simp only [stipendlaw10_KeepChoices.j2]; rw [if_pos trivial]) h3
      · have hbf : ¬ b = true := fun q => q2 (hb.1 q)
        by_cases q3 : B < 0 ∨ B ≥ ((rd_L2 s A).length : Int)
        · have hq : rateOf s x A B = (x, 3) := by unfold rateOf; rw [if_neg q1, if_neg q2, if_pos q3]
          rw [hq] at h3
          refine Ev.step (f := fun k => stipendlaw10_KeepChoices.j3 k (keptOf s c x A B ms).1 (keptOf s c x A B ms).2 x 3 s c n x y A B ms K) (fun k => ?_) h3
          simp only [stipendlaw10_KeepChoices.j2]
          rw [if_neg hbf]
          by_cases q4 : B < 0
          · rw [if_pos q4]
          · rw [if_neg q4, if_pos (by omega), if_pos (by omega), if_pos (by omega)]
        · have hq : rateOf s x A B = ((rd_T41 (rd_L2 s A) B).f1, 0) := by unfold rateOf; rw [if_neg q1, if_neg q2, if_neg q3]
          rw [hq] at h3
          exact Ev.step (f := fun k => stipendlaw10_KeepChoices.j3 k (keptOf s c x A B ms).1 (keptOf s c x A B ms).2 (rd_T41 (rd_L2 s A) B).f1 0 s c n x y A B ms K) (fun k => by simp only [stipendlaw10_KeepChoices.j2]; rw [if_neg hbf, if_neg (by omega), if_pos (by omega), if_pos (by omega), if_neg (by omega), if_pos (by omega), if_pos (by omega)]) h3
    have hg1 : Ev (fun k => stipendlaw10_KeepChoices.j1 k (keptOf s c x A B ms).1 (keptOf s c x A B ms).2 x 0 true s c n x y A B ms K) true := by
      by_cases q2 : A < 0
      · exact Ev.step (f := fun k => stipendlaw10_KeepChoices.j2 k (keptOf s c x A B ms).1 (keptOf s c x A B ms).2 x 0 true s c n x y A B ms K) (fun k => by simp only [stipendlaw10_KeepChoices.j1]; rw [if_pos trivial, if_pos q2]) (hg true ⟨fun _ => .inl q2, fun _ => rfl⟩)
      · exact Ev.step (f := fun k => stipendlaw10_KeepChoices.j2 k (keptOf s c x A B ms).1 (keptOf s c x A B ms).2 x 0 (decide (A ≥ (s.length : Int))) s c n x y A B ms K) (fun k => by simp only [stipendlaw10_KeepChoices.j1]; rw [if_pos trivial, if_neg q2]) (hg _ ⟨fun q => .inr (of_decide_eq_true q), fun q => decide_eq_true (by omega)⟩)
    refine Ev.congr (f := fun k => stipendlaw10_KeepChoices.j1 k (keptOf s c x A B ms).1 (keptOf s c x A B ms).2 x 0 true s c n x y A B ms K) (fun k => ?_) hg1
    by_cases a : A = -1
    · have hb : (B != -1) = true := by
        have : ¬ B = -1 := fun b => q1 ⟨a, b⟩
        simpa using this
      rw [if_pos a, hb]
    · rw [if_neg a]
end
theorem keepChoices_pure (s : List (List S41)) (c : List S43) (n : List S58) (x y A B : Int) (ms : List Int) (K : Int) (h : Sized s c n) : ∃ k, stipendlaw10_KeepChoices.f k s c n x y A B ms K = some true := by
  refine Ev.rounds ?_
  obtain ⟨b, hb⟩ := small_total h x y
  obtain ⟨e, he, hf⟩ := table_total h x y
  have h0 : Ev (fun k => stipendlaw10_KeepChoices.j0 k true s c n x y A B ms K) true := Ev.step (f := fun _ => some true) (fun k => by simp only [stipendlaw10_KeepChoices.j0]; rw [if_pos trivial]) (Ev.now _)
  have h1 : ∀ b, Ev (fun k => stipendlaw10_KeepChoices.j0 k b s c n x y A B ms K) true := by
    intro b
    cases b with
    | true => exact h0
    | false =>
      by_cases q : e = 0
      · have ht := hf.1 q
        subst q
        refine Ev.step (f := fun k => (keep_Kept.f k s c n x y A B ms K).bind fun bt273 => (table_Check.f k s c n x y).bind fun t275 => if t275 = 0 then (if A = -1 then stipendlaw10_KeepChoices.j1 k bt273.1 bt273.2 x 0 (B != -1) s c n x y A B ms K else stipendlaw10_KeepChoices.j1 k bt273.1 bt273.2 x 0 true s c n x y A B ms K) else (if bt273.2 = t275 then some (bt273.1 == 0) else some false)) (fun k => by simp only [stipendlaw10_KeepChoices.j0]; rw [if_neg (by simp)]) ?_
        exact Ev.bind (kept_ev h ht he A B K ms) (Ev.bind he (Ev.congr (fun k => if_pos rfl) (choices_j1 h ht he ms A B K)))
      · refine Ev.step (f := fun k => (keep_Kept.f k s c n x y A B ms K).bind fun bt273 => (table_Check.f k s c n x y).bind fun t275 => if t275 = 0 then (if A = -1 then stipendlaw10_KeepChoices.j1 k bt273.1 bt273.2 x 0 (B != -1) s c n x y A B ms K else stipendlaw10_KeepChoices.j1 k bt273.1 bt273.2 x 0 true s c n x y A B ms K) else (if bt273.2 = t275 then some (bt273.1 == 0) else some false)) (fun k => by simp only [stipendlaw10_KeepChoices.j0]; rw [if_neg (by simp)]) ?_
        exact Ev.bind (kept_bad he q A B K ms) (Ev.bind he (Ev.congr (f := fun _ => some true) (fun k => by rw [if_neg q, if_pos rfl]; rfl) (Ev.now _)))
  refine Ev.congr (f := fun k => (stipendlaw10_small.f k s c n x y).bind fun t272 => if t272 = true then stipendlaw10_KeepChoices.j0 k (decide ((ms.length : Int) > 30)) s c n x y A B ms K else stipendlaw10_KeepChoices.j0 k true s c n x y A B ms K) (fun k => rfl) (Ev.bind hb ?_)
  cases b with
  | true => exact Ev.congr (fun k => if_pos rfl) (h1 _)
  | false => exact Ev.congr (fun k => if_neg (by simp)) h0
end Go.Proofs.Ytdllkibfikcfbaa.PA
