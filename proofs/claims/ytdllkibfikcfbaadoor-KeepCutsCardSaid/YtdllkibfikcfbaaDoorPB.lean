import Derived.Test.YtdllkibfikcfbaaDoorPA
import Derived.Test.YtdllkibfikcfbaaDoorKx9
import Derived.Test.YtdllkibfikcfbaaDoorKx10
import Derived.Test.YtdllkibfikcfbaaDoorKx11
import Derived.Test.YtdllkibfikcfbaaDoorKx12
/- Plain laws, without memory: the greatest rates, the worst choice, sizes. -/
namespace Go.Proofs.YtdllkibfikcfbaaDoor.PA
open Go.RowKit Go.Proofs.YtdllkibfikcfbaaDoorW.PrintWords Go.Proofs.YtdllkibfikcfbaaDoorW.PrintLast Go.Proofs.YtdllkibfikcfbaaDoorW.PrintMore Go.Proofs.YtdllkibfikcfbaaDoor.K
set_option linter.unusedVariables false
set_option linter.unusedSimpArgs false
theorem mx_le {a b c : Int} (h1 : a ≤ c) (h2 : b ≤ c) : mx a b ≤ c := by unfold mx; split <;> omega
theorem le_mx_left (a b : Int) : a ≤ mx a b := by unfold mx; split <;> omega
theorem le_mx_right (a b : Int) : b ≤ mx a b := by unfold mx; split <;> omega
def topOf : List S41 → Int → Int
  | [], a => a
  | b :: l, a => topOf l (mx a b.f1)
theorem le_topOf (l : List S41) : ∀ a, a ≤ topOf l a := by
  induction l with
  | nil => intro a; exact Int.le_refl _
  | cons b l ih => intro a; exact Int.le_trans (le_mx_left a b.f1) (ih _)
theorem mem_topOf (l : List S41) : ∀ a, ∀ b ∈ l, b.f1 ≤ topOf l a := by
  induction l with
  | nil => intro a b hb; simp at hb
  | cons c l ih =>
    intro a b hb
    rcases List.mem_cons.1 hb with rfl | hb
    · exact Int.le_trans (le_mx_right a b.f1) (le_topOf l _)
    · exact ih _ b hb
theorem topOf_le (l : List S41) : ∀ a c, a ≤ c → (∀ b ∈ l, b.f1 ≤ c) → topOf l a ≤ c := by
  induction l with
  | nil => intro a c h _; exact h
  | cons b l ih => intro a c h1 h2; exact ih _ c (mx_le h1 (h2 b List.mem_cons_self)) (fun z hz => h2 z (List.mem_cons_of_mem _ hz))
theorem top_loop (l : List S41) (hl : l.length ≤ 9223372036854775807) : ∀ d j : Nat, l.length - j = d → j ≤ l.length → ∀ a, Ev (fun k => band_Top.l0 k a l (l.length : Int) (j : Int)) (topOf (l.drop j) a) := by
  intro d
  induction d with
  | zero =>
    intro j h1 h2 a
    rw [List.drop_of_length_le (by omega)]
    exact Ev.step (f := fun _ => some a) (fun k => by simp only [band_Top.l0]; rw [if_neg (by omega)]) (Ev.now _)
  | succ d ih =>
    intro j h1 h2 a
    have hj : j < l.length := by omega
    rw [List.drop_eq_getElem_cons hj]
    exact Ev.step (f := fun k => band_Top.l0 k (mx a l[j].f1) l (l.length : Int) ((j + 1 : Nat) : Int)) (fun k => by simp only [band_Top.l0, rd41 l j hj]; rw [if_pos (by omega), if_pos (by omega), if_pos (by omega), wrap_succ hj hl]) (ih (j + 1) (by omega) (by omega) _)
theorem top_ev (l : List S41) (hl : l.length ≤ 9223372036854775807) : Ev (fun k => band_Top.f k l) (topOf l 0) := by
  have h := top_loop l hl l.length 0 (by omega) (by omega) 0
  exact h
def Best (s : List (List S41)) (x top sc at_ : Int) : Prop :=
  (sc = -1 ∧ at_ = -1 ∧ top = x) ∨ ∃ (i m : Nat) (hi : i < s.length) (hm : m < s[i].length), sc = (i : Int) ∧ at_ = (m : Int) ∧ top = s[i][m].f1
theorem tax_inner (s : List (List S41)) (x : Int) (j : Nat) (hj : j < s.length) (hb : s[j].length ≤ 9223372036854775807)
    (hr : ∀ top sc at_, Best s x top sc at_ → ∃ T sc' at', Ev (fun k => keep_tax.l0 k top sc at_ s (s.length : Int) (wrap64 ((j : Int) + 1))) (T, sc', at') ∧ Best s x T sc' at' ∧ top ≤ T ∧ ∀ b ∈ s.drop (j + 1), ∀ z ∈ b, z.f1 ≤ T) :
    ∀ d m : Nat, s[j].length - m = d → m ≤ s[j].length → ∀ top sc at_, Best s x top sc at_ → ∃ T sc' at', Ev (fun k => keep_tax.l1 k top sc at_ (j : Int) s (s.length : Int) (j : Int) s[j] (s[j].length : Int) (m : Int)) (T, sc', at') ∧ Best s x T sc' at' ∧ top ≤ T ∧ (∀ z ∈ s[j].drop m, z.f1 ≤ T) ∧ ∀ b ∈ s.drop (j + 1), ∀ z ∈ b, z.f1 ≤ T := by
  intro d
  induction d with
  | zero =>
    intro m h1 h2 top sc at_ hB
    obtain ⟨T, sc', at', he, hB', hle, hall⟩ := hr top sc at_ hB
    refine ⟨T, sc', at', Ev.step (f := fun k => keep_tax.l0 k top sc at_ s (s.length : Int) (wrap64 ((j : Int) + 1))) (fun k => by simp only [keep_tax.l1]; rw [if_neg (by omega)]) he, hB', hle, ?_, hall⟩
    rw [List.drop_of_length_le (by omega)]
    intro z hz
    simp at hz
  | succ d ih =>
    intro m h1 h2 top sc at_ hB
    have hm : m < s[j].length := by omega
    by_cases hgt : s[j][m].f1 > top
    · obtain ⟨T, sc', at', he, hB', hle, hin, hall⟩ := ih (m + 1) (by omega) (by omega) s[j][m].f1 (j : Int) (m : Int) (.inr ⟨j, m, hj, hm, rfl, rfl, rfl⟩)
      exact ⟨T, sc', at', Ev.step (f := fun k => keep_tax.l1 k s[j][m].f1 (j : Int) (m : Int) (j : Int) s (s.length : Int) (j : Int) s[j] (s[j].length : Int) ((m + 1 : Nat) : Int)) (fun k => by simp only [keep_tax.l1, rd41 s[j] m hm]; rw [if_pos (by omega), if_pos (by omega), if_pos (by omega), if_pos hgt, wrap_succ hm hb]) he, hB', by omega, (all_drop hm _).2 ⟨hle, hin⟩, hall⟩
    · obtain ⟨T, sc', at', he, hB', hle, hin, hall⟩ := ih (m + 1) (by omega) (by omega) top sc at_ hB
      exact ⟨T, sc', at', Ev.step (f := fun k => keep_tax.l1 k top sc at_ (j : Int) s (s.length : Int) (j : Int) s[j] (s[j].length : Int) ((m + 1 : Nat) : Int)) (fun k => by simp only [keep_tax.l1, rd41 s[j] m hm]; rw [if_pos (by omega), if_pos (by omega), if_pos (by omega), if_neg hgt, wrap_succ hm hb]) he, hB', hle, (all_drop hm _).2 ⟨by omega, hin⟩, hall⟩
theorem tax_outer (s : List (List S41)) (x : Int) (hs : s.length ≤ 9223372036854775807) (hb : ∀ b ∈ s, b.length ≤ 9223372036854775807) : ∀ d j : Nat, s.length - j = d → j ≤ s.length → ∀ top sc at_, Best s x top sc at_ →
    ∃ T sc' at', Ev (fun k => keep_tax.l0 k top sc at_ s (s.length : Int) (j : Int)) (T, sc', at') ∧ Best s x T sc' at' ∧ top ≤ T ∧ ∀ b ∈ s.drop j, ∀ z ∈ b, z.f1 ≤ T := by
  intro d
  induction d with
  | zero =>
    intro j h1 h2 top sc at_ hB
    refine ⟨top, sc, at_, Ev.step (f := fun _ => some (top, sc, at_)) (fun k => by simp only [keep_tax.l0]; rw [if_neg (by omega)]) (Ev.now _), hB, Int.le_refl _, ?_⟩
    rw [List.drop_of_length_le (by omega)]
    intro z hz
    simp at hz
  | succ d ih =>
    intro j h1 h2 top sc at_ hB
    have hj : j < s.length := by omega
    have hbl := hb s[j] (List.getElem_mem hj)
    obtain ⟨T, sc', at', he, hB', hle, hin, hall⟩ := tax_inner s x j hj hbl (by rw [wrap_succ hj hs]; exact ih (j + 1) (by omega) (by omega)) s[j].length 0 (by omega) (by omega) top sc at_ hB
    exact ⟨T, sc', at', Ev.step (f := fun k => keep_tax.l1 k top sc at_ (j : Int) s (s.length : Int) (j : Int) s[j] (s[j].length : Int) ((0 : Nat) : Int)) (fun k => by simp only [keep_tax.l0, rdL2 s j hj]; rw [if_pos (by omega), if_pos (by omega), if_pos (by omega)]; rfl) he, hB', hle, (all_drop hj _).2 ⟨by simpa using hin, hall⟩⟩
structure Tax (s : List (List S41)) (x T sc at_ : Int) : Prop where
  best : Best s x T sc at_
  limit : x ≤ T
  all : ∀ b ∈ s, ∀ z ∈ b, z.f1 ≤ T
theorem tax_ev {s : List (List S41)} {c : List S43} {n : List S58} (h : Sized s c n) (x y : Int) : ∃ T sc at_, Ev (fun k => keep_tax.f k s c n x y) (T, sc, at_) ∧ Tax s x T sc at_ := by
  obtain ⟨T, sc, at_, he, hB, hle, hall⟩ := tax_outer s x h.s0 h.s1 s.length 0 (by omega) (by omega) x (-1) (-1) (.inl ⟨rfl, rfl, rfl⟩)
  exact ⟨T, sc, at_, he, hB, hle, by simpa using hall⟩
def tops : List S43 → Int
  | [] => 0
  | c :: l => topOf c.f2 0 + tops l
theorem tops_nonneg (l : List S43) : 0 ≤ tops l := by
  induction l with
  | nil => exact Int.le_refl _
  | cons c l ih => have := le_topOf c.f2 0; unfold tops; omega
theorem tops_append (a b : List S43) : tops (a ++ b) = tops a + tops b := by
  induction a with
  | nil => simp [tops]
  | cons c l ih => simp only [List.cons_append, tops]; omega
theorem tops_reverse (l : List S43) : tops l.reverse = tops l := by
  induction l with
  | nil => rfl
  | cons c l ih => rw [List.reverse_cons, tops_append, ih]; simp only [tops]; omega
theorem tops_le (l : List S43) (h : ∀ c ∈ l, topOf c.f2 0 ≤ 10000) : tops l ≤ 10000 * l.length := by
  induction l with
  | nil => exact Int.le_refl _
  | cons c l ih =>
    have h1 := h c List.mem_cons_self
    have h2 := ih (fun z hz => h z (List.mem_cons_of_mem _ hz))
    simp only [tops, List.length_cons]
    omega
def TopAt (b : List S41) (m : Int) : Prop := ∃ (i : Nat) (h : i < b.length), m = (i : Int) ∧ b[i].f1 = topOf b 0
def Picks : List S43 → List Int → Prop
  | [], [] => True
  | c :: l, m :: ms => TopAt c.f2 m ∧ Picks l ms
  | _, _ => False
theorem worst_inner (l : List S43) (j : Nat) (c : S43) (hb : c.f2.length ≤ 9223372036854775807) (hne : 0 < c.f2.length) (hpos : ∀ z ∈ c.f2, 0 ≤ z.f1) (A B : Int) (acc : List Int) (kept : Int) (hacc : acc.length < 17592186044416) (R : Int × Int × List Int × Int × Int → Prop)
    (hr : ∀ m, TopAt c.f2 m → ∃ r, Ev (fun k => keep_Worst.l0 k l (l.length : Int) (wrap64 ((j : Int) + 1)) A B (acc ++ [m]) (wrap64 (kept - topOf c.f2 0))) r ∧ R r) :
    ∀ d m : Nat, c.f2.length - m = d → m ≤ c.f2.length → ∀ q : Nat, (hq : q < c.f2.length) → (∀ z ∈ c.f2.take m, z.f1 ≤ c.f2[q].f1) →
      ∃ r, Ev (fun k => keep_Worst.l1 k (q : Int) l (l.length : Int) (j : Int) c.f2 (c.f2.length : Int) (m : Int) A B acc kept c.f0 c.f1 c.f2 c.f3 c.f4 c.f5) r ∧ R r := by
  intro d
  induction d with
  | zero =>
    intro m h1 h2 q hq hall
    have htop : c.f2[q].f1 = topOf c.f2 0 := by
      rw [List.take_of_length_le (by omega)] at hall
      have := topOf_le c.f2 0 c.f2[q].f1 (hpos _ (List.getElem_mem hq)) hall
      have := mem_topOf c.f2 0 c.f2[q] (List.getElem_mem hq)
      omega
    obtain ⟨r, he, hR⟩ := hr (q : Int) ⟨q, hq, rfl, htop⟩
    exact ⟨r, Ev.step (f := fun k => (band_Top.f k c.f2).bind fun t => keep_Worst.l0 k l (l.length : Int) (wrap64 ((j : Int) + 1)) A B (acc ++ [(q : Int)]) (wrap64 (kept - t))) (fun k => by simp only [keep_Worst.l1]; rw [if_neg (by omega), if_pos hacc]) (Ev.bind (top_ev c.f2 hb) he), hR⟩
  | succ d ih =>
    intro m h1 h2 q hq hall
    have hm : m < c.f2.length := by omega
    have eqs : ∀ (t : Nat), (∀ k, keep_Worst.l1 (k + 1) (q : Int) l (l.length : Int) (j : Int) c.f2 (c.f2.length : Int) (m : Int) A B acc kept c.f0 c.f1 c.f2 c.f3 c.f4 c.f5 = keep_Worst.l1 k (t : Int) l (l.length : Int) (j : Int) c.f2 (c.f2.length : Int) ((m + 1 : Nat) : Int) A B acc kept c.f0 c.f1 c.f2 c.f3 c.f4 c.f5) → (ht : t < c.f2.length) → (∀ z ∈ c.f2.take (m + 1), z.f1 ≤ c.f2[t].f1) →
        ∃ r, Ev (fun k => keep_Worst.l1 k (q : Int) l (l.length : Int) (j : Int) c.f2 (c.f2.length : Int) (m : Int) A B acc kept c.f0 c.f1 c.f2 c.f3 c.f4 c.f5) r ∧ R r := by
      intro t h ht hall'
      obtain ⟨r, he, hR⟩ := ih (m + 1) (by omega) (by omega) t ht hall'
      exact ⟨r, Ev.step h he, hR⟩
    have htake : c.f2.take (m + 1) = c.f2.take m ++ [c.f2[m]] := by rw [List.take_succ_eq_append_getElem hm]
    by_cases hgt : c.f2[m].f1 > c.f2[q].f1
    · refine eqs m (fun k => by simp only [keep_Worst.l1, rd41 c.f2 m hm, rd41 c.f2 q hq]; rw [if_pos (by omega), if_pos (by omega), if_pos (by omega), if_pos (by omega), if_pos (by omega), if_pos hgt, wrap_succ hm hb]) hm (fun z hz => ?_)
      rw [htake] at hz
      rcases List.mem_append.1 hz with hz | hz
      · have := hall z hz; omega
      · rw [List.mem_singleton.1 hz]; exact Int.le_refl _
    · refine eqs q (fun k => by simp only [keep_Worst.l1, rd41 c.f2 m hm, rd41 c.f2 q hq]; rw [if_pos (by omega), if_pos (by omega), if_pos (by omega), if_pos (by omega), if_pos (by omega), if_neg hgt, wrap_succ hm hb]) hq (fun z hz => ?_)
      rw [htake] at hz
      rcases List.mem_append.1 hz with hz | hz
      · exact hall z hz
      · rw [List.mem_singleton.1 hz]; omega
theorem worst_outer (l : List S43) (hl : l.length ≤ 1000) (hc : ∀ c ∈ l, BandsFit c.f2) (A B : Int) : ∀ d j : Nat, l.length - j = d → j ≤ l.length → ∀ (acc : List Int) (kept : Int), acc.length ≤ j → -100000000 + 10000 * (l.length - j) ≤ kept → kept ≤ 100000000 →
    ∃ ms, Ev (fun k => keep_Worst.l0 k l (l.length : Int) (j : Int) A B acc kept) (A, B, acc ++ ms, kept - tops (l.drop j), 0) ∧ Picks (l.drop j) ms := by
  intro d
  induction d with
  | zero =>
    intro j h1 h2 acc kept h3 h4 h5
    rw [List.drop_of_length_le (by omega)]
    refine ⟨[], Ev.step (f := fun _ => some (A, B, acc, kept, 0)) (fun k => by simp only [keep_Worst.l0]; rw [if_neg (by omega)]) ?_, trivial⟩
    simp only [tops, List.append_nil, Int.sub_zero]
    exact Ev.now _
  | succ d ih =>
    intro j h1 h2 acc kept h3 h4 h5
    have hj : j < l.length := by omega
    have hfit := hc l[j] (List.getElem_mem hj)
    have ht0 := le_topOf l[j].f2 0
    have ht1 := topOf_le l[j].f2 0 10000 (by omega) (fun b hb => (hfit.rates b hb).2)
    rw [List.drop_eq_getElem_cons hj]
    obtain ⟨r, he, m, ms, hTop, hP, rfl⟩ := worst_inner l j l[j] (by have := hfit.hi; omega) (by have := hfit.lo; omega) (fun z hz => (hfit.rates z hz).1) A B acc kept (by omega)
      (fun r => ∃ m ms, TopAt l[j].f2 m ∧ Picks (l.drop (j + 1)) ms ∧ r = (A, B, acc ++ m :: ms, kept - (topOf l[j].f2 0 + tops (l.drop (j + 1))), 0))
      (fun m hm => by
        have hw : wrap64 (kept - topOf l[j].f2 0) = kept - topOf l[j].f2 0 := wrap_in (by omega) (by omega)
        obtain ⟨ms, he, hP⟩ := ih (j + 1) (by omega) (by omega) (acc ++ [m]) (kept - topOf l[j].f2 0) (by simp; omega) (by omega) (by omega)
        refine ⟨_, by rw [hw, wrap_succ hj (by omega)]; exact he, m, ms, hm, hP, ?_⟩
        simp only [List.append_assoc, List.singleton_append, Prod.mk.injEq, true_and, and_true]
        omega)
      l[j].f2.length 0 (by omega) (by omega) 0 (by have := hfit.lo; omega) (fun z hz => by simp at hz)
    exact ⟨m :: ms, Ev.step (f := fun k => keep_Worst.l1 k ((0 : Nat) : Int) l (l.length : Int) (j : Int) l[j].f2 (l[j].f2.length : Int) ((0 : Nat) : Int) A B acc kept l[j].f0 l[j].f1 l[j].f2 l[j].f3 l[j].f4 l[j].f5) (fun k => by simp only [keep_Worst.l0, rd43 l j hj]; rw [if_pos (by omega), if_pos (by omega), if_pos (by omega)]; rfl) he, hTop, hP⟩
theorem fit_contribs {s : List (List S41)} {c : List S43} {n : List S58} {x y : Int} (h : Sized s c n) (ht : TableFit s c n x y) : ∀ z ∈ c, BandsFit z.f2 := fun z hz => bandOK_fit (h.c1 z hz).2 (ht.contribs.2.1 z hz).bands
theorem fit_schemes {s : List (List S41)} {c : List S43} {n : List S58} {x y : Int} (h : Sized s c n) (ht : TableFit s c n x y) : ∀ b ∈ s, BandsFit b := fun b hb => bandOK_fit (h.s1 b hb) (ht.schemes.2.2 b hb).1
theorem tax_range {s : List (List S41)} {c : List S43} {n : List S58} {x y T sc at_ : Int} (h : Sized s c n) (ht : TableFit s c n x y) (hT : Tax s x T sc at_) : 0 ≤ T ∧ T ≤ 10000 := by
  have h1 := hT.limit
  have h2 := ht.limit
  rcases hT.best with ⟨_, _, q⟩ | ⟨i, m, hi, hm, _, _, q⟩
  · omega
  · have := (fit_schemes h ht s[i] (List.getElem_mem hi)).rates s[i][m] (List.getElem_mem hm)
    omega
theorem tops_range {s : List (List S41)} {c : List S43} {n : List S58} {x y : Int} (h : Sized s c n) (ht : TableFit s c n x y) : 0 ≤ tops c ∧ tops c ≤ 60000 := by
  refine ⟨tops_nonneg c, ?_⟩
  have h1 := tops_le c (fun z hz => topOf_le z.f2 0 10000 (by omega) (fun b hb => ((fit_contribs h ht z hz).rates b hb).2))
  have h2 := ht.contribs.1
  omega
theorem worst_ev {s : List (List S41)} {c : List S43} {n : List S58} {x y : Int} (h : Sized s c n) (ht : TableFit s c n x y) (hev : Ev (fun k => table_Check.f k s c n x y) 0) :
    ∃ T sc at_ ms, Ev (fun k => keep_Worst.f k s c n x y) (sc, at_, ms, 10000 - T - tops c, 0) ∧ Tax s x T sc at_ ∧ Picks c ms := by
  obtain ⟨T, sc, at_, he, hT⟩ := tax_ev h x y
  have hr := tax_range h ht hT
  have hw : wrap64 (10000 - T) = 10000 - T := wrap_in (by omega) (by omega)
  obtain ⟨ms, hm, hP⟩ := worst_outer c (by have := ht.contribs.1; omega) (fit_contribs h ht) sc at_ c.length 0 (by omega) (by omega) [] (10000 - T) (by simp) (by have := ht.contribs.1; omega) (by omega)
  rw [List.drop_zero] at hm hP
  refine ⟨T, sc, at_, ms, Ev.congr (f := fun k => (table_Check.f k s c n x y).bind fun t => if t = 0 then (keep_tax.f k s c n x y).bind fun b => keep_Worst.l0 k c (c.length : Int) 0 b.2.1 b.2.2 [] (wrap64 (10000 - b.1)) else some (0, 0, [], 0, t)) (fun k => rfl) (Ev.bind hev (Ev.congr (fun k => if_pos rfl) (Ev.bind he (by rw [hw]; exact hm)))), hT, hP⟩
theorem worst_bad {s : List (List S41)} {c : List S43} {n : List S58} {x y e : Int} (hev : Ev (fun k => table_Check.f k s c n x y) e) (h0 : e ≠ 0) : Ev (fun k => keep_Worst.f k s c n x y) (0, 0, [], 0, e) :=
  Ev.congr (f := fun k => (table_Check.f k s c n x y).bind fun t => if t = 0 then (keep_tax.f k s c n x y).bind fun b => keep_Worst.l0 k c (c.length : Int) 0 b.2.1 b.2.2 [] (wrap64 (10000 - b.1)) else some (0, 0, [], 0, t)) (fun k => rfl) (Ev.bind hev (Ev.congr (fun k => if_neg h0) (Ev.now _)))
theorem kcheck_of {s : List (List S41)} {c : List S43} {n : List S58} {x y : Int} {sc at_ : Int} {ms : List Int} {kept e : Int} (h : Ev (fun k => keep_Worst.f k s c n x y) (sc, at_, ms, kept, e)) :
    Ev (fun k => keep_Check.f k s c n x y) (if e = 0 then (if wrap64 (kept * 20) < 10000 then 100 else 0) else e) := by
  refine Ev.congr (f := fun k => (keep_Worst.f k s c n x y).bind fun b => if b.2.2.2.2 = 0 then (if wrap64 (b.2.2.2.1 * 20) < 10000 then some 100 else some 0) else some b.2.2.2.2) (fun k => rfl) (Ev.bind h (Ev.congr (f := fun _ => some (if e = 0 then (if wrap64 (kept * 20) < 10000 then 100 else 0) else e)) (fun k => ?_) (Ev.now _)))
  by_cases q : e = 0
  · by_cases q2 : wrap64 (kept * 20) < 10000 <;> simp [q, q2]
  · simp [q]
end Go.Proofs.YtdllkibfikcfbaaDoor.PA
