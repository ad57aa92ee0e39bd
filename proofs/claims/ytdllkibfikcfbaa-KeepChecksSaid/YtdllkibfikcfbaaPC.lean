import Derived.Test.YtdllkibfikcfbaaPB
import Derived.Test.YtdllkibfikcfbaaPS
import Derived.Test.YtdllkibfikcfbaaKx13
/- Plain laws, without memory: KeepChecks. -/
namespace Go.Proofs.Ytdllkibfikcfbaa.PA
open Go.RowKit Go.Proofs.YtdllkibfikcfbaaW.PrintWords Go.Proofs.YtdllkibfikcfbaaW.PrintLast Go.Proofs.YtdllkibfikcfbaaW.PrintMore Go.Proofs.Ytdllkibfikcfbaa.K
set_option linter.unusedVariables false
set_option linter.unusedSimpArgs false

/-! ### the most that contributions take -/
theorem most_inner (b : List S41) (hb : b.length ≤ 9223372036854775807) (rest : Int) (hr0 : 0 ≤ rest) (hr1 : rest ≤ 100000000) (hrate : ∀ z ∈ b, 0 ≤ z.f1 ∧ z.f1 ≤ 10000) : ∀ d j : Nat, b.length - j = d → j ≤ b.length → ∀ a, Ev (fun k => stipendlaw10_most.l0 k (a + rest) rest b (b.length : Int) (j : Int)) (topOf (b.drop j) a + rest) := by
  intro d
  induction d with
  | zero =>
    intro j h1 h2 a
    rw [List.drop_of_length_le (by omega)]
    exact Ev.step (f := fun _ => some (a + rest)) (fun k => by simp only [stipendlaw10_most.l0]; rw [if_neg (by omega)]) (Ev.now _)
  | succ d ih =>
    intro j h1 h2 a
    have hj : j < b.length := by omega
    have hz := hrate b[j] (List.getElem_mem hj)
    rw [List.drop_eq_getElem_cons hj]
    have hw : wrap64 (b[j].f1 + rest) = b[j].f1 + rest := wrap_in (by omega) (by omega)
    have hm : mx (a + rest) (b[j].f1 + rest) = mx a b[j].f1 + rest := by unfold mx; split <;> split <;> omega
    exact Ev.step (f := fun k => stipendlaw10_most.l0 k (mx a b[j].f1 + rest) rest b (b.length : Int) ((j + 1 : Nat) : Int)) (fun k => by simp only [stipendlaw10_most.l0, rd41 b j hj]; rw [if_pos (by omega), if_pos (by omega), if_pos (by omega), wrap_succ hj hb, hw, hm]) (ih (j + 1) (by omega) (by omega) _)
theorem topOf_low (b : List S41) (hne : 0 < b.length) (hpos : ∀ z ∈ b, 0 ≤ z.f1) (a : Int) (ha : a ≤ 0) : topOf b a = topOf b 0 := by
  have h0 := mem_topOf b a b[0] (List.getElem_mem hne)
  have h1 := hpos b[0] (List.getElem_mem hne)
  have h2 := topOf_le b a (topOf b 0) (by have := le_topOf b 0; omega) (mem_topOf b 0)
  have h3 := topOf_le b 0 (topOf b a) (by omega) (mem_topOf b a)
  omega
theorem most_ev (l : List S43) (hl : l.length ≤ 1000) (hc : ∀ c ∈ l, BandsFit c.f2) : Ev (fun k => stipendlaw10_most.f k l) (tops l) := by
  induction l with
  | nil => exact Ev.step (f := fun _ => some 0) (fun k => by simp only [stipendlaw10_most.f]; rfl) (Ev.now _)
  | cons c l ih =>
    have hfit := hc c List.mem_cons_self
    have ih' := ih (by simp at hl; omega) (fun z hz => hc z (List.mem_cons_of_mem _ hz))
    have hle := tops_le l (fun z hz => topOf_le z.f2 0 10000 (by omega) (fun b hb => ((hc z (List.mem_cons_of_mem _ hz)).rates b hb).2))
    have h0 := tops_nonneg l
    have hin := most_inner c.f2 (by have := hfit.hi; omega) (tops l) h0 (by simp at hl; omega) hfit.rates c.f2.length 0 (by omega) (by omega) (-(tops l))
    rw [show -(tops l) + tops l = 0 from by omega, List.drop_zero, topOf_low c.f2 (by have := hfit.lo; omega) (fun z hz => (hfit.rates z hz).1) _ (by omega)] at hin
    refine Ev.step (f := fun k => (stipendlaw10_most.f k l).bind fun t => stipendlaw10_most.l0 k 0 t c.f2 (c.f2.length : Int) 0) (fun k => ?_) (Ev.bind ih' hin)
    simp only [stipendlaw10_most.f]
    rw [if_neg (by simp; omega), if_pos (by simp; omega)]
    have hrd : rd_T43 (c :: l) 0 = c := rfl
    have hp : (0 : Int) < ((c :: l).length : Int) := by simp only [List.length_cons]; omega
    simp only [List.drop_succ_cons, List.drop_zero, hrd, if_pos hp]

/-! ### the least that is kept -/
def ratesOf : List (List S41) → List Int
  | [] => []
  | b :: s => b.map (·.f1) ++ ratesOf s
theorem mem_ratesOf (s : List (List S41)) (r : Int) : r ∈ ratesOf s ↔ ∃ b ∈ s, ∃ z ∈ b, z.f1 = r := by
  induction s with
  | nil => simp [ratesOf]
  | cons b s ih => simp [ratesOf, ih]
theorem ratesOf_length (s : List (List S41)) (h : ∀ b ∈ s, b.length ≤ 8) : (ratesOf s).length ≤ 8 * s.length := by
  induction s with
  | nil => simp [ratesOf]
  | cons b s ih =>
    have h1 := h b List.mem_cons_self
    have h2 := ih (fun z hz => h z (List.mem_cons_of_mem _ hz))
    simp only [ratesOf, List.length_append, List.length_map, List.length_cons]
    omega
def leastOf (M : Int) : List Int → Int → Int
  | [], a => a
  | r :: l, a => leastOf M l (mn a (10000 - r - M))
theorem leastOf_le (M : Int) (l : List Int) : ∀ a, leastOf M l a ≤ a := by
  induction l with
  | nil => intro a; exact Int.le_refl _
  | cons r l ih => intro a; exact Int.le_trans (ih _) (by unfold mn; split <;> omega)
theorem leastOf_mem (M : Int) (l : List Int) : ∀ a, ∀ r ∈ l, leastOf M l a ≤ 10000 - r - M := by
  induction l with
  | nil => intro a r hr; simp at hr
  | cons c l ih =>
    intro a r hr
    rcases List.mem_cons.1 hr with rfl | hr
    · exact Int.le_trans (leastOf_le M l _) (by unfold mn; split <;> omega)
    · exact ih _ r hr
theorem le_leastOf (M : Int) (l : List Int) : ∀ a c, c ≤ a → (∀ r ∈ l, c ≤ 10000 - r - M) → c ≤ leastOf M l a := by
  induction l with
  | nil => intro a c h _; exact h
  | cons r l ih => intro a c h1 h2; exact ih _ c (by have := h2 r List.mem_cons_self; unfold mn; split <;> omega) (fun z hz => h2 z (List.mem_cons_of_mem _ hz))
theorem rd_at (l : List Int) (j : Nat) (h : j < l.length) : rd l (j : Int) = l[j] := by simp [rd, h]
section
variable (s : List (List S41)) (c : List S43) (n : List S58) (x y : Int)
theorem least_l2 (M : Int) (hM0 : 0 ≤ M) (hM1 : M ≤ 100000000) (hm : Ev (fun k => stipendlaw10_most.f k c) M) (R : List Int) (hR : R.length ≤ 9223372036854775807) (hr : ∀ r ∈ R, 0 ≤ r ∧ r ≤ 10000) : ∀ d j : Nat, R.length - j = d → j ≤ R.length → ∀ a, Ev (fun k => stipendlaw10_least.l2 k a R (R.length : Int) (j : Int) s c n x y) (leastOf M (R.drop j) a) := by
  intro d
  induction d with
  | zero =>
    intro j h1 h2 a
    rw [List.drop_of_length_le (by omega)]
    exact Ev.step (f := fun _ => some a) (fun k => by simp only [stipendlaw10_least.l2]; rw [if_neg (by omega)]) (Ev.now _)
  | succ d ih =>
    intro j h1 h2 a
    have hj : j < R.length := by omega
    have hz := hr R[j] (List.getElem_mem hj)
    rw [List.drop_eq_getElem_cons hj]
    have hw : wrap64 (wrap64 (10000 - R[j]) - M) = 10000 - R[j] - M := by rw [wrap_in (x := 10000 - R[j]) (by omega) (by omega), wrap_in (by omega) (by omega)]
    refine Ev.step (f := fun k => (stipendlaw10_most.f k c).bind fun t => stipendlaw10_least.l2 k (mn a (wrap64 (wrap64 (10000 - R[j]) - t))) R (R.length : Int) ((j + 1 : Nat) : Int) s c n x y) (fun k => by simp only [stipendlaw10_least.l2, rd_at R j hj]; rw [if_pos (by omega), if_pos (by omega), if_pos (by omega), wrap_succ hj hR]) (Ev.bind hm ?_)
    rw [hw]
    exact ih (j + 1) (by omega) (by omega) _
theorem least_l1 (j : Nat) (b : List S41) (hb : b.length ≤ 8) (r : Int) : ∀ d m : Nat, b.length - m = d → m ≤ b.length → ∀ acc : List Int, acc.length ≤ 1000000 + m →
    Ev (fun k => stipendlaw10_least.l0 k (acc ++ (b.drop m).map (·.f1)) s (s.length : Int) (wrap64 ((j : Int) + 1)) s c n x y) r → Ev (fun k => stipendlaw10_least.l1 k acc s (s.length : Int) (j : Int) b (b.length : Int) (m : Int) s c n x y) r := by
  intro d
  induction d with
  | zero =>
    intro m h1 h2 acc h3 h
    rw [List.drop_of_length_le (by omega), List.map_nil, List.append_nil] at h
    exact Ev.step (f := fun k => stipendlaw10_least.l0 k acc s (s.length : Int) (wrap64 ((j : Int) + 1)) s c n x y) (fun k => by simp only [stipendlaw10_least.l1]; rw [if_neg (by omega)]) h
  | succ d ih =>
    intro m h1 h2 acc h3 h
    have hm : m < b.length := by omega
    rw [List.drop_eq_getElem_cons hm, List.map_cons, show acc ++ b[m].f1 :: (b.drop (m + 1)).map (·.f1) = (acc ++ [b[m].f1]) ++ (b.drop (m + 1)).map (·.f1) from by simp] at h
    exact Ev.step (f := fun k => stipendlaw10_least.l1 k (acc ++ [b[m].f1]) s (s.length : Int) (j : Int) b (b.length : Int) ((m + 1 : Nat) : Int) s c n x y) (fun k => by simp only [stipendlaw10_least.l1, rd41 b m hm]; rw [if_pos (by omega), if_pos (by omega), if_pos (by omega), if_pos (by omega), wrap_succ hm (by omega)]) (ih (m + 1) (by omega) (by omega) _ (by simp; omega) h)
theorem least_l0 (hs : s.length ≤ 1000) (hb : ∀ b ∈ s, b.length ≤ 8) (r : Int) : ∀ d j : Nat, s.length - j = d → j ≤ s.length → ∀ acc : List Int, acc.length ≤ 1 + 8 * j →
    Ev (fun k => stipendlaw10_least.l2 k 20000 (acc ++ ratesOf (s.drop j)) ((acc ++ ratesOf (s.drop j)).length : Int) ((0 : Nat) : Int) s c n x y) r → Ev (fun k => stipendlaw10_least.l0 k acc s (s.length : Int) (j : Int) s c n x y) r := by
  intro d
  induction d with
  | zero =>
    intro j h1 h2 acc h3 h
    rw [List.drop_of_length_le (by omega)] at h
    simp only [ratesOf, List.append_nil] at h
    exact Ev.step (f := fun k => stipendlaw10_least.l2 k 20000 acc (acc.length : Int) ((0 : Nat) : Int) s c n x y) (fun k => by simp only [stipendlaw10_least.l0]; rw [if_neg (by omega)]; rfl) h
  | succ d ih =>
    intro j h1 h2 acc h3 h
    have hj : j < s.length := by omega
    have hbl := hb s[j] (List.getElem_mem hj)
    rw [List.drop_eq_getElem_cons hj] at h
    simp only [ratesOf] at h
    rw [← List.append_assoc] at h
    have h' := ih (j + 1) (by omega) (by omega) (acc ++ s[j].map (·.f1)) (by simp; omega) h
    have h'' := least_l1 s c n x y j s[j] hbl r s[j].length 0 (by omega) (by omega) acc (by omega) (by rw [List.drop_zero, wrap_succ hj (by omega)]; exact h')
    exact Ev.step (f := fun k => stipendlaw10_least.l1 k acc s (s.length : Int) (j : Int) s[j] (s[j].length : Int) ((0 : Nat) : Int) s c n x y) (fun k => by simp only [stipendlaw10_least.l0, rdL2 s j hj]; rw [if_pos (by omega), if_pos (by omega), if_pos (by omega)]; rfl) h''
end
theorem least_ev {s : List (List S41)} {c : List S43} {n : List S58} {x y T sc at_ : Int} (h : Sized s c n) (ht : TableFit s c n x y) (hT : Tax s x T sc at_) : Ev (fun k => stipendlaw10_least.f k s c n x y) (10000 - T - tops c) := by
  have hM := tops_range h ht
  have hTr := tax_range h ht hT
  have hfs := fit_schemes h ht
  have hl8 : ∀ b ∈ s, b.length ≤ 8 := fun b hb => (hfs b hb).hi
  have hs8 : s.length ≤ 8 := ht.schemes.2.1
  have hlen := ratesOf_length s hl8
  have hm := most_ev c (by have := ht.contribs.1; omega) (fit_contribs h ht)
  have hR : ∀ r ∈ [x] ++ ratesOf s, 0 ≤ r ∧ r ≤ 10000 := by
    intro r hr
    rcases List.mem_append.1 hr with hr | hr
    · rw [List.mem_singleton.1 hr]; exact ht.limit
    · obtain ⟨b, hb, z, hz, rfl⟩ := (mem_ratesOf s r).1 hr
      exact (hfs b hb).rates z hz
  have hle : ∀ r ∈ [x] ++ ratesOf s, r ≤ T := by
    intro r hr
    rcases List.mem_append.1 hr with hr | hr
    · rw [List.mem_singleton.1 hr]; exact hT.limit
    · obtain ⟨b, hb, z, hz, rfl⟩ := (mem_ratesOf s r).1 hr
      exact hT.all b hb z hz
  have hin : T ∈ [x] ++ ratesOf s := by
    rcases hT.best with ⟨_, _, q⟩ | ⟨i, m, hi, hm, _, _, q⟩
    · rw [q]; simp
    · exact List.mem_append_right _ ((mem_ratesOf s T).2 ⟨s[i], List.getElem_mem hi, s[i][m], List.getElem_mem hm, q.symm⟩)
  have h2 := least_l2 s c n x y (tops c) hM.1 (by omega) hm ([x] ++ ratesOf s) (by simp; omega) hR ([x] ++ ratesOf s).length 0 (by omega) (by omega) 20000
  have hv : leastOf (tops c) (([x] ++ ratesOf s).drop 0) 20000 = 10000 - T - tops c := by
    rw [List.drop_zero]
    have a1 := leastOf_mem (tops c) ([x] ++ ratesOf s) 20000 T hin
    have a2 := le_leastOf (tops c) ([x] ++ ratesOf s) 20000 (10000 - T - tops c) (by omega) (fun r hr => by have := hle r hr; omega)
    omega
  rw [hv] at h2
  have h0 := least_l0 s c n x y (by omega) hl8 (10000 - T - tops c) s.length 0 (by omega) (by omega) [x] (by simp) (by rw [List.drop_zero]; exact h2)
  exact h0

/-! ### KeepChecks -/
theorem keepChecks_pure (s : List (List S41)) (c : List S43) (n : List S58) (x y : Int) (h : Sized s c n) : ∃ k, stipendlaw10_KeepChecks.f k s c n x y = some true := by
  refine Ev.rounds ?_
  obtain ⟨b, hb⟩ := small_total h x y
  obtain ⟨e, he, hf⟩ := table_total h x y
  cases b with
  | false => exact Ev.congr (f := fun k => (stipendlaw10_small.f k s c n x y).bind fun t => if t = true then _ else some true) (fun k => rfl) (Ev.bind hb (Ev.congr (fun k => if_neg (by simp)) (Ev.now _)))
  | true =>
    by_cases h0 : e = 0
    · have ht := hf.1 h0
      subst h0
      obtain ⟨T, sc, at_, ms, hw, hT, _⟩ := worst_ev h ht he
      have hk := kcheck_of hw
      have hl := least_ev h ht hT
      have hM := tops_range h ht
      have hTr := tax_range h ht hT
      have hw20 : wrap64 ((10000 - T - tops c) * 20) = (10000 - T - tops c) * 20 := wrap_in (by omega) (by omega)
      rw [if_pos rfl, hw20] at hk
      refine Ev.congr (f := fun k => (stipendlaw10_small.f k s c n x y).bind fun t => if t = true then (keep_Check.f k s c n x y).bind fun t250 => (table_Check.f k s c n x y).bind fun t251 => if t251 = 0 then (stipendlaw10_least.f k s c n x y).bind fun t260 => (keep_Worst.f k s c n x y).bind fun bt => if bt.2.2.2.2 = 0 then (if bt.2.2.2.1 = t260 then (if ((t250 == 0) == (decide ((wrap64 (t260 * 20)) ≥ 10000))) = true then (if t250 = 0 then (some true) else (some (t250 == 100))) else (some false)) else (some false)) else (some false) else _ else some true) (fun k => rfl) (Ev.bind hb (Ev.congr (fun k => if_pos rfl) (Ev.bind hk (Ev.bind he (Ev.congr (fun k => if_pos rfl) (Ev.bind hl (Ev.bind hw (Ev.congr (f := fun _ => some true) (fun k => ?_) (Ev.now _)))))))))
      simp only [hw20]
      by_cases q : (10000 - T - tops c) * 20 < 10000
      · simp [q]
      · have q' : 10000 ≤ (10000 - T - tops c) * 20 := by omega
        simp [q, q']
    · have hw := worst_bad he h0
      have hk := kcheck_of hw
      rw [if_neg h0] at hk
      refine Ev.congr (f := fun k => (stipendlaw10_small.f k s c n x y).bind fun t => if t = true then (keep_Check.f k s c n x y).bind fun t250 => (table_Check.f k s c n x y).bind fun t251 => if t251 = 0 then _ else (keep_Worst.f k s c n x y).bind fun bt => if t250 = t251 then (if bt.2.2.2.2 = t251 then (if bt.2.2.2.1 = 0 then (some ((bt.2.2.1.length : Int) == 0)) else (some false)) else (some false)) else (some false) else some true) (fun k => rfl) (Ev.bind hb (Ev.congr (fun k => if_pos rfl) (Ev.bind hk (Ev.bind he (Ev.congr (fun k => if_neg h0) (Ev.bind hw (Ev.congr (f := fun _ => some true) (fun k => ?_) (Ev.now _))))))))
      simp
end Go.Proofs.Ytdllkibfikcfbaa.PA
