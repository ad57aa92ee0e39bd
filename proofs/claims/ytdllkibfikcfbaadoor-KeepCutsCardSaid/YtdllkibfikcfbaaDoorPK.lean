import Derived.Test.YtdllkibfikcfbaaDoorKC
/-! ### KeepCuts answers true: the cases put together -/
namespace Go.Proofs.YtdllkibfikcfbaaDoor.PA
open Go.RowKit Go.Proofs.YtdllkibfikcfbaaDoorW.PrintWords Go.Proofs.YtdllkibfikcfbaaDoor.K
set_option linter.unusedVariables false
variable {s : List (List S41)} {c : List S43} {n : List S58} {x y : Int}
theorem fit_limit (ht : TableFit s c n x y) {x' : Int} (h0 : 0 ≤ x') (h1 : x' ≤ 10000) : TableFit s c n x' y := ⟨⟨h0, h1⟩, ht.round, ht.schemes, ht.contribs, ht.kinds⟩
/-- Of a lower or a greater limit: whether enough is kept. -/
theorem kc (h : Sized s c n) (ht : TableFit s c n x y) : ∃ T sc at_, Tax s x T sc at_ ∧ Ev (fun k => keep_Check.f k s c n x y) (if 10000 - T - tops c < 500 then 100 else 0) := by
  obtain ⟨e, he, hi⟩ := table_total h x y
  obtain rfl := hi.2 ht
  obtain ⟨T, sc, at_, ms, hw, hT, hP⟩ := worst_ev h ht he
  refine ⟨T, sc, at_, hT, ?_⟩
  have hk := kcheck_of hw
  have h1 := tax_range h ht hT
  have h2 := tops_range h ht
  have e1 : wrap64 ((10000 - T - tops c) * 20) = (10000 - T - tops c) * 20 := wrap_in (by omega) (by omega)
  rw [e1, if_pos rfl] at hk
  by_cases q : 10000 - T - tops c < 500
  · rw [if_pos q]
    rwa [if_pos (by omega)] at hk
  · rw [if_neg q]
    rwa [if_neg (by omega)] at hk
theorem tax_two {T sc at_ x' T' sc' at' : Int} (h : Tax s x T sc at_) (h' : Tax s x' T' sc' at') : T = x ∨ T ≤ T' := by
  rcases h.best with ⟨_, _, e⟩ | ⟨i, m, hi, hm, _, _, e⟩
  · exact .inl e
  · exact .inr (by rw [e]; exact h'.all _ (List.getElem_mem hi) _ (List.getElem_mem hm))
theorem tax_neg {T sc at_ : Int} (h : Tax s x T sc at_) (hs : sc < 0) : T = x := by
  rcases h.best with ⟨_, _, e⟩ | ⟨i, m, hi, hm, e, _, _⟩
  · exact e
  · omega
variable {w : World} {A0 : Option Addr} {c0 : Nat} {A1 : Option Addr} {c1 : Nat} {A2 : Option Addr} {c2 : Nat}
theorem keepCuts_calls (hr : TR w A0 c0 A1 c1 A2 c2 s c n) (htb : TB w) (h : Sized s c n) :
    Calls Tryd.prog 3 #[TA A0 c0 A1 c1 A2 c2 s c n x y] w fun o w' => o = .returned (.bool true) ∧ Below w.heap.size w w' := by
  obtain ⟨b, hs⟩ := small_total h x y
  cases b with
  | false => exact law_big hr htb hs
  | true =>
    obtain ⟨e, hc, hi⟩ := table_total h x y
    by_cases e0 : e = 0
    · subst e0
      have ht := hi.1 rfl
      obtain ⟨T, sc, at_, ms, he, hT, hP⟩ := worst_ev h ht hc
      have r1 := tax_range h ht hT
      have r2 := tops_range h ht
      have hx := ht.limit
      have hl6 := ht.contribs.1
      obtain ⟨l, hl, hll⟩ := lines_ev h ht hT hP he
      have hcl := clone_ev h ht
      obtain ⟨Tx, sx, ax, hTx, hk⟩ := kc h ht
      have q1 := tax_two hT hTx
      have q2 := tax_two hTx hT
      have q3 := hT.limit
      have q4 := hTx.limit
      obtain rfl : Tx = T := by omega
      by_cases hroom : 10000 - Tx - tops c < 500
      · rw [if_pos hroom] at hk
        obtain ⟨X, hX⟩ : ∃ X, (if 0 < x + ((10000 - Tx - tops c) - 500) then x + ((10000 - Tx - tops c) - 500) else 0) = X := ⟨_, rfl⟩
        have hXc : (0 < x + ((10000 - Tx - tops c) - 500) ∧ X = x + ((10000 - Tx - tops c) - 500)) ∨ (¬ 0 < x + ((10000 - Tx - tops c) - 500) ∧ X = 0) := by
          by_cases q : 0 < x + ((10000 - Tx - tops c) - 500)
          · rw [if_pos q] at hX; exact .inl ⟨q, hX.symm⟩
          · rw [if_neg q] at hX; exact .inr ⟨q, hX.symm⟩
        have hX0 : 0 ≤ X := by omega
        have hX1 : X ≤ x := by omega
        obtain ⟨TX, sX, aX, hTX, hkX⟩ := kc h (fit_limit ht hX0 (by omega))
        have p1 := tax_two hTX hT
        have p2 := tax_two hT hTX
        have p3 := hTX.limit
        by_cases hcut : 10000 - TX - tops c < 500
        · rw [if_pos hcut] at hkX
          obtain ⟨T0, s0, a0, hT0, hk0⟩ := kc h (fit_limit ht (Int.le_refl 0) (by omega))
          have o1 := tax_two hTX hT0
          have o3 := hT0.limit
          rw [if_pos (by omega)] at hk0
          exact law_none hr htb hs hc hcl he hl hll (by omega) hx.1 hx.2 hk (by omega) (by omega) hroom hX hkX hk0
        · rw [if_neg hcut] at hkX
          have hlt : X < x := by omega
          obtain ⟨T0, s0, a0, hT0, hk0⟩ := kc h (fit_limit ht (x' := X + 1) (by omega) (by omega))
          have o3 := hT0.limit
          rw [if_pos (by omega)] at hk0
          exact law_cut hr htb hs hc hcl he hl hll (by omega) hx.1 hx.2 hk (by omega) (by omega) hroom hX hkX hX0 hlt (same_ev h X y) hk0
      · rw [if_neg hroom] at hk
        by_cases hsc : sc < 0
        · have hTx' := tax_neg hT hsc
          obtain ⟨T1, s1, a1, hT1, hk1⟩ := kc h (fit_limit ht (x' := x + ((10000 - Tx - tops c) - 500)) (by omega) (by omega))
          obtain ⟨T2, s2, a2, hT2, hk2⟩ := kc h (fit_limit ht (x' := x + ((10000 - Tx - tops c) - 500) + 1) (by omega) (by omega))
          have o1 := tax_two hT1 hT
          have o2 := hT1.limit
          have o3 := hT2.limit
          rw [if_neg (by omega)] at hk1
          rw [if_pos (by omega)] at hk2
          exact law_limit hr htb hs hc hcl he hl hll (by omega) hx.1 hx.2 hk (by omega) (by omega) (by omega) hsc (by omega) hk1 hk2 (same_ev h x y)
        · exact law_rate hr htb hs hc hcl he hl hll (by omega) hx.1 hx.2 hk (by omega) (by omega) (by omega) (by omega) (same_ev h x y)
    · exact law_bad hr htb hs e0 hc (worst_bad hc e0) (lines_bad e0 (worst_bad hc e0))
end Go.Proofs.YtdllkibfikcfbaaDoor.PA
