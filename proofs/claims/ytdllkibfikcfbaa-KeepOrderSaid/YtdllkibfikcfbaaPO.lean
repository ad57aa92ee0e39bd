import Derived.Test.YtdllkibfikcfbaaPB
import Derived.Test.YtdllkibfikcfbaaPS
import Derived.Test.YtdllkibfikcfbaaKxO
/- Plain laws, without memory: KeepOrder. -/
namespace Go.Proofs.Ytdllkibfikcfbaa.PA
open Go.RowKit Go.Proofs.YtdllkibfikcfbaaW.PrintWords Go.Proofs.YtdllkibfikcfbaaW.PrintLast Go.Proofs.YtdllkibfikcfbaaW.PrintMore Go.Proofs.Ytdllkibfikcfbaa.K
set_option linter.unusedVariables false
set_option linter.unusedSimpArgs false

theorem kinds_le {n : List S58} (h : KindsOK n) : n.length ≤ 12 := by
  refine Decidable.byContradiction fun hn => ?_
  have hj : Ev (fun k => table_kinds.f k [] [] n 0 0) 2 := by
    refine Ev.congr (f := fun k => table_kinds.j0 k true [] [] n 0 0) (fun k => ?_) (Ev.step (f := fun _ => some 2) (fun k => by simp only [table_kinds.j0]; rfl) (Ev.now _))
    unfold table_kinds.f
    rw [if_neg (by omega), decide_eq_true (by omega)]
  exact absurd (ev_one (h [] [] 0 0) hj) (by decide)

theorem band_clone (l : List S41) (h : l.length ≤ 8) : api_Band_31.f l = some l := by
  simp only [api_Band_31.f, Option.bind_some, List.length_nil, List.nil_append]
  exact if_pos (by omega)

theorem clone_l1 (c : List S43) (hc : c.length ≤ 1000) (hb : ∀ z ∈ c, z.f2.length ≤ 8) (a : List (List S41)) (n : List S58) (x y : Int) : ∀ d j : Nat, c.length - j = d → j ≤ c.length → Ev (fun k => table_Clone.l1 k (c.length : Int) (j : Int) a c n x y) (a, c, n, x, y)
  | 0, j, hd, hj => Ev.step (f := fun _ => some (a, c, n, x, y)) (fun k => by simp only [table_Clone.l1]; exact if_neg (by omega)) (Ev.now _)
  | d + 1, j, hd, hj => by
    have hlt : j < c.length := by omega
    have ih := clone_l1 c hc hb a n x y d (j + 1) (by omega) (by omega)
    refine Ev.step (f := fun k => table_Clone.l1 k (c.length : Int) ((j + 1 : Nat) : Int) a c n x y) (fun k => ?_) ih
    simp only [table_Clone.l1, rd43 c j hlt]
    rw [if_pos (by omega), if_pos (by omega), if_pos (by omega), band_clone _ (hb _ (List.getElem_mem hlt)), Option.bind_some, wrap_succ hlt (by omega)]
    have : c.set ((j : Int)).toNat (⟨c[j].f0, c[j].f1, c[j].f2, c[j].f3, c[j].f4, c[j].f5⟩ : S43) = c := by
      rw [Int.toNat_natCast]
      exact List.set_getElem_self hlt
    rw [this]

theorem clone_l0 (s : List (List S41)) (hs : s.length ≤ 1000) (hsb : ∀ b ∈ s, b.length ≤ 8) (c : List S43) (hc : c.length ≤ 1000) (hb : ∀ z ∈ c, z.f2.length ≤ 8) (n : List S58) (x y : Int) : ∀ d j : Nat, s.length - j = d → j ≤ s.length → Ev (fun k => table_Clone.l0 k s (s.length : Int) (j : Int) (s.take j) c n x y) (s, c, n, x, y)
  | 0, j, hd, hj => by
    have e : s.take j = s := List.take_of_length_le (by omega)
    rw [e]
    exact Ev.step (f := fun k => table_Clone.l1 k (c.length : Int) ((0 : Nat) : Int) s c n x y) (fun k => by simp only [table_Clone.l0]; exact if_neg (by omega)) (clone_l1 c hc hb s n x y c.length 0 (by omega) (by omega))
  | d + 1, j, hd, hj => by
    have hlt : j < s.length := by omega
    have ih := clone_l0 s hs hsb c hc hb n x y d (j + 1) (by omega) (by omega)
    refine Ev.step (f := fun k => table_Clone.l0 k s (s.length : Int) ((j + 1 : Nat) : Int) (s.take (j + 1)) c n x y) (fun k => ?_) ih
    simp only [table_Clone.l0, rdL2 s j hlt]
    rw [if_pos (by omega), if_pos (by omega), if_pos (by omega), band_clone _ (hsb _ (List.getElem_mem hlt)), Option.bind_some, if_pos (by rw [List.length_take]; omega), wrap_succ hlt (by omega), List.take_succ_eq_append_getElem hlt]

theorem clone_ev {s : List (List S41)} {c : List S43} {n : List S58} {x y : Int} (h : Sized s c n) (ht : TableFit s c n x y) : Ev (fun k => table_Clone.f k s c n x y) (s, c, n, x, y) := by
  have h6 := ht.contribs.1
  have h8 := ht.schemes.2.1
  have hn := kinds_le ht.kinds
  have hl := clone_l0 s (by omega) (fun b hb => (fit_schemes h ht b hb).hi) c (by omega) (fun z hz => (fit_contribs h ht z hz).hi) n x y s.length 0 (by omega) (by omega)
  refine Ev.congr (fun k => ?_) hl
  simp only [table_Clone.f, api_Contrib_29.f, api_Kind_30.f, Option.bind_some, List.length_nil, List.nil_append]
  rw [if_pos (by omega), Option.bind_some, if_pos (by omega), Option.bind_some, List.take_zero]
  rfl

theorem tax_le {s s' : List (List S41)} {x T sc at_ T' sc' at'' : Int} (h : Tax s x T sc at_) (h' : Tax s' x T' sc' at'') (hs : ∀ b, b ∈ s → b ∈ s') : T ≤ T' := by
  rcases h.best with ⟨_, _, e⟩ | ⟨i, m, hi, hm, _, _, e⟩
  · rw [e]; exact h'.limit
  · rw [e]; exact h'.all _ (hs _ (List.getElem_mem hi)) _ (List.getElem_mem hm)

theorem fit_other {s s' : List (List S41)} {c c' : List S43} {n : List S58} {x y : Int} (ht : TableFit s c n x y) (h1 : s'.length = s.length) (h2 : ∀ b, b ∈ s' → b ∈ s) (h3 : c'.length ≤ c.length) (h4 : ∀ z, z ∈ c' → z ∈ c) (h5 : c'.Pairwise Other) : TableFit s' c' n x y :=
  ⟨ht.limit, ht.round, ⟨by rw [h1]; exact ht.schemes.1, by rw [h1]; exact ht.schemes.2.1, fun b hb => ht.schemes.2.2 b (h2 b hb)⟩, ⟨Nat.le_trans h3 ht.contribs.1, fun z hz => ht.contribs.2.1 z (h4 z hz), h5⟩, ht.kinds⟩
theorem sized_other {s s' : List (List S41)} {c c' : List S43} {n : List S58} (h : Sized s c n) (h1 : s'.length = s.length) (h2 : ∀ b, b ∈ s' → b ∈ s) (h3 : c'.length ≤ c.length) (h4 : ∀ z, z ∈ c' → z ∈ c) : Sized s' c' n :=
  ⟨by rw [h1]; exact h.s0, fun b hb => h.s1 b (h2 b hb), Nat.le_trans h3 h.c0, fun z hz => h.c1 z (h4 z hz), h.n0, h.n1⟩
theorem tops_drop (l : List S43) : tops (l.drop 1) ≤ tops l := by
  cases l with
  | nil => simp
  | cons z l => have := le_topOf z.f2 0; simp only [List.drop_succ_cons, List.drop_zero, tops]; omega

theorem order_j1 {s : List (List S41)} {c : List S43} {n : List S58} {x y T : Int} {sc at_ : Int} (h : Sized s c n) (ht : TableFit s c n x y) (hT : Tax s x T sc at_) (q1 q2 : Int) (q3 : List Int)
    (hk : Ev (fun k => keep_Check.f k s c n x y) (if wrap64 ((10000 - T - tops c) * 20) < 10000 then 100 else 0)) :
    Ev (fun k => stipendlaw10_KeepOrder.j1 k false s c n x y s.reverse c.reverse n x y q1 q2 q3 (10000 - T - tops c)) true := by
  by_cases hz : (c.reverse.length : Int) = 0
  · exact Ev.step (f := fun _ => some true) (fun k => by simp only [stipendlaw10_KeepOrder.j1]; rw [if_neg (by simp), if_pos hz]) (Ev.now _)
  · have hlr : c.reverse.length = c.length := List.length_reverse
    have h3 : (c.reverse.drop 1).length ≤ c.length := by rw [List.length_drop, hlr]; omega
    have hmem : ∀ z, z ∈ c.reverse.drop 1 → z ∈ c := fun z hz => List.mem_reverse.1 (List.mem_of_mem_drop hz)
    have hp : (c.reverse.drop 1).Pairwise Other := List.Pairwise.sublist (List.drop_sublist 1 _) (List.pairwise_reverse.2 (ht.contribs.2.2.imp fun hab => Ne.symm hab))
    have hu := sized_other (s' := s.reverse) h List.length_reverse (fun b hb => List.mem_reverse.1 hb) h3 hmem
    have hf := fit_other (s' := s.reverse) ht List.length_reverse (fun b hb => List.mem_reverse.1 hb) h3 hmem hp
    obtain ⟨e, he, hiff⟩ := table_total hu x y
    obtain rfl := hiff.2 hf
    obtain ⟨T', sc', at', ms', hw', hT', _⟩ := worst_ev hu hf he
    have hTT : T' ≤ T := tax_le hT' hT (fun b hb => List.mem_reverse.1 hb)
    have hTT2 : T ≤ T' := tax_le hT hT' (fun b hb => List.mem_reverse.2 hb)
    have htop : tops (c.reverse.drop 1) ≤ tops c := by have := tops_drop c.reverse; rwa [tops_reverse] at this
    have hr := tax_range h ht hT
    have htr := tops_range h ht
    have htr' := tops_nonneg (c.reverse.drop 1)
    have hge : 10000 - T' - tops (c.reverse.drop 1) ≥ 10000 - T - tops c := by omega
    have hk' := kcheck_of hw'
    have e1 : wrap64 ((10000 - T - tops c) * 20) = (10000 - T - tops c) * 20 := wrap_in (by omega) (by omega)
    have e2 : wrap64 ((10000 - T' - tops (c.reverse.drop 1)) * 20) = (10000 - T' - tops (c.reverse.drop 1)) * 20 := wrap_in (by omega) (by omega)
    have h6 := ht.contribs.1
    have hcl : (c.reverse.drop 1).length = c.length - 1 := by rw [List.length_drop, hlr]
    have hpos : 1 ≤ c.length := by omega
    have hcomp : (keep_Components.f s.reverse (c.reverse.drop 1) n x y).bind (fun t => (keep_Components.f s c n x y).bind fun t2 => some (t == wrap64 (t2 - 1))) = some true := by
      simp only [keep_Components.f, Option.bind_some]
      rw [wrap_in (x := 1 + (c.length : Int)) (by omega) (by omega), wrap_in (x := 1 + ((c.reverse.drop 1).length : Int)) (by omega) (by omega), wrap_in (by omega) (by omega)]
      congr 1
      exact beq_iff_eq.2 (by omega)
    rw [if_pos rfl, e2] at hk'
    rw [e1] at hk
    refine Ev.step (f := fun k => (keep_Worst.f k s.reverse (c.reverse.drop 1) n x y).bind fun b => if b.2.2.2.1 ≥ 10000 - T - tops c then ((keep_Check.f k s c n x y).bind fun t397 => (if t397 = 0 then ((keep_Check.f k s.reverse (c.reverse.drop 1) n x y).bind fun t398 => (if t398 = 0 then ((keep_Components.f s.reverse (c.reverse.drop 1) n x y).bind fun t399 => ((keep_Components.f s c n x y).bind fun t400 => (some (t399 == (wrap64 (t400 - 1)))))) else (some false))) else ((keep_Components.f s.reverse (c.reverse.drop 1) n x y).bind fun t401 => ((keep_Components.f s c n x y).bind fun t402 => (some (t401 == (wrap64 (t402 - 1)))))))) else (some false)) (fun k => by simp only [stipendlaw10_KeepOrder.j1]; rw [if_neg (by simp), if_neg hz]) ?_
    refine Ev.bind hw' (Ev.congr (fun k => if_pos hge) (Ev.bind hk ?_))
    by_cases hq : (10000 - T - tops c) * 20 < 10000
    · rw [if_pos hq]
      exact Ev.congr (f := fun _ => some true) (fun k => (if_neg (by decide)).trans hcomp) (Ev.now _)
    · rw [if_neg hq]
      rw [if_neg (by omega)] at hk'
      exact Ev.congr (fun k => if_pos rfl) (Ev.bind hk' (Ev.congr (f := fun _ => some true) (fun k => (if_pos rfl).trans hcomp) (Ev.now _)))

theorem keepOrder_pure (s : List (List S41)) (c : List S43) (n : List S58) (x y : Int) (h : Sized s c n) : ∃ k, stipendlaw10_KeepOrder.f k s c n x y = some true := by
  refine Ev.rounds ?_
  obtain ⟨b, hb⟩ := small_total h x y
  obtain ⟨e, he, hf⟩ := table_total h x y
  have hj0 : Ev (fun k => stipendlaw10_KeepOrder.j0 k true s c n x y) true := Ev.step (f := fun _ => some true) (fun k => by simp only [stipendlaw10_KeepOrder.j0]; rfl) (Ev.now _)
  cases b with
  | false => exact Ev.congr (f := fun k => (stipendlaw10_small.f k s c n x y).bind fun t => if t = true then (table_Check.f k s c n x y).bind fun t2 => stipendlaw10_KeepOrder.j0 k (t2 != 0) s c n x y else stipendlaw10_KeepOrder.j0 k true s c n x y) (fun k => rfl) (Ev.bind hb (Ev.congr (fun k => if_neg (by simp)) hj0))
  | true =>
    refine Ev.congr (f := fun k => (stipendlaw10_small.f k s c n x y).bind fun t => if t = true then (table_Check.f k s c n x y).bind fun t2 => stipendlaw10_KeepOrder.j0 k (t2 != 0) s c n x y else stipendlaw10_KeepOrder.j0 k true s c n x y) (fun k => rfl) (Ev.bind hb (Ev.congr (fun k => if_pos rfl) (Ev.bind he ?_)))
    by_cases h0 : e = 0
    · have ht := hf.1 h0
      subst h0
      have hu := sized_other (s' := s.reverse) (c' := c.reverse) h List.length_reverse (fun b hb => List.mem_reverse.1 hb) (by rw [List.length_reverse]; exact Nat.le_refl _) (fun z hz => List.mem_reverse.1 hz)
      have hfu := fit_other (s' := s.reverse) (c' := c.reverse) ht List.length_reverse (fun b hb => List.mem_reverse.1 hb) (by rw [List.length_reverse]; exact Nat.le_refl _) (fun z hz => List.mem_reverse.1 hz) (List.pairwise_reverse.2 (ht.contribs.2.2.imp fun hab => Ne.symm hab))
      obtain ⟨e', he', hiff⟩ := table_total hu x y
      obtain rfl := hiff.2 hfu
      obtain ⟨T, sc, at_, ms, hw, hT, _⟩ := worst_ev h ht he
      obtain ⟨T', sc', at', ms', hw', hT', _⟩ := worst_ev hu hfu he'
      have hTT : T' = T := Int.le_antisymm (tax_le hT' hT (fun b hb => List.mem_reverse.1 hb)) (tax_le hT hT' (fun b hb => List.mem_reverse.2 hb))
      subst hTT
      rw [tops_reverse] at hw'
      have hk := kcheck_of hw
      have hk' := kcheck_of hw'
      rw [if_pos rfl] at hk hk'
      have h1 := order_j1 h ht hT sc at_ ms hk
      refine Ev.congr (f := fun k => stipendlaw10_KeepOrder.j0 k false s c n x y) (fun k => rfl) (Ev.step (fun k => by simp only [stipendlaw10_KeepOrder.j0]; rw [if_neg (by simp)]) (Ev.bind (clone_ev h ht) (Ev.bind hw (Ev.bind hw' (Ev.congr (fun k => (if_pos rfl).trans (if_pos rfl)) (Ev.bind hk (Ev.bind hk' ?_)))))))
      have hbb : ((if wrap64 ((10000 - T' - tops c) * 20) < 10000 then (100 : Int) else 0) != (if wrap64 ((10000 - T' - tops c) * 20) < 10000 then (100 : Int) else 0)) = false := by simp
      rw [hbb]
      exact h1
    · have hne : (e != 0) = true := by simpa using h0
      rw [hne]
      exact hj0
end Go.Proofs.Ytdllkibfikcfbaa.PA
