import Derived.Test.YtodijkdmcjnpkaaDoorKx6
import Derived.Test.YtodijkdmcjnpkaaDoorKTab
/- Plain laws, without memory: which codes may be, what they free, what is taxed. -/
namespace Go.Proofs.YtodijkdmcjnpkaaDoor.P
open Go.RowKit Go.Proofs.YtodijkdmcjnpkaaDoorW.PrintWords Go.Proofs.YtodijkdmcjnpkaaDoorW.PrintLast Go.Proofs.YtodijkdmcjnpkaaDoorW.PrintMore Go.Proofs.YtodijkdmcjnpkaaDoor.K Go.Proofs.YtodijkdmcjnpkaaDoor.KTab
set_option linter.unusedVariables false
set_option linter.unusedSimpArgs false

theorem ev_one {α : Type} {g : Nat → Option α} {a b : α} (h : Ev g a) (h' : Ev g b) : a = b := by
  obtain ⟨K, hK⟩ := h
  obtain ⟨K', hK'⟩ := h'
  have h1 := hK (max K K') (Nat.le_max_left _ _)
  have h2 := hK' (max K K') (Nat.le_max_right _ _)
  rw [h1] at h2
  exact Option.some.inj h2
theorem ev_at {α : Type} {g : Nat → Option α} {a : α} (n : Nat) (h : ∀ k, g (k + n) = some a) : Ev g a := ⟨n, fun k hk => by obtain ⟨m, rfl⟩ := Nat.exists_eq_add_of_le' hk; exact h m⟩
theorem wrap_in {x : Int} (h0 : -9223372036854775808 ≤ x) (h1 : x ≤ 9223372036854775807) : wrap64 x = x := by
  unfold wrap64
  omega

/-! ### which codes may be -/
def want (sc kd am fl : Int) : Int :=
  if sc < 0 ∨ sc > 7 then 81
  else if kd < 1 ∨ kd > 4 ∨ (kd > 2 ∧ am ≠ 0) ∨ am < 0 ∨ am > 999999000 ∨ Int.tmod am 1000 ≠ 0 ∨ (kd = 2 ∧ am = 0) ∨ (kd ≠ 3 ∧ fl ≠ 0) ∨ fl < 0 ∨ fl > 7 then 80 else 0
structure Fit (sc kd am fl : Int) : Prop where
  s0 : 0 ≤ sc
  s1 : sc ≤ 7
  k0 : 1 ≤ kd
  k1 : kd ≤ 4
  a0 : 0 ≤ am
  a1 : am ≤ 999999000
  ar : Int.tmod am 1000 = 0
  no : kd > 2 → am = 0
  ex : kd = 2 → am ≠ 0
  fo : kd ≠ 3 → fl = 0
  f0 : 0 ≤ fl
  f1 : fl ≤ 7
theorem fit_of {sc kd am fl : Int} (h : want sc kd am fl = 0) : Fit sc kd am fl := by
  unfold want at h
  split at h
  · exact absurd h (by decide)
  · split at h
    · exact absurd h (by decide)
    · rename_i a b
      refine ⟨by omega, by omega, by omega, by omega, by omega, by omega, ?_, fun q => ?_, fun q r => ?_, fun q => ?_, by omega, by omega⟩
      · exact Decidable.byContradiction fun q => b (by simp [q])
      · exact Decidable.byContradiction fun r => b (by simp [q, r])
      · exact b (by simp [q, r])
      · exact Decidable.byContradiction fun r => b (by simp [q, r])
theorem fit_want {sc kd am fl : Int} (h : Fit sc kd am fl) : want sc kd am fl = 0 := by
  have h1 := h.s0; have h2 := h.s1; have h3 := h.k0; have h4 := h.k1; have h5 := h.a0; have h6 := h.a1; have h7 := h.ar; have h8 := h.no; have h9 := h.ex; have h10 := h.fo; have h11 := h.f0; have h12 := h.f1
  unfold want
  rw [if_neg (by omega), if_neg]
  rintro (q | q | ⟨q, r⟩ | q | q | q | ⟨q, r⟩ | ⟨q, r⟩ | q | q)
  · omega
  · omega
  · exact r (h8 q)
  · omega
  · omega
  · exact q h7
  · exact h9 q r
  · exact r (h10 q)
  · omega
  · omega
section
variable (sc kd am fl : Int) (al : Bool)
theorem c6 (k : Nat) (b : Bool) : code_Check.j6 (k + 1) b sc kd am fl al = some (if b = true ∨ fl < 0 ∨ fl > 7 then 80 else 0) := by
  by_cases h1 : b = true <;> by_cases h2 : fl < 0 <;> by_cases h3 : fl > 7 <;> simp [code_Check.j6, h1, h2, h3]
theorem c5 (k : Nat) (b : Bool) : code_Check.j5 (k + 2) b sc kd am fl al = some (if b = true ∨ (kd ≠ 3 ∧ fl ≠ 0) ∨ fl < 0 ∨ fl > 7 then 80 else 0) := by
  by_cases h1 : b = true <;> by_cases h2 : kd = 3 <;> by_cases h3 : fl = 0 <;> simp [code_Check.j5, c6, h1, h2, h3]
theorem c4 (k : Nat) (b : Bool) : code_Check.j4 (k + 3) b sc kd am fl al = some (if b = true ∨ (kd = 2 ∧ am = 0) ∨ (kd ≠ 3 ∧ fl ≠ 0) ∨ fl < 0 ∨ fl > 7 then 80 else 0) := by
  by_cases h1 : b = true <;> by_cases h2 : kd = 2 <;> by_cases h3 : am = 0 <;> simp [code_Check.j4, c5, h1, h2, h3]
theorem c3 (k : Nat) (b : Bool) : code_Check.j3 (k + 4) b sc kd am fl al = some (if b = true ∨ am < 0 ∨ am > 999999000 ∨ Int.tmod am 1000 ≠ 0 ∨ (kd = 2 ∧ am = 0) ∨ (kd ≠ 3 ∧ fl ≠ 0) ∨ fl < 0 ∨ fl > 7 then 80 else 0) := by
  simp only [code_Check.j3, c4]
  by_cases h1 : b = true
  · rw [if_pos h1, if_pos (.inl h1), if_pos (.inl h1)]
  · rw [if_neg h1]
    by_cases h2 : am < 0
    · rw [if_pos h2, if_pos (.inl (decide_eq_true h2)), if_pos (.inr (.inl h2))]
    · rw [if_neg h2]
      by_cases h3 : am > 999999000
      · rw [if_pos h3, if_pos (.inl (decide_eq_true h3)), if_pos (.inr (.inr (.inl h3)))]
      · rw [if_neg h3]
        congr 1
        by_cases h4 : Int.tmod am 1000 = 0 <;> simp [h1, h2, h3, h4]
theorem c2 (k : Nat) (x b : Bool) : code_Check.j2 (k + 5) x b sc kd am fl al = some (if b = true ∨ (x = false ∧ am ≠ 0) ∨ am < 0 ∨ am > 999999000 ∨ Int.tmod am 1000 ≠ 0 ∨ (kd = 2 ∧ am = 0) ∨ (kd ≠ 3 ∧ fl ≠ 0) ∨ fl < 0 ∨ fl > 7 then 80 else 0) := by
  simp only [code_Check.j2, c3]
  cases b <;> cases x <;> simp
theorem c1 (k : Nat) (x : Bool) : code_Check.j1 (k + 6) x sc kd am fl al = some (if kd < 1 ∨ kd > 4 ∨ (x = false ∧ am ≠ 0) ∨ am < 0 ∨ am > 999999000 ∨ Int.tmod am 1000 ≠ 0 ∨ (kd = 2 ∧ am = 0) ∨ (kd ≠ 3 ∧ fl ≠ 0) ∨ fl < 0 ∨ fl > 7 then 80 else 0) := by
  simp only [code_Check.j1, c2]
  by_cases h1 : kd < 1
  · rw [if_pos h1, if_pos (.inl trivial), if_pos (.inl h1)]
  · rw [if_neg h1]
    congr 1
    by_cases h2 : kd > 4 <;> simp [h1, h2]
theorem c0 (k : Nat) (b : Bool) (hb : b = true ↔ (sc < 0 ∨ sc > 7)) : code_Check.j0 (k + 7) b sc kd am fl al = some (want sc kd am fl) := by
  simp only [code_Check.j0, c1]
  unfold want
  by_cases h1 : b = true
  · rw [if_pos h1, if_pos (hb.1 h1)]
  · rw [if_neg h1, if_neg (fun q => h1 (hb.2 q))]
    by_cases h2 : kd = 1
    · rw [if_pos h2]
      congr 1
      subst h2
      simp
    · rw [if_neg h2]
      congr 1
      by_cases h3 : kd = 2
      · subst h3
        simp
      · by_cases h4 : kd < 1
        · simp [h4]
        · have h5 : kd > 2 := by omega
          have h6 : (kd == 2) = false := by simpa using h3
          simp [h6, h5]
theorem check_ev : Ev (fun k => code_Check.f k sc kd am fl al) (want sc kd am fl) := by
  refine ev_at 7 fun k => ?_
  simp only [code_Check.f]
  by_cases h : sc < 0
  · rw [if_pos h]
    exact c0 sc kd am fl al k true ⟨fun _ => .inl h, fun _ => rfl⟩
  · rw [if_neg h]
    exact c0 sc kd am fl al k _ ⟨fun q => .inr (of_decide_eq_true q), fun q => decide_eq_true (by omega)⟩
end

/-! ### amounts -/
def Mid (a : Int) : Prop := -100000000000 ≤ a ∧ a ≤ 100000000000
instance (a : Int) : Decidable (Mid a) := by unfold Mid; infer_instance
theorem rd_at (l : List Int) (j : Nat) (h : j < l.length) : rd l (j : Int) = l[j] := by simp [rd, h]
theorem right_loop (l : List Int) (hl : l.length ≤ 100) : ∀ d j : Nat, l.length - j = d → j ≤ l.length → Ev (fun k => money_Right.l0 k l (l.length : Int) (j : Int)) ((l.drop j).all fun a => decide (Mid a)) := by
  intro d
  induction d with
  | zero =>
    intro j h1 h2
    rw [List.drop_of_length_le (by omega)]
    exact Ev.step (f := fun _ => some true) (fun k => by simp only [money_Right.l0]; rw [if_neg (by omega)]) (Ev.now _)
  | succ d ih =>
    intro j h1 h2
    have hj : j < l.length := by omega
    rw [List.drop_eq_getElem_cons hj]
    by_cases q1 : l[j] > 100000000000
    · rw [List.all_cons, decide_eq_false (show ¬ Mid l[j] from fun q => by have := q.2; omega), Bool.false_and]
      exact Ev.step (f := fun _ => some false) (fun k => by simp only [money_Right.l0, rd_at l j hj]; rw [if_pos (by omega), if_pos (by omega), if_pos (by omega), if_pos q1]) (Ev.now _)
    · by_cases q2 : l[j] < -100000000000
      · rw [List.all_cons, decide_eq_false (show ¬ Mid l[j] from fun q => by have := q.1; omega), Bool.false_and]
        exact Ev.step (f := fun _ => some false) (fun k => by simp only [money_Right.l0, rd_at l j hj]; rw [if_pos (by omega), if_pos (by omega), if_pos (by omega), if_neg q1, if_pos q2]) (Ev.now _)
      · have hw : wrap64 ((j : Int) + 1) = ((j + 1 : Nat) : Int) := by rw [wrap_in (by omega) (by omega)]; omega
        have hm : Mid l[j] := ⟨by omega, by omega⟩
        rw [List.all_cons, decide_eq_true hm, Bool.true_and]
        exact Ev.step (f := fun k => money_Right.l0 k l (l.length : Int) ((j + 1 : Nat) : Int)) (fun k => by simp only [money_Right.l0, rd_at l j hj]; rw [if_pos (by omega), if_pos (by omega), if_pos (by omega), if_neg q1, if_neg q2, hw]) (ih (j + 1) (by omega) (by omega))
theorem right_ev (l : List Int) (hl : l.length ≤ 100) : Ev (fun k => money_Right.f k l) (l.all fun a => decide (Mid a)) := by
  have h := right_loop l hl l.length 0 (by omega) (by omega)
  rw [List.drop_zero] at h
  exact h
theorem right1 (a : Int) : Ev (fun k => money_Right.f k [a]) (decide (Mid a)) := by
  have h := right_ev [a] (by simp)
  rw [show [a].all (fun x => decide (Mid x)) = decide (Mid a) from by simp] at h
  exact h
theorem right2 (a b : Int) : Ev (fun k => money_Right.f k [a, b]) (decide (Mid a ∧ Mid b)) := by
  have h := right_ev [a, b] (by simp)
  rw [show [a, b].all (fun x => decide (Mid x)) = decide (Mid a ∧ Mid b) from by simp] at h
  exact h
/-- How much of a is freed by n of d. -/
theorem part_range {a n d : Int} (ha : 0 ≤ a) (ha1 : a ≤ 999999000) (hn : 0 ≤ n) (hnd : n ≤ d) (hd : 1 ≤ d) (hd1 : d ≤ 1048576) : 0 ≤ a * n ∧ a * n ≤ 1048574951424000 ∧ 0 ≤ Int.tdiv (a * n) d ∧ Int.tdiv (a * n) d ≤ a := by
  have h1 : 0 ≤ a * n := Int.mul_nonneg ha hn
  have h2 : a * n ≤ 999999000 * 1048576 := Int.mul_le_mul ha1 (by omega) hn (by omega)
  have h3 : a * n ≤ a * d := Int.mul_le_mul_of_nonneg_left hnd ha
  rw [Int.tdiv_eq_ediv_of_nonneg h1]
  refine ⟨h1, by omega, Int.ediv_nonneg h1 (by omega), ?_⟩
  have h4 : a * n / d ≤ a * d / d := Int.ediv_le_ediv (by omega) h3
  rw [Int.mul_ediv_cancel _ (by omega)] at h4
  exact h4
def freeOf (kd am n d : Int) : Int × Int := if n < 0 ∨ d < 1 ∨ n > d ∨ d > 1048576 then (0, 1) else (if kd = 2 then -(Int.tdiv (am * n) d) else Int.tdiv (am * n) d, 0)
theorem scale_ev {a n d : Int} (ha : 0 ≤ a) (ha1 : a ≤ 999999000) (hn : 0 ≤ n) (hnd : n ≤ d) (hd : 1 ≤ d) (hd1 : d ≤ 1048576) : Ev (fun k => frac_Scale.f k a n d) (Int.tdiv (a * n) d, 0) := by
  obtain ⟨p1, p2, p3, p4⟩ := part_range ha ha1 hn hnd hd hd1
  have h1 := right1 a
  rw [decide_eq_true (show Mid a from ⟨by omega, by omega⟩)] at h1
  have h2 := right1 (Int.tdiv (a * n) d)
  rw [decide_eq_true (show Mid (Int.tdiv (a * n) d) from ⟨by omega, by omega⟩)] at h2
  have hw : wrap64 (a * n) = a * n := wrap_in (by omega) (by omega)
  have hw2 : wrap64 (Int.tdiv (a * n) d) = Int.tdiv (a * n) d := wrap_in (by omega) (by omega)
  have hm : ¬ Int.tmod (a * n) d < 0 := by rw [Int.tmod_eq_emod_of_nonneg p1]; have := Int.emod_nonneg (a * n) (show d ≠ 0 by omega); omega
  refine Ev.congr (f := fun k => (money_Right.f k [a]).bind fun t => if t = true then frac_Scale.j0 k a n d false else some (0, 10)) (fun k => ?_) (Ev.bind h1 (Ev.congr (fun k => if_pos rfl) ?_))
  · simp only [frac_Scale.f]
    congr 1
    funext t
    rw [if_neg (show ¬ n < 0 by omega), if_neg (show ¬ d ≤ 0 by omega), if_neg (show ¬ n > 1048576 by omega), decide_eq_false (show ¬ d > 1048576 by omega)]
  · refine Ev.step (f := fun k => (money_Right.f k [Int.tdiv (a * n) d]).bind fun t => if t = true then some (Int.tdiv (a * n) d, 0) else some (0, 10)) (fun k => ?_) (Ev.bind h2 (Ev.congr (fun k => if_pos rfl) (Ev.now _)))
    simp only [frac_Scale.j0, frac_floor.f, hw]
    rw [if_neg (by simp), if_neg (show ¬ d = 0 by omega), if_neg hm, hw2]
    rfl
theorem free_bad {sc kd am fl : Int} (al : Bool) (n d : Int) (h : want sc kd am fl ≠ 0) : Ev (fun k => code_Free.f k sc kd am fl al n d) (0, want sc kd am fl) :=
  Ev.congr (f := fun k => (code_Check.f k sc kd am fl al).bind fun t => if t = 0 then _ else some (0, t)) (fun k => rfl) (Ev.bind (check_ev sc kd am fl al) (Ev.congr (fun k => if_neg h) (Ev.now _)))
theorem free_ev {sc kd am fl : Int} (al : Bool) (n d : Int) (h : Fit sc kd am fl) : Ev (fun k => code_Free.f k sc kd am fl al n d) (freeOf kd am n d) := by
  have hc := check_ev sc kd am fl al
  rw [fit_want h] at hc
  have j0 : ∀ b : Bool, (b = true ↔ (n < 0 ∨ d < 1 ∨ n > d ∨ d > 1048576)) → Ev (fun k => code_Free.j0 k n d b sc kd am fl al) (freeOf kd am n d) := by
    intro b hb
    unfold freeOf
    by_cases q : n < 0 ∨ d < 1 ∨ n > d ∨ d > 1048576
    · rw [if_pos q, hb.2 q]
      exact Ev.step (f := fun _ => some (0, 1)) (fun k => by simp only [code_Free.j0]; rw [if_pos trivial]) (Ev.now _)
    · rw [if_neg q]
      have hbf : ¬ b = true := fun r => q (hb.1 r)
      obtain ⟨p1, p2, p3, p4⟩ := part_range h.a0 h.a1 (n := n) (d := d) (by omega) (by omega) (by omega) (by omega)
      have ha := h.a1
      have hw : wrap64 (-(Int.tdiv (am * n) d)) = -(Int.tdiv (am * n) d) := wrap_in (by omega) (by omega)
      refine Ev.step (f := fun k => (frac_Scale.f k am n d).bind fun bt => if kd = 2 then some (wrap64 (-bt.1), bt.2) else some (bt.1, bt.2)) (fun k => by simp only [code_Free.j0]; rw [if_neg hbf]) (Ev.bind (scale_ev h.a0 h.a1 (n := n) (d := d) (by omega) (by omega) (by omega) (by omega)) ?_)
      by_cases q2 : kd = 2
      · exact Ev.congr (f := fun _ => some _) (fun k => by rw [if_pos q2, if_pos q2]; simp only [hw]) (Ev.now _)
      · exact Ev.congr (f := fun _ => some _) (fun k => by rw [if_neg q2, if_neg q2]) (Ev.now _)
  refine Ev.congr (f := fun k => (code_Check.f k sc kd am fl al).bind fun t => if t = 0 then (if n < 0 then (code_Free.j0 k n d true sc kd am fl al) else (if d < 1 then (code_Free.j0 k n d true sc kd am fl al) else (if n > d then (code_Free.j0 k n d true sc kd am fl al) else (code_Free.j0 k n d (decide (d > 1048576)) sc kd am fl al)))) else some (0, t)) (fun k => rfl) (Ev.bind hc (Ev.congr (fun k => if_pos rfl) ?_))
  by_cases q1 : n < 0
  · exact Ev.congr (fun k => if_pos q1) (j0 true ⟨fun _ => .inl q1, fun _ => rfl⟩)
  · refine Ev.congr (fun k => if_neg q1) ?_
    by_cases q2 : d < 1
    · exact Ev.congr (fun k => if_pos q2) (j0 true ⟨fun _ => .inr (.inl q2), fun _ => rfl⟩)
    · refine Ev.congr (fun k => if_neg q2) ?_
      by_cases q3 : n > d
      · exact Ev.congr (fun k => if_pos q3) (j0 true ⟨fun _ => .inr (.inr (.inl q3)), fun _ => rfl⟩)
      · exact Ev.congr (fun k => if_neg q3) (j0 _ ⟨fun q => .inr (.inr (.inr (of_decide_eq_true q))), fun q => decide_eq_true (by omega)⟩)
/-- What is taxed of tx, where f is free. -/
def lessOf (tx f : Int) : Int × Int := if Mid tx ∧ Mid f then (if Mid (tx - f) then (tx - f, 0) else (0, 10)) else (0, 10)
theorem check1 (a : Int) : Ev (fun k => money_check.f k a) (if Mid a then (a, 0) else (0, 10)) := by
  refine Ev.congr (f := fun k => (money_Right.f k [a]).bind fun t => if t = true then some (a, 0) else some (0, 10)) (fun k => rfl) (Ev.bind (right1 a) (Ev.congr (f := fun _ => some _) (fun k => ?_) (Ev.now _)))
  by_cases q : Mid a <;> simp [q]
theorem sub_ev (tx f : Int) : Ev (fun k => money_Sub.f k tx f) (lessOf tx f) := by
  unfold lessOf
  refine Ev.congr (f := fun k => (money_Right.f k [tx, f]).bind fun t => if t = true then (money_check.f k (wrap64 (tx - f))).bind fun bt => some (bt.1, bt.2) else some (0, 10)) (fun k => rfl) (Ev.bind (right2 tx f) ?_)
  by_cases q : Mid tx ∧ Mid f
  · have hw : wrap64 (tx - f) = tx - f := wrap_in (by have := q.1.1; have := q.2.2; omega) (by have := q.1.2; have := q.2.1; omega)
    rw [if_pos q]
    refine Ev.congr (fun k => if_pos (by simp [q])) (Ev.bind (by rw [hw]; exact check1 (tx - f)) (Ev.congr (f := fun _ => some _) (fun k => ?_) (Ev.now _)))
    rfl
  · rw [if_neg q]
    exact Ev.congr (fun k => if_neg (by simpa using q)) (Ev.now _)
def chargeOf (kd am tx n d : Int) : Int × Int :=
  if (freeOf kd am n d).2 = 0 then (if kd = 4 then (if Mid tx then (0, 0) else (0, 10)) else (mx 0 (lessOf tx (freeOf kd am n d).1).1, (lessOf tx (freeOf kd am n d).1).2)) else (0, (freeOf kd am n d).2)
theorem charge_bad {sc kd am fl : Int} (al : Bool) (tx n d : Int) (h : want sc kd am fl ≠ 0) : Ev (fun k => code_Charge.f k sc kd am fl al tx n d) (0, want sc kd am fl) :=
  Ev.congr (f := fun k => (code_Free.f k sc kd am fl al n d).bind fun b => if b.2 = 0 then _ else some (0, b.2)) (fun k => rfl) (Ev.bind (free_bad al n d h) (Ev.congr (fun k => if_neg h) (Ev.now _)))
theorem charge_ev {sc kd am fl : Int} (al : Bool) (tx n d : Int) (h : Fit sc kd am fl) : Ev (fun k => code_Charge.f k sc kd am fl al tx n d) (chargeOf kd am tx n d) := by
  unfold chargeOf
  refine Ev.congr (f := fun k => (code_Free.f k sc kd am fl al n d).bind fun bt179 => if bt179.2 = 0 then (if kd = 4 then ((money_Right.f k (([tx] : List Int))).bind fun t184 => (if t184 = true then (some (0, 0)) else (some (0, 10)))) else ((money_Sub.f k tx bt179.1).bind fun bt185 => (some (mx 0 bt185.1, bt185.2)))) else (some (0, bt179.2))) (fun k => rfl) (Ev.bind (free_ev al n d h) ?_)
  by_cases q : (freeOf kd am n d).2 = 0
  · rw [if_pos q]
    refine Ev.congr (fun k => if_pos q) ?_
    by_cases q2 : kd = 4
    · rw [if_pos q2]
      refine Ev.congr (fun k => if_pos q2) (Ev.bind (right1 tx) (Ev.congr (f := fun _ => some _) (fun k => ?_) (Ev.now _)))
      by_cases r : Mid tx <;> simp [r]
    · rw [if_neg q2]
      exact Ev.congr (fun k => if_neg q2) (Ev.bind (sub_ev tx _) (Ev.now _))
  · rw [if_neg q]
    exact Ev.congr (fun k => if_neg q) (Ev.now _)
end Go.Proofs.YtodijkdmcjnpkaaDoor.P
