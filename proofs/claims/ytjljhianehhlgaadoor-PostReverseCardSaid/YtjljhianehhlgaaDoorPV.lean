import Derived.Test.YtjljhianehhlgaaDoorK11
import Derived.Test.YtjljhianehhlgaaDoorKTab
/-! ### PostReverse: the plain law -/
namespace Go.Proofs.YtjljhianehhlgaaDoor.V
open Go Go.RowKit Go.Proofs.YtjljhianehhlgaaDoorW.PrintWords Go.Proofs.YtjljhianehhlgaaDoor.K Go.Proofs.YtjljhianehhlgaaDoor.KTab
set_option linter.unusedVariables false
/-- An entry turned round. -/
def neg1 (x : S31) : S31 := ⟨x.f0, wrap64 (-x.f1)⟩
theorem rev_ev (l : List S31) (hl : l.length ≤ 1000000) : ∀ d j : Nat, l.length - j = d → j ≤ l.length → Ev (fun k => post_Reverse.l0 k ((l.take j).map neg1) l (l.length : Int) (j : Int)) (l.map neg1) := by
  intro d
  induction d with
  | zero =>
    intro j hd hj
    have e : j = l.length := by omega
    subst e
    rw [List.take_length]
    exact Ev.step (f := fun _ => some (l.map neg1)) (fun k => by simp only [post_Reverse.l0]; rw [if_neg (by omega)]) (Ev.now _)
  | succ d ih =>
    intro j hd hj
    have hlt : j < l.length := by omega
    refine Ev.step (f := fun k => post_Reverse.l0 k ((l.take (j + 1)).map neg1) l (l.length : Int) ((j + 1 : Nat) : Int)) (fun k => ?_) (ih (j + 1) (by omega) (by omega))
    simp only [post_Reverse.l0, rd31 l j hlt]
    rw [if_pos (by omega), if_pos (by omega), if_pos (by omega), if_pos (by rw [List.length_map, List.length_take]; omega), wrap_succ hlt (by omega)]
    rw [List.take_succ_eq_append_getElem hlt, List.map_append]
    rfl
theorem reverse_ev (l : List S31) (hl : l.length ≤ 1000000) : Ev (fun k => post_Reverse.f k l) (l.map neg1) := rev_ev l hl l.length 0 (by omega) (by omega)
theorem neg_neg {x : S31} (h : Came x) : neg1 (neg1 x) = x := by
  obtain ⟨f0, f1⟩ := x
  unfold neg1
  have h1 := h.2.1
  have h2 := h.2.2
  simp only at h1 h2 ⊢
  congr 1
  unfold wrap64
  omega
theorem wrap_neg {s a : Int} : wrap64 (wrap64 (-s) + wrap64 (-a)) = wrap64 (-(wrap64 (s + a))) := by
  unfold wrap64
  omega
theorem wrap_zero {s : Int} (h0 : -9223372036854775808 ≤ s) (h1 : s ≤ 9223372036854775807) : wrap64 (-s) = 0 ↔ s = 0 := by
  unfold wrap64
  omega
theorem wrap_rng (s : Int) : -9223372036854775808 ≤ wrap64 s ∧ wrap64 s ≤ 9223372036854775807 := by
  unfold wrap64
  omega
theorem fit_neg {a : Int} (h0 : -9223372036854775808 ≤ a) (h1 : a ≤ 9223372036854775807) (hn : a ≠ -9223372036854775808) : Fit (wrap64 (-a)) ↔ Fit a := by
  unfold Fit wrap64
  omega
theorem chk_neg : ∀ (l : List S31) (s : Int), -9223372036854775808 ≤ s → s ≤ 9223372036854775807 → (∀ x ∈ l, Came x ∧ x.f1 ≠ -9223372036854775808) → chk (wrap64 (-s)) (l.map neg1) = chk s l
  | [], s, h0, h1, _ => by
    simp only [List.map_nil, chk]
    by_cases q : s = 0
    · rw [if_pos q, if_pos ((wrap_zero h0 h1).2 q)]
    · rw [if_neg q, if_neg (fun e => q ((wrap_zero h0 h1).1 e))]
  | x :: r, s, h0, h1, h => by
    have hx := h x List.mem_cons_self
    have hr := wrap_rng (s + x.f1)
    simp only [List.map_cons, chk]
    have e1 : (neg1 x).f1 = wrap64 (-x.f1) := rfl
    have e0 : (neg1 x).f0 = x.f0 := rfl
    rw [e1, e0]
    by_cases q : Fit x.f1
    · rw [if_pos q, if_pos ((fit_neg hx.1.2.1 hx.1.2.2 hx.2).2 q)]
      by_cases q2 : Named x.f0
      · rw [if_pos q2, if_pos q2, wrap_neg]
        exact chk_neg r _ hr.1 hr.2 (fun y hy => h y (List.mem_cons_of_mem _ hy))
      · rw [if_neg q2, if_neg q2]
    · rw [if_neg q, if_neg (fun e => q ((fit_neg hx.1.2.1 hx.1.2.2 hx.2).1 e))]
theorem rd_map (l : List S31) (j : Nat) (h : j < l.length) : rd_T31 (l.map neg1) (j : Int) = neg1 l[j] := by
  rw [rd31 _ j (by simpa using h), List.getElem_map]
theorem size_ok {x : S31} (h : Came x) : x.f0.size ≤ 9223372036854775807 := by
  have := h.1
  unfold maxLen at this
  omega
theorem law_loop (l : List S31) (hl : l.length ≤ 40) (hc : ∀ x ∈ l, Came x) : ∀ d j : Nat, l.length - j = d → j ≤ l.length → (∀ i (h : i < l.length), i < j → l[i].f1 ≠ -9223372036854775808) → Ev (fun k => stipendlaw22_PostReverse.l0 k l (l.map neg1) l l (l.length : Int) (j : Int)) true := by
  intro d
  induction d with
  | zero =>
    intro j hd hj hz
    have h1 := check_ev l (by omega) (fun x hx => size_ok (hc x hx))
    have h2 := check_ev (l.map neg1) (by rw [List.length_map]; omega) (fun x hx => by obtain ⟨y, hy, rfl⟩ := List.mem_map.1 hx; have := size_ok (hc y hy); exact this)
    have e := chk_neg l 0 (by omega) (by omega) (fun x hx => ⟨hc x hx, by
      obtain ⟨i, hi, rfl⟩ := List.getElem_of_mem hx
      exact hz i hi (by omega)⟩)
    have ez : wrap64 (-0) = 0 := by unfold wrap64; omega
    rw [ez] at e
    rw [e] at h2
    refine Ev.step (f := fun k => (post_Check.f k l).bind fun t229 => ((post_Check.f k (l.map neg1)).bind fun t230 => (some ((t229 == 0) == (t230 == 0))))) (fun k => by simp only [stipendlaw22_PostReverse.l0]; rw [if_neg (by omega)]) (Ev.bind h1 (Ev.bind h2 ?_))
    have e2 : (((chk 0 l == 0) == (chk 0 l == 0)) : Bool) = true := beq_self_eq_true _
    rw [e2]
    exact Ev.now _
  | succ d ih =>
    intro j hd hj hz
    have hlt : j < l.length := by omega
    by_cases q : l[j].f1 = -9223372036854775808
    · refine Ev.step (f := fun _ => some true) (fun k => ?_) (Ev.now _)
      simp only [stipendlaw22_PostReverse.l0, rd31 l j hlt]
      rw [if_pos (by omega), if_pos (by omega), if_pos (by omega), if_pos q]
    · refine Ev.step (f := fun k => stipendlaw22_PostReverse.l0 k l (l.map neg1) l l (l.length : Int) ((j + 1 : Nat) : Int)) (fun k => ?_) (ih (j + 1) (by omega) (by omega) (fun i h hi => ?_))
      · simp only [stipendlaw22_PostReverse.l0, rd31 l j hlt, rd_map l j hlt]
        have e1 : (neg1 l[j]).f1 = wrap64 (-l[j].f1) := rfl
        have e0 : (neg1 l[j]).f0 = l[j].f0 := rfl
        rw [if_pos (by omega), if_pos (by omega), if_pos (by omega), if_neg q, if_pos (by omega), if_neg (by simp), if_pos (by rw [List.length_map]; omega), e1, e0, if_neg (by simp), wrap_succ hlt (by omega)]
      · rcases Nat.lt_or_ge i j with h1 | h1
        · exact hz i h h1
        · have : i = j := by omega
          subst this
          exact q
theorem law_ev (l : List S31) (hc : ∀ x ∈ l, Came x) : Ev (fun k => stipendlaw22_PostReverse.f k l) true := by
  unfold stipendlaw22_PostReverse.f
  refine Ev.congr (f := fun k => if (l.length : Int) > 40 then (some true) else ((post_Reverse.f k l).bind fun t223 => ((post_Reverse.f k t223).bind fun t226 => (if (t223.length : Int) = (l.length : Int) then (stipendlaw22_PostReverse.j0 k l t223 t226 ((t226.length : Int) != (l.length : Int))) else (stipendlaw22_PostReverse.j0 k l t223 t226 true))))) (fun k => rfl) ?_
  by_cases q : (l.length : Int) > 40
  · exact Ev.congr (fun k => if_pos q) (Ev.now _)
  · refine Ev.congr (fun k => if_neg q) (Ev.bind (reverse_ev l (by omega)) (Ev.bind (reverse_ev (l.map neg1) (by rw [List.length_map]; omega)) ?_))
    have e : (l.map neg1).map neg1 = l := by
      rw [List.map_map]
      conv => rhs; rw [← List.map_id l]
      exact List.map_congr_left fun x hx => neg_neg (hc x hx)
    rw [e]
    have e1 : ((l.length : Int) != (l.length : Int)) = false := by simp
    refine Ev.congr (f := fun k => stipendlaw22_PostReverse.j0 k l (l.map neg1) l false) (fun k => by rw [if_pos (by rw [List.length_map]), e1]) ?_
    exact Ev.step (f := fun k => stipendlaw22_PostReverse.l0 k l (l.map neg1) l l (l.length : Int) ((0 : Nat) : Int)) (fun k => by simp only [stipendlaw22_PostReverse.j0]; rfl) (law_loop l (by omega) hc l.length 0 (by omega) (by omega) (fun i h hi => absurd hi (Nat.not_lt_zero _)))
theorem law_calls {w : World} {A : Option Addr} {c : Nat} {l : List S31} (hr : k31.C w A l.length l) (hc : l.length ≤ c) (hl : ∀ x ∈ l, Came x) (htb : TB w) :
    Calls Tryd.prog 4 #[.slice A l.length c] w fun e w' => e = .returned (.bool true) ∧ Below w.heap.size w w' := by
  obtain ⟨k, hk⟩ := (law_ev l hl).rounds
  exact stipendlaw22_PostReverse.calls k A c l true w hr hc rfl hk htb
end Go.Proofs.YtjljhianehhlgaaDoor.V
