import Derived.Test.YtodijkdmcjnpkaaDoorPA
import Derived.Test.YtodijkdmcjnpkaaDoorKx9
/- Plain laws, without memory: CodeFrees. -/
namespace Go.Proofs.YtodijkdmcjnpkaaDoor.P
open Go.RowKit Go.Proofs.YtodijkdmcjnpkaaDoorW.PrintWords Go.Proofs.YtodijkdmcjnpkaaDoorW.PrintLast Go.Proofs.YtodijkdmcjnpkaaDoorW.PrintMore Go.Proofs.YtodijkdmcjnpkaaDoor.K Go.Proofs.YtodijkdmcjnpkaaDoor.KTab
set_option linter.unusedVariables false
set_option linter.unusedSimpArgs false

theorem frees_j3 {sc kd am fl : Int} (al : Bool) (h : Fit sc kd am fl) {n d tx : Int} (hn : 0 ≤ n) (hd : 1 ≤ d) (hnd : n ≤ d) (hd1 : d ≤ 1048576) (b : Bool) (hb : b = true ↔ ¬ Mid tx) :
    Ev (fun k => stipendlaw08_CodeFrees.j3 k tx (chargeOf kd am tx n d).1 (chargeOf kd am tx n d).2 (freeOf kd am n d).1 100000000000 b sc kd am fl al) true := by
  obtain ⟨p1, p2, p3, p4⟩ := part_range h.a0 h.a1 hn hnd hd hd1
  have ha := h.a1
  have hf : (freeOf kd am n d).2 = 0 ∧ -999999000 ≤ (freeOf kd am n d).1 ∧ (freeOf kd am n d).1 ≤ 999999000 := by
    unfold freeOf
    rw [if_neg (by omega)]
    refine ⟨rfl, ?_, ?_⟩ <;> simp only <;> split <;> omega
  have hm0 : mx 0 0 = 0 := by unfold mx; split <;> rfl
  refine Ev.step (f := fun _ => some true) (fun k => ?_) (Ev.now _)
  simp only [stipendlaw08_CodeFrees.j3]
  unfold chargeOf lessOf
  rw [if_pos hf.1]
  generalize (freeOf kd am n d).1 = f at hf
  have hw0 : wrap64 (-100000000000) = -100000000000 := by unfold wrap64; omega
  by_cases q : Mid tx
  · have hbf : ¬ b = true := fun r => (hb.1 r) q
    rw [if_neg hbf]
    by_cases q4 : kd = 4
    · rw [if_pos q4, if_pos q4, if_pos q]
      simp
    · have hw : wrap64 (tx - f) = tx - f := wrap_in (by have := q.1; omega) (by have := q.2; omega)
      rw [if_neg q4, if_neg q4, if_pos (show Mid tx ∧ Mid f from ⟨q, by omega, by omega⟩), hw, hw0]
      by_cases g1 : tx - f > 100000000000
      · rw [if_pos g1, if_neg (show ¬ Mid (tx - f) from fun r => by have := r.2; omega)]
        simp [hm0]
      · rw [if_neg g1]
        by_cases g2 : tx - f < -100000000000
        · rw [if_pos g2, if_neg (show ¬ Mid (tx - f) from fun r => by have := r.1; omega)]
          simp [hm0]
        · rw [if_neg g2, if_pos (show Mid (tx - f) from ⟨by omega, by omega⟩)]
          simp
  · rw [if_pos (hb.2 q)]
    by_cases q4 : kd = 4
    · rw [if_pos q4, if_neg q]
      simp
    · rw [if_neg q4, if_neg (show ¬ (Mid tx ∧ Mid f) from fun r => q r.1)]
      simp [hm0]
theorem frees_j0 {sc kd am fl : Int} (al : Bool) (h : Fit sc kd am fl) (n d tx : Int) (b : Bool) (hb : b = true ↔ (n < 0 ∨ d < 1 ∨ n > d ∨ d > 1048576)) :
    Ev (fun k => stipendlaw08_CodeFrees.j0 k tx n d (freeOf kd am n d).1 (freeOf kd am n d).2 (chargeOf kd am tx n d).1 (chargeOf kd am tx n d).2 b sc kd am fl al) true := by
  by_cases q : n < 0 ∨ d < 1 ∨ n > d ∨ d > 1048576
  · have e1 : freeOf kd am n d = (0, 1) := by unfold freeOf; rw [if_pos q]
    have e2 : chargeOf kd am tx n d = (0, 1) := by unfold chargeOf; rw [e1]; rfl
    rw [e1, e2, hb.2 q]
    exact Ev.step (f := fun _ => some true) (fun k => by simp [stipendlaw08_CodeFrees.j0]) (Ev.now _)
  · have hbf : ¬ b = true := fun r => q (hb.1 r)
    obtain ⟨p1, p2, p3, p4⟩ := part_range h.a0 h.a1 (n := n) (d := d) (by omega) (by omega) (by omega) (by omega)
    have ha := h.a1
    have hw1 : wrap64 (am * n) = am * n := wrap_in (by omega) (by omega)
    have hw2 : wrap64 (Int.tdiv (am * n) d) = Int.tdiv (am * n) d := wrap_in (by omega) (by omega)
    have hw3 : wrap64 (-(Int.tdiv (am * n) d)) = -(Int.tdiv (am * n) d) := wrap_in (by omega) (by omega)
    have e1 : freeOf kd am n d = (if kd = 2 then -(Int.tdiv (am * n) d) else Int.tdiv (am * n) d, 0) := by unfold freeOf; rw [if_neg q]
    have h3 := frees_j3 al h (n := n) (d := d) (tx := tx) (by omega) (by omega) (by omega) (by omega)
    have h2 : Ev (fun k => stipendlaw08_CodeFrees.j2 k tx (chargeOf kd am tx n d).1 (chargeOf kd am tx n d).2 (freeOf kd am n d).1 false sc kd am fl al) true := by
      by_cases g : tx > 100000000000
      · exact Ev.step (fun k => by simp only [stipendlaw08_CodeFrees.j2]; rw [if_neg (by simp), if_pos g]) (h3 true ⟨fun _ r => by have := r.2; omega, fun _ => rfl⟩)
      · exact Ev.step (fun k => by simp only [stipendlaw08_CodeFrees.j2]; rw [if_neg (by simp), if_neg g]) (h3 (decide (tx < -100000000000)) ⟨fun r s => by have := s.1; have := of_decide_eq_true r; omega, fun r => decide_eq_true (Decidable.byContradiction fun s => r ⟨by omega, by omega⟩)⟩)
    have h1 : Ev (fun k => stipendlaw08_CodeFrees.j1 k tx (freeOf kd am n d).1 (freeOf kd am n d).2 (chargeOf kd am tx n d).1 (chargeOf kd am tx n d).2 (freeOf kd am n d).1 sc kd am fl al) true :=
      Ev.step (fun k => by simp only [stipendlaw08_CodeFrees.j1]; rw [if_pos (by rw [e1]), show ((freeOf kd am n d).1 != (freeOf kd am n d).1) = false from by simp]) h2
    refine Ev.step (fun k => ?_) h1
    simp only [stipendlaw08_CodeFrees.j0, hw1, hw2, hw3]
    rw [if_neg hbf, if_neg (by omega)]
    by_cases g : kd = 2
    · rw [if_pos g]
      congr 1
      rw [e1, if_pos g]
    · rw [if_neg g]
      congr 1
      rw [e1, if_neg g]
theorem codeFrees_pure (sc kd am fl : Int) (al : Bool) (n d tx : Int) (hsc : In sc) (hkd : In kd) (ham : In am) (hfl : In fl) (hn : In n) (hd : In d) (htx : -9223372036854775808 ≤ tx ∧ tx ≤ 9223372036854775807) : ∃ k, stipendlaw08_CodeFrees.f k sc kd am fl al n d tx = some true := by
  refine Ev.rounds ?_
  refine Ev.congr (f := fun k => (code_Check.f k sc kd am fl al).bind fun t240 => (if t240 = 0 then ((code_Free.f k sc kd am fl al n d).bind fun bt241 => ((code_Charge.f k sc kd am fl al tx n d).bind fun bt243 => (if n < 0 then (stipendlaw08_CodeFrees.j0 k tx n d bt241.1 bt241.2 bt243.1 bt243.2 true sc kd am fl al) else (if d < 1 then (stipendlaw08_CodeFrees.j0 k tx n d bt241.1 bt241.2 bt243.1 bt243.2 true sc kd am fl al) else (if n > d then (stipendlaw08_CodeFrees.j0 k tx n d bt241.1 bt241.2 bt243.1 bt243.2 true sc kd am fl al) else (stipendlaw08_CodeFrees.j0 k tx n d bt241.1 bt241.2 bt243.1 bt243.2 (decide (d > 1048576)) sc kd am fl al)))))) else (some true))) (fun k => rfl) (Ev.bind (check_ev sc kd am fl al) ?_)
  by_cases q0 : want sc kd am fl = 0
  · have h := fit_of q0
    refine Ev.congr (fun k => if_pos q0) (Ev.bind (free_ev al n d h) (Ev.bind (charge_ev al tx n d h) ?_))
    by_cases q1 : n < 0
    · exact Ev.congr (fun k => if_pos q1) (frees_j0 al h n d tx true ⟨fun _ => .inl q1, fun _ => rfl⟩)
    refine Ev.congr (fun k => if_neg q1) ?_
    by_cases q2 : d < 1
    · exact Ev.congr (fun k => if_pos q2) (frees_j0 al h n d tx true ⟨fun _ => .inr (.inl q2), fun _ => rfl⟩)
    refine Ev.congr (fun k => if_neg q2) ?_
    by_cases q3 : n > d
    · exact Ev.congr (fun k => if_pos q3) (frees_j0 al h n d tx true ⟨fun _ => .inr (.inr (.inl q3)), fun _ => rfl⟩)
    exact Ev.congr (fun k => if_neg q3) (frees_j0 al h n d tx _ ⟨fun q => .inr (.inr (.inr (of_decide_eq_true q))), fun q => decide_eq_true (by omega)⟩)
  · exact Ev.congr (fun k => if_neg q0) (Ev.now _)
end Go.Proofs.YtodijkdmcjnpkaaDoor.P
