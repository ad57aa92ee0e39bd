import Derived.Test.YtodijkdmcjnpkaaDoorPA
import Derived.Test.YtodijkdmcjnpkaaDoorKx10
/- Plain laws, without memory: CodeRises. -/
namespace Go.Proofs.YtodijkdmcjnpkaaDoor.P
open Go.RowKit Go.Proofs.YtodijkdmcjnpkaaDoorW.PrintWords Go.Proofs.YtodijkdmcjnpkaaDoorW.PrintLast Go.Proofs.YtodijkdmcjnpkaaDoorW.PrintMore Go.Proofs.YtodijkdmcjnpkaaDoor.K Go.Proofs.YtodijkdmcjnpkaaDoor.KTab
set_option linter.unusedVariables false
set_option linter.unusedSimpArgs false

def partOf (kd am n d : Int) : Int := if kd = 2 then -(Int.tdiv (am * n) d) else Int.tdiv (am * n) d
theorem freeOf_in {kd am n d : Int} (hn : 0 ≤ n) (hd : 1 ≤ d) (hnd : n ≤ d) (hd1 : d ≤ 1048576) : freeOf kd am n d = (partOf kd am n d, 0) := by
  unfold freeOf partOf
  rw [if_neg (by omega)]
theorem charge_mid {sc kd am fl : Int} (h : Fit sc kd am fl) {n d tx : Int} (hn : 0 ≤ n) (hd : 1 ≤ d) (hnd : n ≤ d) (hd1 : d ≤ 1048576) (t0 : -2000000000 ≤ tx) (t1 : tx ≤ 2000000000) :
    chargeOf kd am tx n d = if kd = 4 then (0, 0) else (mx 0 (tx - partOf kd am n d), 0) := by
  obtain ⟨p1, p2, p3, p4⟩ := part_range h.a0 h.a1 hn hnd hd hd1
  have ha := h.a1
  have hp : -999999000 ≤ partOf kd am n d ∧ partOf kd am n d ≤ 999999000 := by unfold partOf; split <;> omega
  unfold chargeOf lessOf
  rw [freeOf_in hn hd hnd hd1]
  simp only []
  rw [if_pos trivial]
  by_cases q : kd = 4
  · rw [if_pos q, if_pos q, if_pos (show Mid tx from ⟨by omega, by omega⟩)]
  · rw [if_neg q, if_neg q, if_pos (show Mid tx ∧ Mid (partOf kd am n d) from ⟨⟨by omega, by omega⟩, by omega, by omega⟩), if_pos (show Mid (tx - partOf kd am n d) from ⟨by omega, by omega⟩)]
theorem rises_in {sc kd am fl : Int} (al : Bool) (h : Fit sc kd am fl) {n d tx : Int} (hn : 0 ≤ n) (hd : 2 ≤ d) (hnd : n < d) (hd1 : d ≤ 1000) (t0 : -1000000000 ≤ tx) (t1 : tx ≤ 1000000000) :
    Ev (fun k => stipendlaw08_CodeRises.j0 k tx n d false sc kd am fl al) true := by
  obtain ⟨p1, p2, p3, p4⟩ := part_range h.a0 h.a1 hn (show n ≤ d by omega) (show 1 ≤ d by omega) (show d ≤ 1048576 by omega)
  obtain ⟨r1, r2, r3, r4⟩ := part_range h.a0 h.a1 (show 0 ≤ n + 1 by omega) (show n + 1 ≤ d by omega) (show 1 ≤ d by omega) (show d ≤ 1048576 by omega)
  have ha0 := h.a0
  have ha1 := h.a1
  have hw1 : wrap64 (n + 1) = n + 1 := wrap_in (by omega) (by omega)
  have hw2 : wrap64 (tx + 1) = tx + 1 := wrap_in (by omega) (by omega)
  have h1 := free_ev al n d h
  have h2 := free_ev al (n + 1) d h
  have h3 := free_ev al d d h
  have h4 := charge_ev al tx n d h
  have h5 := charge_ev al (tx + 1) n d h
  rw [freeOf_in hn (by omega) (by omega) (by omega)] at h1
  rw [freeOf_in (by omega) (by omega) (by omega) (by omega)] at h2
  rw [freeOf_in (by omega) (by omega) (by omega) (by omega)] at h3
  rw [charge_mid h hn (by omega) (by omega) (by omega) (by omega) (by omega)] at h4
  rw [charge_mid h hn (by omega) (by omega) (by omega) (by omega) (by omega)] at h5
  have hmono : Int.tdiv (am * n) d ≤ Int.tdiv (am * (n + 1)) d := by
    rw [Int.tdiv_eq_ediv_of_nonneg p1, Int.tdiv_eq_ediv_of_nonneg r1]
    exact Int.ediv_le_ediv (by omega) (Int.mul_le_mul_of_nonneg_left (by omega) h.a0)
  have hall : Int.tdiv (am * d) d = am := Int.mul_tdiv_cancel _ (by omega)
  have hx : ∀ f : Int, mx 0 (tx - f) ≤ mx 0 (tx + 1 - f) ∧ mx 0 (tx + 1 - f) - mx 0 (tx - f) ≤ 1 ∧ 0 ≤ mx 0 (tx + 1 - f) - mx 0 (tx - f) ∧ 0 ≤ mx 0 (tx - f) := by
    intro f
    unfold mx
    split <;> split <;> omega
  refine Ev.step (f := fun k => (code_Free.f k sc kd am fl al n d).bind fun bt249 => ((code_Free.f k sc kd am fl al (n + 1) d).bind fun bt251 => ((code_Free.f k sc kd am fl al d d).bind fun bt253 => ((code_Charge.f k sc kd am fl al tx n d).bind fun bt255 => ((code_Charge.f k sc kd am fl al (tx + 1) n d).bind fun bt257 => (if kd = 2 then (if (wrap64 (-bt249.1)) ≤ (wrap64 (-bt251.1)) then (if (wrap64 (-bt253.1)) = am then (if bt255.1 ≤ bt257.1 then (if (wrap64 (bt257.1 - bt255.1)) ≤ 1 then (some (decide (bt255.1 ≥ 0))) else (some false)) else (some false)) else (some false)) else (some false)) else (if bt249.1 ≤ bt251.1 then (if bt253.1 = am then (if bt255.1 ≤ bt257.1 then (if (wrap64 (bt257.1 - bt255.1)) ≤ 1 then (some (decide (bt255.1 ≥ 0))) else (some false)) else (some false)) else (some false)) else (some false)))))))) (fun k => by simp only [stipendlaw08_CodeRises.j0, hw1, hw2]; rw [if_neg (by simp)]) ?_
  refine Ev.bind h1 (Ev.bind h2 (Ev.bind h3 (Ev.bind h4 (Ev.bind h5 (Ev.congr (f := fun _ => some true) (fun k => ?_) (Ev.now _))))))
  have hy : ∀ X Y : Int × Int, X = (if kd = 4 then (0, 0) else (mx 0 (tx - partOf kd am n d), 0)) → Y = (if kd = 4 then (0, 0) else (mx 0 (tx + 1 - partOf kd am n d), 0)) → X.1 ≤ Y.1 ∧ wrap64 (Y.1 - X.1) ≤ 1 ∧ 0 ≤ X.1 := by
    intro X Y hX hY
    obtain ⟨q1, q2, q3, q4⟩ := hx (partOf kd am n d)
    subst hX hY
    by_cases q : kd = 4
    · rw [if_pos q, if_pos q]
      exact ⟨by simp, by rw [wrap_in (by simp) (by simp)]; simp, by simp⟩
    · rw [if_neg q, if_neg q]
      exact ⟨q1, by rw [wrap_in (by simp only; omega) (by simp only; omega)]; exact q2, q4⟩
  obtain ⟨y1, y2, y3⟩ := hy _ _ rfl rfl
  by_cases q : kd = 2
  · have e1 : partOf kd am n d = -(Int.tdiv (am * n) d) := by unfold partOf; rw [if_pos q]
    have e2 : partOf kd am (n + 1) d = -(Int.tdiv (am * (n + 1)) d) := by unfold partOf; rw [if_pos q]
    have e3 : partOf kd am d d = -am := by unfold partOf; rw [if_pos q, hall]
    rw [if_pos q, if_pos (by simp only [e1, e2, Int.neg_neg]; rw [wrap_in (by omega) (by omega), wrap_in (by omega) (by omega)]; exact hmono), if_pos (by simp only [e3, Int.neg_neg]; exact wrap_in (by omega) (by omega)), if_pos y1, if_pos y2, decide_eq_true y3]
  · have e1 : partOf kd am n d = (Int.tdiv (am * n) d) := by unfold partOf; rw [if_neg q]
    have e2 : partOf kd am (n + 1) d = (Int.tdiv (am * (n + 1)) d) := by unfold partOf; rw [if_neg q]
    have e3 : partOf kd am d d = am := by unfold partOf; rw [if_neg q, hall]
    rw [if_neg q, if_pos (by simp only [e1, e2]; exact hmono), if_pos (by simp only [e3]), if_pos y1, if_pos y2, decide_eq_true y3]
theorem codeRises_pure (sc kd am fl : Int) (al : Bool) (n d tx : Int) (hsc : In sc) (hkd : In kd) (ham : In am) (hfl : In fl) (hn : In n) (hd : In d) (htx : -9223372036854775808 ≤ tx ∧ tx ≤ 9223372036854775807) : ∃ k, stipendlaw08_CodeRises.f k sc kd am fl al n d tx = some true := by
  refine Ev.rounds ?_
  have ht : Ev (fun k => stipendlaw08_CodeRises.j0 k tx n d true sc kd am fl al) true := Ev.step (f := fun _ => some true) (fun k => by simp only [stipendlaw08_CodeRises.j0]; rw [if_pos trivial]) (Ev.now _)
  refine Ev.congr (f := fun k => (code_Check.f k sc kd am fl al).bind fun t248 => (if t248 = 0 then (if n < 0 then (stipendlaw08_CodeRises.j0 k tx n d true sc kd am fl al) else (if d < 2 then (stipendlaw08_CodeRises.j0 k tx n d true sc kd am fl al) else (if n ≥ d then (stipendlaw08_CodeRises.j0 k tx n d true sc kd am fl al) else (if d > 1000 then (stipendlaw08_CodeRises.j0 k tx n d true sc kd am fl al) else (if tx > 1000000000 then (stipendlaw08_CodeRises.j0 k tx n d true sc kd am fl al) else (stipendlaw08_CodeRises.j0 k tx n d (decide (tx < (-1000000000))) sc kd am fl al)))))) else (stipendlaw08_CodeRises.j0 k tx n d true sc kd am fl al))) (fun k => rfl) (Ev.bind (check_ev sc kd am fl al) ?_)
  by_cases q0 : want sc kd am fl = 0
  · have h := fit_of q0
    refine Ev.congr (fun k => if_pos q0) ?_
    by_cases q1 : n < 0
    · exact Ev.congr (fun k => if_pos q1) ht
    refine Ev.congr (fun k => if_neg q1) ?_
    by_cases q2 : d < 2
    · exact Ev.congr (fun k => if_pos q2) ht
    refine Ev.congr (fun k => if_neg q2) ?_
    by_cases q3 : n ≥ d
    · exact Ev.congr (fun k => if_pos q3) ht
    refine Ev.congr (fun k => if_neg q3) ?_
    by_cases q4 : d > 1000
    · exact Ev.congr (fun k => if_pos q4) ht
    refine Ev.congr (fun k => if_neg q4) ?_
    by_cases q5 : tx > 1000000000
    · exact Ev.congr (fun k => if_pos q5) ht
    refine Ev.congr (fun k => if_neg q5) ?_
    by_cases q6 : tx < -1000000000
    · exact Ev.congr (fun k => by rw [decide_eq_true q6]) ht
    · exact Ev.congr (fun k => by rw [decide_eq_false q6]) (rises_in al h (by omega) (by omega) (by omega) (by omega) (by omega) (by omega))
  · exact Ev.congr (fun k => if_neg q0) ht
end Go.Proofs.YtodijkdmcjnpkaaDoor.P
