import Derived.Test.YtodijkdmcjnpkaaDoorPC
import Derived.Test.YtodijkdmcjnpkaaDoorPD
import Derived.Test.YtodijkdmcjnpkaaDoorKx7
/- Plain laws, without memory: CodeChecks. -/
namespace Go.Proofs.YtodijkdmcjnpkaaDoor.P
open Go.RowKit Go.Proofs.YtodijkdmcjnpkaaDoorW.PrintWords Go.Proofs.YtodijkdmcjnpkaaDoorW.PrintLast Go.Proofs.YtodijkdmcjnpkaaDoorW.PrintMore Go.Proofs.YtodijkdmcjnpkaaDoor.K Go.Proofs.YtodijkdmcjnpkaaDoor.KTab
open Go.Lib (decDigits)
set_option linter.unusedVariables false
set_option linter.unusedSimpArgs false

section
variable (sc kd am fl : Int) (al : Bool)
theorem checks_j6 : Ev (fun k => stipendlaw08_CodeChecks.j6 k (want sc kd am fl) (if want sc kd am fl = 0 then B (textOf sc kd am fl al) else B []) false sc kd am fl al) true := by
  by_cases q : want sc kd am fl = 0
  · have h := fit_of q
    have hs : Short (textOf sc kd am fl al) := by
      have h1 := h.a1
      have h2 := h.f1
      have h0 := h.a0
      have hl1 : (decDigits (am / 1000).toNat).length ≤ 6 := dec_len 5 _ (by omega)
      have hl2 : (decDigits fl.toNat).length ≤ 6 := dec_len 5 _ (by omega)
      have e1 : (front sc).length ≤ 1 := by unfold front; split <;> simp
      have e2 : (mid kd am fl).length ≤ 7 := by
        unfold mid
        split
        · simp; omega
        · split
          · simp; omega
          · split
            · simp; omega
            · simp
      have e3 : (tailX al).length ≤ 1 := by unfold tailX; split <;> simp
      unfold Short textOf
      rw [List.length_append, List.length_append]
      omega
    have hp := parse_ev _ hs
    rw [parse_text al h] at hp
    rw [q]
    refine Ev.step (f := fun k => (code_Parse.f k (B (textOf sc kd am fl al))).bind fun bt194 => (if bt194.2.2.2.2.2 = 0 then (some (bt194.1 == sc && (bt194.2.1 == kd && (bt194.2.2.1 == am && (bt194.2.2.2.1 == fl && (bt194.2.2.2.2.1 == al)))))) else (some false))) (fun k => by simp only [stipendlaw08_CodeChecks.j6]; rw [if_neg (by simp), if_pos trivial, if_pos trivial]) (Ev.bind hp (Ev.congr (f := fun _ => some true) (fun k => ?_) (Ev.now _)))
    simp
  · refine Ev.step (f := fun k => (code_Free.f k sc kd am fl al 1 1).bind fun bt201 => ((code_Charge.f k sc kd am fl al 5 1 1).bind fun bt203 => (if bt201.2 = want sc kd am fl then (if bt203.2 = want sc kd am fl then (if bt201.1 = 0 then (some (bt203.1 == 0)) else (some false)) else (some false)) else (some false)))) (fun k => by simp only [stipendlaw08_CodeChecks.j6]; rw [if_neg (by simp), if_neg q]) (Ev.bind (free_bad al 1 1 q) (Ev.bind (charge_bad al 5 1 1 q) (Ev.congr (f := fun _ => some true) (fun k => ?_) (Ev.now _))))
    simp
theorem text_ne {sc kd am fl : Int} (al : Bool) (h : Fit sc kd am fl) : textOf sc kd am fl al ≠ [] := by
  obtain ⟨c, t, hc, _⟩ := mid_head h
  unfold textOf
  rw [hc]
  simp
theorem checks_j5 : Ev (fun k => stipendlaw08_CodeChecks.j5 k (want sc kd am fl) sc kd am fl al) true := by
  have ht : Ev (fun k => code_Text.f k sc kd am fl al) (if want sc kd am fl = 0 then B (textOf sc kd am fl al) else B []) := by
    by_cases q : want sc kd am fl = 0
    · rw [if_pos q]; exact text_ev al (fit_of q)
    · rw [if_neg q]; exact text_bad al q
  refine Ev.step (f := fun k => (code_Text.f k sc kd am fl al).bind fun t192 => ((code_Check.f k sc kd am fl al).bind fun t193 => (if t193 = want sc kd am fl then (stipendlaw08_CodeChecks.j6 k (want sc kd am fl) t192 ((t192.toList == ([] : List UInt8)) != (want sc kd am fl != 0)) sc kd am fl al) else (stipendlaw08_CodeChecks.j6 k (want sc kd am fl) t192 true sc kd am fl al)))) (fun k => rfl) (Ev.bind ht (Ev.bind (check_ev sc kd am fl al) (Ev.congr (fun k => if_pos rfl) ?_)))
  have hb : (((if want sc kd am fl = 0 then B (textOf sc kd am fl al) else B []).toList == ([] : List UInt8)) != (want sc kd am fl != 0)) = false := by
    by_cases q : want sc kd am fl = 0
    · have := text_ne al (fit_of q)
      rw [if_pos q, B_list, q]
      simpa using this
    · rw [if_neg q, B_list]
      simpa using q
  rw [hb]
  exact checks_j6 sc kd am fl al
theorem checks_80 (h : want sc kd am fl = 80) : Ev (fun k => stipendlaw08_CodeChecks.j5 k 80 sc kd am fl al) true := by
  have h5 := checks_j5 sc kd am fl al
  rw [h] at h5
  exact h5
theorem checks_0 (h : want sc kd am fl = 0) : Ev (fun k => stipendlaw08_CodeChecks.j5 k 0 sc kd am fl al) true := by
  have h5 := checks_j5 sc kd am fl al
  rw [h] at h5
  exact h5
theorem codeChecks_pure (hsc : In sc) (hkd : In kd) (ham : In am) (hfl : In fl) : ∃ k, stipendlaw08_CodeChecks.f k sc kd am fl al = some true := by
  refine Ev.rounds ?_
  have h80 := checks_80 sc kd am fl al
  have h00 := checks_0 sc kd am fl al
  by_cases g0 : sc < 0 ∨ sc > 7
  · have hw : want sc kd am fl = 81 := by unfold want; rw [if_pos g0]
    have h5 := checks_j5 sc kd am fl al
    rw [hw] at h5
    have h0 : Ev (fun k => stipendlaw08_CodeChecks.j0 k 0 true sc kd am fl al) true := Ev.step (fun k => by simp only [stipendlaw08_CodeChecks.j0]; rw [if_pos trivial]) h5
    by_cases g1 : sc < 0
    · exact Ev.congr (fun k => by show (if sc < 0 then _ else _) = _; rw [if_pos g1]) h0
    · exact Ev.congr (fun k => by show (if sc < 0 then _ else _) = _; rw [if_neg g1, decide_eq_true (by omega)]) h0
  · have hwf : ∀ p : Prop, (p → (kd < 1 ∨ kd > 4 ∨ (kd > 2 ∧ am ≠ 0) ∨ am < 0 ∨ am > 999999000 ∨ Int.tmod am 1000 ≠ 0 ∨ (kd = 2 ∧ am = 0) ∨ (kd ≠ 3 ∧ fl ≠ 0) ∨ fl < 0 ∨ fl > 7)) → p → want sc kd am fl = 80 := by
      intro p hp hq
      unfold want
      rw [if_neg g0, if_pos (hp hq)]
    -- the last of the chain
    have j4 : ∀ b : Bool, (b = true → kd ≠ 3 ∧ fl ≠ 0) → (b = false → ¬ (kd ≠ 3 ∧ fl ≠ 0)) → ¬ (kd < 1 ∨ kd > 4 ∨ (kd > 2 ∧ am ≠ 0) ∨ am < 0 ∨ am > 999999000 ∨ Int.tmod am 1000 ≠ 0 ∨ (kd = 2 ∧ am = 0)) → Ev (fun k => stipendlaw08_CodeChecks.j4 k 0 b sc kd am fl al) true := by
      intro b hb hb2 hno
      cases b with
      | true => exact Ev.step (fun k => by simp only [stipendlaw08_CodeChecks.j4]; rw [if_pos trivial]) (h80 (hwf _ (fun q => .inr (.inr (.inr (.inr (.inr (.inr (.inr (.inl q)))))))) (hb rfl)))
      | false =>
        by_cases g1 : fl < 0
        · exact Ev.step (fun k => by simp only [stipendlaw08_CodeChecks.j4]; rw [if_neg (by simp), if_pos g1]) (h80 (hwf _ (fun q => .inr (.inr (.inr (.inr (.inr (.inr (.inr (.inr (.inl q))))))))) g1))
        · by_cases g2 : fl > 7
          · exact Ev.step (fun k => by simp only [stipendlaw08_CodeChecks.j4]; rw [if_neg (by simp), if_neg g1, if_pos g2]) (h80 (hwf _ (fun q => .inr (.inr (.inr (.inr (.inr (.inr (.inr (.inr (.inr q))))))))) g2))
          · refine Ev.step (fun k => by simp only [stipendlaw08_CodeChecks.j4]; rw [if_neg (by simp), if_neg g1, if_neg g2]) (h00 ?_)
            unfold want
            rw [if_neg g0, if_neg]
            rintro (q | q | q | q | q | q | q | q | q | q)
            · exact hno (.inl q)
            · exact hno (.inr (.inl q))
            · exact hno (.inr (.inr (.inl q)))
            · exact hno (.inr (.inr (.inr (.inl q))))
            · exact hno (.inr (.inr (.inr (.inr (.inl q)))))
            · exact hno (.inr (.inr (.inr (.inr (.inr (.inl q))))))
            · exact hno (.inr (.inr (.inr (.inr (.inr (.inr q))))))
            · exact hb2 rfl q
            · exact g1 q
            · exact g2 q
    have j3 : ∀ b : Bool, (b = true → kd = 2 ∧ am = 0) → (b = false → ¬ (kd = 2 ∧ am = 0)) → ¬ (kd < 1 ∨ kd > 4 ∨ (kd > 2 ∧ am ≠ 0) ∨ am < 0 ∨ am > 999999000 ∨ Int.tmod am 1000 ≠ 0) → Ev (fun k => stipendlaw08_CodeChecks.j3 k 0 b sc kd am fl al) true := by
      intro b hb hb2 hno
      cases b with
      | true => exact Ev.step (fun k => by simp only [stipendlaw08_CodeChecks.j3]; rw [if_pos trivial]) (h80 (hwf _ (fun q => .inr (.inr (.inr (.inr (.inr (.inr (.inl q))))))) (hb rfl)))
      | false =>
        have hno2 : ¬ (kd < 1 ∨ kd > 4 ∨ (kd > 2 ∧ am ≠ 0) ∨ am < 0 ∨ am > 999999000 ∨ Int.tmod am 1000 ≠ 0 ∨ (kd = 2 ∧ am = 0)) := by
          rintro (q | q | q | q | q | q | q)
          · exact hno (.inl q)
          · exact hno (.inr (.inl q))
          · exact hno (.inr (.inr (.inl q)))
          · exact hno (.inr (.inr (.inr (.inl q))))
          · exact hno (.inr (.inr (.inr (.inr (.inl q)))))
          · exact hno (.inr (.inr (.inr (.inr (.inr q)))))
          · exact hb2 rfl q
        by_cases g1 : kd = 3
        · exact Ev.step (fun k => by simp only [stipendlaw08_CodeChecks.j3]; rw [if_neg (by simp), if_pos g1]) (j4 false (fun q => by cases q) (fun _ q => q.1 g1) hno2)
        · exact Ev.step (fun k => by simp only [stipendlaw08_CodeChecks.j3]; rw [if_neg (by simp), if_neg g1]) (j4 (fl != 0) (fun q => ⟨g1, by simpa using q⟩) (fun q r => r.2 (by simpa using q)) hno2)
    have j2 : ∀ b : Bool, (b = true → kd > 2 ∧ am ≠ 0) → (b = false → ¬ (kd > 2 ∧ am ≠ 0)) → ¬ (kd < 1 ∨ kd > 4) → Ev (fun k => stipendlaw08_CodeChecks.j2 k 0 b sc kd am fl al) true := by
      intro b hb hb2 hno
      cases b with
      | true => exact Ev.step (fun k => by simp only [stipendlaw08_CodeChecks.j2]; rw [if_pos trivial]) (h80 (hwf _ (fun q => .inr (.inr (.inl q))) (hb rfl)))
      | false =>
        by_cases g1 : am < 0
        · exact Ev.step (fun k => by simp only [stipendlaw08_CodeChecks.j2]; rw [if_neg (by simp), if_pos g1]) (h80 (hwf _ (fun q => .inr (.inr (.inr (.inl q)))) g1))
        · by_cases g2 : am > 999999000
          · exact Ev.step (fun k => by simp only [stipendlaw08_CodeChecks.j2]; rw [if_neg (by simp), if_neg g1, if_pos g2]) (h80 (hwf _ (fun q => .inr (.inr (.inr (.inr (.inl q))))) g2))
          · by_cases g3 : Int.tmod am 1000 = 0
            · have hno2 : ¬ (kd < 1 ∨ kd > 4 ∨ (kd > 2 ∧ am ≠ 0) ∨ am < 0 ∨ am > 999999000 ∨ Int.tmod am 1000 ≠ 0) := by
                rintro (q | q | q | q | q | q)
                · exact hno (.inl q)
                · exact hno (.inr q)
                · exact hb2 rfl q
                · exact g1 q
                · exact g2 q
                · exact q g3
              by_cases g4 : kd = 2
              · exact Ev.step (fun k => by simp only [stipendlaw08_CodeChecks.j2]; rw [if_neg (by simp), if_neg g1, if_neg g2, if_pos g3, if_pos g4]) (j3 (am == 0) (fun q => ⟨g4, by simpa using q⟩) (fun q r => by simp [r.2] at q) hno2)
              · exact Ev.step (fun k => by simp only [stipendlaw08_CodeChecks.j2]; rw [if_neg (by simp), if_neg g1, if_neg g2, if_pos g3, if_neg g4]) (j3 false (fun q => by cases q) (fun _ q => g4 q.1) hno2)
            · exact Ev.step (fun k => by simp only [stipendlaw08_CodeChecks.j2]; rw [if_neg (by simp), if_neg g1, if_neg g2, if_neg g3]) (h80 (hwf _ (fun q => .inr (.inr (.inr (.inr (.inr (.inl q)))))) g3))
    have j1 : ∀ b : Bool, (b = true → kd < 1 ∨ kd > 4) → (b = false → ¬ (kd < 1 ∨ kd > 4)) → Ev (fun k => stipendlaw08_CodeChecks.j1 k 0 b sc kd am fl al) true := by
      intro b hb hb2
      cases b with
      | true => exact Ev.step (fun k => by simp only [stipendlaw08_CodeChecks.j1]; rw [if_pos trivial]) (h80 (hwf _ (fun q => by rcases q with q | q; exact .inl q; exact .inr (.inl q)) (hb rfl)))
      | false =>
        by_cases g1 : kd > 2
        · exact Ev.step (fun k => by simp only [stipendlaw08_CodeChecks.j1]; rw [if_neg (by simp), if_pos g1]) (j2 (am != 0) (fun q => ⟨g1, by simpa using q⟩) (fun q r => r.2 (by simpa using q)) (hb2 rfl))
        · exact Ev.step (fun k => by simp only [stipendlaw08_CodeChecks.j1]; rw [if_neg (by simp), if_neg g1]) (j2 false (fun q => by cases q) (fun _ q => g1 q.1) (hb2 rfl))
    have h0 : Ev (fun k => stipendlaw08_CodeChecks.j0 k 0 false sc kd am fl al) true := by
      by_cases g1 : kd < 1
      · exact Ev.step (fun k => by simp only [stipendlaw08_CodeChecks.j0]; rw [if_neg (by simp), if_pos g1]) (j1 true (fun _ => .inl g1) (fun q => by cases q))
      · exact Ev.step (fun k => by simp only [stipendlaw08_CodeChecks.j0]; rw [if_neg (by simp), if_neg g1]) (j1 (decide (kd > 4)) (fun q => .inr (of_decide_eq_true q)) (fun q r => by rcases r with r | r; exact g1 r; exact of_decide_eq_false q r))
    exact Ev.congr (fun k => by show (if sc < 0 then _ else _) = _; rw [if_neg (by omega), decide_eq_false (by omega)]) h0
end
end Go.Proofs.YtodijkdmcjnpkaaDoor.P
