import Derived.Test.YtodijkdmcjnpkaaDoorPC
import Derived.Test.YtodijkdmcjnpkaaDoorPD
/- Plain laws, without memory: the scheme in front. -/
namespace Go.Proofs.YtodijkdmcjnpkaaDoor.P
open Go.RowKit Go.Proofs.YtodijkdmcjnpkaaDoorW.PrintWords Go.Proofs.YtodijkdmcjnpkaaDoorW.PrintLast Go.Proofs.YtodijkdmcjnpkaaDoorW.PrintMore Go.Proofs.YtodijkdmcjnpkaaDoor.K Go.Proofs.YtodijkdmcjnpkaaDoor.KTab
open Go.Lib (decDigits)
set_option linter.unusedVariables false
set_option linter.unusedSimpArgs false

/-- The scheme that stands in front, and what is behind it. -/
def schOf : List UInt8 → Int × List UInt8
  | [] => (0, [])
  | c :: t => if Sch c then ((c.toNat : Int) - 79, t) else (0, c :: t)
theorem schOf_yes {c : UInt8} {t : List UInt8} (q : Sch c) : schOf (c :: t) = ((c.toNat : Int) - 79, t) := if_pos q
theorem schOf_no {c : UInt8} {t : List UInt8} (q : ¬ Sch c) : schOf (c :: t) = (0, c :: t) := if_neg q
theorem parse_eq (l : List UInt8) : parse l = coreR (schOf l).1 (cutX (schOf l).2).2 (coreK (cutX (schOf l).2).1) := by
  cases l with
  | nil => exact part1_eq 0 []
  | cons c t =>
    show (if Sch c then _ else _) = _
    by_cases q : Sch c
    · rw [if_pos q, schOf_yes q]; exact part1_eq _ t
    · rw [if_neg q, schOf_no q]; exact part1_eq 0 (c :: t)
theorem sch_range (l : List UInt8) : 0 ≤ (schOf l).1 ∧ (schOf l).1 ≤ 7 := by
  cases l with
  | nil => exact ⟨by decide, by decide⟩
  | cons c t =>
    by_cases q : Sch c
    · rw [schOf_yes q]; unfold Sch at q; exact ⟨by simp only; omega, by simp only; omega⟩
    · rw [schOf_no q]; exact ⟨by simp, by simp⟩
theorem want_sch {sc kd am fl : Int} (h0 : 0 ≤ sc) (h1 : sc ≤ 7) : want sc kd am fl = want 0 kd am fl := by
  unfold want
  rw [if_neg (show ¬ (sc < 0 ∨ sc > 7) by omega), if_neg (show ¬ ((0 : Int) < 0 ∨ (0 : Int) > 7) by omega)]
theorem want_two {kd am fl : Int} : want 0 kd am fl = 0 ∨ want 0 kd am fl = 80 := by
  unfold want
  rw [if_neg (show ¬ ((0 : Int) < 0 ∨ (0 : Int) > 7) by omega)]
  split
  · exact .inr rfl
  · exact .inl rfl
theorem front_sch (l : List UInt8) : front (schOf l).1 ++ (schOf l).2 = l := by
  cases l with
  | nil => rfl
  | cons c t =>
    by_cases q : Sch c
    · rw [schOf_yes q]
      have hc := UInt8.toNat_lt c
      have hb : UInt8.ofNat (79 + ((c.toNat : Int) - 79)).toNat = c := by
        apply UInt8.toNat_inj.1
        rw [UInt8.toNat_ofNat']
        omega
      unfold front
      rw [if_pos (by unfold Sch at q; simp only; omega), hb]
      rfl
    · rw [schOf_no q]; rfl
/-- What reading gives: a code, or none. -/
theorem parse_cases (l : List UInt8) : (∃ kd am fl, coreK (cutX (schOf l).2).1 = some (kd, am, fl) ∧ want 0 kd am fl = 0 ∧ parse l = ((schOf l).1, kd, am, fl, (cutX (schOf l).2).2, 0)) ∨ (parse l = bad 5) ∨ parse l = bad 80 := by
  obtain ⟨h0, h1⟩ := sch_range l
  rw [parse_eq]
  cases hk : coreK (cutX (schOf l).2).1 with
  | none => exact .inr (.inl rfl)
  | some x =>
    obtain ⟨kd, am, fl⟩ := x
    show _ ∨ fin _ kd am fl _ true = _ ∨ fin _ kd am fl _ true = _
    unfold fin
    rw [if_pos rfl, want_sch h0 h1]
    rcases want_two (kd := kd) (am := am) (fl := fl) with q | q
    · refine .inl ⟨kd, am, fl, rfl, q, ?_⟩
      show fin _ kd am fl _ true = _
      unfold fin
      rw [if_pos rfl, want_sch h0 h1, if_pos q]
    · exact .inr (.inr (by rw [if_neg (by rw [q]; decide), q]))
theorem coreR_err {sc : Int} {al : Bool} {kd am fl : Int} (h0 : 0 ≤ sc) (h1 : sc ≤ 7) (h : want 0 kd am fl = 0) : (coreR sc al (some (kd, am, fl))).2.2.2.2.2 = 0 := by
  show (fin sc kd am fl al true).2.2.2.2.2 = 0
  unfold fin
  rw [if_pos rfl, want_sch h0 h1, if_pos h]
end Go.Proofs.YtodijkdmcjnpkaaDoor.P
