import Derived.Test.YtodijkdmcjnpkaaDoorPC
import Derived.Test.YtodijkdmcjnpkaaDoorPD
import Derived.Test.YtodijkdmcjnpkaaDoorKx8
/- Plain laws, without memory: CodeParses. -/
namespace Go.Proofs.YtodijkdmcjnpkaaDoor.P
open Go.RowKit Go.Proofs.YtodijkdmcjnpkaaDoorW.PrintWords Go.Proofs.YtodijkdmcjnpkaaDoorW.PrintLast Go.Proofs.YtodijkdmcjnpkaaDoorW.PrintMore Go.Proofs.YtodijkdmcjnpkaaDoor.K Go.Proofs.YtodijkdmcjnpkaaDoor.KTab
open Go.Lib (decDigits)
set_option linter.unusedVariables false
set_option linter.unusedSimpArgs false

/-- The scheme that stands in front, and what is behind it. -/
def schOf : List UInt8 → Int × List UInt8
  | [] => (0, [])
  | c :: t => if Sch c then ((c.toNat : Int) - 79, t) else (0, c :: t)
theorem schOf_yes {c : UInt8} {t : List UInt8} (q : Sch c) : schOf (c :: t) = ((c.toNat : Int) - 79, t) := if_pos q
theorem schOf_no {c : UInt8} {t : List UInt8} (q : ¬ Sch c) : schOf (c :: t) = (0, c :: t) := if_neg q
theorem parse_eq (l : List UInt8) : parse l = coreR (schOf l).1 (cutX (schOf l).2).2 (coreK (cutX (schOf l).2).1) := by
  cases l with
  | nil => exact part1_eq 0 []
  | cons c t =>
    show (if Sch c then _ else _) = _
    by_cases q : Sch c
    · rw [if_pos q, schOf_yes q]; exact part1_eq _ t
    · rw [if_neg q, schOf_no q]; exact part1_eq 0 (c :: t)
theorem sch_range (l : List UInt8) : 0 ≤ (schOf l).1 ∧ (schOf l).1 ≤ 7 := by
  cases l with
  | nil => exact ⟨by decide, by decide⟩
  | cons c t =>
    by_cases q : Sch c
    · rw [schOf_yes q]; unfold Sch at q; exact ⟨by simp only; omega, by simp only; omega⟩
    · rw [schOf_no q]; exact ⟨by simp, by simp⟩
theorem want_sch {sc kd am fl : Int} (h0 : 0 ≤ sc) (h1 : sc ≤ 7) : want sc kd am fl = want 0 kd am fl := by
  unfold want
  rw [if_neg (show ¬ (sc < 0 ∨ sc > 7) by omega), if_neg (show ¬ ((0 : Int) < 0 ∨ (0 : Int) > 7) by omega)]
theorem want_two {kd am fl : Int} : want 0 kd am fl = 0 ∨ want 0 kd am fl = 80 := by
  unfold want
  rw [if_neg (show ¬ ((0 : Int) < 0 ∨ (0 : Int) > 7) by omega)]
  split
  · exact .inr rfl
  · exact .inl rfl
theorem front_sch (l : List UInt8) : front (schOf l).1 ++ (schOf l).2 = l := by
  cases l with
  | nil => rfl
  | cons c t =>
    by_cases q : Sch c
    · rw [schOf_yes q]
      have hc := UInt8.toNat_lt c
      have hb : UInt8.ofNat (79 + ((c.toNat : Int) - 79)).toNat = c := by
        apply UInt8.toNat_inj.1
        rw [UInt8.toNat_ofNat']
        omega
      unfold front
      rw [if_pos (by unfold Sch at q; simp only; omega), hb]
      rfl
    · rw [schOf_no q]; rfl
/-- What reading gives: a code, or none. -/
theorem parse_cases (l : List UInt8) : (∃ kd am fl, coreK (cutX (schOf l).2).1 = some (kd, am, fl) ∧ want 0 kd am fl = 0 ∧ parse l = ((schOf l).1, kd, am, fl, (cutX (schOf l).2).2, 0)) ∨ (parse l = bad 5) ∨ parse l = bad 80 := by
  obtain ⟨h0, h1⟩ := sch_range l
  rw [parse_eq]
  cases hk : coreK (cutX (schOf l).2).1 with
  | none => exact .inr (.inl rfl)
  | some x =>
    obtain ⟨kd, am, fl⟩ := x
    show _ ∨ fin _ kd am fl _ true = _ ∨ fin _ kd am fl _ true = _
    unfold fin
    rw [if_pos rfl, want_sch h0 h1]
    rcases want_two (kd := kd) (am := am) (fl := fl) with q | q
    · refine .inl ⟨kd, am, fl, rfl, q, ?_⟩
      show fin _ kd am fl _ true = _
      unfold fin
      rw [if_pos rfl, want_sch h0 h1, if_pos q]
    · exact .inr (.inr (by rw [if_neg (by rw [q]; decide), q]))
theorem coreR_err {sc : Int} {al : Bool} {kd am fl : Int} (h0 : 0 ≤ sc) (h1 : sc ≤ 7) (h : want 0 kd am fl = 0) : (coreR sc al (some (kd, am, fl))).2.2.2.2.2 = 0 := by
  show (fin sc kd am fl al true).2.2.2.2.2 = 0
  unfold fin
  rw [if_pos rfl, want_sch h0 h1, if_pos h]
theorem coreK_nil : coreK [] = none := by decide
set_option linter.unusedSectionVars false
section
variable {l : List UInt8} {kd am fl : Int} (hk : coreK (cutX (schOf l).2).1 = some (kd, am, fl)) (hw : want 0 kd am fl = 0)
include hk
theorem body_ne : (schOf l).2 ≠ [] := by
  intro q
  rw [q] at hk
  exact absurd hk (show ¬ (coreK []) = some (kd, am, fl) from by rw [coreK_nil]; simp)
theorem sch_snoc (c : UInt8) : schOf (l ++ [c]) = ((schOf l).1, (schOf l).2 ++ [c]) := by
  have hne := body_ne hk
  cases l with
  | nil => exact absurd rfl hne
  | cons x t =>
    by_cases q : Sch x
    · rw [schOf_yes q]; exact if_pos q
    · rw [schOf_no q]; exact if_neg q
theorem last_same : l.getLast? = (schOf l).2.getLast? := by
  have hne := body_ne hk
  cases l with
  | nil => rfl
  | cons x t =>
    by_cases q : Sch x
    · rw [schOf_yes q] at hne ⊢
      cases t with
      | nil => exact absurd rfl hne
      | cons y t => rw [List.getLast?_cons_cons]
    · rw [schOf_no q]
include hw
theorem text_back : textOf (schOf l).1 kd am fl (cutX (schOf l).2).2 = l := by
  unfold textOf
  rw [coreK_mid hk, List.append_assoc, cutX_back, front_sch]
theorem with_X : ((parse (l ++ [88])).2.2.2.2.2 == 0) = !(l.getLast? == some 88) := by
  obtain ⟨h0, h1⟩ := sch_range l
  have hc : cutX ((schOf l).2 ++ [88]) = ((schOf l).2, true) := by unfold cutX; simp
  rw [parse_eq, sch_snoc hk, last_same hk]
  simp only [hc]
  by_cases q : (schOf l).2.getLast? = some 88
  · rcases nil_or_snoc (schOf l).2 with r | ⟨a, x, r⟩
    · rw [r] at q; exact absurd q (by simp)
    · rw [r] at q ⊢
      have hx : x = 88 := by simpa using q
      subst hx
      rw [coreK_end a (by decide) (by decide) (by decide)]
      simp [coreR, bad]
  · have hc2 : cutX (schOf l).2 = ((schOf l).2, false) := by unfold cutX; rw [if_neg q]
    rw [hc2] at hk
    simp only at hk
    rw [hk, coreR_err h0 h1 hw]
    simpa using q
theorem with_blank : (parse (l ++ [32])).2.2.2.2.2 = 5 := by
  have hc : cutX ((schOf l).2 ++ [32]) = ((schOf l).2 ++ [32], false) := by unfold cutX; simp
  rw [parse_eq, sch_snoc hk]
  simp only [hc]
  rw [coreK_end _ (by decide) (by decide) (by decide)]
  rfl
theorem with_P {c : UInt8} {t : List UInt8} (hl : l = c :: t) : ((parse (80 :: l)).2.2.2.2.2 == 0) = !(decide (Sch c)) := by
  have hs : schOf (80 :: l) = (1, l) := schOf_yes (by decide)
  rw [parse_eq, hs]
  simp only []
  by_cases q : Sch c
  · have hd : (schOf l).2 = t := by rw [hl, schOf_yes q]
    have hne := body_ne hk
    rw [hd] at hne
    have hx : ∃ a b, cutX l = (c :: a, b) := by
      unfold cutX
      by_cases r : l.getLast? = some 88
      · rw [if_pos r, hl, List.dropLast_cons_of_ne_nil hne]; exact ⟨_, _, rfl⟩
      · rw [if_neg r, hl]; exact ⟨_, _, rfl⟩
    obtain ⟨a, b, hx⟩ := hx
    rw [hx]
    simp only []
    rw [coreK_front a q, decide_eq_true q]
    rfl
  · have hd : (schOf l).2 = l := by rw [hl, schOf_no q]
    rw [hd] at hk
    rw [hk, coreR_err (by decide) (by decide) hw, decide_eq_false q]
    rfl
end
theorem codeParses_pure (s : ByteArray) (hs : s.size ≤ Go.maxLen) : ∃ k, stipendlaw08_CodeParses.f k s = some true := by
  refine Ev.rounds ?_
  rw [B_of s]
  generalize hl : s.data.toList = l
  by_cases q0 : ((B l).size : Int) > 100
  · exact Ev.congr (f := fun _ => some true) (fun k => by show (if ((B l).size : Int) > 100 then _ else _) = _; rw [if_pos q0]) (Ev.now _)
  · have hlen : l.length ≤ 100 := by rw [B_size] at q0; omega
    have e88 : (⟨#[88]⟩ : ByteArray) = B [88] := rfl
    have e32 : (⟨#[32]⟩ : ByteArray) = B [32] := rfl
    have e80 : (⟨#[80]⟩ : ByteArray) = B [80] := rfl
    have hp := parse_ev l (by unfold Short; omega)
    refine Ev.congr (f := fun k => (code_Parse.f k (B l)).bind fun bt206 => (if bt206.2.2.2.2.2 = 0 then ((code_Text.f k bt206.1 bt206.2.1 bt206.2.2.1 bt206.2.2.2.1 bt206.2.2.2.2.1).bind fun t213 => (if t213.toList = (B l).toList then (if (B l).size + 1 ≤ 9223372036854775807 then ((code_Parse.f k (B l ++ (⟨#[88]⟩ : ByteArray))).bind fun bt214 => ((code_Parse.f k (B l ++ (⟨#[32]⟩ : ByteArray))).bind fun bt221 => (if 1 + (B l).size ≤ 9223372036854775807 then ((code_Parse.f k ((⟨#[80]⟩ : ByteArray) ++ B l)).bind fun bt228 => ((strings_HasSuffix.f (B l) (⟨#[88]⟩ : ByteArray)).bind fun t235 => (if ((bt214.2.2.2.2.2 == 0) == (!t235)) = true then (if bt221.2.2.2.2.2 = 5 then (if 0 < ((B l).size : Int) then (if (bt (B l) 0) < 80 then (some ((bt228.2.2.2.2.2 == 0) == true)) else (some ((bt228.2.2.2.2.2 == 0) == (decide ((bt (B l) 0) > 86))))) else (none)) else (some false)) else (some false)))) else (none)))) else (none)) else (some false))) else (if (bt206.1 == 0 && (bt206.2.1 == 0 && (bt206.2.2.1 == 0 && (bt206.2.2.2.1 == 0 && (!bt206.2.2.2.2.1))))) = true then (if bt206.2.2.2.2.2 = 5 then (some true) else (some (bt206.2.2.2.2.2 == 80))) else (some false)))) (fun k => by show (if ((B l).size : Int) > 100 then _ else _) = _; rw [if_neg q0]) (Ev.bind hp ?_)
    rcases parse_cases l with ⟨kd, am, fl, hk, hw, he⟩ | he | he
    · obtain ⟨h0, h1⟩ := sch_range l
      have hf : Fit (schOf l).1 kd am fl := fit_of (by rw [want_sch h0 h1]; exact hw)
      have ht := text_ev (cutX (schOf l).2).2 hf
      rw [text_back hk hw] at ht
      rw [he]
      refine Ev.congr (fun k => if_pos rfl) (Ev.bind ht (Ev.congr (fun k => if_pos rfl) ?_))
      have hX := with_X hk hw
      have hb := with_blank hk hw
      have hpX := parse_ev (l ++ [88]) (by unfold Short; simp; omega)
      have hpb := parse_ev (l ++ [32]) (by unfold Short; simp; omega)
      have hpP := parse_ev (80 :: l) (by unfold Short; simp; omega)
      obtain ⟨c, t, hct⟩ : ∃ c t, l = c :: t := by
        cases hq : l with
        | nil => rw [hq] at hk; exact absurd hk (show ¬ (coreK []) = some (kd, am, fl) from by rw [coreK_nil]; simp)
        | cons c t => exact ⟨c, t, rfl⟩
      have hP := with_P hk hw hct
      have hsz : (B l).size = l.length := B_size l
      have hsf := suffix_f l 88 (by unfold Short; omega)
      refine Ev.congr (f := fun k => (code_Parse.f k (B (l ++ [88]))).bind fun bt214 => ((code_Parse.f k (B (l ++ [32]))).bind fun bt221 => ((code_Parse.f k (B (80 :: l))).bind fun bt228 => (if ((bt214.2.2.2.2.2 == 0) == (!(l.getLast? == some 88))) = true then (if bt221.2.2.2.2.2 = 5 then (if 0 < ((B l).size : Int) then (if (bt (B l) 0) < 80 then (some ((bt228.2.2.2.2.2 == 0) == true)) else (some ((bt228.2.2.2.2.2 == 0) == (decide ((bt (B l) 0) > 86))))) else (none)) else (some false)) else (some false))))) (fun k => ?_) (Ev.bind hpX (Ev.bind hpb (Ev.bind hpP (Ev.congr (f := fun _ => some true) (fun k => ?_) (Ev.now _)))))
      · simp only [e88, e32, e80, B_app]
        rw [if_pos (by omega)]
        congr 1
        funext b1
        congr 1
        funext b2
        rw [if_pos (by omega)]
        congr 1
        funext b3
        rw [hsf]
        rfl
      · have hb0 : bt (B l) 0 = (c.toNat : Int) := by rw [hct]; exact B_bt0 c t
        rw [hX, if_pos (by simp), if_pos hb, if_pos (by rw [hsz, hct]; simp <;> omega), hb0, hP]
        by_cases q1 : (c.toNat : Int) < 80
        · rw [if_pos q1, decide_eq_false (fun q => by have := q.1; omega)]
          rfl
        · rw [if_neg q1]
          by_cases q2 : (c.toNat : Int) > 86
          · rw [decide_eq_true q2, decide_eq_false (fun q => by have := q.2; omega)]
            rfl
          · rw [decide_eq_false q2, decide_eq_true (show Sch c from ⟨by omega, by omega⟩)]
            rfl
    · rw [he]
      exact Ev.congr (f := fun _ => some true) (fun k => rfl) (Ev.now _)
    · rw [he]
      exact Ev.congr (f := fun _ => some true) (fun k => rfl) (Ev.now _)
end Go.Proofs.YtodijkdmcjnpkaaDoor.P
