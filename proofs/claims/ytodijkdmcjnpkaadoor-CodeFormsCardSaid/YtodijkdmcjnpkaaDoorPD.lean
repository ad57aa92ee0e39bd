import Derived.Test.YtodijkdmcjnpkaaDoorPC
/- Plain laws, without memory: what is read of a text. -/
namespace Go.Proofs.YtodijkdmcjnpkaaDoor.P
open Go.RowKit Go.Proofs.YtodijkdmcjnpkaaDoorW.PrintWords Go.Proofs.YtodijkdmcjnpkaaDoorW.PrintLast Go.Proofs.YtodijkdmcjnpkaaDoorW.PrintMore Go.Proofs.YtodijkdmcjnpkaaDoor.K Go.Proofs.YtodijkdmcjnpkaaDoor.KTab
open Go.Lib (decDigits)
set_option linter.unusedVariables false
set_option linter.unusedSimpArgs false

/-- What a text says between the scheme and the sign behind. -/
def coreK (l : List UInt8) : Option (Int × Int × Int) :=
  if l = [78, 84] then some (4, 0, 0)
  else if l.head? = some 75 then (if numOK l.tail then some (2, ((valF 0 l.tail : Nat) : Int) * 1000, 0) else none)
  else if l.head? = some 68 then (if numOK l.tail then some (3, 0, ((valF 0 l.tail : Nat) : Int)) else none)
  else if l.getLast? = some 76 then (if numOK l.dropLast then some (1, ((valF 0 l.dropLast : Nat) : Int) * 1000, 0) else none)
  else none
def coreR (sc : Int) (al : Bool) : Option (Int × Int × Int) → Res
  | some x => fin sc x.1 x.2.1 x.2.2 al true
  | none => bad 5
theorem core_eq (sc : Int) (l : List UInt8) (al : Bool) : core sc l al = coreR sc al (coreK l) := by
  unfold core coreK
  by_cases q0 : l = [78, 84]
  · rw [if_pos q0, if_pos q0]; rfl
  · rw [if_neg q0, if_neg q0]
    by_cases q1 : l.head? = some 75
    · rw [if_pos q1, if_pos q1]
      unfold numOf
      by_cases q : numOK l.tail
      · rw [if_pos q, if_pos q]; rfl
      · rw [if_neg q, if_neg q]; rfl
    · rw [if_neg q1, if_neg q1]
      by_cases q2 : l.head? = some 68
      · rw [if_pos q2, if_pos q2]
        unfold numOf
        by_cases q : numOK l.tail
        · rw [if_pos q, if_pos q]; rfl
        · rw [if_neg q, if_neg q]; rfl
      · rw [if_neg q2, if_neg q2]
        by_cases q3 : l.getLast? = some 76
        · rw [if_pos q3, if_pos q3]
          unfold numOf
          by_cases q : numOK l.dropLast
          · rw [if_pos q, if_pos q]; rfl
          · rw [if_neg q, if_neg q]; rfl
        · rw [if_neg q3, if_neg q3]; rfl
def cutX (l : List UInt8) : List UInt8 × Bool := if l.getLast? = some 88 then (l.dropLast, true) else (l, false)
theorem part1_eq (sc : Int) (l : List UInt8) : part1 sc l = coreR sc (cutX l).2 (coreK (cutX l).1) := by
  unfold part1 cutX
  by_cases q : l.getLast? = some 88
  · rw [if_pos q, if_pos q, core_eq]
  · rw [if_neg q, if_neg q, core_eq]
theorem cutX_back (l : List UInt8) : (cutX l).1 ++ tailX (cutX l).2 = l := by
  unfold cutX tailX
  rcases nil_or_snoc l with rfl | ⟨a, x, rfl⟩
  · simp
  · by_cases q : x = 88
    · subst q; simp
    · simp [q]
theorem dig_not {c : UInt8} {t : List UInt8} (h : ¬ Dig c) : ¬ numOK (c :: t) := by
  rintro ⟨_, _, _, q⟩
  unfold allDig at q
  rw [List.all_cons, decide_eq_false h, Bool.false_and] at q
  exact absurd q (by decide)
theorem dig_not_end {c : UInt8} {t : List UInt8} (h : ¬ Dig c) : ¬ numOK (t ++ [c]) := by
  rintro ⟨_, _, _, q⟩
  unfold allDig at q
  rw [List.all_append, List.all_cons, decide_eq_false h, Bool.false_and, Bool.and_false] at q
  exact absurd q (by decide)
theorem coreK_end {c : UInt8} (l : List UInt8) (h : ¬ Dig c) (h1 : c ≠ 76) (h2 : c ≠ 84) : coreK (l ++ [c]) = none := by
  unfold coreK
  rw [if_neg]
  · have hL : (l ++ [c]).getLast? ≠ some 76 := by simpa using h1
    have ht : ¬ numOK (l ++ [c]).tail := by
      cases l with
      | nil => intro q; exact q.1 rfl
      | cons x t => exact dig_not_end h
    rw [if_neg ht, if_neg ht, if_neg hL]
    split
    · rfl
    · split <;> rfl
  · intro q
    have := congrArg List.getLast? q
    simp at this
    exact h2 this
theorem coreK_front {c : UInt8} (l : List UInt8) (h : Sch c) : coreK (c :: l) = none := by
  have hd : ¬ Dig c := by unfold Sch at h; unfold Dig; omega
  have e : ∀ d : UInt8, ¬ Sch d → c ≠ d := by intro d hd' q; subst q; exact hd' h
  unfold coreK
  rw [if_neg (by intro q; have := congrArg List.head? q; simp at this; exact e 78 (by decide) this), if_neg (by simpa using e 75 (by decide)), if_neg (by simpa using e 68 (by decide))]
  by_cases q : (c :: l).getLast? = some 76
  · rw [if_pos q, if_neg]
    cases l with
    | nil => simp at q; exact absurd q (e 76 (by decide))
    | cons x t => rw [List.dropLast_cons_of_ne_nil (by simp)]; exact dig_not hd
  · rw [if_neg q]
theorem coreK_mid {l : List UInt8} {kd am fl : Int} (h : coreK l = some (kd, am, fl)) : mid kd am fl = l := by
  unfold coreK at h
  by_cases q0 : l = [78, 84]
  · rw [if_pos q0] at h
    simp only [Option.some.injEq, Prod.mk.injEq] at h
    obtain ⟨rfl, rfl, rfl⟩ := h
    rw [q0]
    rfl
  · rw [if_neg q0] at h
    by_cases q1 : l.head? = some 75
    · rw [if_pos q1] at h
      by_cases q : numOK l.tail
      · rw [if_pos q] at h
        simp only [Option.some.injEq, Prod.mk.injEq] at h
        obtain ⟨rfl, rfl, rfl⟩ := h
        unfold mid
        rw [if_neg (by decide), if_pos rfl, show (((valF 0 l.tail : Nat) : Int) * 1000 / 1000).toNat = valF 0 l.tail from by omega, num_dec q]
        cases l with
        | nil => simp at q1
        | cons c t => simp at q1; rw [q1]; rfl
      · rw [if_neg q] at h
        exact absurd h (by simp)
    · rw [if_neg q1] at h
      by_cases q2 : l.head? = some 68
      · rw [if_pos q2] at h
        by_cases q : numOK l.tail
        · rw [if_pos q] at h
          simp only [Option.some.injEq, Prod.mk.injEq] at h
          obtain ⟨rfl, rfl, rfl⟩ := h
          unfold mid
          rw [if_neg (by decide), if_neg (by decide), if_pos rfl, show (((valF 0 l.tail : Nat) : Int)).toNat = valF 0 l.tail from by omega, num_dec q]
          cases l with
          | nil => simp at q2
          | cons c t => simp at q2; rw [q2]; rfl
        · rw [if_neg q] at h
          exact absurd h (by simp)
      · rw [if_neg q2] at h
        by_cases q3 : l.getLast? = some 76
        · rw [if_pos q3] at h
          by_cases q : numOK l.dropLast
          · rw [if_pos q] at h
            simp only [Option.some.injEq, Prod.mk.injEq] at h
            obtain ⟨rfl, rfl, rfl⟩ := h
            unfold mid
            rw [if_pos rfl, show (((valF 0 l.dropLast : Nat) : Int) * 1000 / 1000).toNat = valF 0 l.dropLast from by omega, num_dec q]
            rcases nil_or_snoc l with rfl | ⟨a, x, rfl⟩
            · simp at q3
            · simp at q3; rw [q3]; simp
          · rw [if_neg q] at h
            exact absurd h (by simp)
        · rw [if_neg q3] at h
          exact absurd h (by simp)
theorem head_dec (u : Nat) : ∃ c t, decDigits u = c :: t ∧ Dig c := by
  have h1 := dec_ne u
  have h2 := dec_dig u
  cases hd : decDigits u with
  | nil => exact absurd hd h1
  | cons c t =>
    rw [hd] at h2
    unfold allDig at h2
    rw [List.all_cons] at h2
    simp at h2
    exact ⟨c, t, rfl, h2.1⟩
theorem mid_head {sc kd am fl : Int} (h : Fit sc kd am fl) : ∃ c t, mid kd am fl = c :: t ∧ ¬ Sch c := by
  obtain ⟨c, t, hc, hd⟩ := head_dec (am / 1000).toNat
  unfold mid
  rw [hc]
  split
  · exact ⟨c, t ++ [76], rfl, by unfold Dig at hd; unfold Sch; omega⟩
  · split
    · exact ⟨75, _, rfl, by decide⟩
    · split
      · exact ⟨68, _, rfl, by decide⟩
      · exact ⟨78, _, rfl, by decide⟩
theorem last_dec (u : Nat) : ∃ t c, decDigits u = t ++ [c] ∧ Dig c := by
  have h1 := dec_ne u
  have h2 := dec_dig u
  rcases nil_or_snoc (decDigits u) with hd | ⟨t, c, hd⟩
  · exact absurd hd h1
  · rw [hd] at h2
    unfold allDig at h2
    rw [List.all_append] at h2
    simp at h2
    exact ⟨t, c, hd, h2.2⟩
theorem mid_last (kd am fl : Int) : ∃ t c, mid kd am fl = t ++ [c] ∧ c ≠ 88 := by
  have e : ∀ c : UInt8, Dig c → c ≠ 88 := by intro c hc q; subst q; exact absurd hc (by decide)
  unfold mid
  split
  · exact ⟨_, 76, rfl, by decide⟩
  · split
    · obtain ⟨t, c, hc, hd⟩ := last_dec (am / 1000).toNat
      exact ⟨75 :: t, c, by rw [hc]; rfl, e c hd⟩
    · split
      · obtain ⟨t, c, hc, hd⟩ := last_dec fl.toNat
        exact ⟨68 :: t, c, by rw [hc]; rfl, e c hd⟩
      · exact ⟨[78], 84, rfl, by decide⟩
theorem mid_core {sc kd am fl : Int} (h : Fit sc kd am fl) : coreK (mid kd am fl) = some (kd, am, fl) := by
  have h1 := h.k0
  have h2 := h.k1
  have ha0 := h.a0
  have ha1 := h.a1
  have hf0 := h.f0
  have hf1 := h.f1
  have har := h.ar
  rw [Int.tmod_eq_emod_of_nonneg ha0] at har
  have hu : (am / 1000).toNat ≤ 999999 := by omega
  have hv : (((am / 1000).toNat : Nat) : Int) * 1000 = am := by omega
  have hok := dec_ok hu
  by_cases q1 : kd = 1
  · have hfl := h.fo (by omega)
    subst q1 hfl
    obtain ⟨c, t, hc, hd⟩ := head_dec (am / 1000).toNat
    have hh : (decDigits (am / 1000).toNat ++ [76]).head? = some c := by rw [hc]; rfl
    have hl : (decDigits (am / 1000).toNat ++ [76]).getLast? = some 76 := by simp
    have hdl : (decDigits (am / 1000).toNat ++ [76]).dropLast = decDigits (am / 1000).toNat := by simp
    have e : ∀ d : UInt8, ¬ Dig d → ¬ (some c = some d) := by intro d hd' q; rw [Option.some.inj q] at hd; exact hd' hd
    have hm : mid 1 am 0 = decDigits (am / 1000).toNat ++ [76] := rfl
    rw [hm]
    unfold coreK
    rw [if_neg (by intro q; rw [q] at hl; simp at hl), hh, if_neg (e 75 (by decide)), if_neg (e 68 (by decide)), if_pos hl, hdl, if_pos hok, dec_val, hv]
  · by_cases q2 : kd = 2
    · have hfl := h.fo (by omega)
      subst q2 hfl
      have hm : mid 2 am 0 = 75 :: decDigits (am / 1000).toNat := rfl
      rw [hm]
      unfold coreK
      rw [if_neg (by simp), if_pos (by rfl), List.tail_cons, if_pos hok, dec_val, hv]
    · by_cases q3 : kd = 3
      · have ham := h.no (by omega)
        subst q3 ham
        have hv2 : ((fl.toNat : Nat) : Int) = fl := by omega
        have hm : mid 3 0 fl = 68 :: decDigits fl.toNat := rfl
        rw [hm]
        unfold coreK
        rw [if_neg (by simp), if_neg (by simp), if_pos (by rfl), List.tail_cons, if_pos (dec_ok (by omega)), dec_val, hv2]
      · have ham := h.no (by omega)
        have hfl := h.fo (by omega)
        have : kd = 4 := by omega
        subst this ham hfl
        rfl
theorem cutX_mid (kd am fl : Int) (al : Bool) : cutX (mid kd am fl ++ tailX al) = (mid kd am fl, al) := by
  obtain ⟨t, c, hc, hne⟩ := mid_last kd am fl
  rw [hc]
  unfold cutX tailX
  cases al with
  | true => simp
  | false => simp [hne]
theorem parse_text {sc kd am fl : Int} (al : Bool) (h : Fit sc kd am fl) : parse (textOf sc kd am fl al) = (sc, kd, am, fl, al, 0) := by
  have hp : ∀ s : Int, s = sc → part1 s (mid kd am fl ++ tailX al) = (sc, kd, am, fl, al, 0) := by
    intro s hs
    subst hs
    rw [part1_eq, cutX_mid, mid_core h]
    show fin s kd am fl al true = _
    unfold fin
    rw [if_pos rfl, if_pos (fit_want h)]
  have hs0 := h.s0
  have hs1 := h.s1
  unfold textOf front
  by_cases q : sc > 0
  · have hn : (UInt8.ofNat (79 + sc).toNat).toNat = (79 + sc).toNat := by rw [UInt8.toNat_ofNat']; omega
    rw [if_pos q, List.append_assoc]
    show (if Sch (UInt8.ofNat (79 + sc).toNat) then _ else _) = _
    rw [if_pos (show Sch _ from by unfold Sch; rw [hn]; omega)]
    exact hp _ (by rw [hn]; omega)
  · obtain ⟨c, t, hc, hne⟩ := mid_head h
    rw [if_neg q, List.nil_append]
    have hq := hp 0 (by omega)
    rw [hc] at hq ⊢
    show (if Sch c then _ else part1 0 (c :: (t ++ tailX al))) = _
    rw [if_neg hne]
    exact hq
end Go.Proofs.YtodijkdmcjnpkaaDoor.P
