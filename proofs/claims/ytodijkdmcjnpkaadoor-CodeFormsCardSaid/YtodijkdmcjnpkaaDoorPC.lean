import Derived.Test.YtodijkdmcjnpkaaDoorPB
/- Plain laws, without memory: a code is written as a text that is read as it. -/
namespace Go.Proofs.YtodijkdmcjnpkaaDoor.P
open Go.RowKit Go.Proofs.YtodijkdmcjnpkaaDoorW.PrintWords Go.Proofs.YtodijkdmcjnpkaaDoorW.PrintLast Go.Proofs.YtodijkdmcjnpkaaDoorW.PrintMore Go.Proofs.YtodijkdmcjnpkaaDoor.K Go.Proofs.YtodijkdmcjnpkaaDoor.KTab
open Go.Lib (decDigits)
set_option linter.unusedVariables false
set_option linter.unusedSimpArgs false

/-! ### reading -/
abbrev Res := Int × Int × Int × Int × Bool × Int
def bad (e : Int) : Res := (0, 0, 0, 0, false, e)
def fin (sc kd am fl : Int) (al ok : Bool) : Res := if ok = true then (if want sc kd am fl = 0 then (sc, kd, am, fl, al, 0) else bad (want sc kd am fl)) else bad 5
/-- What stands between the scheme and the sign behind. -/
def core (sc : Int) (l : List UInt8) (al : Bool) : Res :=
  if l = [78, 84] then fin sc 4 0 0 al true
  else if l.head? = some 75 then fin sc 2 ((numOf l.tail).1 * 1000) 0 al (numOf l.tail).2
  else if l.head? = some 68 then fin sc 3 0 (numOf l.tail).1 al (numOf l.tail).2
  else if l.getLast? = some 76 then fin sc 1 ((numOf l.dropLast).1 * 1000) 0 al (numOf l.dropLast).2
  else bad 5
def part1 (sc : Int) (l : List UInt8) : Res := if l.getLast? = some 88 then core sc l.dropLast true else core sc l false
def Sch (c : UInt8) : Prop := 80 ≤ c.toNat ∧ c.toNat ≤ 86
instance (c : UInt8) : Decidable (Sch c) := by unfold Sch; infer_instance
def parse : List UInt8 → Res
  | [] => part1 0 []
  | c :: t => if Sch c then part1 ((c.toNat : Int) - 79) t else part1 0 (c :: t)
theorem num_range (l : List UInt8) : 0 ≤ (numOf l).1 ∧ (numOf l).1 ≤ 999999 := by
  unfold numOf
  split
  · rename_i h
    have := num_le h
    exact ⟨by simp, by simp; omega⟩
  · exact ⟨by simp, by simp⟩
theorem j2_ev (sc kd am fl : Int) (al ok : Bool) : Ev (fun k => code_Parse.j2 k ok sc kd am fl al) (fin sc kd am fl al ok) := by
  unfold fin
  cases ok with
  | false => exact Ev.step (f := fun _ => some (bad 5)) (fun k => by simp only [code_Parse.j2]; rfl) (Ev.now _)
  | true =>
    rw [if_pos rfl]
    refine Ev.step (f := fun k => (code_Check.f k sc kd am fl al).bind fun t => if t = 0 then some (sc, kd, am, fl, al, 0) else some (0, 0, 0, 0, false, t)) (fun k => by simp only [code_Parse.j2]; rw [if_pos trivial]) (Ev.bind (check_ev sc kd am fl al) ?_)
    refine Ev.congr (f := fun _ => some (if want sc kd am fl = 0 then (sc, kd, am, fl, al, 0) else bad (want sc kd am fl))) (fun k => ?_) (Ev.now _)
    by_cases q : want sc kd am fl = 0 <;> simp [q, bad]
def coreG (k : Nat) (sc : Int) (a : ByteArray) (al : Bool) : Option Res := if a.toList = ([78, 84] : List UInt8) then (code_Parse.j2 k true sc 4 0 0 al) else ((strings_HasPrefix.f a (⟨#[75]⟩ : ByteArray)).bind fun t111 => (if t111 = true then (if 1 ≤ (a.size : Int) then ((code_number.f k (a.extract 1 a.size)).bind fun bt112 => (code_Parse.j2 k bt112.2 sc 2 (wrap64 (bt112.1 * 1000)) 0 al)) else (none)) else ((strings_HasPrefix.f a (⟨#[68]⟩ : ByteArray)).bind fun t114 => (if t114 = true then (if 1 ≤ (a.size : Int) then ((code_number.f k (a.extract 1 a.size)).bind fun bt115 => (code_Parse.j2 k bt115.2 sc 3 0 bt115.1 al)) else (none)) else ((strings_HasSuffix.f a (⟨#[76]⟩ : ByteArray)).bind fun t117 => (if t117 = true then (if 0 ≤ (wrap64 ((a.size : Int) - 1)) then (if (wrap64 ((a.size : Int) - 1)) ≤ (a.size : Int) then ((code_number.f k (a.extract 0 ((wrap64 ((a.size : Int) - 1)) : Int).toNat)).bind fun bt118 => (code_Parse.j2 k bt118.2 sc 1 (wrap64 (bt118.1 * 1000)) 0 al)) else (none)) else (none)) else (code_Parse.j2 k false sc 0 0 0 al)))))))
theorem core_ev (sc : Int) (l : List UInt8) (al : Bool) (h : Short l) : Ev (fun k => coreG k sc (B l) al) (core sc l al) := by
  have h1 : strings_HasPrefix.f (B l) (⟨#[75]⟩ : ByteArray) = some (l.head? == some 75) := prefix_f l 75 h
  have h2 : strings_HasPrefix.f (B l) (⟨#[68]⟩ : ByteArray) = some (l.head? == some 68) := prefix_f l 68 h
  have h3 : strings_HasSuffix.f (B l) (⟨#[76]⟩ : ByteArray) = some (l.getLast? == some 76) := suffix_f l 76 h
  have htl : (B l).extract 1 (B l).size = B l.tail := by rw [B_ext, B_size, List.take_length, List.drop_one]
  unfold core
  by_cases q0 : l = [78, 84]
  · rw [if_pos q0]
    exact Ev.congr (fun k => by unfold coreG; rw [B_list, if_pos q0]) (j2_ev sc 4 0 0 al true)
  · rw [if_neg q0]
    by_cases q1 : l.head? = some 75
    · rw [if_pos q1]
      have hne : 1 ≤ ((B l).size : Int) := by rw [B_size]; cases l with | nil => simp at q1 | cons c t => simp <;> omega
      have hr := num_range l.tail
      have hw : wrap64 ((numOf l.tail).1 * 1000) = (numOf l.tail).1 * 1000 := wrap_in (by omega) (by omega)
      refine Ev.congr (f := fun k => (code_number.f k (B l.tail)).bind fun b => code_Parse.j2 k b.2 sc 2 (wrap64 (b.1 * 1000)) 0 al) (fun k => ?_) (Ev.bind (number_ev l.tail) (by rw [hw]; exact j2_ev sc 2 _ 0 al _))
      unfold coreG
      rw [B_list, if_neg q0, h1, Option.bind_some, if_pos (by simpa using q1), if_pos hne, htl]
    · rw [if_neg q1]
      by_cases q2 : l.head? = some 68
      · rw [if_pos q2]
        have hne : 1 ≤ ((B l).size : Int) := by rw [B_size]; cases l with | nil => simp at q2 | cons c t => simp <;> omega
        refine Ev.congr (f := fun k => (code_number.f k (B l.tail)).bind fun b => code_Parse.j2 k b.2 sc 3 0 b.1 al) (fun k => ?_) (Ev.bind (number_ev l.tail) (j2_ev sc 3 0 _ al _))
        unfold coreG
        rw [B_list, if_neg q0, h1, Option.bind_some, if_neg (by simpa using q1), h2, Option.bind_some, if_pos (by simpa using q2), if_pos hne, htl]
      · rw [if_neg q2]
        by_cases q3 : l.getLast? = some 76
        · rw [if_pos q3]
          have hne : 1 ≤ l.length := by cases l with | nil => simp at q3 | cons c t => simp
          have hw : wrap64 (((B l).size : Int) - 1) = ((l.length - 1 : Nat) : Int) := by rw [B_size, wrap_in (by omega) (by unfold Short at h; omega)]; omega
          have hdl : (B l).extract 0 (((l.length - 1 : Nat) : Int)).toNat = B l.dropLast := by rw [B_ext, List.drop_zero, show (((l.length - 1 : Nat) : Int)).toNat = l.length - 1 from by omega, List.dropLast_eq_take]
          have hr := num_range l.dropLast
          have hw2 : wrap64 ((numOf l.dropLast).1 * 1000) = (numOf l.dropLast).1 * 1000 := wrap_in (by omega) (by omega)
          refine Ev.congr (f := fun k => (code_number.f k (B l.dropLast)).bind fun b => code_Parse.j2 k b.2 sc 1 (wrap64 (b.1 * 1000)) 0 al) (fun k => ?_) (Ev.bind (number_ev l.dropLast) (by rw [hw2]; exact j2_ev sc 1 _ 0 al _))
          unfold coreG
          rw [B_list, if_neg q0, h1, Option.bind_some, if_neg (by simpa using q1), h2, Option.bind_some, if_neg (by simpa using q2), h3, Option.bind_some, if_pos (by simpa using q3), hw, if_pos (by omega), if_pos (by rw [B_size]; omega), hdl]
        · rw [if_neg q3]
          refine Ev.congr (f := fun k => code_Parse.j2 k false sc 0 0 0 al) (fun k => ?_) (j2_ev sc 0 0 0 al false)
          unfold coreG
          rw [B_list, if_neg q0, h1, Option.bind_some, if_neg (by simpa using q1), h2, Option.bind_some, if_neg (by simpa using q2), h3, Option.bind_some, if_neg (by simpa using q3)]
theorem part1_ev (sc : Int) (l : List UInt8) (al0 : Bool) (h : Short l) : Ev (fun k => code_Parse.j1 k (B l) sc 0 0 0 al0) (part1 sc l) := by
  have hc := cut_f l 88 h
  unfold part1
  by_cases q : l.getLast? = some 88
  · rw [if_pos q] at hc ⊢
    have hs : Short l.dropLast := by unfold Short at h ⊢; rw [List.length_dropLast]; omega
    exact Ev.step (fun k => by simp only [code_Parse.j1]; rw [show strings_CutSuffix.f (B l) (⟨#[88]⟩ : ByteArray) = some (B l.dropLast, true) from hc]; rfl) (core_ev sc l.dropLast true hs)
  · rw [if_neg q] at hc ⊢
    exact Ev.step (fun k => by simp only [code_Parse.j1]; rw [show strings_CutSuffix.f (B l) (⟨#[88]⟩ : ByteArray) = some (B l, false) from hc]; rfl) (core_ev sc l false h)
theorem parse_ev (l : List UInt8) (h : Short l) : Ev (fun k => code_Parse.f k (B l)) (parse l) := by
  cases l with
  | nil =>
    exact Ev.congr (f := fun k => code_Parse.j0 k (B []) false 0 0 0 0 false) (fun k => by simp only [code_Parse.f, B_list]; rw [if_pos trivial]) (Ev.step (f := fun k => code_Parse.j1 k (B []) 0 0 0 0 false) (fun k => by simp only [code_Parse.j0]; rw [if_neg (by simp)]) (part1_ev 0 [] false h))
  | cons c t =>
    have hs : Short t := by unfold Short at h ⊢; simp at h; omega
    have hsz : ((B (c :: t)).size : Int) = (t.length : Int) + 1 := by rw [B_size]; simp
    have hcl := UInt8.toNat_lt c
    have hno : ¬ Sch c → Ev (fun k => code_Parse.j0 k (B (c :: t)) false 0 0 0 0 false) (parse (c :: t)) := by
      intro q
      have : parse (c :: t) = part1 0 (c :: t) := by show (if Sch c then _ else _) = _; rw [if_neg q]
      rw [this]
      exact Ev.step (f := fun k => code_Parse.j1 k (B (c :: t)) 0 0 0 0 false) (fun k => by simp only [code_Parse.j0]; rw [if_neg (by simp)]) (part1_ev 0 (c :: t) false h)
    have hyes : Sch c → Ev (fun k => code_Parse.j0 k (B (c :: t)) true 0 0 0 0 false) (parse (c :: t)) := by
      intro q
      have : parse (c :: t) = part1 ((c.toNat : Int) - 79) t := by show (if Sch c then _ else _) = _; rw [if_pos q]
      rw [this]
      refine Ev.step (f := fun k => code_Parse.j1 k (B t) ((c.toNat : Int) - 79) 0 0 0 false) (fun k => ?_) (part1_ev _ t false hs)
      simp only [code_Parse.j0, B_bt0, hsz]
      rw [if_pos trivial, if_pos (by omega), if_pos (by omega), B_ext, B_size, show (((c :: t).take (c :: t).length).drop 1) = t from by simp, show ((c.toNat : Int) - 79) % 256 = (c.toNat : Int) - 79 from by unfold Sch at q; omega]
    have hne : ¬ (c :: t) = ([] : List UInt8) := by simp
    by_cases q1 : (c.toNat : Int) ≥ 80
    · by_cases q2 : (c.toNat : Int) ≤ 86
      · refine Ev.congr (fun k => ?_) (hyes ⟨by omega, by omega⟩)
        simp only [code_Parse.f, B_list, B_bt0, hsz]
        rw [if_neg hne, if_pos (by omega), if_pos q1, decide_eq_true q2]
      · refine Ev.congr (fun k => ?_) (hno (fun q => by have := q.2; omega))
        simp only [code_Parse.f, B_list, B_bt0, hsz]
        rw [if_neg hne, if_pos (by omega), if_pos q1, decide_eq_false q2]
    · refine Ev.congr (fun k => ?_) (hno (fun q => by have := q.1; omega))
      simp only [code_Parse.f, B_list, B_bt0, hsz]
      rw [if_neg hne, if_pos (by omega), if_neg q1]

/-! ### writing -/
def mid (kd am fl : Int) : List UInt8 :=
  if kd = 1 then decDigits (am / 1000).toNat ++ [76] else if kd = 2 then 75 :: decDigits (am / 1000).toNat else if kd = 3 then 68 :: decDigits fl.toNat else [78, 84]
def tailX (al : Bool) : List UInt8 := if al = true then [88] else []
def front (sc : Int) : List UInt8 := if sc > 0 then [UInt8.ofNat (79 + sc).toNat] else []
def textOf (sc kd am fl : Int) (al : Bool) : List UInt8 := front sc ++ mid kd am fl ++ tailX al
theorem text_bad {sc kd am fl : Int} (al : Bool) (h : want sc kd am fl ≠ 0) : Ev (fun k => code_Text.f k sc kd am fl al) (B []) :=
  Ev.congr (f := fun k => (code_Check.f k sc kd am fl al).bind fun t => if t = 0 then _ else some (B [])) (fun k => rfl) (Ev.bind (check_ev sc kd am fl al) (Ev.congr (fun k => if_neg h) (Ev.now _)))
theorem text_ev {sc kd am fl : Int} (al : Bool) (h : Fit sc kd am fl) : Ev (fun k => code_Text.f k sc kd am fl al) (B (textOf sc kd am fl al)) := by
  have ha0 := h.a0
  have ha1 := h.a1
  have hf0 := h.f0
  have hf1 := h.f1
  have hdiv : Int.tdiv am 1000 = am / 1000 := Int.tdiv_eq_ediv_of_nonneg h.a0
  have hw : wrap64 (am / 1000) = am / 1000 := wrap_in (by omega) (by omega)
  have hl1 : (decDigits (am / 1000).toNat).length ≤ 6 := dec_len 5 _ (by omega)
  have hl2 : (decDigits fl.toNat).length ≤ 6 := dec_len 5 _ (by omega)
  have hfi : strconv_FormatInt_22.f (am / 1000) 10 = some (B (decDigits (am / 1000).toNat)) := by unfold strconv_FormatInt_22.f; rw [if_pos rfl, if_pos (by omega), if_pos (by omega), digs_B (by omega) (by omega)]
  have hit : strconv_Itoa_23.f fl = some (B (decDigits fl.toNat)) := by unfold strconv_Itoa_23.f; rw [if_pos (by omega), if_pos (by omega), digs_B (by omega) (by omega)]
  have hj : ∀ p : List UInt8, p.length ≤ 1 → Ev (fun k => code_Text.j0 k (B p) sc kd am fl al) (B (p ++ mid kd am fl ++ tailX al)) := by
    intro p hp
    refine Ev.step (f := fun _ => some (B (p ++ mid kd am fl ++ tailX al))) (fun k => ?_) (Ev.now _)
    have e76 : (⟨#[76]⟩ : ByteArray) = B [76] := rfl
    have e75 : (⟨#[75]⟩ : ByteArray) = B [75] := rfl
    have e68 : (⟨#[68]⟩ : ByteArray) = B [68] := rfl
    have e88 : (⟨#[88]⟩ : ByteArray) = B [88] := rfl
    have e78 : (⟨#[78, 84]⟩ : ByteArray) = B [78, 84] := rfl
    simp only [code_Text.j0, hdiv, hw, hfi, hit, Option.bind_some, e76, e75, e68, e88, e78, B_app, B_size]
    unfold mid tailX
    by_cases q1 : kd = 1
    · rw [if_pos q1, if_pos q1, if_pos (by omega), if_pos (by simp <;> omega)]
      cases al with
      | true => rw [if_pos rfl, if_pos (by simp <;> omega)]; simp
      | false => rw [if_neg (by simp)]; simp
    · rw [if_neg q1, if_neg q1]
      by_cases q2 : kd = 2
      · rw [if_pos q2, if_pos q2, if_pos (by omega), if_pos (by simp <;> omega)]
        cases al with
        | true => rw [if_pos rfl, if_pos (by simp <;> omega)]; simp
        | false => rw [if_neg (by simp)]; simp
      · rw [if_neg q2, if_neg q2]
        by_cases q3 : kd = 3
        · rw [if_pos q3, if_pos q3, if_pos (by omega), if_pos (by simp <;> omega)]
          cases al with
          | true => rw [if_pos rfl, if_pos (by simp <;> omega)]; simp
          | false => rw [if_neg (by simp)]; simp
        · rw [if_neg q3, if_neg q3, if_pos (by omega)]
          cases al with
          | true => rw [if_pos rfl, if_pos (by simp <;> omega)]; simp
          | false => rw [if_neg (by simp)]; simp
  have hc := check_ev sc kd am fl al
  rw [fit_want h] at hc
  refine Ev.congr (f := fun k => (code_Check.f k sc kd am fl al).bind fun t => if t = 0 then (if sc > 0 then (code_Text.j0 k (strOfNums (([(wrap64 (79 + sc)) % 256] : List Int))) sc kd am fl al) else (code_Text.j0 k (⟨#[]⟩ : ByteArray) sc kd am fl al)) else some (⟨#[]⟩ : ByteArray)) (fun k => rfl) (Ev.bind hc (Ev.congr (fun k => if_pos rfl) ?_))
  unfold textOf front
  by_cases q : sc > 0
  · have hs1 := h.s1
    have hb : strOfNums [(wrap64 (79 + sc)) % 256] = B [UInt8.ofNat (79 + sc).toNat] := by
      rw [wrap_in (by omega) (by omega), show (79 + sc) % 256 = 79 + sc from by omega]
      rfl
    rw [if_pos q]
    exact Ev.congr (fun k => by rw [if_pos q, hb]) (hj [UInt8.ofNat (79 + sc).toNat] (by simp))
  · rw [if_neg q]
    exact Ev.congr (fun k => by rw [if_neg q]; rfl) (hj [] (by simp))
end Go.Proofs.YtodijkdmcjnpkaaDoor.P
