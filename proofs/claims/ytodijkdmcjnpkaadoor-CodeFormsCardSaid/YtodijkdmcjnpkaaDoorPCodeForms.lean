import Derived.Test.YtodijkdmcjnpkaaDoorPC
import Derived.Test.YtodijkdmcjnpkaaDoorPD
import Derived.Test.YtodijkdmcjnpkaaDoorPS
import Derived.Test.YtodijkdmcjnpkaaDoorKxF
/- Plain laws, without memory: CodeForms. -/
namespace Go.Proofs.YtodijkdmcjnpkaaDoor.P
open Go.RowKit Go.Proofs.YtodijkdmcjnpkaaDoorW.PrintWords Go.Proofs.YtodijkdmcjnpkaaDoorW.PrintLast Go.Proofs.YtodijkdmcjnpkaaDoorW.PrintMore Go.Proofs.YtodijkdmcjnpkaaDoor.K Go.Proofs.YtodijkdmcjnpkaaDoor.KTab
open Go.Lib (decDigits)
set_option linter.unusedVariables false
set_option linter.unusedSimpArgs false

/-! ### what is read of the four forms -/
def bodyOf (K : Int) (D : List UInt8) : List UInt8 := if K = 0 then D ++ [76] else if K = 1 then 75 :: D else if K = 2 then 68 :: D else [78, 84]
def frontOf (S : Int) : List UInt8 := if S > 0 then [UInt8.ofNat (79 + S).toNat] else []
def formOf (S K : Int) (D : List UInt8) (al : Bool) : List UInt8 := frontOf S ++ bodyOf K D ++ tailX al
def Cap (c : UInt8) : Prop := 65 ≤ c.toNat ∧ c.toNat ≤ 90
theorem coreK_front2 {c : UInt8} (l : List UInt8) (hd : ¬ Dig c) (h1 : c ≠ 78) (h2 : c ≠ 75) (h3 : c ≠ 68) (h4 : c ≠ 76) : coreK (c :: l) = none := by
  unfold coreK
  rw [if_neg (by intro q; have := congrArg List.head? q; simp at this; exact h1 this), if_neg (by simpa using h2), if_neg (by simpa using h3)]
  by_cases q : (c :: l).getLast? = some 76
  · rw [if_pos q, if_neg]
    cases l with
    | nil => simp at q; exact absurd q h4
    | cons x t => rw [List.dropLast_cons_of_ne_nil (by simp)]; exact dig_not hd
  · rw [if_neg q]
theorem cap_ne {D : List UInt8} (hD : ∀ c ∈ D, ¬ Cap c) {c : UInt8} (hc : c ∈ D) (x : UInt8) (hx : Cap x) : c ≠ x := fun q => hD c hc (by rw [q]; exact hx)
theorem body_ends {D : List UInt8} (K : Int) (hD : ∀ c ∈ D, ¬ Cap c) : (∃ c t, bodyOf K D = c :: t ∧ ¬ Sch c) ∧ ∃ t c, bodyOf K D = t ++ [c] ∧ c ≠ 88 := by
  have hs : ∀ c ∈ D, ¬ Sch c := fun c hc q => hD c hc ⟨by have := q.1; omega, by have := q.2; omega⟩
  unfold bodyOf
  split
  · refine ⟨?_, D, 76, rfl, by decide⟩
    cases D with
    | nil => exact ⟨76, [], rfl, by decide⟩
    | cons c t => exact ⟨c, t ++ [76], rfl, hs c List.mem_cons_self⟩
  · have hl : ∀ x : UInt8, x ≠ 88 → ∃ t c, x :: D = t ++ [c] ∧ c ≠ 88 := by
      intro x hx
      rcases nil_or_snoc D with q | ⟨t, c, q⟩
      · exact ⟨[], x, by rw [q]; rfl, hx⟩
      · exact ⟨x :: t, c, by rw [q]; rfl, cap_ne hD (by rw [q]; simp) 88 (show Cap 88 from ⟨by decide, by decide⟩)⟩
    split
    · exact ⟨⟨75, D, rfl, by decide⟩, hl 75 (by decide)⟩
    · split
      · exact ⟨⟨68, D, rfl, by decide⟩, hl 68 (by decide)⟩
      · exact ⟨⟨78, [84], rfl, by decide⟩, [78], 84, rfl, by decide⟩
theorem cut_body {t : List UInt8} {c : UInt8} (l : List UInt8) (hl : l = t ++ [c]) (h : c ≠ 88) (al : Bool) : cutX (l ++ tailX al) = (l, al) := by
  subst hl
  unfold cutX tailX
  cases al with
  | true => simp
  | false => simp [h]
/-- With a scheme, or none. -/
theorem form_parse {S K : Int} {D : List UInt8} (al : Bool) (h0 : 0 ≤ S) (h1 : S ≤ 7) (hD : ∀ c ∈ D, ¬ Cap c) : parse (formOf S K D al) = coreR S al (coreK (bodyOf K D)) := by
  obtain ⟨⟨c, t, hc, hne⟩, t', c', hc', hne'⟩ := body_ends K hD
  have hcut := cut_body (bodyOf K D) hc' hne' al
  unfold formOf frontOf
  by_cases q : S > 0
  · have hn : (UInt8.ofNat (79 + S).toNat).toNat = (79 + S).toNat := by rw [UInt8.toNat_ofNat']; omega
    rw [if_pos q, List.append_assoc]
    show parse (_ :: (bodyOf K D ++ tailX al)) = _
    rw [parse_eq, schOf_yes (show Sch _ from by unfold Sch; rw [hn]; omega)]
    simp only [hcut, hn]
    rw [show ((79 + S).toNat : Int) - 79 = S from by omega]
  · rw [if_neg q, List.nil_append]
    have hS : S = 0 := by omega
    subst hS
    have hs : schOf (bodyOf K D ++ tailX al) = (0, bodyOf K D ++ tailX al) := by rw [hc]; exact schOf_no hne
    rw [parse_eq, hs]
    simp only [hcut]
theorem form_none {S K : Int} {D : List UInt8} (al : Bool) (h0 : 8 ≤ S) (h1 : S ≤ 9) (hD : ∀ c ∈ D, ¬ Cap c) : parse (formOf S K D al) = bad 5 := by
  obtain ⟨⟨c, t, hc, hne⟩, t', c', hc', hne'⟩ := body_ends K hD
  have hn : (UInt8.ofNat (79 + S).toNat).toNat = (79 + S).toNat := by rw [UInt8.toNat_ofNat']; omega
  have hx : ∀ x : UInt8, x.toNat < 87 → UInt8.ofNat (79 + S).toNat ≠ x := fun x hx q => by rw [q] at hn; omega
  have hcut := cut_body (UInt8.ofNat (79 + S).toNat :: bodyOf K D) (show _ = (UInt8.ofNat (79 + S).toNat :: t') ++ [c'] by rw [hc']; rfl) hne' al
  unfold formOf frontOf
  rw [if_pos (by omega), List.append_assoc]
  show parse (_ :: (bodyOf K D ++ tailX al)) = _
  rw [parse_eq, schOf_no (show ¬ Sch _ from by unfold Sch; rw [hn]; omega)]
  rw [List.cons_append] at hcut
  simp only [hcut]
  rw [coreK_front2 _ (by unfold Dig; rw [hn]; omega) (hx 78 (by decide)) (hx 75 (by decide)) (hx 68 (by decide)) (hx 76 (by decide))]
  rfl
theorem body_core {K : Int} {D : List UInt8} (hD : ∀ c ∈ D, ¬ Cap c) : coreK (bodyOf K D) =
    if K = 0 then (if numOK D then some (1, ((valF 0 D : Nat) : Int) * 1000, 0) else none) else if K = 1 then (if numOK D then some (2, ((valF 0 D : Nat) : Int) * 1000, 0) else none) else if K = 2 then (if numOK D then some (3, 0, ((valF 0 D : Nat) : Int)) else none) else some (4, 0, 0) := by
  by_cases q0 : K = 0
  · have hb : bodyOf K D = D ++ [76] := by unfold bodyOf; rw [if_pos q0]
    have hh : ∀ x : UInt8, Cap x → x ≠ 76 → (D ++ [76]).head? ≠ some x := by
      intro x hx hx2 q
      cases hd : D with
      | nil => rw [hd] at q; simp at q; exact hx2 q.symm
      | cons c t => rw [hd] at q; simp at q; exact cap_ne hD (by rw [hd]; exact List.mem_cons_self) x hx q
    rw [hb, if_pos q0]
    unfold coreK
    rw [if_neg (by intro q; have q2 := congrArg List.getLast? q; rw [List.getLast?_concat] at q2; exact absurd q2 (by decide)), if_neg (hh 75 ⟨by decide, by decide⟩ (by decide)), if_neg (hh 68 ⟨by decide, by decide⟩ (by decide)), if_pos List.getLast?_concat, List.dropLast_concat]
  · rw [if_neg q0]
    by_cases q1 : K = 1
    · have hb : bodyOf K D = 75 :: D := by unfold bodyOf; rw [if_neg q0, if_pos q1]
      rw [hb, if_pos q1]
      unfold coreK
      rw [if_neg (by simp), if_pos (by rfl), List.tail_cons]
    · rw [if_neg q1]
      by_cases q2 : K = 2
      · have hb : bodyOf K D = 68 :: D := by unfold bodyOf; rw [if_neg q0, if_neg q1, if_pos q2]
        rw [hb, if_pos q2]
        unfold coreK
        rw [if_neg (by simp), if_neg (by simp), if_pos (by rfl), List.tail_cons]
      · have hb : bodyOf K D = [78, 84] := by unfold bodyOf; rw [if_neg q0, if_neg q1, if_neg q2]
        rw [hb, if_neg q2]
        rfl
/-- What the law awaits. -/
def Awaits (s : List UInt8) (e : Int) (w : Int × Int × Int × Int × Bool) : Prop := if e = 0 then parse s = (w.1, w.2.1, w.2.2.1, w.2.2.2.1, w.2.2.2.2, 0) else parse s = bad e
theorem want_val {S kd am fl : Int} (h0 : 0 ≤ S) (h1 : S ≤ 7) : want S kd am fl = want 0 kd am fl := want_sch h0 h1
section
variable {S K : Int} {D : List UInt8} (al : Bool)
theorem await_fin {s : List UInt8} {kd am fl : Int} (hp : parse s = fin S kd am fl al true) (h : want S kd am fl = 0) : Awaits s 0 (S, kd, am, fl, al) := by
  unfold Awaits
  rw [if_pos rfl, hp]
  unfold fin
  rw [if_pos rfl, if_pos h]
theorem await_80 {s : List UInt8} {kd am fl : Int} (w : Int × Int × Int × Int × Bool) (hp : parse s = fin S kd am fl al true) (h : want S kd am fl = 80) : Awaits s 80 w := by
  unfold Awaits
  rw [if_neg (by decide), hp]
  unfold fin
  rw [if_pos rfl, if_neg (by rw [h]; decide), h]
theorem await_5 {s : List UInt8} (w : Int × Int × Int × Int × Bool) (hp : parse s = bad 5) : Awaits s 5 w := by
  unfold Awaits
  rw [if_neg (by decide), hp]
theorem forms_l1 (D s : List UInt8) (hD : D.length ≤ 30) (hs : s.length ≤ 100) (e : Int) (w0 w1 w2 w3 : Int) (w4 : Bool) (h : (∀ c ∈ D, ¬ Cap c) → Awaits s e (w0, w1, w2, w3, w4)) : ∀ d j : Nat, D.length - j = d → j ≤ D.length → (∀ c ∈ D.take j, ¬ Cap c) →
    Ev (fun k => stipendlaw08_CodeForms.l1 k (B D) (B s) e (D.length : Int) (j : Int) w0 w1 w2 w3 w4) true := by
  have hsz : ((B D).size : Int) = (D.length : Int) := by rw [B_size]
  intro d
  induction d with
  | zero =>
    intro j h1 h2 hj
    rw [List.take_of_length_le (by omega)] at hj
    have ha := h hj
    unfold Awaits at ha
    refine Ev.step (f := fun k => (code_Parse.f k (B s)).bind fun bt241 => (if e = 0 then (if bt241.2.2.2.2.2 = 0 then (some (bt241.1 == w0 && (bt241.2.1 == w1 && (bt241.2.2.1 == w2 && (bt241.2.2.2.1 == w3 && (bt241.2.2.2.2.1 == w4)))))) else (some false)) else (if bt241.2.2.2.2.2 = e then (some (bt241.1 == 0 && (bt241.2.1 == 0 && (bt241.2.2.1 == 0 && (bt241.2.2.2.1 == 0 && (!bt241.2.2.2.2.1)))))) else (some false)))) (fun k => by simp only [stipendlaw08_CodeForms.l1]; rw [if_neg (by omega)]) (Ev.bind (parse_ev s (by unfold Short; omega)) (Ev.congr (f := fun _ => some true) (fun k => ?_) (Ev.now _)))
    by_cases q : e = 0
    · rw [if_pos q] at ha
      rw [if_pos q, ha]
      simp
    · rw [if_neg q] at ha
      rw [if_neg q, ha]
      unfold bad
      simp
  | succ d ih =>
    intro j h1 h2 hj
    have hjl : j < D.length := by omega
    have hb := B_bt D j hjl
    have hw : wrap64 ((j : Int) + 1) = ((j + 1 : Nat) : Int) := by rw [wrap_in (by omega) (by omega)]; omega
    have p0 : (0 : Int) ≤ (j : Int) := by omega
    have p1 : (j : Int) < (D.length : Int) := by omega
    have go : ¬ Cap D[j] → Ev (fun k => stipendlaw08_CodeForms.l1 k (B D) (B s) e (D.length : Int) ((j + 1 : Nat) : Int) w0 w1 w2 w3 w4) true := by
      intro hc
      refine ih (j + 1) (by omega) (by omega) (fun c hm => ?_)
      rw [List.take_succ_eq_append_getElem hjl] at hm
      rcases List.mem_append.1 hm with hm | hm
      · exact hj c hm
      · rw [List.mem_singleton.1 hm]; exact hc
    by_cases q1 : (D[j].toNat : Int) ≥ 65
    · by_cases q2 : (D[j].toNat : Int) ≤ 90
      · exact Ev.step (f := fun _ => some true) (fun k => by simp only [stipendlaw08_CodeForms.l1, hb, hsz]; rw [if_pos p1, if_pos p0, if_pos p1, if_pos q1, if_pos q2]) (Ev.now _)
      · exact Ev.step (fun k => by simp only [stipendlaw08_CodeForms.l1, hb, hsz]; rw [if_pos p1, if_pos p0, if_pos p1, if_pos q1, if_neg q2, hw]) (go (fun q => by have := q.2; omega))
    · exact Ev.step (fun k => by simp only [stipendlaw08_CodeForms.l1, hb, hsz]; rw [if_pos p1, if_pos p0, if_pos p1, if_neg q1, hw]) (go (fun q => by have := q.1; omega))
theorem forms_j10 (D s : List UInt8) (hD : D.length ≤ 30) (hs : s.length ≤ 100) (e : Int) (w0 w1 w2 w3 : Int) (w4 : Bool) (h : (∀ c ∈ D, ¬ Cap c) → Awaits s e (w0, w1, w2, w3, w4)) : Ev (fun k => stipendlaw08_CodeForms.j10 k (B D) (B s) e w0 w1 w2 w3 w4) true := by
  have hsz : ((B D).size : Int) = (D.length : Int) := by rw [B_size]
  have h1 := forms_l1 D s hD hs e w0 w1 w2 w3 w4 h D.length 0 (by omega) (by omega) (fun c hc => by simp at hc)
  exact Ev.step (f := fun k => stipendlaw08_CodeForms.l1 k (B D) (B s) e (D.length : Int) ((0 : Nat) : Int) w0 w1 w2 w3 w4) (fun k => by simp only [stipendlaw08_CodeForms.j10, hsz]; rfl) h1
/-- Behind the numbers: good and a number are told; s is the text. -/
theorem forms_j8 (hS0 : 0 ≤ S) (hS1 : S ≤ 9) (hD : D.length ≤ 30) (s : List UInt8) (hs : s.length ≤ 100) (g : Bool) (e : Int) (w0 w1 w2 w3 : Int) (w4 : Bool)
    (h5 : (∀ c ∈ D, ¬ Cap c) → (g = false ∨ S > 7) → parse s = bad 5) (h0 : (∀ c ∈ D, ¬ Cap c) → g = true → S ≤ 7 → Awaits s e (w0, w1, w2, w3, w4)) :
    Ev (fun k => stipendlaw08_CodeForms.j8 k S (B D) (B s) g e w0 w1 w2 w3 w4) true := by
  have hb : ∀ b : Bool, (b = true ↔ (g = false ∨ S > 7)) → Ev (fun k => stipendlaw08_CodeForms.j9 k (B D) (B s) e b w0 w1 w2 w3 w4) true := by
    intro b hb
    cases b with
    | true => exact Ev.step (fun k => by simp only [stipendlaw08_CodeForms.j9]; rw [if_pos trivial]) (forms_j10 D s hD hs 5 w0 w1 w2 w3 w4 (fun hc => await_5 _ (h5 hc (hb.1 rfl))))
    | false =>
      have hno : ¬ (g = false ∨ S > 7) := fun q => by have := hb.2 q; cases this
      refine Ev.step (fun k => by simp only [stipendlaw08_CodeForms.j9]; rw [if_neg (by simp)]) (forms_j10 D s hD hs e w0 w1 w2 w3 w4 (fun hc => h0 hc ?_ ?_))
      · cases g with
        | true => rfl
        | false => exact absurd (.inl rfl) hno
      · exact Decidable.byContradiction fun q => hno (.inr (by omega))
  cases g with
  | true => exact Ev.step (fun k => by simp only [stipendlaw08_CodeForms.j8]; rw [if_pos trivial]) (hb (decide (S > 7)) ⟨fun q => .inr (of_decide_eq_true q), fun q => by rcases q with q | q; cases q; exact decide_eq_true q⟩)
  | false => exact Ev.step (fun k => by simp only [stipendlaw08_CodeForms.j8]; rw [if_neg (by simp)]) (hb true ⟨fun _ => .inl rfl, fun _ => rfl⟩)
end
theorem valF_take {D : List UInt8} {j : Nat} (hj : j < D.length) : valF 0 (D.take (j + 1)) = 10 * valF 0 (D.take j) + (D[j].toNat - 48) := by
  rw [List.take_succ_eq_append_getElem hj, valF_append, valF_one]
theorem allDig_take {D : List UInt8} {j : Nat} (hj : j < D.length) : allDig (D.take (j + 1)) = (allDig (D.take j) && decide (Dig D[j])) := by
  rw [List.take_succ_eq_append_getElem hj]
  unfold allDig
  rw [List.all_append, List.all_cons, List.all_nil, Bool.and_true]
def Pre (D : List UInt8) : Prop := D ≠ [] ∧ D.length ≤ 6 ∧ (D.length ≤ 1 ∨ D.head? ≠ some 48)
structure Inv (D : List UInt8) (j : Nat) (n : Int) (g : Bool) : Prop where
  yes : g = true → Pre D ∧ allDig (D.take j) = true ∧ n = ((valF 0 (D.take j) : Nat) : Int)
  no : g = false → ¬ (Pre D ∧ allDig (D.take j) = true)
section
variable {S K : Int} {D : List UInt8} (al : Bool)
theorem bad_of (hS0 : 0 ≤ S) (hS1 : S ≤ 9) (hK : K = 0 ∨ K = 1 ∨ K = 2) (hc : ∀ c ∈ D, ¬ Cap c) (h : ¬ numOK D ∨ S > 7) : parse (formOf S K D al) = bad 5 := by
  by_cases q : S > 7
  · exact form_none al (by omega) hS1 hc
  · have hn : ¬ numOK D := by rcases h with h | h; exact h; exact absurd h q
    rw [form_parse al hS0 (by omega) hc, body_core hc]
    rcases hK with rfl | rfl | rfl
    · rw [if_pos rfl, if_neg hn]; rfl
    · rw [if_neg (by decide), if_pos rfl, if_neg hn]; rfl
    · rw [if_neg (by decide), if_neg (by decide), if_pos rfl, if_neg hn]; rfl
theorem form_len (hD : D.length ≤ 30) : (formOf S K D al).length ≤ 100 := by
  have e1 : (frontOf S).length ≤ 1 := by unfold frontOf; split <;> simp
  have e2 : (bodyOf K D).length ≤ 31 := by
    unfold bodyOf
    split
    · simp; omega
    · split
      · simp; omega
      · split
        · simp; omega
        · simp
  have e3 : (tailX al).length ≤ 1 := by unfold tailX; split <;> simp
  unfold formOf
  rw [List.length_append, List.length_append]
  omega
theorem fit_free (h0 : 0 ≤ S) (h1 : S ≤ 7) {v : Nat} (hv : v ≤ 999999) : want S 1 ((v : Int) * 1000) 0 = 0 :=
  fit_want ⟨h0, h1, by decide, by decide, by omega, by omega, Int.mul_tmod_left _ _, fun q => absurd q (by decide), fun q => absurd q (by decide), fun _ => rfl, by decide, by decide⟩
theorem fit_extra (h0 : 0 ≤ S) (h1 : S ≤ 7) {v : Nat} (hv : v ≤ 999999) (hn : v ≠ 0) : want S 2 ((v : Int) * 1000) 0 = 0 :=
  fit_want ⟨h0, h1, by decide, by decide, by omega, by omega, Int.mul_tmod_left _ _, fun q => absurd q (by decide), fun _ => by omega, fun _ => rfl, by decide, by decide⟩
theorem fit_flat (h0 : 0 ≤ S) (h1 : S ≤ 7) {v : Nat} (hv : v ≤ 7) : want S 3 0 (v : Int) = 0 :=
  fit_want ⟨h0, h1, by decide, by decide, by decide, by decide, by decide, fun _ => rfl, fun q => absurd q (by decide), fun q => absurd rfl q, by omega, by omega⟩
/-- Behind the loop. -/
theorem forms_out (hS0 : 0 ≤ S) (hS1 : S ≤ 9) (hK0 : 0 ≤ K) (hK1 : K ≤ 3) (hD : D.length ≤ 30) (n : Int) (g : Bool) (h : Inv D D.length n g) :
    Ev (fun k => if K = 0 then (stipendlaw08_CodeForms.j8 k S (B D) (B (formOf S K D al)) g 0 S 1 (wrap64 (1000 * n)) 0 al) else (if K = 1 then (if g = true then (if n = 0 then (stipendlaw08_CodeForms.j8 k S (B D) (B (formOf S K D al)) g 80 S 2 (wrap64 (1000 * n)) 0 al) else (stipendlaw08_CodeForms.j8 k S (B D) (B (formOf S K D al)) g 0 S 2 (wrap64 (1000 * n)) 0 al)) else (stipendlaw08_CodeForms.j8 k S (B D) (B (formOf S K D al)) g 0 S 2 (wrap64 (1000 * n)) 0 al)) else (if K = 2 then (if g = true then (if n > 7 then (stipendlaw08_CodeForms.j8 k S (B D) (B (formOf S K D al)) g 80 S 3 0 n al) else (stipendlaw08_CodeForms.j8 k S (B D) (B (formOf S K D al)) g 0 S 3 0 n al)) else (stipendlaw08_CodeForms.j8 k S (B D) (B (formOf S K D al)) g 0 S 3 0 n al)) else (stipendlaw08_CodeForms.j8 k S (B D) (B (formOf S K D al)) true 0 S 4 0 0 al)))) true := by
  have hl := form_len (S := S) (K := K) al hD
  have hyes : g = true → numOK D ∧ n = ((valF 0 D : Nat) : Int) := by
    intro q
    obtain ⟨⟨h1, h2, h3⟩, h4, h5⟩ := h.yes q
    rw [List.take_length] at h4 h5
    exact ⟨⟨h1, h2, h3, h4⟩, h5⟩
  have hno : g = false → ¬ numOK D := by
    intro q r
    have := h.no q
    rw [List.take_length] at this
    exact this ⟨⟨r.1, r.2.1, r.2.2.1⟩, r.2.2.2⟩
  have hw : ∀ v : Nat, v ≤ 999999 → wrap64 (1000 * (v : Int)) = (v : Int) * 1000 := by intro v hv; rw [wrap_in (by omega) (by omega)]; omega
  by_cases q0 : K = 0
  · refine Ev.congr (fun k => if_pos q0) (forms_j8 hS0 hS1 hD _ hl g 0 S 1 _ 0 al (fun hc q => bad_of al hS0 hS1 (.inl q0) hc (q.imp hno id)) (fun hc hg hs => ?_))
    obtain ⟨hok, hn⟩ := hyes hg
    rw [hn, hw _ (num_le hok)]
    have hp := form_parse (K := K) (D := D) al hS0 hs hc
    rw [body_core hc, if_pos q0, if_pos hok] at hp
    exact await_fin al hp (fit_free hS0 hs (num_le hok))
  · refine Ev.congr (fun k => if_neg q0) ?_
    by_cases q1 : K = 1
    · refine Ev.congr (fun k => if_pos q1) ?_
      have hcore : (∀ c ∈ D, ¬ Cap c) → S ≤ 7 → numOK D → parse (formOf S K D al) = fin S 2 (((valF 0 D : Nat) : Int) * 1000) 0 al true := by
        intro hc hs hok
        have hp := form_parse (K := K) (D := D) al hS0 hs hc
        rw [body_core hc, if_neg q0, if_pos q1, if_pos hok] at hp
        exact hp
      cases g with
      | true =>
        obtain ⟨hok, hn⟩ := hyes rfl
        refine Ev.congr (fun k => if_pos rfl) ?_
        by_cases q : n = 0
        · refine Ev.congr (fun k => if_pos q) (forms_j8 hS0 hS1 hD _ hl true 80 S 2 _ 0 al (fun hc q => bad_of al hS0 hS1 (.inr (.inl q1)) hc (q.imp hno id)) (fun hc hg hs => ?_))
          refine await_80 al _ (hcore hc hs hok) ?_
          rw [show ((valF 0 D : Nat) : Int) = 0 from by omega, want_sch hS0 hs]
          decide
        · refine Ev.congr (fun k => if_neg q) (forms_j8 hS0 hS1 hD _ hl true 0 S 2 _ 0 al (fun hc q => bad_of al hS0 hS1 (.inr (.inl q1)) hc (q.imp hno id)) (fun hc hg hs => ?_))
          rw [hn, hw _ (num_le hok)]
          exact await_fin al (hcore hc hs hok) (fit_extra hS0 hs (num_le hok) (by omega))
      | false =>
        exact Ev.congr (fun k => if_neg (by simp)) (forms_j8 hS0 hS1 hD _ hl false 0 S 2 _ 0 al (fun hc q => bad_of al hS0 hS1 (.inr (.inl q1)) hc (q.imp hno id)) (fun hc hg hs => by cases hg))
    · refine Ev.congr (fun k => if_neg q1) ?_
      by_cases q2 : K = 2
      · refine Ev.congr (fun k => if_pos q2) ?_
        have hcore : (∀ c ∈ D, ¬ Cap c) → S ≤ 7 → numOK D → parse (formOf S K D al) = fin S 3 0 ((valF 0 D : Nat) : Int) al true := by
          intro hc hs hok
          have hp := form_parse (K := K) (D := D) al hS0 hs hc
          rw [body_core hc, if_neg q0, if_neg q1, if_pos q2, if_pos hok] at hp
          exact hp
        cases g with
        | true =>
          obtain ⟨hok, hn⟩ := hyes rfl
          refine Ev.congr (fun k => if_pos rfl) ?_
          by_cases q : n > 7
          · refine Ev.congr (fun k => if_pos q) (forms_j8 hS0 hS1 hD _ hl true 80 S 3 0 _ al (fun hc q => bad_of al hS0 hS1 (.inr (.inr q2)) hc (q.imp hno id)) (fun hc hg hs => ?_))
            refine await_80 al _ (hcore hc hs hok) ?_
            unfold want
            rw [if_neg (by omega), if_pos]
            exact .inr (.inr (.inr (.inr (.inr (.inr (.inr (.inr (.inr (by omega)))))))))
          · refine Ev.congr (fun k => if_neg q) (forms_j8 hS0 hS1 hD _ hl true 0 S 3 0 _ al (fun hc q => bad_of al hS0 hS1 (.inr (.inr q2)) hc (q.imp hno id)) (fun hc hg hs => ?_))
            rw [hn]
            exact await_fin al (hcore hc hs hok) (fit_flat hS0 hs (by omega))
        | false =>
          exact Ev.congr (fun k => if_neg (by simp)) (forms_j8 hS0 hS1 hD _ hl false 0 S 3 0 _ al (fun hc q => bad_of al hS0 hS1 (.inr (.inr q2)) hc (q.imp hno id)) (fun hc hg hs => by cases hg))
      · refine Ev.congr (fun k => if_neg q2) (forms_j8 hS0 hS1 hD _ hl true 0 S 4 0 0 al (fun hc q => ?_) (fun hc hg hs => ?_))
        · rcases q with q | q
          · cases q
          · exact form_none al (by omega) hS1 hc
        · have hp := form_parse (K := K) (D := D) al hS0 hs hc
          rw [body_core hc, if_neg q0, if_neg q1, if_neg q2] at hp
          refine await_fin al hp ?_
          rw [want_sch hS0 hs]
          decide
theorem forms_loop (hS0 : 0 ≤ S) (hS1 : S ≤ 9) (hK0 : 0 ≤ K) (hK1 : K ≤ 3) (hD : D.length ≤ 30) : ∀ d j : Nat, D.length - j = d → j ≤ D.length → ∀ (n : Int) (g : Bool), Inv D j n g →
    Ev (fun k => stipendlaw08_CodeForms.l0 k S K (B D) al (B (formOf S K D al)) n g (D.length : Int) (j : Int)) true := by
  have hsz : ((B D).size : Int) = (D.length : Int) := by rw [B_size]
  intro d
  induction d with
  | zero =>
    intro j h1 h2 n g hI
    have hj : j = D.length := by omega
    subst hj
    exact Ev.step (fun k => by simp only [stipendlaw08_CodeForms.l0]; rw [if_neg (by omega)]) (forms_out al hS0 hS1 hK0 hK1 hD n g hI)
  | succ d ih =>
    intro j h1 h2 n g hI
    have hj : j < D.length := by omega
    have hb := B_bt D j hj
    have hw : wrap64 ((j : Int) + 1) = ((j + 1 : Nat) : Int) := by rw [wrap_in (by omega) (by omega)]; omega
    have p0 : (0 : Int) ≤ (j : Int) := by omega
    have p1 : (j : Int) < (D.length : Int) := by omega
    have p2 : D.length - (j + 1) = d := by omega
    have p3 : j + 1 ≤ D.length := by omega
    have hA := allDig_take hj
    have hV := valF_take hj
    have hbad : ¬ Dig D[j] → Ev (fun k => stipendlaw08_CodeForms.j7 k S K (B D) al (B (formOf S K D al)) n g (j : Int) (D.length : Int) (j : Int) true) true := by
      intro hd
      refine Ev.step (fun k => by simp only [stipendlaw08_CodeForms.j7]; rw [if_pos trivial, hw]) (ih (j + 1) p2 p3 n false ⟨(fun q => by cases q), (fun _ q => ?_)⟩)
      rw [hA, decide_eq_false hd, Bool.and_false] at q
      exact absurd q.2 (by decide)
    by_cases q1 : (D[j].toNat : Int) < 48
    · exact Ev.step (fun k => by simp only [stipendlaw08_CodeForms.l0, hb, hsz]; rw [if_pos p1, if_pos p0, if_pos p1, if_pos q1]) (hbad (fun q => by have := q.1; omega))
    · by_cases q2 : (D[j].toNat : Int) > 57
      · exact Ev.step (fun k => by simp only [stipendlaw08_CodeForms.l0, hb, hsz]; rw [if_pos p1, if_pos p0, if_pos p1, if_neg q1, decide_eq_true q2]) (hbad (fun q => by have := q.2; omega))
      · have hd : Dig D[j] := ⟨by omega, by omega⟩
        refine Ev.step (fun k => by simp only [stipendlaw08_CodeForms.l0, hb, hsz]; rw [if_pos p1, if_pos p0, if_pos p1, if_neg q1, decide_eq_false q2]) ?_
        by_cases q3 : (j : Int) < 6
        · refine Ev.step (fun k => by simp only [stipendlaw08_CodeForms.j7, hb, hsz]; rw [if_neg (by simp), if_pos q3, if_pos p0, if_pos p1, hw]) (ih (j + 1) p2 p3 _ g ⟨fun q => ?_, fun q r => ?_⟩)
          · obtain ⟨r1, r2, r3⟩ := hI.yes q
            have hlt := val_lt (D.take j) 0 0 (by decide) r2
            have hlt2 : valF 0 (D.take j) < 1000000 := by
              refine Nat.lt_of_lt_of_le hlt (Nat.le_trans (Nat.pow_le_pow_right (by decide) (show 0 + (D.take j).length ≤ 6 by rw [List.length_take]; omega)) (by decide))
            clear hlt
            have hm : ((D[j].toNat : Int) - 48) % 256 = ((D[j].toNat - 48 : Nat) : Int) := by unfold Dig at hd; omega
            refine ⟨r1, by rw [hA, r2, decide_eq_true hd]; rfl, ?_⟩
            rw [hV, r3, hm, wrap_in (x := 10 * ((valF 0 (D.take j) : Nat) : Int)) (by omega) (by omega)]
            have hdl : D[j].toNat - 48 ≤ 9 := by unfold Dig at hd; omega
            rw [wrap_in (by omega) (by omega)]
            omega
          · rw [hA, decide_eq_true hd, Bool.and_true] at r
            exact hI.no q r
        · refine Ev.step (fun k => by simp only [stipendlaw08_CodeForms.j7]; rw [if_neg (by simp), if_neg q3, hw]) (ih (j + 1) p2 p3 n g ⟨fun q => ?_, fun q r => ?_⟩)
          · have := (hI.yes q).1.2.1
            omega
          · rw [hA, decide_eq_true hd, Bool.and_true] at r
            exact hI.no q r
theorem forms_j5 (hS0 : 0 ≤ S) (hS1 : S ≤ 9) (hK0 : 0 ≤ K) (hK1 : K ≤ 3) (hD : D.length ≤ 30) (g : Bool) (hg : g = true ↔ Pre D) : Ev (fun k => stipendlaw08_CodeForms.j5 k S K (B D) al (B (formOf S K D al)) 0 g) true := by
  have hsz : ((B D).size : Int) = (D.length : Int) := by rw [B_size]
  have h := forms_loop al hS0 hS1 hK0 hK1 hD D.length 0 (by omega) (by omega) 0 g ⟨(fun q => ⟨hg.1 q, rfl, rfl⟩), (fun q r => by have := hg.2 r.1; rw [q] at this; cases this)⟩
  exact Ev.step (f := fun k => stipendlaw08_CodeForms.l0 k S K (B D) al (B (formOf S K D al)) 0 g (D.length : Int) ((0 : Nat) : Int)) (fun k => by simp only [stipendlaw08_CodeForms.j5, hsz]; rfl) h
theorem forms_j4 (hS0 : 0 ≤ S) (hS1 : S ≤ 9) (hK0 : 0 ≤ K) (hK1 : K ≤ 3) (hD : D.length ≤ 30) : Ev (fun k => stipendlaw08_CodeForms.j4 k S K (B D) al (B (formOf S K D al))) true := by
  have hsz : ((B D).size : Int) = (D.length : Int) := by rw [B_size]
  have h5 := fun g hg => forms_j5 al hS0 hS1 hK0 hK1 hD g hg
  by_cases q0 : D = []
  · exact Ev.step (fun k => by simp only [stipendlaw08_CodeForms.j4, B_list]; rw [if_pos q0]) (h5 false ⟨fun q => by (cases q), fun q => absurd q0 q.1⟩)
  · by_cases q1 : (D.length : Int) ≤ 6
    · by_cases q2 : (D.length : Int) = 1
      · exact Ev.step (fun k => by simp only [stipendlaw08_CodeForms.j4, B_list, hsz]; rw [if_neg q0, if_pos q1, if_pos q2]) (h5 true ⟨fun _ => ⟨q0, by omega, .inl (by omega)⟩, fun _ => rfl⟩)
      · obtain ⟨c, t, hct⟩ : ∃ c t, D = c :: t := by cases hq : D with | nil => exact absurd hq q0 | cons c t => exact ⟨c, t, rfl⟩
        have hb0 : bt (B D) 0 = (c.toNat : Int) := by rw [hct]; exact B_bt0 c t
        have hlen : 0 < (D.length : Int) := by rw [hct]; simp <;> omega
        refine Ev.step (fun k => by simp only [stipendlaw08_CodeForms.j4, B_list, hsz, hb0]; rw [if_neg q0, if_pos q1, if_neg q2, if_pos hlen]) (h5 _ ⟨fun q => ⟨q0, by omega, .inr ?_⟩, fun q => ?_⟩)
        · rw [hct]
          intro r
          have hr : c = 48 := by simpa using r
          rw [hr] at q
          exact absurd q (by decide)
        · rcases q.2.2 with r | r
          · omega
          · rw [hct] at r
            have hne : c ≠ 48 := by simpa using r
            have hne2 : ¬ (c.toNat : Int) = 48 := fun z => hne (UInt8.toNat_inj.1 (Int.ofNat.inj z))
            simpa using hne2
    · exact Ev.step (fun k => by simp only [stipendlaw08_CodeForms.j4, B_list, hsz]; rw [if_neg q0, if_neg q1]) (h5 false ⟨fun q => by (cases q), fun q => by have := q.2.1; omega⟩)
theorem forms_j2 (hS0 : 0 ≤ S) (hS1 : S ≤ 9) (hK0 : 0 ≤ K) (hK1 : K ≤ 3) (hD : D.length ≤ 30) : Ev (fun k => stipendlaw08_CodeForms.j2 k S K (B D) al (B (bodyOf K D))) true := by
  have hl := form_len (S := S) (K := K) al hD
  have h4 := forms_j4 al hS0 hS1 hK0 hK1 hD
  have e88 : (⟨#[88]⟩ : ByteArray) = B [88] := rfl
  have h3 : Ev (fun k => stipendlaw08_CodeForms.j3 k S K (B D) al (B (frontOf S ++ bodyOf K D))) true := by
    unfold formOf at h4 hl
    rw [List.length_append] at hl
    cases al with
    | true => exact Ev.step (fun k => by simp only [stipendlaw08_CodeForms.j3, e88, B_app]; rw [if_pos trivial, if_pos (by rw [B_size]; omega)]; rfl) h4
    | false =>
      have : frontOf S ++ bodyOf K D ++ tailX false = frontOf S ++ bodyOf K D := by simp [tailX]
      rw [this] at h4
      exact Ev.step (fun k => by simp only [stipendlaw08_CodeForms.j3]; rw [if_neg (by simp)]) h4
  by_cases q : S > 0
  · have hb : strOfNums [(wrap64 (79 + S)) % 256] = B [UInt8.ofNat (79 + S).toNat] := by
      rw [wrap_in (by omega) (by omega), show (79 + S) % 256 = 79 + S from by omega]
      rfl
    have hf : frontOf S = [UInt8.ofNat (79 + S).toNat] := by unfold frontOf; rw [if_pos q]
    rw [hf] at h3
    refine Ev.step (fun k => ?_) h3
    simp only [stipendlaw08_CodeForms.j2, Option.bind_some]
    rw [if_pos q, hb, B_app, if_pos]
    rw [B_size, B_size]
    unfold formOf at hl
    rw [List.length_append, List.length_append] at hl
    simp
    omega
  · have hf : frontOf S = [] := by unfold frontOf; rw [if_neg q]
    rw [hf] at h3
    exact Ev.step (fun k => by simp only [stipendlaw08_CodeForms.j2]; rw [if_neg q]; rfl) h3
theorem forms_j1 (hS0 : 0 ≤ S) (hS1 : S ≤ 9) (hK0 : 0 ≤ K) (hK1 : K ≤ 3) (hD : D.length ≤ 30) : Ev (fun k => stipendlaw08_CodeForms.j1 k S K (B D) al false) true := by
  have h2 := forms_j2 al hS0 hS1 hK0 hK1 hD
  have e76 : (⟨#[76]⟩ : ByteArray) = B [76] := rfl
  have e75 : (⟨#[75]⟩ : ByteArray) = B [75] := rfl
  have e68 : (⟨#[68]⟩ : ByteArray) = B [68] := rfl
  have e78 : (⟨#[78, 84]⟩ : ByteArray) = B [78, 84] := rfl
  refine Ev.step (fun k => ?_) h2
  simp only [stipendlaw08_CodeForms.j1, e76, e75, e68, e78, B_app, B_size]
  unfold bodyOf
  rw [if_neg (by simp), if_pos (by omega), if_pos (by omega)]
  by_cases q0 : K = 0
  · rw [if_pos q0, if_pos q0]
  · rw [if_neg q0, if_neg q0]
    by_cases q1 : K = 1
    · rw [if_pos q1, if_pos q1]; rfl
    · rw [if_neg q1, if_neg q1]
      by_cases q2 : K = 2
      · rw [if_pos q2, if_pos q2]; rfl
      · rw [if_neg q2, if_neg q2, if_pos (by omega), if_pos (by omega)]
end
theorem codeForms_pure (S K : Int) (s : ByteArray) (hS : -9223372036854775808 ≤ S ∧ S ≤ 9223372036854775807) (hK : -9223372036854775808 ≤ K ∧ K ≤ 9223372036854775807) (hs : s.size ≤ Go.maxLen) : ∃ k, stipendlaw08_CodeForms.f k S K s = some true := by
  refine Ev.rounds ?_
  rw [B_of s]
  generalize s.data.toList = D
  have h0 : ∀ al : Bool, Ev (fun k => stipendlaw08_CodeForms.j0 k S K (B D) al) true := by
    intro al
    have ht : Ev (fun k => stipendlaw08_CodeForms.j1 k S K (B D) al true) true := Ev.step (f := fun _ => some true) (fun k => by simp only [stipendlaw08_CodeForms.j1]; rw [if_pos trivial]) (Ev.now _)
    by_cases q0 : ((B D).size : Int) > 30
    · exact Ev.step (fun k => by simp only [stipendlaw08_CodeForms.j0]; rw [if_pos q0]) ht
    by_cases q1 : S < 0
    · exact Ev.step (fun k => by simp only [stipendlaw08_CodeForms.j0]; rw [if_neg q0, if_pos q1]) ht
    by_cases q2 : S > 9
    · exact Ev.step (fun k => by simp only [stipendlaw08_CodeForms.j0]; rw [if_neg q0, if_neg q1, if_pos q2]) ht
    by_cases q3 : K < 0
    · exact Ev.step (fun k => by simp only [stipendlaw08_CodeForms.j0]; rw [if_neg q0, if_neg q1, if_neg q2, if_pos q3]) ht
    by_cases q4 : K > 3
    · exact Ev.step (fun k => by simp only [stipendlaw08_CodeForms.j0]; rw [if_neg q0, if_neg q1, if_neg q2, if_neg q3, decide_eq_true q4]) ht
    · rw [B_size] at q0
      have hj := forms_j1 (S := S) (K := K) (D := D) al (by omega) (by omega) (by omega) (by omega) (by omega)
      rw [← B_size] at q0
      exact Ev.step (fun k => by simp only [stipendlaw08_CodeForms.j0]; rw [if_neg q0, if_neg q1, if_neg q2, if_neg q3, decide_eq_false q4]) hj
  by_cases q : ((B D).size : Int) % 2 = 1
  · exact Ev.congr (fun k => by show (if ((B D).size : Int) % 2 = 1 then _ else _) = _; rw [if_pos q]) (h0 true)
  · exact Ev.congr (fun k => by show (if ((B D).size : Int) % 2 = 1 then _ else _) = _; rw [if_neg q]) (h0 false)
end Go.Proofs.YtodijkdmcjnpkaaDoor.P
