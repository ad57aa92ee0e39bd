import Derived.Test.YtodijkdmcjnpkaaDoorPA
import Derived.Test.YtodijkdmcjnpkaaDoorKx3
import Derived.Test.YtodijkdmcjnpkaaDoorKx4
import Derived.Test.YtodijkdmcjnpkaaDoorKx5
import Derived.Laws.Strings
/- Plain laws, without memory: codes as texts. -/
namespace Go.Proofs.YtodijkdmcjnpkaaDoor.P
open Go.RowKit Go.Proofs.YtodijkdmcjnpkaaDoorW.PrintWords Go.Proofs.YtodijkdmcjnpkaaDoorW.PrintLast Go.Proofs.YtodijkdmcjnpkaaDoorW.PrintMore Go.Proofs.YtodijkdmcjnpkaaDoor.K Go.Proofs.YtodijkdmcjnpkaaDoor.KTab
set_option linter.unusedVariables false
set_option linter.unusedSimpArgs false

/-! ### texts as lists of bytes -/
def B (l : List UInt8) : ByteArray := ⟨l.toArray⟩
theorem B_size (l : List UInt8) : (B l).size = l.length := by simp [B, ByteArray.size]
theorem B_list (l : List UInt8) : (B l).toList = l := by
  unfold B
  rw [ByteArray.toList_eq]
theorem B_of (s : ByteArray) : s = B s.data.toList := by simp [B]
theorem B_app (a b : List UInt8) : B a ++ B b = B (a ++ b) := by
  apply ByteArray.ext
  rw [ByteArray.data_append]
  simp [B]
theorem B_ext (l : List UInt8) (i j : Nat) : (B l).extract i j = B ((l.take j).drop i) := by
  apply ByteArray.ext
  rw [ByteArray.data_extract]
  simp [B, List.extract_eq_take_drop, List.take_drop]
  rcases Nat.le_total i j with h | h
  · rw [Nat.add_sub_cancel' h]
  · rw [Nat.sub_eq_zero_of_le h, Nat.add_zero]
    rw [List.drop_of_length_le (by simp <;> omega), List.drop_of_length_le (by simp <;> omega)]
theorem nil_or_snoc (l : List UInt8) : l = [] ∨ ∃ a x, l = a ++ [x] := by
  rcases List.eq_nil_or_concat l with h | ⟨a, x, h⟩
  · exact .inl h
  · exact .inr ⟨a, x, by rw [h, List.concat_eq_append]⟩
theorem B_bt (l : List UInt8) (j : Nat) (h : j < l.length) : bt (B l) (j : Int) = (l[j].toNat : Int) := by
  unfold bt
  rw [dif_pos (by rw [B_size]; simpa using h)]
  rfl
theorem B_bt0 (c : UInt8) (l : List UInt8) : bt (B (c :: l)) 0 = (c.toNat : Int) := B_bt (c :: l) 0 (by simp)
/-- A length that any machine has room for. -/
abbrev Short (l : List UInt8) : Prop := l.length ≤ 4611686018427387904
theorem suffix_f (l : List UInt8) (c : UInt8) (h : Short l) : strings_HasSuffix.f (B l) (B [c]) = some (l.getLast? == some c) := by
  unfold strings_HasSuffix.f stringslite_HasSuffix.f
  rw [B_size, B_size]
  rcases nil_or_snoc l with rfl | ⟨a, x, rfl⟩
  · rw [if_neg (by simp)]
    rfl
  · have hw : wrap64 (((a ++ [x]).length : Int) - ([c].length : Int)) = (a.length : Int) := by rw [wrap_in (by simp <;> omega) (by unfold Short at h; simp at h ⊢; omega)]; simp
    rw [hw, if_pos (by simp <;> omega), if_pos (by omega), if_pos (by simp <;> omega), B_ext, B_list, B_list, List.take_of_length_le (by simp), show ((a.length : Int)).toNat = a.length from by omega, List.drop_left]
    simp
theorem cut_f (l : List UInt8) (c : UInt8) (h : Short l) : strings_CutSuffix.f (B l) (B [c]) = some (if l.getLast? = some c then (B l.dropLast, true) else (B l, false)) := by
  unfold strings_CutSuffix.f stringslite_CutSuffix.f
  have hs := suffix_f l c h
  unfold strings_HasSuffix.f at hs
  rcases nil_or_snoc l with rfl | ⟨a, x, rfl⟩
  · cases hq : stringslite_HasSuffix.f (B []) (B [c]) with
    | none => rw [hq] at hs; exact absurd hs (by simp)
    | some b =>
      rw [hq] at hs
      simp at hs
      subst hs
      simp
  · have hw : wrap64 (((B (a ++ [x])).size : Int) - ((B [c]).size : Int)) = (a.length : Int) := by rw [B_size, B_size, wrap_in (by simp <;> omega) (by unfold Short at h; simp at h ⊢; omega)]; simp
    cases hq : stringslite_HasSuffix.f (B (a ++ [x])) (B [c]) with
    | none => rw [hq] at hs; exact absurd hs (by simp)
    | some b =>
      rw [hq] at hs
      simp at hs
      subst hs
      rw [Option.bind_some, hw, if_pos (show (0 : Int) ≤ (a.length : Int) by omega), if_pos (show (a.length : Int) ≤ ((B (a ++ [x])).size : Int) by rw [B_size]; simp; omega), B_ext]
      by_cases q : x = c <;> simp [q]
theorem prefix_f (l : List UInt8) (c : UInt8) (h : Short l) : strings_HasPrefix.f (B l) (B [c]) = some (l.head? == some c) := by
  unfold strings_HasPrefix.f stringslite_HasPrefix.f
  rw [B_size, B_size]
  cases l with
  | nil => rw [if_neg (by simp)]; rfl
  | cons x t =>
    rw [if_pos (by simp <;> omega), if_pos (by simp), if_pos (by simp <;> omega), B_ext, B_list, B_list]
    simp

/-! ### numbers -/
def valF : Nat → List UInt8 → Nat
  | n, [] => n
  | n, c :: l => valF (10 * n + (c.toNat - 48)) l
theorem valF_nil (n : Nat) : valF n [] = n := rfl
theorem valF_one (n : Nat) (c : UInt8) : valF n [c] = 10 * n + (c.toNat - 48) := rfl
theorem valF_append (a : List UInt8) : ∀ n (b : List UInt8), valF n (a ++ b) = valF (valF n a) b := by
  induction a with
  | nil => intro n b; rfl
  | cons c a ih => intro n b; exact ih _ b
def Dig (c : UInt8) : Prop := 48 ≤ c.toNat ∧ c.toNat ≤ 57
instance (c : UInt8) : Decidable (Dig c) := by unfold Dig; infer_instance
def allDig (l : List UInt8) : Bool := l.all fun c => decide (Dig c)
def numOK (l : List UInt8) : Prop := l ≠ [] ∧ l.length ≤ 6 ∧ (l.length ≤ 1 ∨ l.head? ≠ some 48) ∧ allDig l = true
instance (l : List UInt8) : Decidable (numOK l) := by unfold numOK; infer_instance
def numOf (l : List UInt8) : Int × Bool := if numOK l then ((valF 0 l : Nat), true) else (0, false)
theorem step_lt {n j d : Nat} (h : n < 10 ^ j) (hd : d ≤ 9) : 10 * n + d < 10 ^ (j + 1) := by
  rw [Nat.pow_succ, Nat.mul_comm (10 ^ j)]
  generalize 10 ^ j = P at h ⊢
  omega
theorem lt6 {n j : Nat} (h : n < 10 ^ j) (hj : j < 6) : n < 100000 := Nat.lt_of_lt_of_le h (Nat.le_trans (Nat.pow_le_pow_right (by decide) (show j ≤ 5 by omega)) (by decide))
theorem number_loop (l : List UInt8) (hl : l.length ≤ 6) : ∀ d j : Nat, l.length - j = d → j ≤ l.length → ∀ n : Nat, n < 10 ^ j → Ev (fun k => code_number.l0 k (B l) (n : Int) (l.length : Int) (j : Int)) (if allDig (l.drop j) = true then ((valF n (l.drop j) : Nat), true) else ((0 : Int), false)) := by
  intro d
  induction d with
  | zero =>
    intro j h1 h2 n hn
    rw [List.drop_of_length_le (by omega)]
    exact Ev.step (f := fun _ => some ((n : Int), true)) (fun k => by simp only [code_number.l0]; rw [if_neg (by omega)]) (Ev.now _)
  | succ d ih =>
    intro j h1 h2 n hn
    have hj : j < l.length := by omega
    have hb := B_bt l j hj
    rw [List.drop_eq_getElem_cons hj]
    have hs : ((B l).size : Int) = (l.length : Int) := by rw [B_size]
    have p0 : (0 : Int) ≤ (j : Int) := by omega
    have p1 : (j : Int) < (l.length : Int) := by omega
    have p2 : l.length - (j + 1) = d := by omega
    have p3 : j + 1 ≤ l.length := by omega
    by_cases q1 : (l[j].toNat : Int) < 48
    · have : allDig (l[j] :: l.drop (j + 1)) = false := by unfold allDig; rw [List.all_cons, decide_eq_false (fun q => by have := q.1; omega), Bool.false_and]
      rw [this]
      exact Ev.step (f := fun _ => some (0, false)) (fun k => by simp only [code_number.l0, hb, hs]; rw [if_pos (by omega), if_pos (by omega), if_pos (by omega), if_pos q1]) (Ev.now _)
    · by_cases q2 : (l[j].toNat : Int) > 57
      · have : allDig (l[j] :: l.drop (j + 1)) = false := by unfold allDig; rw [List.all_cons, decide_eq_false (fun q => by have := q.2; omega), Bool.false_and]
        rw [this]
        exact Ev.step (f := fun _ => some (0, false)) (fun k => by simp only [code_number.l0, hb, hs]; rw [if_pos (by omega), if_pos (by omega), if_pos (by omega), if_neg q1, if_pos q2]) (Ev.now _)
      · have hd : Dig l[j] := ⟨by omega, by omega⟩
        have ha : allDig (l[j] :: l.drop (j + 1)) = allDig (l.drop (j + 1)) := by unfold allDig; rw [List.all_cons, decide_eq_true hd, Bool.true_and]
        have hv : valF n (l[j] :: l.drop (j + 1)) = valF (10 * n + (l[j].toNat - 48)) (l.drop (j + 1)) := rfl
        rw [ha, hv]
        have hn2 : 10 * n + (l[j].toNat - 48) < 10 ^ (j + 1) := step_lt hn (by unfold Dig at hd; omega)
        have hn3 := lt6 hn (by omega)
        clear hn
        have hm : ((l[j].toNat : Int) - 48) % 256 = ((l[j].toNat - 48 : Nat) : Int) := by unfold Dig at hd; omega
        have hw : wrap64 (wrap64 (10 * (n : Int)) + ((l[j].toNat : Int) - 48) % 256) = ((10 * n + (l[j].toNat - 48) : Nat) : Int) := by
          rw [hm, wrap_in (x := 10 * (n : Int)) (by omega) (by omega), wrap_in (by omega) (by omega)]
          omega
        have hw2 : wrap64 ((j : Int) + 1) = ((j + 1 : Nat) : Int) := by rw [wrap_in (by omega) (by omega)]; omega
        exact Ev.step (f := fun k => code_number.l0 k (B l) ((10 * n + (l[j].toNat - 48) : Nat) : Int) (l.length : Int) ((j + 1 : Nat) : Int)) (fun k => by simp only [code_number.l0, hb, hs]; rw [if_pos p1, if_pos p0, if_pos p1, if_neg q1, if_neg q2, hw, hw2]) (ih (j + 1) p2 p3 _ hn2)
theorem number_ev (l : List UInt8) : Ev (fun k => code_number.f k (B l)) (numOf l) := by
  have ht : Ev (fun k => code_number.j0 k (B l) true) (0, false) := Ev.step (f := fun _ => some (0, false)) (fun k => by simp only [code_number.j0]; rw [if_pos trivial]) (Ev.now _)
  have hs : ((B l).size : Int) = (l.length : Int) := by rw [B_size]
  by_cases q0 : l = []
  · have : numOf l = (0, false) := by unfold numOf; rw [if_neg (fun q => q.1 q0)]
    rw [this]
    exact Ev.congr (fun k => by simp only [code_number.f, B_list]; rw [if_pos q0]) ht
  · by_cases q1 : (l.length : Int) > 6
    · have : numOf l = (0, false) := by unfold numOf; rw [if_neg (fun q => by have := q.2.1; omega)]
      rw [this]
      exact Ev.congr (fun k => by simp only [code_number.f, B_list, hs]; rw [if_neg q0, if_pos q1]) ht
    · have hf : Ev (fun k => code_number.j0 k (B l) false) (if allDig l = true then (((valF 0 l : Nat) : Int), true) else ((0 : Int), false)) := by
        have h := number_loop l (by omega) l.length 0 (by omega) (by omega) 0 (by decide)
        rw [List.drop_zero] at h
        exact Ev.step (f := fun k => code_number.l0 k (B l) ((0 : Nat) : Int) (l.length : Int) ((0 : Nat) : Int)) (fun k => by simp only [code_number.j0, hs]; rw [if_neg (by simp)]; rfl) h
      obtain ⟨c, t, rfl⟩ : ∃ c t, l = c :: t := by cases l with | nil => exact absurd rfl q0 | cons c t => exact ⟨c, t, rfl⟩
      by_cases q2 : ((c :: t).length : Int) > 1
      · by_cases q3 : c = 48
        · have : numOf (c :: t) = (0, false) := by
            unfold numOf
            rw [if_neg]
            rintro ⟨_, _, q | q, _⟩
            · omega
            · exact q (by simp [q3])
          rw [this]
          refine Ev.congr (fun k => ?_) ht
          simp only [code_number.f, B_list, hs, B_bt0]
          rw [if_neg q0, if_neg q1, if_pos q2, if_pos (by omega)]
          congr 1
          subst q3
          rfl
        · have : numOf (c :: t) = if allDig (c :: t) = true then (((valF 0 (c :: t) : Nat) : Int), true) else ((0 : Int), false) := by
            unfold numOf
            by_cases q : allDig (c :: t) = true
            · rw [if_pos q, if_pos ⟨q0, by omega, .inr (by simp [q3]), q⟩]
            · rw [if_neg q, if_neg (fun r => q r.2.2.2)]
          rw [this]
          refine Ev.congr (fun k => ?_) hf
          simp only [code_number.f, B_list, hs, B_bt0]
          rw [if_neg q0, if_neg q1, if_pos q2, if_pos (by omega)]
          congr 1
          have hne : c.toNat ≠ 48 := fun q => q3 (UInt8.toNat_inj.1 q)
          simp
          omega
      · have : numOf (c :: t) = if allDig (c :: t) = true then (((valF 0 (c :: t) : Nat) : Int), true) else ((0 : Int), false) := by
          unfold numOf
          by_cases q : allDig (c :: t) = true
          · rw [if_pos q, if_pos ⟨q0, by omega, .inl (by omega), q⟩]
          · rw [if_neg q, if_neg (fun r => q r.2.2.2)]
        rw [this]
        exact Ev.congr (fun k => by simp only [code_number.f, B_list, hs]; rw [if_neg q0, if_neg q1, if_neg q2]) hf

/-! ### numerals -/
open Go.Lib (decDigits)
theorem dec_small {u : Nat} (h : u < 10) : decDigits u = [UInt8.ofNat (48 + u)] := by rw [decDigits, dif_pos h]
theorem dec_big {u : Nat} (h : ¬ u < 10) : decDigits u = decDigits (u / 10) ++ [UInt8.ofNat (48 + u % 10)] := by rw [decDigits, dif_neg h]
theorem toNat_dig {u : Nat} (h : u < 10) : (UInt8.ofNat (48 + u)).toNat = 48 + u := by rw [UInt8.toNat_ofNat']; omega
theorem dec_val (u : Nat) : valF 0 (decDigits u) = u := by
  induction u using Nat.strongRecOn with
  | _ u ih =>
    by_cases h : u < 10
    · rw [dec_small h, valF_one, toNat_dig h]
      omega
    · rw [dec_big h, valF_append, ih (u / 10) (by omega)]
      rw [valF_one, toNat_dig (show u % 10 < 10 by omega)]
      omega
theorem dec_dig (u : Nat) : allDig (decDigits u) = true := by
  induction u using Nat.strongRecOn with
  | _ u ih =>
    by_cases h : u < 10
    · rw [dec_small h]
      simp [allDig, Dig, toNat_dig h]
      omega
    · have h2 := ih (u / 10) (by omega)
      have h3 := toNat_dig (show u % 10 < 10 by omega)
      rw [dec_big h]
      unfold allDig at h2 ⊢
      rw [List.all_append, h2]
      simp [Dig, h3]
      omega
theorem dec_head {u : Nat} (h : 1 ≤ u) : (decDigits u).head? ≠ some 48 := by
  induction u using Nat.strongRecOn with
  | _ u ih =>
    by_cases h10 : u < 10
    · rw [dec_small h10]
      intro q
      have q1 : UInt8.ofNat (48 + u) = 48 := by simpa using q
      have q2 := congrArg UInt8.toNat q1
      rw [toNat_dig h10] at q2
      have : (48 : UInt8).toNat = 48 := rfl
      omega
    · have h2 := ih (u / 10) (by omega) (by omega)
      rw [dec_big h10]
      cases hd : decDigits (u / 10) with
      | nil => have := dec_val (u / 10); rw [hd, valF_nil] at this; omega
      | cons c t => rw [hd] at h2; simpa using h2
theorem dec_ne (u : Nat) : decDigits u ≠ [] := by
  by_cases h : u < 10
  · rw [dec_small h]; simp
  · rw [dec_big h]; simp
theorem dec_len : ∀ (f u : Nat), u < 10 ^ (f + 1) → (decDigits u).length ≤ f + 1 := by
  intro f
  induction f with
  | zero => intro u h; rw [dec_small (by simpa using h)]; simp
  | succ f ih =>
    intro u h
    by_cases h10 : u < 10
    · rw [dec_small h10]; simp
    · rw [dec_big h10, List.length_append]
      have := ih (u / 10) (by rw [Nat.pow_succ] at h; omega)
      simp
      exact this
theorem dec_ok {u : Nat} (h : u ≤ 999999) : numOK (decDigits u) := by
  refine ⟨dec_ne u, dec_len 5 u (by omega), ?_, dec_dig u⟩
  by_cases h10 : u < 10
  · exact .inl (by rw [dec_small h10]; simp)
  · exact .inr (dec_head (by omega))
theorem numOf_dec {u : Nat} (h : u ≤ 999999) : numOf (decDigits u) = ((u : Int), true) := by
  unfold numOf
  rw [if_pos (dec_ok h), dec_val]
theorem dec_of : ∀ (n : Nat) (l : List UInt8), l.length = n → l ≠ [] → allDig l = true → (l.length ≤ 1 ∨ l.head? ≠ some 48) → decDigits (valF 0 l) = l := by
  intro n
  induction n with
  | zero => intro l h1 h2; exact absurd (List.eq_nil_of_length_eq_zero h1) h2
  | succ n ih =>
    intro l h1 h2 h3 h4
    rcases nil_or_snoc l with rfl | ⟨a, c, rfl⟩
    · exact absurd rfl h2
    · have hc : Dig c := by unfold allDig at h3; rw [List.all_append] at h3; simp at h3; exact h3.2
      have ha : allDig a = true := by unfold allDig at h3 ⊢; rw [List.all_append] at h3; simp at h3 ⊢; exact h3.1
      have hcc : UInt8.ofNat (48 + (c.toNat - 48)) = c := by
        apply UInt8.toNat_inj.1
        rw [toNat_dig (by unfold Dig at hc; omega)]
        unfold Dig at hc
        omega
      rw [valF_append, valF_one]
      cases a with
      | nil =>
        rw [valF_nil, dec_small (by unfold Dig at hc; omega), show 10 * 0 + (c.toNat - 48) = c.toNat - 48 from by omega, hcc]
        rfl
      | cons x t =>
        have hx : (x :: t).head? ≠ some 48 := by
          rcases h4 with h4 | h4
          · simp at h4
          · simpa using h4
        have hI := ih (x :: t) (by simpa using h1) (by simp) ha (.inr hx)
        have hpos : 1 ≤ valF 0 (x :: t) := by
          rcases Nat.eq_zero_or_pos (valF 0 (x :: t)) with q | q
          · rw [q, dec_small (by decide)] at hI
            rw [← hI] at hx
            exact absurd rfl hx
          · exact q
        have hlt : c.toNat - 48 < 10 := by unfold Dig at hc; omega
        rw [dec_big (by omega), show (10 * valF 0 (x :: t) + (c.toNat - 48)) / 10 = valF 0 (x :: t) from by omega, show (10 * valF 0 (x :: t) + (c.toNat - 48)) % 10 = c.toNat - 48 from by omega, hI, hcc]
theorem val_lt : ∀ (l : List UInt8) (n m : Nat), n < 10 ^ m → allDig l = true → valF n l < 10 ^ (m + l.length) := by
  intro l
  induction l with
  | nil => intro n m h _; exact h
  | cons c l ih =>
    intro n m h1 h2
    have hc : Dig c := by unfold allDig at h2; rw [List.all_cons] at h2; simp at h2; exact h2.1
    have ha : allDig l = true := by unfold allDig at h2 ⊢; rw [List.all_cons] at h2; simp at h2 ⊢; exact h2.2
    have h3 := ih (10 * n + (c.toNat - 48)) (m + 1) (by rw [Nat.pow_succ]; unfold Dig at hc; omega) ha
    rw [show m + (c :: l).length = m + 1 + l.length from by simp; omega]
    exact h3
theorem num_le {l : List UInt8} (h : numOK l) : valF 0 l ≤ 999999 := by
  have h1 := val_lt l 0 0 (by decide) h.2.2.2
  have h2 : (10 : Nat) ^ (0 + l.length) ≤ 10 ^ 6 := Nat.pow_le_pow_right (by decide) (by have := h.2.1; omega)
  omega
theorem num_dec {l : List UInt8} (h : numOK l) : decDigits (valF 0 l) = l := dec_of l.length l rfl h.1 h.2.2.2 h.2.2.1
theorem digs_B {n : Int} (h0 : 0 ≤ n) (h1 : n ≤ 9223372036854775807) : digs n = B (decDigits n.toNat) := by
  unfold digs B
  have h21 : n.toNat < 10 ^ (20 + 1) := Nat.lt_of_lt_of_le (show n.toNat < 9223372036854775808 by omega) (by decide)
  rw [if_neg (by omega), digF_eq 20 n.toNat h21]
end Go.Proofs.YtodijkdmcjnpkaaDoor.P
