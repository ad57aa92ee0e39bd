import Derived.Test.YtjljhianehhlgaaDoorQ1
import Derived.Test.YtjljhianehhlgaaDoorQ2
import Derived.Test.YtjljhianehhlgaaDoorM0
/-! ### Amounts, names, entries: the plain part -/
namespace Go.Proofs.YtjljhianehhlgaaDoor.V
open Go Go.RowKit Go.Proofs.YtjljhianehhlgaaDoorW.PrintWords Go.Proofs.YtjljhianehhlgaaDoor.K Go.Proofs.YtjljhianehhlgaaDoor.M
set_option linter.unusedVariables false
theorem ev_one {α : Type} {g : Nat → Option α} {a b : α} (h : Ev g a) (h' : Ev g b) : a = b := by
  obtain ⟨K, h⟩ := h
  obtain ⟨K', h'⟩ := h'
  have h1 := h (max K K') (by omega)
  have h2 := h' (max K K') (by omega)
  exact Option.some.inj (h1.symm.trans h2)
theorem wrap_in {x : Int} (h0 : -9223372036854775808 ≤ x) (h1 : x ≤ 9223372036854775807) : wrap64 x = x := by
  unfold wrap64
  omega
theorem wrap_succ {j n : Nat} (h : j < n) (hn : n ≤ 9223372036854775807) : wrap64 ((j : Int) + 1) = ((j + 1 : Nat) : Int) := by
  unfold wrap64
  omega
theorem rd31 (l : List S31) (j : Nat) (h : j < l.length) : rd_T31 l (j : Int) = l[j] := by simp [rd_T31, h]
theorem rd_at (l : List Int) (j : Nat) (h : j < l.length) : rd l (j : Int) = l[j] := by simp [rd, h]
def Fit (x : Int) : Prop := -100000000000 ≤ x ∧ x ≤ 100000000000
instance (x : Int) : Decidable (Fit x) := inferInstanceAs (Decidable (_ ∧ _))
def fitB (x : Int) : Bool := decide (Fit x)
theorem right_ev (l : List Int) (hl : l.length ≤ 9223372036854775807) : ∀ d j : Nat, l.length - j = d → j ≤ l.length → Ev (fun k => money_Right.l0 k l (l.length : Int) (j : Int)) ((l.drop j).all fitB) := by
  intro d
  induction d with
  | zero =>
    intro j hd hj
    have e : l.drop j = [] := List.drop_of_length_le (by omega)
    rw [e]
    exact Ev.step (f := fun _ => some true) (fun k => by simp only [money_Right.l0]; rw [if_neg (by omega)]) (Ev.now _)
  | succ d ih =>
    intro j hd hj
    have hlt : j < l.length := by omega
    have e : l.drop j = l[j] :: l.drop (j + 1) := List.drop_eq_getElem_cons hlt
    rw [e, List.all_cons]
    by_cases q : Fit l[j]
    · have e2 : fitB l[j] = true := decide_eq_true q
      rw [e2, Bool.true_and]
      refine Ev.step (f := fun k => money_Right.l0 k l (l.length : Int) ((j + 1 : Nat) : Int)) (fun k => ?_) (ih (j + 1) (by omega) (by omega))
      simp only [money_Right.l0, rd_at l j hlt]
      unfold Fit at q
      rw [if_pos (by omega), if_pos (by omega), if_pos (by omega), if_neg (by omega), if_neg (by omega), wrap_succ hlt hl]
    · have e2 : fitB l[j] = false := decide_eq_false q
      rw [e2, Bool.false_and]
      refine Ev.step (f := fun _ => some false) (fun k => ?_) (Ev.now _)
      simp only [money_Right.l0, rd_at l j hlt]
      unfold Fit at q
      rw [if_pos (by omega), if_pos (by omega), if_pos (by omega)]
      by_cases q1 : l[j] > 100000000000
      · rw [if_pos q1]
      · rw [if_neg q1, if_pos (by omega)]
theorem right_all (l : List Int) (hl : l.length ≤ 9223372036854775807) : Ev (fun k => money_Right.f k l) (l.all fitB) := by
  have h := right_ev l hl l.length 0 (by omega) (by omega)
  rw [List.drop_zero] at h
  exact h
theorem right_one (a : Int) : Ev (fun k => money_Right.f k [a]) (decide (Fit a)) := by
  have h := right_all [a] (by simp)
  have e : [a].all fitB = decide (Fit a) := by simp [fitB]
  rw [e] at h
  exact h
theorem right_two (a b : Int) : Ev (fun k => money_Right.f k [a, b]) (decide (Fit a ∧ Fit b)) := by
  have h := right_all [a, b] (by simp)
  have e : [a, b].all fitB = decide (Fit a ∧ Fit b) := by simp [fitB]
  rw [e] at h
  exact h
theorem mcheck_ev (a : Int) : Ev (fun k => money_check.f k a) (if Fit a then (a, 0) else (0, 10)) := by
  refine Ev.bind (right_one a) ?_
  by_cases q : Fit a
  · rw [if_pos q, decide_eq_true q]; exact Ev.now _
  · rw [if_neg q, decide_eq_false q]; exact Ev.now _
theorem add_ev {a b : Int} (ha : Fit a) (hb : Fit b) : Ev (fun k => money_Add.f k a b) (if Fit (a + b) then (a + b, 0) else (0, 10)) := by
  refine Ev.bind (right_two a b) ?_
  rw [decide_eq_true ⟨ha, hb⟩]
  refine Ev.congr (fun k => if_pos rfl) ?_
  unfold Fit at ha hb
  have e : wrap64 (a + b) = a + b := wrap_in (by omega) (by omega)
  rw [e]
  have h := Ev.bind (mcheck_ev (a + b)) (f := fun _ c => some (c.1, c.2)) (Ev.now _)
  exact h
theorem add_ov {a b : Int} (h : ¬ (Fit a ∧ Fit b)) : Ev (fun k => money_Add.f k a b) (0, 10) := by
  refine Ev.bind (right_two a b) ?_
  rw [decide_eq_false h]
  exact Ev.now _
/-! #### names -/
theorem name_loop (s : ByteArray) (hs : s.size ≤ 9223372036854775807) : ∀ d j : Nat, s.size - j = d → j ≤ s.size → ∃ b, Ev (fun k => word_Name.l0 k s (s.size : Int) (j : Int)) b := by
  intro d
  induction d with
  | zero =>
    intro j hd hj
    exact ⟨true, Ev.step (f := fun _ => some true) (fun k => by simp only [word_Name.l0]; rw [if_neg (by omega)]) (Ev.now _)⟩
  | succ d ih =>
    intro j hd hj
    have hlt : j < s.size := by omega
    obtain ⟨b, hb⟩ := ih (j + 1) (by omega) (by omega)
    have hw := wrap_succ hlt hs
    have key : ∀ k, word_Name.l0 (k + 1) s (s.size : Int) (j : Int) = some false ∨ word_Name.l0 (k + 1) s (s.size : Int) (j : Int) = word_Name.l0 k s (s.size : Int) ((j + 1 : Nat) : Int) := by
      intro k
      simp only [word_Name.l0]
      rw [if_pos (by omega), if_pos (by omega), if_pos (by omega), hw]
      repeat' split
      all_goals first | exact .inl rfl | exact .inr rfl
    have key2 : (∀ k, word_Name.l0 (k + 1) s (s.size : Int) (j : Int) = some false) ∨ (∀ k, word_Name.l0 (k + 1) s (s.size : Int) (j : Int) = word_Name.l0 k s (s.size : Int) ((j + 1 : Nat) : Int)) := by
      have red : ∀ k, word_Name.l0 (k + 1) s (s.size : Int) (j : Int) = (if (bt s j) ≥ 97 then (if ((bt s j) ≤ 122) then word_Name.l0 k s (s.size : Int) ((j + 1 : Nat) : Int) else (if (j : Int) = 0 then (some false) else (if (bt s j) < 48 then (if (bt s j) = 45 then word_Name.l0 k s (s.size : Int) ((j + 1 : Nat) : Int) else (some false)) else (if (bt s j) > 57 then (if (bt s j) = 45 then word_Name.l0 k s (s.size : Int) ((j + 1 : Nat) : Int) else (some false)) else word_Name.l0 k s (s.size : Int) ((j + 1 : Nat) : Int))))) else (if (j : Int) = 0 then (some false) else (if (bt s j) < 48 then (if (bt s j) = 45 then word_Name.l0 k s (s.size : Int) ((j + 1 : Nat) : Int) else (some false)) else (if (bt s j) > 57 then (if (bt s j) = 45 then word_Name.l0 k s (s.size : Int) ((j + 1 : Nat) : Int) else (some false)) else word_Name.l0 k s (s.size : Int) ((j + 1 : Nat) : Int))))) := by
        intro k
        simp only [word_Name.l0]
        rw [if_pos (by omega), if_pos (by omega), if_pos (by omega), hw]
      repeat' split at red
      all_goals first | exact .inl red | exact .inr red
    rcases key2 with h | h
    · exact ⟨false, Ev.step (f := fun _ => some false) h (Ev.now _)⟩
    · exact ⟨b, Ev.step (f := fun k => word_Name.l0 k s (s.size : Int) ((j + 1 : Nat) : Int)) h hb⟩
theorem name_total (s : ByteArray) (hs : s.size ≤ 9223372036854775807) : ∃ b, Ev (fun k => word_Name.f k s) b := by
  by_cases q : s.toList = []
  · exact ⟨false, Ev.congr (f := fun k => word_Name.j0 k s true) (fun k => by unfold word_Name.f; rw [if_pos q]) (Ev.step (f := fun _ => some false) (fun k => by simp only [word_Name.j0]; rfl) (Ev.now _))⟩
  · by_cases q2 : (s.size : Int) > 16
    · exact ⟨false, Ev.congr (f := fun k => word_Name.j0 k s true) (fun k => by unfold word_Name.f; rw [if_neg q, decide_eq_true q2]) (Ev.step (f := fun _ => some false) (fun k => by simp only [word_Name.j0]; rfl) (Ev.now _))⟩
    · obtain ⟨b, hb⟩ := name_loop s hs s.size 0 (by omega) (by omega)
      exact ⟨b, Ev.congr (f := fun k => word_Name.j0 k s false) (fun k => by unfold word_Name.f; rw [if_neg q, decide_eq_false q2]) (Ev.step (f := fun k => word_Name.l0 k s (s.size : Int) ((0 : Nat) : Int)) (fun k => by simp only [word_Name.j0]; rfl) hb)⟩
theorem trim_total (s p : ByteArray) (hs : s.size ≤ 9223372036854775807) : ∃ r, strings_TrimPrefix.f s p = some r ∧ r.size ≤ s.size := by
  unfold strings_TrimPrefix.f stringslite_TrimPrefix.f stringslite_HasPrefix.f
  by_cases q : (s.size : Int) ≥ (p.size : Int)
  · rw [if_pos q, if_pos (by omega), if_pos (by omega)]
    simp only [Option.bind_some]
    split
    · exact ⟨_, rfl, by simp [ByteArray.size_extract]⟩
    · exact ⟨_, rfl, Nat.le_refl _⟩
  · rw [if_neg q]
    exact ⟨_, rfl, Nat.le_refl _⟩
theorem pname_total (s : ByteArray) (hs : s.size ≤ 9223372036854775807) : ∃ b, Ev (fun k => post_name.f k s) b := by
  obtain ⟨b, hb⟩ := name_total s hs
  cases b with
  | true => exact ⟨true, Ev.bind hb (Ev.congr (fun k => if_pos rfl) (Ev.now _))⟩
  | false =>
    obtain ⟨r, hr, hl⟩ := trim_total s (⟨#[102, 117, 110, 100, 45]⟩ : ByteArray) hs
    obtain ⟨b2, hb2⟩ := name_total r (by omega)
    refine ⟨b2, Ev.bind hb (Ev.congr (f := fun k => (word_Name.f k r).bind fun t => some t) (fun k => ?_) (Ev.bind hb2 (Ev.now _)))⟩
    rw [if_neg (by simp), hr]
    rfl
/-- An account's name that may be. -/
def Named (s : ByteArray) : Prop := Ev (fun k => post_name.f k s) true
open Classical in
/-- What Check answers, from a sum on. -/
noncomputable def chk : Int → List S31 → Int
  | s, [] => if s = 0 then 0 else 6
  | s, x :: r => if Fit x.f1 then (if Named x.f0 then chk (wrap64 (s + x.f1)) r else 5) else 10
theorem check_loop (l : List S31) (hl : l.length ≤ 9223372036854775807) (hz : ∀ x ∈ l, x.f0.size ≤ 9223372036854775807) : ∀ d j : Nat, l.length - j = d → j ≤ l.length → ∀ s, Ev (fun k => post_Check.l0 k s l (l.length : Int) (j : Int)) (chk s (l.drop j)) := by
  intro d
  induction d with
  | zero =>
    intro j hd hj s
    have e : l.drop j = [] := List.drop_of_length_le (by omega)
    rw [e]
    refine Ev.step (f := fun _ => some (chk s [])) (fun k => ?_) (Ev.now _)
    simp only [post_Check.l0, chk]
    rw [if_neg (by omega)]
    split <;> rfl
  | succ d ih =>
    intro j hd hj s
    have hlt : j < l.length := by omega
    have e : l.drop j = l[j] :: l.drop (j + 1) := List.drop_eq_getElem_cons hlt
    rw [e]
    simp only [chk]
    have red : ∀ k, post_Check.l0 (k + 1) s l (l.length : Int) (j : Int) = (money_Right.f k [l[j].f1]).bind fun t => if t = true then (post_name.f k l[j].f0).bind fun t => (if t = true then post_Check.l0 k (wrap64 (s + l[j].f1)) l (l.length : Int) ((j + 1 : Nat) : Int) else some 5) else some 10 := by
      intro k
      simp only [post_Check.l0, rd31 l j hlt]
      rw [if_pos (by omega), if_pos (by omega), if_pos (by omega), wrap_succ hlt hl]
    refine Ev.step red (Ev.bind (right_one l[j].f1) ?_)
    by_cases q : Fit l[j].f1
    · rw [if_pos q, decide_eq_true q]
      refine Ev.congr (fun k => if_pos rfl) ?_
      obtain ⟨b, hb⟩ := pname_total l[j].f0 (hz _ (List.getElem_mem hlt))
      refine Ev.bind hb ?_
      cases b with
      | true => rw [if_pos (show Named l[j].f0 from hb)]; exact Ev.congr (fun k => if_pos rfl) (ih (j + 1) (by omega) (by omega) _)
      | false => rw [if_neg (fun h : Named l[j].f0 => absurd (ev_one hb h) (by decide))]; exact Ev.congr (fun k => if_neg (by simp)) (Ev.now _)
    · rw [if_neg q, decide_eq_false q]
      exact Ev.congr (fun k => if_neg (by simp)) (Ev.now _)
theorem check_ev (l : List S31) (hl : l.length ≤ 9223372036854775807) (hz : ∀ x ∈ l, x.f0.size ≤ 9223372036854775807) : Ev (fun k => post_Check.f k l) (chk 0 l) := by
  have h := check_loop l hl hz l.length 0 (by omega) (by omega) 0
  rw [List.drop_zero] at h
  exact h
theorem chk_ok : ∀ (l : List S31) (s : Int), chk s l = 0 → (∀ x ∈ l, Fit x.f1 ∧ Named x.f0)
  | [], s, h => by simp
  | x :: r, s, h => by
    simp only [chk] at h
    by_cases q : Fit x.f1
    · rw [if_pos q] at h
      by_cases q2 : Named x.f0
      · rw [if_pos q2] at h
        intro y hy
        rcases List.mem_cons.1 hy with rfl | hy
        · exact ⟨q, q2⟩
        · exact chk_ok r _ h y hy
      · rw [if_neg q2] at h; exact absurd h (by decide)
    · rw [if_neg q] at h; exact absurd h (by decide)
/-! #### what is booked on an account -/
def key (x : S31) : List UInt8 := x.f0.data.toList
def sumAt : List S31 → List UInt8 → Int
  | [], _ => 0
  | x :: r, s => (if key x = s then x.f1 else 0) + sumAt r s
theorem sumAt_append (a b : List S31) (s : List UInt8) : sumAt (a ++ b) s = sumAt a s + sumAt b s := by
  induction a with
  | nil => simp [sumAt]
  | cons x a ih => simp only [List.cons_append, sumAt, ih]; omega
theorem sumAt_none {l : List S31} {s : List UInt8} (h : ∀ x ∈ l, key x ≠ s) : sumAt l s = 0 := by
  induction l with
  | nil => rfl
  | cons x l ih => simp only [sumAt]; rw [if_neg (h x List.mem_cons_self), ih (fun y hy => h y (List.mem_cons_of_mem _ hy))]; rfl
/-- A number, or nothing where it is none. -/
def nz (c : Int) : Option Int := if c = 0 then none else some c
/-- A map holds what a function says, none of nothing. -/
def Holds (D : DM) (V : List UInt8 → Int) : Prop := Nums D ∧ ∀ s, got D s = nz (V s)
theorem Holds.val {D : DM} {V : List UInt8 → Int} (h : Holds D V) (s : List UInt8) : val D s = V s := by
  unfold M.val
  rw [h.2]
  unfold nz
  split
  · next q => rw [q]; rfl
  · rfl
/-- Up to j each account stands within the bounds, step by step. -/
def Within (V : List UInt8 → Int) (xs : List S31) (j : Nat) : Prop := ∀ i (h : i < xs.length), i < j → Fit (V (key xs[i]) + sumAt (xs.take (i + 1)) (key xs[i]))
end Go.Proofs.YtjljhianehhlgaaDoor.V
