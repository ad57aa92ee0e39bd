import Derived.Test.YtodijkdmcjnpkaaDoorPA
import Derived.Test.YtodijkdmcjnpkaaDoorPC
import Derived.Test.YtodijkdmcjnpkaaDoorPD
import Derived.Test.YtodijkdmcjnpkaaDoorKxW
/- Plain laws, without memory: WholeCodes. -/
namespace Go.Proofs.YtodijkdmcjnpkaaDoor.P
open Go.RowKit Go.Proofs.YtodijkdmcjnpkaaDoorW.PrintWords Go.Proofs.YtodijkdmcjnpkaaDoorW.PrintLast Go.Proofs.YtodijkdmcjnpkaaDoorW.PrintMore Go.Proofs.YtodijkdmcjnpkaaDoor.K Go.Proofs.YtodijkdmcjnpkaaDoor.KTab
set_option linter.unusedVariables false
set_option linter.unusedSimpArgs false

/-! ### a line of words is cut into these words -/
/-- A word as it stands in a line. -/
def qw (s : ByteArray) : List UInt8 := (quoteL s).1.data.toList
def tailL (r : List ByteArray) : List UInt8 := r.flatMap fun s => 32 :: qw s
theorem toList_data (s : ByteArray) : s.toList = s.data.toList := by
  have h := B_list s.data.toList
  rw [← B_of] at h
  exact h
theorem mkb_data (s : ByteArray) : mkb s.data.toList = s := by simp [mkb]
/-- What a word that may be written looks like: bare, or in quotes. -/
theorem qw_forms (s : ByteArray) (h : (quoteL s).2 = 0) :
    (s.data.toList ≠ [] ∧ s.data.toList.all plainB = true ∧ qw s = s.data.toList) ∨ (s.data.toList.all shownB = true ∧ qw s = 34 :: (s.data.toList ++ [34])) := by
  unfold qw
  unfold quoteL qend at h ⊢
  by_cases h1 : s.data.toList.all shownB = true
  · rw [if_pos h1] at h ⊢
    by_cases h2 : ((s.toList != ([] : List UInt8)) && s.data.toList.all plainB) = true
    · rw [if_pos h2]
      rw [Bool.and_eq_true, toList_data] at h2
      exact .inl ⟨by simpa using h2.1, h2.2, rfl⟩
    · rw [if_neg h2]
      refine .inr ⟨h1, ?_⟩
      show (((⟨#[34]⟩ : ByteArray) ++ s) ++ (⟨#[34]⟩ : ByteArray)).data.toList = _
      simp [ByteArray.data_append]
  · rw [if_neg h1] at h
    cases h
theorem qw_len (s : ByteArray) : (qw s).length ≤ s.size + 2 := by
  unfold qw quoteL qend
  split
  · split
    · show s.data.toList.length ≤ _; rw [data_length]; omega
    · show (((⟨#[34]⟩ : ByteArray) ++ s) ++ (⟨#[34]⟩ : ByteArray)).data.toList.length ≤ _
      rw [data_length, ByteArray.size_append, ByteArray.size_append]
      show 1 + s.size + 1 ≤ _
      omega
  · simp
theorem quote_err (s : ByteArray) : (quoteL s).2 = 0 ∨ (quoteL s).2 = 5 := by
  unfold quoteL qend
  split
  · split
    · exact .inl rfl
    · exact .inl rfl
  · exact .inr rfl
theorem cutW_run (out : List ByteArray) (t : List UInt8) : ∀ (l p : List UInt8) (k : Nat), l.all plainB = true → cutW (k + l.length) p (l ++ t) out = cutW k (p ++ l) t out := by
  intro l
  induction l with
  | nil => intro p k _; simp
  | cons c r ih =>
    intro p k h
    rw [List.all_cons, Bool.and_eq_true] at h
    show cutW (k + r.length + 1) p (c :: (r ++ t)) out = _
    simp only [cutW]
    rw [if_pos h.1, ih (p ++ [c]) k h.2]
    simp
theorem cutQ_run (out : List ByteArray) (t : List UInt8) : ∀ (l p : List UInt8) (k : Nat), l.all shownB = true → cutQ (k + l.length) p (l ++ t) out = cutQ k (p ++ l) t out := by
  intro l
  induction l with
  | nil => intro p k _; simp
  | cons c r ih =>
    intro p k h
    rw [List.all_cons, Bool.and_eq_true] at h
    show cutQ (k + r.length + 1) p (c :: (r ++ t)) out = _
    simp only [cutQ]
    rw [if_pos h.1, ih (p ++ [c]) k h.2]
    simp
theorem plain_tail (r : List ByteArray) : tailL r = [] ∨ ∃ t, tailL r = 32 :: t := by
  cases r with
  | nil => exact .inl rfl
  | cons s r => exact .inr ⟨_, rfl⟩
/-- One word at the head of a line. -/
theorem cut_word (s : ByteArray) (r : List ByteArray) (out : List ByteArray) (h : (quoteL s).2 = 0) (ho : out.length < 32) :
    ∃ j, j ≤ (qw s).length + 2 ∧ 1 ≤ (qw s).length ∧ ∀ k, cutB (k + j) (qw s ++ tailL r) out = cutE k (tailL r) (out ++ [s]) := by
  rcases qw_forms s h with ⟨h1, h2, h3⟩ | ⟨h2, h3⟩
  · rw [h3]
    obtain ⟨c, l, hl⟩ : ∃ c l, s.data.toList = c :: l := by
      cases hs : s.data.toList with
      | nil => exact absurd hs h1
      | cons c l => exact ⟨c, l, rfl⟩
    have hc : plainB c = true := by rw [hl, List.all_cons, Bool.and_eq_true] at h2; exact h2.1
    unfold plainB at hc
    simp only [Bool.and_eq_true, decide_eq_true_eq] at hc
    refine ⟨(s.data.toList.length + 1) + 1, by omega, by rw [hl]; simp, fun k => ?_⟩
    rw [show k + (s.data.toList.length + 1 + 1) = ((k + 1) + s.data.toList.length) + 1 by omega]
    have e1 : cutB (((k + 1) + s.data.toList.length) + 1) (s.data.toList ++ tailL r) out = cutW ((k + 1) + s.data.toList.length) [] (s.data.toList ++ tailL r) out := by
      rw [hl]
      show cutB _ (c :: (l ++ tailL r)) out = cutW _ [] (c :: (l ++ tailL r)) out
      simp only [cutB]
      rw [if_neg (by omega), if_neg (by omega), if_neg (by omega), if_neg (by omega)]
    rw [e1, cutW_run out (tailL r) s.data.toList [] (k + 1) h2, List.nil_append]
    rcases plain_tail r with e | ⟨t, e⟩
    · rw [e]
      simp only [cutW]
      rw [if_neg h1, mkb_data]
    · rw [e]
      simp only [cutW]
      rw [if_neg (by decide), if_neg h1, mkb_data]
  · rw [h3]
    refine ⟨(s.data.toList.length + 1) + 1, by simp, by simp, fun k => ?_⟩
    rw [show k + (s.data.toList.length + 1 + 1) = ((k + 1) + s.data.toList.length) + 1 by omega]
    show cutB _ (34 :: ((s.data.toList ++ [34]) ++ tailL r)) out = _
    simp only [cutB]
    rw [if_neg (by decide), if_neg (by decide), if_neg (by omega), if_pos (by decide), List.append_assoc, cutQ_run out ([34] ++ tailL r) s.data.toList [] (k + 1) h2, List.nil_append]
    show cutQ (k + 1) _ (34 :: tailL r) out = _
    simp only [cutQ]
    rw [if_neg (by decide), if_pos (by decide), mkb_data]
theorem cut_tail : ∀ (r out : List ByteArray), (∀ s ∈ r, (quoteL s).2 = 0) → out.length + r.length ≤ 32 → ∀ k, 4 * (tailL r).length + 2 ≤ k → cutE k (tailL r) out = some (out ++ r, 0) := by
  intro r
  induction r with
  | nil =>
    intro out _ _ k hk
    obtain ⟨k, rfl⟩ : ∃ m, k = m + 2 := ⟨k - 2, by omega⟩
    show cutE (k + 1 + 1) [] out = _
    simp only [cutE]
    show cutB (k + 1) [] out = _
    simp [cutB]
  | cons s r ih =>
    intro out h hl k hk
    have hs := h s List.mem_cons_self
    rw [List.length_cons] at hl
    have ht : tailL (s :: r) = 32 :: (qw s ++ tailL r) := rfl
    rw [ht, List.length_cons, List.length_append] at hk
    rw [ht]
    obtain ⟨j, hj, h1, hc⟩ := cut_word s r out hs (by omega)
    obtain ⟨k, rfl⟩ : ∃ m, k = m + j + 2 := ⟨k - j - 2, by omega⟩
    show cutE (k + j + 1 + 1) (32 :: (qw s ++ tailL r)) out = _
    simp only [cutE]
    rw [if_pos (by decide)]
    simp only [cutB]
    rw [if_neg (by decide), if_pos (by decide), hc k, ih (out ++ [s]) (fun x hx => h x (List.mem_cons_of_mem _ hx)) (by simp; omega) k (by omega)]
    simp
/-- A line of words. -/
def lineL : List ByteArray → List UInt8
  | [] => []
  | s :: r => qw s ++ tailL r
theorem cut_line (ws : List ByteArray) (h : ∀ s ∈ ws, (quoteL s).2 = 0) (hl : ws.length ≤ 32) (k : Nat) (hk : 4 * (lineL ws).length + 2 ≤ k) : cutB k (lineL ws) [] = some (ws, 0) := by
  cases ws with
  | nil =>
    obtain ⟨k, rfl⟩ : ∃ m, k = m + 1 := ⟨k - 1, by omega⟩
    simp [lineL, cutB]
  | cons s r =>
    obtain ⟨j, hj, h1, hc⟩ := cut_word s r [] (h s List.mem_cons_self) (by simp)
    have ht : lineL (s :: r) = qw s ++ tailL r := rfl
    rw [ht, List.length_append] at hk
    obtain ⟨k, rfl⟩ : ∃ m, k = m + j := ⟨k - j, by omega⟩
    rw [List.length_cons] at hl
    rw [ht, hc k, cut_tail r ([] ++ [s]) (fun x hx => h x (List.mem_cons_of_mem _ hx)) (by simp; omega) k (by omega)]
    simp
/-! ### words are joined -/
def sumL (ws : List ByteArray) : Nat := (ws.map fun s => s.size + 3).sum
theorem tail_len (r : List ByteArray) : (tailL r).length ≤ sumL r := by
  induction r with
  | nil => simp [tailL, sumL]
  | cons s r ih =>
    have := qw_len s
    have e : tailL (s :: r) = 32 :: (qw s ++ tailL r) := rfl
    rw [e]
    simp only [sumL, List.map_cons, List.sum_cons, List.length_cons, List.length_append] at ih ⊢
    omega
theorem line_len (ws : List ByteArray) : (lineL ws).length ≤ sumL ws := by
  cases ws with
  | nil => simp [lineL]
  | cons s r =>
    have := qw_len s
    have := tail_len r
    have e : lineL (s :: r) = qw s ++ tailL r := rfl
    rw [e]
    simp only [sumL, List.map_cons, List.sum_cons, List.length_append] at this ⊢
    omega
theorem join_go : ∀ (r : List ByteArray) (acc : List UInt8), (∀ s ∈ r, s.size ≤ 1000000) → acc.length + sumL r ≤ 512 → 
    (joinGo r false acc = some (mkb (acc ++ tailL r), 0) ∧ ∀ s ∈ r, (quoteL s).2 = 0) ∨ ∃ b, joinGo r false acc = some (b, 5) := by
  intro r
  induction r with
  | nil => intro acc _ _; exact .inl ⟨by simp [joinGo, tailL], fun _ h => by cases h⟩
  | cons s r ih =>
    intro acc hz hl
    have hs := hz s List.mem_cons_self
    have hq := qw_len s
    simp only [sumL, List.map_cons, List.sum_cons] at hl
    rcases quote_err s with e | e
    · have hlen : ((acc ++ [32]) ++ qw s).length ≤ 512 := by simp only [List.length_append, List.length_cons, List.length_nil]; omega
      have step : joinGo (s :: r) false acc = joinGo r false ((acc ++ [32]) ++ qw s) := by
        simp only [joinGo]
        rw [if_pos hs, if_pos e]
        show (if ((acc ++ [32]) ++ qw s).length > 512 then _ else joinGo r false ((acc ++ [32]) ++ qw s)) = _
        rw [if_neg (by omega)]
      rw [step]
      rcases ih ((acc ++ [32]) ++ qw s) (fun x hx => hz x (List.mem_cons_of_mem _ hx)) (by simp only [List.length_append, List.length_cons, List.length_nil, sumL]; omega) with ⟨h1, h2⟩ | ⟨b, h⟩
      · refine .inl ⟨?_, fun x hx => ?_⟩
        · rw [h1]
          have e2 : tailL (s :: r) = 32 :: (qw s ++ tailL r) := rfl
          rw [e2]
          simp
        · rcases List.mem_cons.1 hx with rfl | hx
          · exact e
          · exact h2 x hx
      · exact .inr ⟨b, h⟩
    · refine .inr ⟨⟨#[]⟩, ?_⟩
      simp only [joinGo]
      rw [if_pos hs, if_neg (by rw [e]; decide), e]
theorem join_all (ws : List ByteArray) (hz : ∀ s ∈ ws, s.size ≤ 1000000) (hl : sumL ws ≤ 512) (hn : ws.length ≤ 32) :
    (word_Join.f ws = some (mkb (lineL ws), 0) ∧ ∀ s ∈ ws, (quoteL s).2 = 0) ∨ ∃ b, word_Join.f ws = some (b, 5) := by
  unfold word_Join.f
  rw [if_neg (by omega)]
  cases ws with
  | nil => exact .inl ⟨rfl, fun _ h => by cases h⟩
  | cons s r =>
    have hs := hz s List.mem_cons_self
    have hq := qw_len s
    simp only [sumL, List.map_cons, List.sum_cons] at hl
    rcases quote_err s with e | e
    · have step : joinGo (s :: r) true [] = joinGo r false (qw s) := by
        simp only [joinGo]
        rw [if_pos hs, if_pos e]
        show (if ([] ++ qw s).length > 512 then _ else joinGo r false ([] ++ qw s)) = _
        rw [List.nil_append, if_neg (by omega)]
      rw [step]
      rcases join_go r (qw s) (fun x hx => hz x (List.mem_cons_of_mem _ hx)) (by simp only [sumL]; omega) with ⟨h1, h2⟩ | ⟨b, h⟩
      · refine .inl ⟨h1, fun x hx => ?_⟩
        rcases List.mem_cons.1 hx with rfl | hx
        · exact e
        · exact h2 x hx
      · exact .inr ⟨b, h⟩
    · refine .inr ⟨⟨#[]⟩, ?_⟩
      simp only [joinGo]
      rw [if_pos hs, if_neg (by rw [e]; decide), e]
theorem cut_all (ws : List ByteArray) (h : ∀ s ∈ ws, (quoteL s).2 = 0) (hl : sumL ws ≤ 512) (hn : ws.length ≤ 32) : word_Cut.f (mkb (lineL ws)) = some (ws, 0) := by
  have hle := line_len ws
  have hsz : (mkb (lineL ws)).size = (lineL ws).length := by simp [mkb, ByteArray.size]
  unfold word_Cut.f
  rw [if_neg (by rw [hsz]; omega), hsz]
  show cutB _ (lineL ws) [] = _
  exact cut_line ws h hn _ (by omega)
/-! ### the law -/
theorem name_a : Ev (fun k => word_Name.f k (⟨#[97]⟩ : ByteArray)) true := by
  have hs : ((⟨#[97]⟩ : ByteArray).size : Int) = 1 := rfl
  have hb : bt (⟨#[97]⟩ : ByteArray) 0 = 97 := rfl
  have hw : wrap64 ((0 : Int) + 1) = 1 := by unfold wrap64; omega
  refine Ev.congr (f := fun k => word_Name.j0 k (⟨#[97]⟩ : ByteArray) false) (fun k => ?_) (Ev.step (f := fun k => word_Name.l0 k (⟨#[97]⟩ : ByteArray) 1 0) (fun k => ?_) (Ev.step (f := fun k => word_Name.l0 k (⟨#[97]⟩ : ByteArray) 1 1) (fun k => ?_) (Ev.step (f := fun _ => some true) (fun k => ?_) (Ev.now _))))
  · show word_Name.f k (⟨#[97]⟩ : ByteArray) = _
    unfold word_Name.f
    rw [if_neg (by decide +kernel), hs, decide_eq_false (by omega)]
  · simp only [word_Name.j0]
    rw [if_neg (by simp), hs]
  · simp only [word_Name.l0]
    rw [if_pos (by omega), if_pos (by omega), hs, if_pos (by omega), hb, if_pos (by omega), if_pos (by omega), hw]
  · simp only [word_Name.l0]
    rw [if_neg (by omega)]
theorem whole_j5 {sc kd am fl : Int} (al : Bool) (h : Fit sc kd am fl) (n : Int) (b : Bool) (hb : b = false → 0 ≤ n ∧ n ≤ 12) : Ev (fun k => stipendtop_WholeCodes.j5 k n b sc kd am fl al) true := by
  cases b with
  | true => exact Ev.step (f := fun _ => some true) (fun k => by simp only [stipendtop_WholeCodes.j5]; rw [if_pos trivial]) (Ev.now _)
  | false =>
    obtain ⟨h0, h1⟩ := hb rfl
    have ha := h.a1
    have ha0 := h.a0
    have hw : wrap64 (12 - n) = 12 - n := wrap_in (by omega) (by omega)
    refine Ev.step (fun k => by simp only [stipendtop_WholeCodes.j5]; rw [if_neg (by simp), hw]) ?_
    refine Ev.bind (free_ev al n 12 h) (Ev.bind (free_ev al (12 - n) 12 h) (Ev.bind (free_ev al 12 12 h) ?_))
    obtain ⟨x, hx⟩ : ∃ x, x = am * n := ⟨_, rfl⟩
    have hy : am * (12 - n) = 12 * am - x := by rw [hx, Int.mul_sub]; omega
    have hx0 : 0 ≤ x := by rw [hx]; exact Int.mul_nonneg ha0 h0
    have hx1 : x ≤ 12 * am := by rw [hx, Int.mul_comm 12 am]; exact Int.mul_le_mul_of_nonneg_left h1 ha0
    have e1 : freeOf kd am n 12 = (if kd = 2 then -(x / 12) else x / 12, 0) := by
      unfold freeOf
      rw [if_neg (by omega), ← hx, Int.tdiv_eq_ediv_of_nonneg hx0]
    have e2 : freeOf kd am (12 - n) 12 = (if kd = 2 then -((12 * am - x) / 12) else (12 * am - x) / 12, 0) := by
      unfold freeOf
      rw [if_neg (by omega), hy, Int.tdiv_eq_ediv_of_nonneg (by omega)]
    have e3 : freeOf kd am 12 12 = (if kd = 2 then -am else am, 0) := by
      unfold freeOf
      rw [if_neg (by omega), Int.tdiv_eq_ediv_of_nonneg (by omega), show am * 12 / 12 = am by omega]
    have hz : wrap64 (wrap64 ((0 : Int) + 0) + 0) = 0 := by unfold wrap64; omega
    rw [e1, e2, e3]
    by_cases q : kd = 2
    · refine Ev.congr (f := fun _ => some true) (fun k => ?_) (Ev.now _)
      rw [if_pos q, if_pos q, if_pos q, if_pos q]
      simp only
      rw [if_pos hz]
      have w1 : wrap64 (-am - -(x / 12)) = -am + x / 12 := by rw [wrap_in (by omega) (by omega)]; omega
      have w2 : wrap64 (-am + x / 12 - -((12 * am - x) / 12)) = -am + x / 12 + (12 * am - x) / 12 := by rw [wrap_in (by omega) (by omega)]; omega
      have w3 : wrap64 (-(-am + x / 12 + (12 * am - x) / 12)) = am - x / 12 - (12 * am - x) / 12 := by rw [wrap_in (by omega) (by omega)]; omega
      rw [w1, w2, w3, if_pos (by omega), decide_eq_true (by omega)]
    · refine Ev.congr (f := fun _ => some true) (fun k => ?_) (Ev.now _)
      rw [if_neg q, if_neg q, if_neg q, if_neg q]
      simp only
      rw [if_pos hz]
      have w1 : wrap64 (am - x / 12) = am - x / 12 := wrap_in (by omega) (by omega)
      have w2 : wrap64 (am - x / 12 - (12 * am - x) / 12) = am - x / 12 - (12 * am - x) / 12 := wrap_in (by omega) (by omega)
      rw [w1, w2, if_pos (by omega), decide_eq_true (by omega)]
theorem whole_j4 {sc kd am fl : Int} (al : Bool) (h : Fit sc kd am fl) (n : Int) : Ev (fun k => stipendtop_WholeCodes.j4 k n false sc kd am fl al) true := by
  by_cases q : n < 0
  · exact Ev.step (fun k => by simp only [stipendtop_WholeCodes.j4]; rw [if_neg (by simp), if_pos q]) (whole_j5 al h n true (fun r => by cases r))
  · exact Ev.step (fun k => by simp only [stipendtop_WholeCodes.j4]; rw [if_neg (by simp), if_neg q]) (whole_j5 al h n _ (fun r => by have := of_decide_eq_false r; omega))
theorem text_len {sc kd am fl : Int} (al : Bool) (h : Fit sc kd am fl) : (textOf sc kd am fl al).length ≤ 30 := by
  have ha := h.a1
  have ha0 := h.a0
  have hf := h.f0
  have hf1 := h.f1
  have hl1 : (Go.Lib.decDigits (am / 1000).toNat).length ≤ 6 := dec_len 5 _ (by omega)
  have hl2 : (Go.Lib.decDigits fl.toNat).length ≤ 6 := dec_len 5 _ (by omega)
  have m1 : (mid kd am fl).length ≤ 10 := by
    unfold mid
    split
    · simp; omega
    · split
      · simp; omega
      · split
        · simp; omega
        · simp
  have m2 : (front sc).length ≤ 1 := by unfold front; split <;> simp
  have m3 : (tailX al).length ≤ 1 := by unfold tailX; split <;> simp
  unfold textOf
  rw [List.length_append, List.length_append]
  omega
theorem whole_j3 {sc kd am fl : Int} (al : Bool) (h : Fit sc kd am fl) (ws : List ByteArray) (hl : ws.length ≤ 20) (n : Int) : Ev (fun k => stipendtop_WholeCodes.j3 k ws n (ws ++ [B (textOf sc kd am fl al)]) false sc kd am fl al) true := by
  have hr : rdOf ByteArray.empty (ws ++ [B (textOf sc kd am fl al)]) (ws.length : Int) = B (textOf sc kd am fl al) := by
    simp [rdOf, List.getD_eq_getElem?_getD]
  have hp := parse_ev (textOf sc kd am fl al) (by have := text_len al h; unfold Short; omega)
  rw [parse_text al h] at hp
  refine Ev.step (fun k => by simp only [stipendtop_WholeCodes.j3]; rw [if_neg (by simp), if_pos (by omega), if_pos (by simp; omega), hr]) (Ev.bind hp ?_)
  refine Ev.congr (fun k => ?_) (whole_j4 al h n)
  simp
theorem sum_snoc (ws : List ByteArray) (s : ByteArray) : sumL (ws ++ [s]) = sumL ws + (s.size + 3) := by simp [sumL]
set_option maxHeartbeats 4000000 in
theorem whole_l0 {sc kd am fl : Int} (al : Bool) (h : Fit sc kd am fl) (ws : List ByteArray) (hl : ws.length ≤ 20) (n : Int) :
    ∀ d j : Nat, ws.length - j = d → j ≤ ws.length → ∀ x : Nat, x = (textOf sc kd am fl al).length + sumL (ws.take j) → x ≤ 500 → (∀ s ∈ ws.take j, s.size ≤ 400) → Ev (fun k => stipendtop_WholeCodes.l0 k ws n (B (textOf sc kd am fl al)) (x : Int) ws (ws.length : Int) (j : Int) sc kd am fl al) true := by
  intro d
  induction d with
  | zero =>
    intro j hd hj x hx hx5 hz
    have e : j = ws.length := by omega
    subst e
    rw [List.take_length] at hx hz
    have ht := text_len al h
    have hbs := B_size (textOf sc kd am fl al)
    have hsum : sumL (ws ++ [B (textOf sc kd am fl al)]) ≤ 512 := by rw [sum_snoc, hbs]; omega
    have hz2 : ∀ s ∈ ws ++ [B (textOf sc kd am fl al)], s.size ≤ 1000000 := by
      intro s hs
      rcases List.mem_append.1 hs with q | q
      · have := hz s q; omega
      · rw [List.mem_singleton.1 q, hbs]; omega
    have hn2 : (ws ++ [B (textOf sc kd am fl al)]).length ≤ 32 := by simp; omega
    rcases join_all (ws ++ [B (textOf sc kd am fl al)]) hz2 hsum hn2 with ⟨h1, h2⟩ | ⟨b, hb⟩
    · have h3 := cut_all _ h2 hsum hn2
      refine Ev.step (fun k => ?_) (whole_j3 al h ws hl n)
      simp only [stipendtop_WholeCodes.l0]
      rw [if_neg (by omega), Option.bind_some, if_pos (by simp; omega), Option.bind_some, if_pos (by simp; omega), List.nil_append, h1, Option.bind_some, if_pos rfl, h3, Option.bind_some, if_pos rfl]
      have hw : wrap64 ((ws.length : Int) + 1) = (ws.length : Int) + 1 := by unfold wrap64; omega
      have he : ((((ws ++ [B (textOf sc kd am fl al)], (0 : Int)).1.length : Int)) != (wrap64 ((ws.length : Int) + 1))) = false := by
        rw [hw, bne_eq_false_iff_eq]
        simp
      rw [he]
    · refine Ev.step (f := fun _ => some true) (fun k => ?_) (Ev.now _)
      simp only [stipendtop_WholeCodes.l0]
      rw [if_neg (by omega), Option.bind_some, if_pos (by simp; omega), Option.bind_some, if_pos (by simp; omega), List.nil_append, hb, Option.bind_some, if_neg (show ¬ ((b, (5 : Int)).2 = 0) by simp)]
      rfl
  | succ d ih =>
    intro j hd hj x hx hx5 hz
    have hlt : j < ws.length := by omega
    have hr : rdOf ByteArray.empty ws (j : Int) = ws[j] := by simp [rdOf, List.getD_eq_getElem?_getD, hlt]
    have p1 : (j : Int) < (ws.length : Int) := by omega
    have p2 : (0 : Int) ≤ (j : Int) := by omega
    by_cases q1 : (ws[j].size : Int) > 400
    · refine Ev.step (f := fun _ => some true) (fun k => ?_) (Ev.now _)
      simp only [stipendtop_WholeCodes.l0]
      rw [if_pos p1, if_pos p2, if_pos p1, hr, if_pos q1]
    · have htk : ws.take (j + 1) = ws.take j ++ [ws[j]] := List.take_succ_eq_append_getElem hlt
      have hi : (x : Int) + ((ws[j].size : Int) + 3) ≤ 500 → _ := fun q => ih (j + 1) (by omega) (by omega) (x + (ws[j].size + 3)) (by rw [htk, sum_snoc]; omega) (by omega) (by
          intro s hs
          rw [htk] at hs
          rcases List.mem_append.1 hs with q | q
          · exact hz s q
          · rw [List.mem_singleton.1 q]; omega)
      have hn : ¬ (x : Int) + ((ws[j].size : Int) + 3) > 500 → (x : Int) + ((ws[j].size : Int) + 3) ≤ 500 := fun q => by omega
      have hw1 : wrap64 ((ws[j].size : Int) + 3) = (ws[j].size : Int) + 3 := by unfold wrap64; omega
      have hw2 : wrap64 ((x : Int) + ((ws[j].size : Int) + 3)) = (x : Int) + ((ws[j].size : Int) + 3) := by unfold wrap64; omega
      have hw3 : wrap64 ((j : Int) + 1) = ((j + 1 : Nat) : Int) := by unfold wrap64; omega
      by_cases q2 : (x : Int) + ((ws[j].size : Int) + 3) > 500
      · refine Ev.step (f := fun _ => some true) (fun k => ?_) (Ev.now _)
        simp only [stipendtop_WholeCodes.l0]
        rw [if_pos p1, if_pos p2, if_pos p1, hr, if_neg q1, hw1, hw2, if_pos q2]
      · refine Ev.step (fun k => ?_) (hi (hn q2))
        simp only [stipendtop_WholeCodes.l0]
        rw [if_pos p1, if_pos p2, if_pos p1, hr, if_neg q1, hw1, hw2, if_neg q2, hw3]
        congr 1
theorem text_ne2 {sc kd am fl : Int} (al : Bool) (h : Fit sc kd am fl) : textOf sc kd am fl al ≠ [] := by
  obtain ⟨c, t, hm, _⟩ := mid_head h
  unfold textOf
  rw [hm]
  simp
theorem whole_j0 {sc kd am fl : Int} (al : Bool) (ws : List ByteArray) (n : Int) : Ev (fun k => stipendtop_WholeCodes.j0 k ws n false sc kd am fl al) true := by
  have j1t : (want sc kd am fl ≠ 0 ∨ ws.length > 20) → ∀ s, Ev (fun k => stipendtop_WholeCodes.j1 k ws n s true sc kd am fl al) true := by
    intro q s
    refine Ev.step (fun k => by simp only [stipendtop_WholeCodes.j1]; rw [if_pos trivial]) (Ev.bind (check_ev sc kd am fl al) ?_)
    by_cases c : want sc kd am fl = 0
    · refine Ev.congr (fun k => if_pos c) ?_
      rw [decide_eq_true (show (ws.length : Int) > 20 by rcases q with q | q; exact absurd c q; omega)]
      exact Ev.now _
    · exact Ev.congr (fun k => if_neg c) (Ev.now _)
  by_cases c : want sc kd am fl = 0
  · have h := fit_of c
    refine Ev.step (fun k => by simp only [stipendtop_WholeCodes.j0]; rw [if_neg (by simp)]) (Ev.bind (text_ev al h) ?_)
    refine Ev.congr (fun k => if_neg (by rw [B_list]; exact text_ne2 al h)) ?_
    by_cases q : ws.length > 20
    · rw [decide_eq_true (show (ws.length : Int) > 20 by omega)]
      exact j1t (.inr q) _
    · rw [decide_eq_false (show ¬ (ws.length : Int) > 20 by omega)]
      have ht := text_len al h
      refine Ev.step (fun k => ?_) (whole_l0 al h ws (by omega) n ws.length 0 (by omega) (by omega) (textOf sc kd am fl al).length (by simp [sumL]) (by omega) (by simp))
      simp only [stipendtop_WholeCodes.j1]
      rw [if_neg (by simp), B_size]
      rfl
  · refine Ev.step (fun k => by simp only [stipendtop_WholeCodes.j0]; rw [if_neg (by simp)]) (Ev.bind (text_bad al c) ?_)
    refine Ev.congr (fun k => if_pos (by rw [B_list])) ?_
    exact j1t (.inl c) _
theorem parse_5L : parse [53, 76] = (0, 1, 5000, 0, false, 0) := by decide +kernel
theorem wholeCodes_pure (sc kd am fl : Int) (al : Bool) (ws : List ByteArray) (n : Int) (hsc : In sc) (hkd : In kd) (ham : In am) (hfl : In fl) (hn : In n) : ∃ k, stipendtop_WholeCodes.f k sc kd am fl al ws n = some true := by
  refine Ev.rounds ?_
  have hp := parse_ev [53, 76] (by unfold Short; simp)
  rw [parse_5L] at hp
  refine Ev.congr (f := fun k => (code_Parse.f k (B [53, 76])).bind fun bt279 => (if bt279.2.2.2.2.2 = 0 then (if bt279.2.2.1 = 5000 then ((word_Name.f k (⟨#[97]⟩ : ByteArray)).bind fun t286 => (stipendtop_WholeCodes.j0 k ws n (!t286) sc kd am fl al)) else (stipendtop_WholeCodes.j0 k ws n true sc kd am fl al)) else (stipendtop_WholeCodes.j0 k ws n true sc kd am fl al))) (fun k => rfl) (Ev.bind hp ?_)
  refine Ev.congr (fun k => (if_pos rfl).trans (if_pos rfl)) (Ev.bind name_a ?_)
  exact whole_j0 al ws n
end Go.Proofs.YtodijkdmcjnpkaaDoor.P
