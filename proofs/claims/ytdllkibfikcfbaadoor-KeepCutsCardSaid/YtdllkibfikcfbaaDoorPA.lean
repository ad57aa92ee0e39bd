import Derived.Test.YtdllkibfikcfbaaDoorKx6
/- Plain laws, without memory: which tables may be. -/
namespace Go.Proofs.YtdllkibfikcfbaaDoor.PA
open Go.RowKit Go.Proofs.YtdllkibfikcfbaaDoorW.PrintWords Go.Proofs.YtdllkibfikcfbaaDoorW.PrintLast Go.Proofs.YtdllkibfikcfbaaDoorW.PrintMore Go.Proofs.YtdllkibfikcfbaaDoor.K
set_option linter.unusedVariables false
set_option linter.unusedSimpArgs false
theorem ev_one {α : Type} {g : Nat → Option α} {a b : α} (h : Ev g a) (h' : Ev g b) : a = b := by
  obtain ⟨K, hK⟩ := h
  obtain ⟨K', hK'⟩ := h'
  have h1 := hK (max K K') (Nat.le_max_left _ _)
  have h2 := hK' (max K K') (Nat.le_max_right _ _)
  rw [h1] at h2
  exact Option.some.inj h2
theorem wrap_in {x : Int} (h0 : -9223372036854775808 ≤ x) (h1 : x ≤ 9223372036854775807) : wrap64 x = x := by
  unfold wrap64
  omega
theorem wrap_succ {j n : Nat} (h : j < n) (hn : n ≤ 9223372036854775807) : wrap64 ((j : Int) + 1) = ((j + 1 : Nat) : Int) := by
  rw [wrap_in (by omega) (by omega)]
  omega
theorem rd41 (l : List S41) (j : Nat) (h : j < l.length) : rd_T41 l (j : Int) = l[j] := by simp [rd_T41, h]
theorem rd43 (l : List S43) (j : Nat) (h : j < l.length) : rd_T43 l (j : Int) = l[j] := by simp [rd_T43, h]
theorem rd58 (l : List S58) (j : Nat) (h : j < l.length) : rd_T58 l (j : Int) = l[j] := by simp [rd_T58, h]
theorem rdL2 (l : List (List S41)) (j : Nat) (h : j < l.length) : rd_L2 l (j : Int) = l[j] := by simp [rd_L2, h]
theorem rate_f (a : Int) : frac_Rate.f a = some (decide (0 ≤ a ∧ a ≤ 10000)) := by
  unfold frac_Rate.f
  split
  · simp; omega
  · simp; omega
theorem mode_f (a : Int) : frac_Mode.f a = some (decide (1 ≤ a ∧ a ≤ 6)) := by
  unfold frac_Mode.f
  split
  · simp; omega
  · simp; omega
theorem sign_f (a : Int) : table_sign.f a = some (decide (-1 ≤ a ∧ a ≤ 1)) := by
  unfold table_sign.f
  split
  · simp; omega
  · simp; omega
section
variable (l : List S41)
def RatesFrom (j : Nat) : Prop := ∀ m (h : m < l.length), j ≤ m → 0 ≤ l[m].f1 ∧ l[m].f1 ≤ 10000
theorem band_loop (hl : l.length ≤ 9223372036854775807) : ∀ d j : Nat, l.length - j = d → j < l.length →
    ∃ e, Ev (fun k => band_Check.l0 k l (j : Int)) e ∧ (e = 0 → RatesFrom l j) := by
  intro d
  induction d with
  | zero => intro j h1 h2; omega
  | succ d ih =>
    intro j hd hj
    have h4 : ∀ b : Bool, (b = false → 0 ≤ l[j].f1 ∧ l[j].f1 ≤ 10000) → ∃ e, Ev (fun k => band_Check.j4 k l (j : Int) b) e ∧ (e = 0 → RatesFrom l j) := by
      intro b hb
      cases b with
      | true => exact ⟨50, Ev.step (f := fun _ => some 50) (fun k => by simp only [band_Check.j4]; rfl) (Ev.now _), fun h => absurd h (by decide)⟩
      | false =>
        have hr := hb rfl
        by_cases hlt : j + 1 < l.length
        · obtain ⟨e, he, hf⟩ := ih (j + 1) (by omega) hlt
          refine ⟨e, Ev.step (f := fun k => band_Check.l0 k l ((j + 1 : Nat) : Int)) (fun k => by simp only [band_Check.j4]; rw [if_neg (by simp), wrap_succ hj hl, if_pos (by omega)]) he, fun h0 m hm hjm => ?_⟩
          rcases Nat.eq_or_lt_of_le hjm with rfl | h
          · exact hr
          · exact hf h0 m hm h
        · refine ⟨0, Ev.step (f := fun _ => some 0) (fun k => by simp only [band_Check.j4]; rw [if_neg (by simp), wrap_succ hj hl, if_neg (by omega)]) (Ev.now _), fun _ m hm hjm => ?_⟩
          have : m = j := by omega
          subst this
          exact hr
    have h3 : ∀ (b : Bool) (x0 : Int), ∃ e, Ev (fun k => band_Check.j3 k l (j : Int) b x0 l[j].f1 l[j].f2) e ∧ (e = 0 → RatesFrom l j) := by
      intro b x0
      cases b with
      | true => exact ⟨6, Ev.step (f := fun _ => some 6) (fun k => by simp only [band_Check.j3]; rfl) (Ev.now _), fun h => absurd h (by decide)⟩
      | false =>
        by_cases hr : 0 ≤ l[j].f1 ∧ l[j].f1 ≤ 10000
        · obtain ⟨e, he, hf⟩ := h4 (!decide (0 ≤ l[j].f2 ∧ l[j].f2 ≤ 10000)) (fun _ => hr)
          exact ⟨e, Ev.step (f := fun k => band_Check.j4 k l (j : Int) (!decide (0 ≤ l[j].f2 ∧ l[j].f2 ≤ 10000))) (fun k => by simp only [band_Check.j3, rate_f, Option.bind_some]; rw [if_neg (by simp), if_pos (by simpa using hr)]) he, hf⟩
        · obtain ⟨e, he, hf⟩ := h4 true (fun h => by cases h)
          exact ⟨e, Ev.step (f := fun k => band_Check.j4 k l (j : Int) true) (fun k => by simp only [band_Check.j3, rate_f, Option.bind_some]; rw [if_neg (by simp), if_neg (by simpa using hr)]) he, hf⟩
    have h2 : ∀ (b : Bool) (x0 : Int), ∃ e, Ev (fun k => band_Check.j2 k l (j : Int) b x0 l[j].f1 l[j].f2) e ∧ (e = 0 → RatesFrom l j) := by
      intro b x0
      cases b with
      | true => exact ⟨1, Ev.step (f := fun _ => some 1) (fun k => by simp only [band_Check.j2]; rfl) (Ev.now _), fun h => absurd h (by decide)⟩
      | false =>
        by_cases hp : (j : Int) > 0
        · have hw : wrap64 ((j : Int) - 1) = ((j - 1 : Nat) : Int) := by rw [wrap_in (by omega) (by omega)]; omega
          obtain ⟨e, he, hf⟩ := h3 (decide (x0 ≤ (rd_T41 l ((j - 1 : Nat) : Int)).f0)) x0
          exact ⟨e, Ev.step (f := fun k => band_Check.j3 k l (j : Int) (decide (x0 ≤ (rd_T41 l ((j - 1 : Nat) : Int)).f0)) x0 l[j].f1 l[j].f2) (fun k => by simp only [band_Check.j2]; rw [if_neg (by simp), if_pos hp, hw, if_pos (by omega), if_pos (by omega)]) he, hf⟩
        · obtain ⟨e, he, hf⟩ := h3 false x0
          exact ⟨e, Ev.step (f := fun k => band_Check.j3 k l (j : Int) false x0 l[j].f1 l[j].f2) (fun k => by simp only [band_Check.j2]; rw [if_neg (by simp), if_neg hp]) he, hf⟩
    have key : ∀ b : Bool, (∀ k, band_Check.l0 (k + 1) l (j : Int) = band_Check.j2 k l (j : Int) b l[j].f0 l[j].f1 l[j].f2) → ∃ e, Ev (fun k => band_Check.l0 k l (j : Int)) e ∧ (e = 0 → RatesFrom l j) := by
      intro b hb
      obtain ⟨e, he, hf⟩ := h2 b l[j].f0
      exact ⟨e, Ev.step hb he, hf⟩
    have hj' : (j : Int) < (l.length : Int) := by omega
    have h0' : (0 : Int) ≤ (j : Int) := by omega
    by_cases a : l[j].f0 < 0
    · exact key true (fun k => by simp only [band_Check.l0, rd41 l j hj]; rw [if_pos h0', if_pos hj', if_pos a])
    · by_cases b : l[j].f0 > 100000000000
      · exact key true (fun k => by simp only [band_Check.l0, rd41 l j hj]; rw [if_pos h0', if_pos hj', if_neg a, if_pos b])
      · by_cases c : (j : Int) = 0
        · exact key (l[j].f0 != 0) (fun k => by simp only [band_Check.l0, rd41 l j hj]; rw [if_pos h0', if_pos hj', if_neg a, if_neg b, if_pos c])
        · exact key false (fun k => by simp only [band_Check.l0, rd41 l j hj]; rw [if_pos h0', if_pos hj', if_neg a, if_neg b, if_neg c])
structure BandsFit : Prop where
  lo : 1 ≤ l.length
  hi : l.length ≤ 8
  rates : ∀ b ∈ l, 0 ≤ b.f1 ∧ b.f1 ≤ 10000
theorem band_total (hl : l.length ≤ 9223372036854775807) : ∃ e, Ev (fun k => band_Check.f k l) e ∧ (e = 0 → BandsFit l) := by
  by_cases h0 : (l.length : Int) = 0
  · exact ⟨2, Ev.congr (f := fun k => band_Check.j0 k l true) (fun k => by simp only [band_Check.f]; rw [if_pos h0]) (Ev.step (f := fun _ => some 2) (fun k => by simp only [band_Check.j0]; rfl) (Ev.now _)), fun h => absurd h (by decide)⟩
  · by_cases h8 : (l.length : Int) > 8
    · exact ⟨2, Ev.congr (f := fun k => band_Check.j0 k l true) (fun k => by simp only [band_Check.f]; rw [if_neg h0, decide_eq_true h8]) (Ev.step (f := fun _ => some 2) (fun k => by simp only [band_Check.j0]; rfl) (Ev.now _)), fun h => absurd h (by decide)⟩
    · obtain ⟨e, he, hf⟩ := band_loop l hl l.length 0 (by omega) (by omega)
      refine ⟨e, Ev.congr (f := fun k => band_Check.j0 k l false) (fun k => by simp only [band_Check.f]; rw [if_neg h0, decide_eq_false h8]) (Ev.step (f := fun k => band_Check.l0 k l ((0 : Nat) : Int)) (fun k => by simp only [band_Check.j0]; rfl) he), fun h => ⟨by omega, by omega, fun b hb => ?_⟩⟩
      obtain ⟨m, hm, rfl⟩ := List.mem_iff_getElem.1 hb
      exact hf h m hm (by omega)
end
theorem all_drop {α : Type} {l : List α} {j : Nat} (hj : j < l.length) (p : α → Prop) : (∀ x ∈ l.drop j, p x) ↔ p l[j] ∧ ∀ x ∈ l.drop (j + 1), p x := by
  rw [List.drop_eq_getElem_cons hj, List.forall_mem_cons]
theorem ex_drop {α : Type} {l : List α} {j : Nat} (hj : j < l.length) (p : α → Prop) : (∃ x ∈ l.drop j, p x) ↔ p l[j] ∨ ∃ x ∈ l.drop (j + 1), p x := by
  rw [List.drop_eq_getElem_cons hj]
  constructor
  · rintro ⟨x, hx, hp⟩
    rcases List.mem_cons.1 hx with rfl | hx
    · exact .inl hp
    · exact .inr ⟨x, hx, hp⟩
  · rintro (hp | ⟨x, hx, hp⟩)
    · exact ⟨_, List.mem_cons_self, hp⟩
    · exact ⟨x, List.mem_cons_of_mem _ hx, hp⟩
def BandOK (l : List S41) : Prop := Ev (fun k => band_Check.f k l) 0
theorem bandOK_iff {l : List S41} {e : Int} (h : Ev (fun k => band_Check.f k l) e) : BandOK l ↔ e = 0 := ⟨fun h0 => ev_one h h0, fun h0 => by subst h0; exact h⟩
theorem bandOK_fit {l : List S41} (hl : l.length ≤ 9223372036854775807) (h : BandOK l) : BandsFit l := by
  obtain ⟨e, he, hf⟩ := band_total l hl
  exact hf (ev_one he h)
def SchemeFit (b : List S41) : Prop := BandOK b ∧ ∀ x ∈ b, x.f2 = 0
def SchemesFit (l : List (List S41)) : Prop := 1 ≤ l.length ∧ l.length ≤ 8 ∧ ∀ b ∈ l, SchemeFit b
theorem scheme_inner (l : List (List S41)) (j : Nat) (b : List S41) (hb : b.length ≤ 9223372036854775807) (R : Prop)
    (hr : ∃ e, Ev (fun k => table_schemes.l0 k l (l.length : Int) (wrap64 ((j : Int) + 1))) e ∧ (e = 0 ↔ R)) :
    ∀ d m : Nat, b.length - m = d → m ≤ b.length → ∃ e, Ev (fun k => table_schemes.l1 k l (l.length : Int) (j : Int) b (b.length : Int) (m : Int)) e ∧ (e = 0 ↔ (∀ x ∈ b.drop m, x.f2 = 0) ∧ R) := by
  intro d
  induction d with
  | zero =>
    intro m h1 h2
    obtain ⟨e, he, hf⟩ := hr
    refine ⟨e, Ev.step (f := fun k => table_schemes.l0 k l (l.length : Int) (wrap64 ((j : Int) + 1))) (fun k => by simp only [table_schemes.l1]; rw [if_neg (by omega)]) he, ?_⟩
    rw [List.drop_of_length_le (by omega)]
    simp [hf]
  | succ d ih =>
    intro m h1 h2
    have hm : m < b.length := by omega
    rw [all_drop hm]
    by_cases h0 : b[m].f2 = 0
    · obtain ⟨e, he, hf⟩ := ih (m + 1) (by omega) (by omega)
      refine ⟨e, Ev.step (f := fun k => table_schemes.l1 k l (l.length : Int) (j : Int) b (b.length : Int) ((m + 1 : Nat) : Int)) (fun k => by simp only [table_schemes.l1, rd41 b m hm]; rw [if_pos (by omega), if_pos (by omega), if_pos (by omega), if_pos h0, wrap_succ hm hb]) he, ?_⟩
      rw [hf]
      simp [h0]
    · refine ⟨50, Ev.step (f := fun _ => some 50) (fun k => by simp only [table_schemes.l1, rd41 b m hm]; rw [if_pos (by omega), if_pos (by omega), if_pos (by omega), if_neg h0]) (Ev.now _), ?_⟩
      simp [h0]
theorem scheme_outer (l : List (List S41)) (hl : l.length ≤ 9223372036854775807) (hb : ∀ b ∈ l, b.length ≤ 9223372036854775807) :
    ∀ d j : Nat, l.length - j = d → j ≤ l.length → ∃ e, Ev (fun k => table_schemes.l0 k l (l.length : Int) (j : Int)) e ∧ (e = 0 ↔ ∀ b ∈ l.drop j, SchemeFit b) := by
  intro d
  induction d with
  | zero =>
    intro j h1 h2
    refine ⟨0, Ev.step (f := fun _ => some 0) (fun k => by simp only [table_schemes.l0]; rw [if_neg (by omega)]) (Ev.now _), ?_⟩
    rw [List.drop_of_length_le (by omega)]
    simp
  | succ d ih =>
    intro j h1 h2
    have hj : j < l.length := by omega
    have hbl := hb l[j] (List.getElem_mem hj)
    rw [all_drop hj]
    obtain ⟨e1, he1, hf1⟩ := band_total l[j] hbl
    by_cases h0 : e1 = 0
    · subst h0
      obtain ⟨e2, he2, hf2⟩ := ih (j + 1) (by omega) (by omega)
      rw [← wrap_succ hj hl] at he2
      obtain ⟨e, he, hf⟩ := scheme_inner l j l[j] hbl _ ⟨e2, he2, hf2⟩ l[j].length 0 (by omega) (by omega)
      refine ⟨e, Ev.step (f := fun k => (band_Check.f k l[j]).bind fun t => if t = 0 then table_schemes.l1 k l (l.length : Int) (j : Int) l[j] (l[j].length : Int) 0 else some t) (fun k => by simp only [table_schemes.l0, rdL2 l j hj]; rw [if_pos (by omega), if_pos (by omega), if_pos (by omega)]) (Ev.bind he1 (Ev.congr (fun k => if_pos rfl) he)), ?_⟩
      rw [hf]
      have hbo : BandOK l[j] := he1
      simp [SchemeFit, hbo]
    · refine ⟨e1, Ev.step (f := fun k => (band_Check.f k l[j]).bind fun t => if t = 0 then table_schemes.l1 k l (l.length : Int) (j : Int) l[j] (l[j].length : Int) 0 else some t) (fun k => by simp only [table_schemes.l0, rdL2 l j hj]; rw [if_pos (by omega), if_pos (by omega), if_pos (by omega)]) (Ev.bind he1 (Ev.congr (fun k => if_neg h0) (Ev.now _))), ?_⟩
      have hno : ¬ BandOK l[j] := fun h => h0 ((bandOK_iff he1).1 h)
      simp [SchemeFit, hno, h0]
theorem schemes_total (l : List (List S41)) (hl : l.length ≤ 9223372036854775807) (hb : ∀ b ∈ l, b.length ≤ 9223372036854775807) (c : List S43) (n : List S58) (x y : Int) :
    ∃ e, Ev (fun k => table_schemes.f k l c n x y) e ∧ (e = 0 ↔ SchemesFit l) := by
  by_cases h0 : (l.length : Int) = 0
  · exact ⟨2, Ev.congr (f := fun k => table_schemes.j0 k true l c n x y) (fun k => by simp only [table_schemes.f]; rw [if_pos h0]) (Ev.step (f := fun _ => some 2) (fun k => by simp only [table_schemes.j0]; rfl) (Ev.now _)), ⟨fun h => absurd h (by decide), fun h => by have := h.1; omega⟩⟩
  · by_cases h8 : (l.length : Int) > 8
    · exact ⟨2, Ev.congr (f := fun k => table_schemes.j0 k true l c n x y) (fun k => by simp only [table_schemes.f]; rw [if_neg h0, decide_eq_true h8]) (Ev.step (f := fun _ => some 2) (fun k => by simp only [table_schemes.j0]; rfl) (Ev.now _)), ⟨fun h => absurd h (by decide), fun h => by have := h.2.1; omega⟩⟩
    · obtain ⟨e, he, hf⟩ := scheme_outer l hl hb l.length 0 (by omega) (by omega)
      refine ⟨e, Ev.congr (f := fun k => table_schemes.j0 k false l c n x y) (fun k => by simp only [table_schemes.f]; rw [if_neg h0, decide_eq_false h8]) (Ev.step (f := fun k => table_schemes.l0 k l (l.length : Int) ((0 : Nat) : Int)) (fun k => by simp only [table_schemes.j0]; rfl) he), ?_⟩
      rw [hf, List.drop_zero]
      exact ⟨fun h => ⟨by omega, by omega, h⟩, fun h => h.2.2⟩
theorem name_loop (s : ByteArray) (hs : s.size ≤ 9223372036854775807) : ∀ d j : Nat, s.size - j = d → j ≤ s.size → ∃ b, Ev (fun k => word_Name.l0 k s (s.size : Int) (j : Int)) b := by
  intro d
  induction d with
  | zero => intro j h1 h2; exact ⟨true, Ev.step (f := fun _ => some true) (fun k => by simp only [word_Name.l0]; rw [if_neg (by omega)]) (Ev.now _)⟩
  | succ d ih =>
    intro j h1 h2
    have hj : j < s.size := by omega
    obtain ⟨b, hb⟩ := ih (j + 1) (by omega) (by omega)
    have p1 : (j : Int) < (s.size : Int) := by omega
    have p2 : (0 : Int) ≤ (j : Int) := by omega
    have go : (∀ k, word_Name.l0 (k + 1) s (s.size : Int) (j : Int) = word_Name.l0 k s (s.size : Int) (wrap64 ((j : Int) + 1))) → ∃ b, Ev (fun k => word_Name.l0 k s (s.size : Int) (j : Int)) b := by
      intro h
      rw [wrap_succ hj hs] at h
      exact ⟨b, Ev.step h hb⟩
    have no : (∀ k, word_Name.l0 (k + 1) s (s.size : Int) (j : Int) = some false) → ∃ b, Ev (fun k => word_Name.l0 k s (s.size : Int) (j : Int)) b := fun h => ⟨false, Ev.step h (Ev.now _)⟩
    by_cases a : bt s (j : Int) ≥ 97
    · by_cases b : bt s (j : Int) ≤ 122
      · exact go (fun k => by simp only [word_Name.l0]; rw [if_pos p1, if_pos p2, if_pos p1, if_pos a, if_pos b])
      · by_cases c : (j : Int) = 0
        · exact no (fun k => by simp only [word_Name.l0]; rw [if_pos p1, if_pos p2, if_pos p1, if_pos a, if_neg b, if_pos c])
        · by_cases e : bt s (j : Int) < 48
          · by_cases f : bt s (j : Int) = 45
            · exact go (fun k => by simp only [word_Name.l0]; rw [if_pos p1, if_pos p2, if_pos p1, if_pos a, if_neg b, if_neg c, if_pos e, if_pos f])
            · exact no (fun k => by simp only [word_Name.l0]; rw [if_pos p1, if_pos p2, if_pos p1, if_pos a, if_neg b, if_neg c, if_pos e, if_neg f])
          · by_cases g : bt s (j : Int) > 57
            · by_cases f : bt s (j : Int) = 45
              · exact go (fun k => by simp only [word_Name.l0]; rw [if_pos p1, if_pos p2, if_pos p1, if_pos a, if_neg b, if_neg c, if_neg e, if_pos g, if_pos f])
              · exact no (fun k => by simp only [word_Name.l0]; rw [if_pos p1, if_pos p2, if_pos p1, if_pos a, if_neg b, if_neg c, if_neg e, if_pos g, if_neg f])
            · exact go (fun k => by simp only [word_Name.l0]; rw [if_pos p1, if_pos p2, if_pos p1, if_pos a, if_neg b, if_neg c, if_neg e, if_neg g])
    · by_cases c : (j : Int) = 0
      · exact no (fun k => by simp only [word_Name.l0]; rw [if_pos p1, if_pos p2, if_pos p1, if_neg a, if_pos c])
      · by_cases e : bt s (j : Int) < 48
        · by_cases f : bt s (j : Int) = 45
          · exact go (fun k => by simp only [word_Name.l0]; rw [if_pos p1, if_pos p2, if_pos p1, if_neg a, if_neg c, if_pos e, if_pos f])
          · exact no (fun k => by simp only [word_Name.l0]; rw [if_pos p1, if_pos p2, if_pos p1, if_neg a, if_neg c, if_pos e, if_neg f])
        · by_cases g : bt s (j : Int) > 57
          · by_cases f : bt s (j : Int) = 45
            · exact go (fun k => by simp only [word_Name.l0]; rw [if_pos p1, if_pos p2, if_pos p1, if_neg a, if_neg c, if_neg e, if_pos g, if_pos f])
            · exact no (fun k => by simp only [word_Name.l0]; rw [if_pos p1, if_pos p2, if_pos p1, if_neg a, if_neg c, if_neg e, if_pos g, if_neg f])
          · exact go (fun k => by simp only [word_Name.l0]; rw [if_pos p1, if_pos p2, if_pos p1, if_neg a, if_neg c, if_neg e, if_neg g])
theorem name_total (s : ByteArray) (hs : s.size ≤ 9223372036854775807) : ∃ b, Ev (fun k => word_Name.f k s) b := by
  obtain ⟨b, hb⟩ := name_loop s hs s.size 0 (by omega) (by omega)
  have h1 : ∃ b, Ev (fun k => word_Name.j0 k s true) b := ⟨false, Ev.step (f := fun _ => some false) (fun k => by simp only [word_Name.j0]; rfl) (Ev.now _)⟩
  have h2 : ∃ b, Ev (fun k => word_Name.j0 k s false) b := ⟨b, Ev.step (f := fun k => word_Name.l0 k s (s.size : Int) ((0 : Nat) : Int)) (fun k => by simp only [word_Name.j0]; rfl) hb⟩
  by_cases h : s.toList = ([] : List UInt8)
  · obtain ⟨b, hb⟩ := h1
    exact ⟨b, Ev.congr (fun k => by simp only [word_Name.f]; rw [if_pos h]) hb⟩
  · cases hd : decide ((s.size : Int) > 16) with
    | true => obtain ⟨b, hb⟩ := h1; exact ⟨b, Ev.congr (fun k => by simp only [word_Name.f]; rw [if_neg h, hd]) hb⟩
    | false => obtain ⟨b, hb⟩ := h2; exact ⟨b, Ev.congr (fun k => by simp only [word_Name.f]; rw [if_neg h, hd]) hb⟩
def NameOK (s : ByteArray) : Prop := Ev (fun k => word_Name.f k s) true
theorem nameOK_iff {s : ByteArray} {b : Bool} (h : Ev (fun k => word_Name.f k s) b) : NameOK s ↔ b = true := ⟨fun h0 => ev_one h h0, fun h0 => by subst h0; exact h⟩
theorem has43_loop (l : List S43) (hl : l.length ≤ 9223372036854775807) (s : ByteArray) : ∀ d j : Nat, l.length - j = d → j ≤ l.length → ∃ r, Ev (fun k => api_Contrib_39.l0 k l s (l.length : Int) (j : Int)) r ∧ (r ≥ 0 ↔ ∃ c ∈ l.drop j, c.f0.toList = s.toList) := by
  intro d
  induction d with
  | zero =>
    intro j h1 h2
    refine ⟨-1, Ev.step (f := fun _ => some (-1)) (fun k => by simp only [api_Contrib_39.l0]; rw [if_neg (by omega)]) (Ev.now _), ?_⟩
    rw [List.drop_of_length_le (by omega)]
    simp
  | succ d ih =>
    intro j h1 h2
    have hj : j < l.length := by omega
    rw [ex_drop hj]
    by_cases h : l[j].f0.toList = s.toList
    · refine ⟨(j : Int), Ev.step (f := fun _ => some (j : Int)) (fun k => by simp only [api_Contrib_39.l0, table_contribs_1.f, Option.bind_some, rd43 l j hj]; rw [if_pos (by omega), if_pos (by omega), if_pos (by omega), if_pos (by simpa using h)]) (Ev.now _), ?_⟩
      simp [h]
    · obtain ⟨r, hr, hf⟩ := ih (j + 1) (by omega) (by omega)
      refine ⟨r, Ev.step (f := fun k => api_Contrib_39.l0 k l s (l.length : Int) ((j + 1 : Nat) : Int)) (fun k => by simp only [api_Contrib_39.l0, table_contribs_1.f, Option.bind_some, rd43 l j hj]; rw [if_pos (by omega), if_pos (by omega), if_pos (by omega), if_neg (by simpa using h), wrap_succ hj hl]) hr, ?_⟩
      rw [hf]
      simp [h]
theorem has43 (l : List S43) (hl : l.length ≤ 9223372036854775807) (s : ByteArray) : ∃ b, Ev (fun k => api_Contrib_34.f k l s) b ∧ (b = true ↔ ∃ c ∈ l, c.f0.toList = s.toList) := by
  obtain ⟨r, hr, hf⟩ := has43_loop l hl s l.length 0 (by omega) (by omega)
  refine ⟨decide (r ≥ 0), Ev.congr (f := fun k => (api_Contrib_39.l0 k l s (l.length : Int) ((0 : Nat) : Int)).bind fun t => some (decide (t ≥ 0))) (fun k => rfl) (Ev.bind hr (Ev.now _)), ?_⟩
  rw [decide_eq_true_iff, hf, List.drop_zero]
theorem has58_loop (l : List S58) (hl : l.length ≤ 9223372036854775807) (s : ByteArray) : ∀ d j : Nat, l.length - j = d → j ≤ l.length → ∃ r, Ev (fun k => api_Kind_40.l0 k l s (l.length : Int) (j : Int)) r := by
  intro d
  induction d with
  | zero =>
    intro j h1 h2
    exact ⟨-1, Ev.step (f := fun _ => some (-1)) (fun k => by simp only [api_Kind_40.l0]; rw [if_neg (by omega)]) (Ev.now _)⟩
  | succ d ih =>
    intro j h1 h2
    have hj : j < l.length := by omega
    by_cases h : l[j].f0.toList = s.toList
    · exact ⟨(j : Int), Ev.step (f := fun _ => some (j : Int)) (fun k => by simp only [api_Kind_40.l0, table_kinds_1.f, Option.bind_some, rd58 l j hj]; rw [if_pos (by omega), if_pos (by omega), if_pos (by omega), if_pos (by simpa using h)]) (Ev.now _)⟩
    · obtain ⟨r, hr⟩ := ih (j + 1) (by omega) (by omega)
      exact ⟨r, Ev.step (f := fun k => api_Kind_40.l0 k l s (l.length : Int) ((j + 1 : Nat) : Int)) (fun k => by simp only [api_Kind_40.l0, table_kinds_1.f, Option.bind_some, rd58 l j hj]; rw [if_pos (by omega), if_pos (by omega), if_pos (by omega), if_neg (by simpa using h), wrap_succ hj hl]) hr⟩
theorem has58 (l : List S58) (hl : l.length ≤ 9223372036854775807) (s : ByteArray) : ∃ b, Ev (fun k => api_Kind_36.f k l s) b := by
  obtain ⟨r, hr⟩ := has58_loop l hl s l.length 0 (by omega) (by omega)
  exact ⟨decide (r ≥ 0), Ev.congr (f := fun k => (api_Kind_40.l0 k l s (l.length : Int) ((0 : Nat) : Int)).bind fun t => some (decide (t ≥ 0))) (fun k => rfl) (Ev.bind hr (Ev.now _))⟩
structure ContribFit (c : S43) : Prop where
  name : NameOK c.f0
  base : c.f1 = 1 ∨ c.f1 = 2
  mode : 1 ≤ c.f5 ∧ c.f5 ≤ 6
  period : 0 ≤ c.f3 ∧ c.f3 ≤ 100000000000
  year : 0 ≤ c.f4 ∧ c.f4 ≤ 100000000000
  bands : BandOK c.f2
def Other (a b : S43) : Prop := a.f0.toList ≠ b.f0.toList
def ContribsFit (l : List S43) : Prop := l.length ≤ 6 ∧ (∀ c ∈ l, ContribFit c) ∧ l.Pairwise Other
def ContribsFrom (l : List S43) (j : Nat) : Prop := ∀ i (h : i < l.length), j ≤ i → ContribFit l[i] ∧ ∀ m (hm : m < i), Other (l[m]'(Nat.lt_trans hm h)) l[i]
theorem from_succ {l : List S43} {j : Nat} (hj : j < l.length) : ContribsFrom l j ↔ (ContribFit l[j] ∧ ∀ m (hm : m < j), Other (l[m]'(Nat.lt_trans hm hj)) l[j]) ∧ ContribsFrom l (j + 1) := by
  constructor
  · intro h
    exact ⟨h j hj (Nat.le_refl _), fun i hi hji => h i hi (by omega)⟩
  · rintro ⟨h1, h2⟩ i hi hji
    rcases Nat.eq_or_lt_of_le hji with rfl | hlt
    · exact h1
    · exact h2 i hi hlt
section
variable (l : List S43) (a : List (List S41)) (n : List S58) (x y : Int)
theorem contrib_loop (hl : l.length ≤ 9223372036854775807) (hc : ∀ c ∈ l, c.f0.size ≤ 9223372036854775807 ∧ c.f2.length ≤ 9223372036854775807) : ∀ d j : Nat, l.length - j = d → j ≤ l.length →
    ∃ e, Ev (fun k => table_contribs.l0 k l (l.length : Int) (j : Int) a l n x y) e ∧ (e = 0 ↔ ContribsFrom l j) := by
  intro d
  induction d with
  | zero =>
    intro j h1 h2
    exact ⟨0, Ev.step (f := fun _ => some 0) (fun k => by simp only [table_contribs.l0]; rw [if_neg (by omega)]) (Ev.now _), ⟨fun _ i hi hji => by omega, fun _ => rfl⟩⟩
  | succ d ih =>
    intro j h1 h2
    have hj : j < l.length := by omega
    obtain ⟨hs, hb⟩ := hc l[j] (List.getElem_mem hj)
    rw [from_succ hj]
    generalize hcj : l[j] = c at *
    have hrd : rd_T43 l (j : Int) = c := by rw [rd43 l j hj, hcj]
    obtain ⟨en, hen⟩ := name_total c.f0 hs
    obtain ⟨eh, heh, hfh⟩ := has43 (l.take j) (by rw [List.length_take]; omega) c.f0
    obtain ⟨eb, heb, hfb⟩ := band_total c.f2 hb
    obtain ⟨er, her, hfr⟩ := ih (j + 1) (by omega) (by omega)
    have p1 : (j : Int) < (l.length : Int) := by omega
    have p2 : (0 : Int) ≤ (j : Int) := by omega
    have p3 : (j : Int) ≤ (l.length : Int) := by omega
    have hhas : eh = true ↔ ∃ m, ∃ (hm : m < j), (l[m]'(Nat.lt_trans hm hj)).f0.toList = c.f0.toList := by
      rw [hfh]
      constructor
      · rintro ⟨z, hz, he⟩
        obtain ⟨m, hm, rfl⟩ := List.mem_iff_getElem.1 hz
        rw [List.length_take] at hm
        rw [List.getElem_take] at he
        exact ⟨m, by omega, he⟩
      · rintro ⟨m, hm, he⟩
        refine ⟨(l.take j)[m]'(by rw [List.length_take]; omega), List.getElem_mem _, ?_⟩
        rw [List.getElem_take]
        exact he
    have h3 : ∀ b : Bool, ∃ e, Ev (fun k => table_contribs.j3 k l (l.length : Int) (j : Int) b a l n x y c.f0 c.f1 c.f2 c.f3 c.f4 c.f5) e ∧ (e = 0 ↔ b = false ∧ BandOK c.f2 ∧ ContribsFrom l (j + 1)) := by
      intro b
      cases b with
      | true => exact ⟨1, Ev.step (f := fun _ => some 1) (fun k => by simp only [table_contribs.j3]; rfl) (Ev.now _), by simp⟩
      | false =>
        rw [bandOK_iff heb]
        by_cases h0 : eb = 0
        · subst h0
          refine ⟨er, Ev.step (f := fun k => (band_Check.f k c.f2).bind fun t => if t = 0 then table_contribs.l0 k l (l.length : Int) ((j + 1 : Nat) : Int) a l n x y else some t) (fun k => by simp only [table_contribs.j3]; rw [if_neg (by simp), wrap_succ hj hl]) (Ev.bind heb (Ev.congr (fun k => if_pos rfl) her)), by simp [hfr]⟩
        · exact ⟨eb, Ev.step (f := fun k => (band_Check.f k c.f2).bind fun t => if t = 0 then table_contribs.l0 k l (l.length : Int) ((j + 1 : Nat) : Int) a l n x y else some t) (fun k => by simp only [table_contribs.j3]; rw [if_neg (by simp), wrap_succ hj hl]) (Ev.bind heb (Ev.congr (fun k => if_neg h0) (Ev.now _))), by simp [h0]⟩
    have hx : ∀ (b : Bool) (h : ∀ k, table_contribs.j2 (k + 1) l (l.length : Int) (j : Int) false a l n x y c.f0 c.f1 c.f2 c.f3 c.f4 c.f5 = table_contribs.j3 k l (l.length : Int) (j : Int) b a l n x y c.f0 c.f1 c.f2 c.f3 c.f4 c.f5)
        (hb : b = false ↔ (0 ≤ c.f3 ∧ c.f3 ≤ 100000000000) ∧ (0 ≤ c.f4 ∧ c.f4 ≤ 100000000000)),
        ∃ e, Ev (fun k => table_contribs.j2 k l (l.length : Int) (j : Int) false a l n x y c.f0 c.f1 c.f2 c.f3 c.f4 c.f5) e ∧ (e = 0 ↔ ((0 ≤ c.f3 ∧ c.f3 ≤ 100000000000) ∧ (0 ≤ c.f4 ∧ c.f4 ≤ 100000000000)) ∧ BandOK c.f2 ∧ ContribsFrom l (j + 1)) := by
      intro b h hb
      obtain ⟨e, he, hf⟩ := h3 b
      exact ⟨e, Ev.step h he, by rw [hf, hb]⟩
    have h2' : ∃ e, Ev (fun k => table_contribs.j2 k l (l.length : Int) (j : Int) false a l n x y c.f0 c.f1 c.f2 c.f3 c.f4 c.f5) e ∧ (e = 0 ↔ ((0 ≤ c.f3 ∧ c.f3 ≤ 100000000000) ∧ (0 ≤ c.f4 ∧ c.f4 ≤ 100000000000)) ∧ BandOK c.f2 ∧ ContribsFrom l (j + 1)) := by
      by_cases a1 : c.f3 < 0
      · exact hx true (fun k => by simp only [table_contribs.j2]; rw [if_neg (by simp), if_pos a1]) (by simp; omega)
      · by_cases a2 : c.f3 > 100000000000
        · exact hx true (fun k => by simp only [table_contribs.j2]; rw [if_neg (by simp), if_neg a1, if_pos a2]) (by simp; omega)
        · by_cases a3 : c.f4 < 0
          · exact hx true (fun k => by simp only [table_contribs.j2]; rw [if_neg (by simp), if_neg a1, if_neg a2, if_pos a3]) (by simp; omega)
          · exact hx (decide (c.f4 > 100000000000)) (fun k => by simp only [table_contribs.j2]; rw [if_neg (by simp), if_neg a1, if_neg a2, if_neg a3]) (by simp; omega)
    have h2 : ∀ b : Bool, ∃ e, Ev (fun k => table_contribs.j2 k l (l.length : Int) (j : Int) b a l n x y c.f0 c.f1 c.f2 c.f3 c.f4 c.f5) e ∧ (e = 0 ↔ b = false ∧ ((0 ≤ c.f3 ∧ c.f3 ≤ 100000000000) ∧ (0 ≤ c.f4 ∧ c.f4 ≤ 100000000000)) ∧ BandOK c.f2 ∧ ContribsFrom l (j + 1)) := by
      intro b
      cases b with
      | true => exact ⟨1, Ev.step (f := fun _ => some 1) (fun k => by simp only [table_contribs.j2]; rfl) (Ev.now _), by simp⟩
      | false => obtain ⟨e, he, hf⟩ := h2'; exact ⟨e, he, by rw [hf]; simp⟩
    have hj1 : ∀ b : Bool, ∃ e, Ev (fun k => table_contribs.j1 k l (l.length : Int) (j : Int) b a l n x y c.f0 c.f1 c.f2 c.f3 c.f4 c.f5) e ∧ (e = 0 ↔ b = false ∧ (1 ≤ c.f5 ∧ c.f5 ≤ 6) ∧ ((0 ≤ c.f3 ∧ c.f3 ≤ 100000000000) ∧ (0 ≤ c.f4 ∧ c.f4 ≤ 100000000000)) ∧ BandOK c.f2 ∧ ContribsFrom l (j + 1)) := by
      intro b
      cases b with
      | true =>
        obtain ⟨e, he, hf⟩ := h2 true
        exact ⟨e, Ev.step (f := fun k => table_contribs.j2 k l (l.length : Int) (j : Int) true a l n x y c.f0 c.f1 c.f2 c.f3 c.f4 c.f5) (fun k => by simp only [table_contribs.j1]; rfl) he, by rw [hf]; simp⟩
      | false =>
        obtain ⟨e, he, hf⟩ := h2 (!decide (1 ≤ c.f5 ∧ c.f5 ≤ 6))
        exact ⟨e, Ev.step (f := fun k => table_contribs.j2 k l (l.length : Int) (j : Int) (!decide (1 ≤ c.f5 ∧ c.f5 ≤ 6)) a l n x y c.f0 c.f1 c.f2 c.f3 c.f4 c.f5) (fun k => by simp only [table_contribs.j1, mode_f, Option.bind_some]; rfl) he, by rw [hf]; simp⟩
    have hin : ∃ e, Ev (fun k => if c.f1 = 1 then table_contribs.j1 k l (l.length : Int) (j : Int) false a l n x y c.f0 c.f1 c.f2 c.f3 c.f4 c.f5 else table_contribs.j1 k l (l.length : Int) (j : Int) (c.f1 != 2) a l n x y c.f0 c.f1 c.f2 c.f3 c.f4 c.f5) e ∧ (e = 0 ↔ (c.f1 = 1 ∨ c.f1 = 2) ∧ (1 ≤ c.f5 ∧ c.f5 ≤ 6) ∧ ((0 ≤ c.f3 ∧ c.f3 ≤ 100000000000) ∧ (0 ≤ c.f4 ∧ c.f4 ≤ 100000000000)) ∧ BandOK c.f2 ∧ ContribsFrom l (j + 1)) := by
      by_cases b1 : c.f1 = 1
      · obtain ⟨e, he, hf⟩ := hj1 false
        exact ⟨e, Ev.congr (fun k => if_pos b1) he, by rw [hf]; simp [b1]⟩
      · obtain ⟨e, he, hf⟩ := hj1 (c.f1 != 2)
        exact ⟨e, Ev.congr (fun k => if_neg b1) he, by rw [hf]; simp [b1]⟩
    have hnm : NameOK c.f0 ↔ en = true := nameOK_iff hen
    have eqn : ∀ k, table_contribs.l0 (k + 1) l (l.length : Int) (j : Int) a l n x y = (word_Name.f k c.f0).bind fun t => if t = true then (api_Contrib_34.f k (l.take j) c.f0).bind fun t2 => if t2 = true then some 4 else if c.f1 = 1 then table_contribs.j1 k l (l.length : Int) (j : Int) false a l n x y c.f0 c.f1 c.f2 c.f3 c.f4 c.f5 else table_contribs.j1 k l (l.length : Int) (j : Int) (c.f1 != 2) a l n x y c.f0 c.f1 c.f2 c.f3 c.f4 c.f5 else some 5 := by
      intro k
      simp only [table_contribs.l0, hrd]
      rw [if_pos p1, if_pos p2, if_pos p1, Int.toNat_natCast]
      simp only [if_pos p3]
    cases en with
    | false => exact ⟨5, Ev.step eqn (Ev.bind hen (Ev.congr (fun k => if_neg (by simp)) (Ev.now _))), ⟨fun h => absurd h (by decide), fun h => by have := hnm.1 h.1.1.name; simp at this⟩⟩
    | true =>
      cases eh with
      | true =>
        obtain ⟨m, hm, he⟩ := hhas.1 rfl
        exact ⟨4, Ev.step eqn (Ev.bind hen (Ev.congr (fun k => if_pos rfl) (Ev.bind heh (Ev.congr (fun k => if_pos rfl) (Ev.now _))))), ⟨fun h => absurd h (by decide), fun h => absurd he (h.1.2 m hm)⟩⟩
      | false =>
        obtain ⟨e, he, hf⟩ := hin
        refine ⟨e, Ev.step eqn (Ev.bind hen (Ev.congr (fun k => if_pos rfl) (Ev.bind heh (Ev.congr (fun k => if_neg (by simp)) he)))), ?_⟩
        rw [hf]
        constructor
        · rintro ⟨q1, q2, ⟨q3, q4⟩, q5, q6⟩
          exact ⟨⟨⟨hnm.2 rfl, q1, q2, q3, q4, q5⟩, fun m hm he => by have := hhas.2 ⟨m, hm, he⟩; simp at this⟩, q6⟩
        · rintro ⟨⟨q, _⟩, q6⟩
          exact ⟨q.base, q.mode, ⟨q.period, q.year⟩, q.bands, q6⟩
theorem contribs_total (hl : l.length ≤ 9223372036854775807) (hc : ∀ c ∈ l, c.f0.size ≤ 9223372036854775807 ∧ c.f2.length ≤ 9223372036854775807) : ∃ e, Ev (fun k => table_contribs.f k a l n x y) e ∧ (e = 0 ↔ ContribsFit l) := by
  by_cases h : (l.length : Int) > 6
  · exact ⟨2, Ev.congr (fun k => by simp only [table_contribs.f]; rw [if_pos h]) (Ev.now _), ⟨fun h => absurd h (by decide), fun h0 => by have := h0.1; omega⟩⟩
  · obtain ⟨e, he, hf⟩ := contrib_loop l a n x y hl hc l.length 0 (by omega) (by omega)
    refine ⟨e, Ev.congr (f := fun k => table_contribs.l0 k l (l.length : Int) ((0 : Nat) : Int) a l n x y) (fun k => by simp only [table_contribs.f]; rw [if_neg h]; rfl) he, ?_⟩
    rw [hf]
    constructor
    · intro q
      refine ⟨by omega, fun c hc => ?_, List.pairwise_iff_getElem.2 fun i j hi hj hij => (q j hj (by omega)).2 i hij⟩
      obtain ⟨m, hm, rfl⟩ := List.mem_iff_getElem.1 hc
      exact (q m hm (by omega)).1
    · rintro ⟨_, q1, q2⟩ i hi _
      exact ⟨q1 _ (List.getElem_mem hi), fun m hm => List.pairwise_iff_getElem.1 q2 m i (Nat.lt_trans hm hi) hi hm⟩
end
section
variable (l : List S58)
theorem kind_loop (hl : l.length ≤ 9223372036854775807) (hc : ∀ c ∈ l, c.f0.size ≤ 9223372036854775807) : ∀ d j : Nat, l.length - j = d → j ≤ l.length →
    ∃ e, ∀ a c x y, Ev (fun k => table_kinds.l0 k l (l.length : Int) (j : Int) a c l x y) e := by
  intro d
  induction d with
  | zero =>
    intro j h1 h2
    exact ⟨0, fun a c x y => Ev.step (f := fun _ => some 0) (fun k => by simp only [table_kinds.l0]; rw [if_neg (by omega)]) (Ev.now _)⟩
  | succ d ih =>
    intro j h1 h2
    have hj : j < l.length := by omega
    have hs := hc l[j] (List.getElem_mem hj)
    generalize hcj : l[j] = z at *
    have hrd : rd_T58 l (j : Int) = z := by rw [rd58 l j hj, hcj]
    obtain ⟨en, hen⟩ := name_total z.f0 hs
    obtain ⟨eh, heh⟩ := has58 (l.take j) (by rw [List.length_take]; omega) z.f0
    obtain ⟨er, her⟩ := ih (j + 1) (by omega) (by omega)
    have p1 : (j : Int) < (l.length : Int) := by omega
    have p2 : (0 : Int) ≤ (j : Int) := by omega
    have p3 : (j : Int) ≤ (l.length : Int) := by omega
    have eqn : ∀ a c x y k, table_kinds.l0 (k + 1) l (l.length : Int) (j : Int) a c l x y = (word_Name.f k z.f0).bind fun t => if t = true then (api_Kind_36.f k (l.take j) z.f0).bind fun t2 => if t2 = true then some 4 else if (-1 ≤ z.f1 ∧ z.f1 ≤ 1) ∧ (-1 ≤ z.f2 ∧ z.f2 ≤ 1) ∧ (-1 ≤ z.f3 ∧ z.f3 ≤ 1) then table_kinds.l0 k l (l.length : Int) ((j + 1 : Nat) : Int) a c l x y else some 1 else some 5 := by
      intro a c x y k
      simp only [table_kinds.l0, hrd, sign_f, Option.bind_some]
      rw [if_pos p1, if_pos p2, if_pos p1, Int.toNat_natCast, wrap_succ hj hl]
      simp only [if_pos p3, decide_eq_true_eq]
      by_cases a1 : -1 ≤ z.f1 ∧ z.f1 ≤ 1 <;> by_cases a2 : -1 ≤ z.f2 ∧ z.f2 ≤ 1 <;> by_cases a3 : -1 ≤ z.f3 ∧ z.f3 ≤ 1 <;> simp [a1, a2, a3]
    cases en with
    | false => exact ⟨5, fun a c x y => Ev.step (eqn a c x y) (Ev.bind hen (Ev.congr (fun k => if_neg (by simp)) (Ev.now _)))⟩
    | true =>
      cases eh with
      | true => exact ⟨4, fun a c x y => Ev.step (eqn a c x y) (Ev.bind hen (Ev.congr (fun k => if_pos rfl) (Ev.bind heh (Ev.congr (fun k => if_pos rfl) (Ev.now _)))))⟩
      | false =>
        by_cases q : (-1 ≤ z.f1 ∧ z.f1 ≤ 1) ∧ (-1 ≤ z.f2 ∧ z.f2 ≤ 1) ∧ (-1 ≤ z.f3 ∧ z.f3 ≤ 1)
        · exact ⟨er, fun a c x y => Ev.step (eqn a c x y) (Ev.bind hen (Ev.congr (fun k => if_pos rfl) (Ev.bind heh (Ev.congr (fun k => by rw [if_neg (by simp), if_pos q]) (her a c x y)))))⟩
        · exact ⟨1, fun a c x y => Ev.step (eqn a c x y) (Ev.bind hen (Ev.congr (fun k => if_pos rfl) (Ev.bind heh (Ev.congr (fun k => by rw [if_neg (by simp), if_neg q]) (Ev.now _)))))⟩
theorem kinds_total (hl : l.length ≤ 9223372036854775807) (hc : ∀ c ∈ l, c.f0.size ≤ 9223372036854775807) : ∃ e, ∀ a c x y, Ev (fun k => table_kinds.f k a c l x y) e := by
  obtain ⟨e, he⟩ := kind_loop l hl hc l.length 0 (by omega) (by omega)
  by_cases h : (l.length : Int) = 0
  · exact ⟨2, fun a c x y => Ev.congr (f := fun k => table_kinds.j0 k true a c l x y) (fun k => by simp only [table_kinds.f]; rw [if_pos h]) (Ev.step (f := fun _ => some 2) (fun k => by simp only [table_kinds.j0]; rfl) (Ev.now _))⟩
  · by_cases h2 : (l.length : Int) > 12
    · exact ⟨2, fun a c x y => Ev.congr (f := fun k => table_kinds.j0 k true a c l x y) (fun k => by simp only [table_kinds.f]; rw [if_neg h, decide_eq_true h2]) (Ev.step (f := fun _ => some 2) (fun k => by simp only [table_kinds.j0]; rfl) (Ev.now _))⟩
    · exact ⟨e, fun a c x y => Ev.congr (f := fun k => table_kinds.j0 k false a c l x y) (fun k => by simp only [table_kinds.f]; rw [if_neg h, decide_eq_false h2]) (Ev.step (f := fun k => table_kinds.l0 k l (l.length : Int) ((0 : Nat) : Int) a c l x y) (fun k => by simp only [table_kinds.j0]; rfl) (he a c x y))⟩
end
structure Sized (s : List (List S41)) (c : List S43) (n : List S58) : Prop where
  s0 : s.length ≤ 9223372036854775807
  s1 : ∀ b ∈ s, b.length ≤ 9223372036854775807
  c0 : c.length ≤ 9223372036854775807
  c1 : ∀ x ∈ c, x.f0.size ≤ 9223372036854775807 ∧ x.f2.length ≤ 9223372036854775807
  n0 : n.length ≤ 9223372036854775807
  n1 : ∀ x ∈ n, x.f0.size ≤ 9223372036854775807
def KindsOK (n : List S58) : Prop := ∀ a c x y, Ev (fun k => table_kinds.f k a c n x y) 0
structure TableFit (s : List (List S41)) (c : List S43) (n : List S58) (x y : Int) : Prop where
  limit : 0 ≤ x ∧ x ≤ 10000
  round : 1 ≤ y ∧ y ≤ 6
  schemes : SchemesFit s
  contribs : ContribsFit c
  kinds : KindsOK n
theorem table_total {s : List (List S41)} {c : List S43} {n : List S58} (h : Sized s c n) (x y : Int) : ∃ e, Ev (fun k => table_Check.f k s c n x y) e ∧ (e = 0 ↔ TableFit s c n x y) := by
  obtain ⟨e1, h1, f1⟩ := schemes_total s h.s0 h.s1 c n x y
  obtain ⟨e2, h2, f2⟩ := contribs_total c s n x y h.c0 h.c1
  obtain ⟨e3, h3⟩ := kinds_total n h.n0 h.n1
  have f3 : e3 = 0 ↔ KindsOK n := ⟨fun q => by subst q; exact h3, fun q => ev_one (h3 s c x y) (q s c x y)⟩
  by_cases hx : 0 ≤ x ∧ x ≤ 10000
  · by_cases hy : 1 ≤ y ∧ y ≤ 6
    · have hk : ∀ e, Ev (fun k => if e1 = 0 then (if e2 = 0 then (if e3 = 0 then some 0 else some e3) else some e2) else some e1 : Nat → Option Int) e → Ev (fun k => table_Check.f k s c n x y) e := by
        intro e he
        refine Ev.congr (f := fun k => (table_schemes.f k s c n x y).bind fun t145 => (table_contribs.f k s c n x y).bind fun t146 => (table_kinds.f k s c n x y).bind fun t147 => if t145 = 0 then (if t146 = 0 then (if t147 = 0 then some 0 else some t147) else some t146) else some t145) (fun k => ?_) (Ev.bind h1 (Ev.bind h2 (Ev.bind (h3 s c x y) he)))
        simp only [table_Check.f, rate_f, mode_f, Option.bind_some]
        rw [if_pos (by simpa using hx), if_pos (by simpa using hy)]
      by_cases q1 : e1 = 0
      · by_cases q2 : e2 = 0
        · by_cases q3 : e3 = 0
          · exact ⟨0, hk 0 (Ev.congr (fun k => by rw [if_pos q1, if_pos q2, if_pos q3]) (Ev.now _)), ⟨fun _ => ⟨hx, hy, f1.1 q1, f2.1 q2, f3.1 q3⟩, fun _ => rfl⟩⟩
          · exact ⟨e3, hk e3 (Ev.congr (fun k => by rw [if_pos q1, if_pos q2, if_neg q3]) (Ev.now _)), ⟨fun q => absurd q q3, fun q => f3.2 q.kinds⟩⟩
        · exact ⟨e2, hk e2 (Ev.congr (fun k => by rw [if_pos q1, if_neg q2]) (Ev.now _)), ⟨fun q => absurd q q2, fun q => f2.2 q.contribs⟩⟩
      · exact ⟨e1, hk e1 (Ev.congr (fun k => by rw [if_neg q1]) (Ev.now _)), ⟨fun q => absurd q q1, fun q => f1.2 q.schemes⟩⟩
    · exact ⟨1, Ev.congr (fun k => by simp only [table_Check.f, rate_f, mode_f, Option.bind_some]; rw [if_pos (by simpa using hx), if_neg (by simpa using hy)]) (Ev.now _), ⟨fun q => absurd q (by decide), fun q => absurd q.round hy⟩⟩
  · exact ⟨50, Ev.congr (fun k => by simp only [table_Check.f, rate_f, mode_f, Option.bind_some]; rw [if_neg (by simpa using hx)]) (Ev.now _), ⟨fun q => absurd q (by decide), fun q => absurd q.limit hx⟩⟩
end Go.Proofs.YtdllkibfikcfbaaDoor.PA
