import Derived.Test.YtjljhianehhlgaaDoorPC
/-! ### PostBooks: the plain part -/
namespace Go.Proofs.YtjljhianehhlgaaDoor.M
open Go Go.RowKit Go.Maps Go.Proofs.YtjljhianehhlgaaDoorW.PrintWords Go.Proofs.YtjljhianehhlgaaDoor.K Go.Proofs.YtjljhianehhlgaaDoor.V Go.Proofs.YtjljhianehhlgaaDoor.KTab
set_option linter.unusedVariables false
theorem size_ok' {x : S31} (h : Came x) : x.f0.size ≤ 9223372036854775807 := by
  have := h.1
  unfold maxLen at this
  omega
/-- The amounts together. -/
def tot : List S31 → Int
  | [] => 0
  | x :: r => x.f1 + tot r
theorem tot_append (a b : List S31) : tot (a ++ b) = tot a + tot b := by
  induction a with
  | nil => simp [tot]
  | cons x a ih => simp only [List.cons_append, tot, ih]; omega
/-- What is not on account s. -/
def off (s : List UInt8) (l : List S31) : List S31 := l.filter fun x => decide (key x ≠ s)
theorem tot_off (s : List UInt8) : ∀ l : List S31, tot l = sumAt l s + tot (off s l)
  | [] => rfl
  | x :: r => by
    unfold off
    by_cases e : key x = s
    · rw [List.filter_cons_of_neg (by simp [e])]
      simp only [tot, sumAt]
      rw [if_pos e, tot_off s r]
      unfold off
      omega
    · rw [List.filter_cons_of_pos (by simp [e])]
      simp only [tot, sumAt]
      rw [if_neg e, tot_off s r]
      unfold off
      omega
theorem sum_off {s t : List UInt8} (h : t ≠ s) : ∀ l : List S31, sumAt (off s l) t = sumAt l t
  | [] => rfl
  | x :: r => by
    unfold off
    have ih := sum_off h r
    unfold off at ih
    by_cases e : key x = s
    · rw [List.filter_cons_of_neg (by simp [e])]
      simp only [sumAt]
      rw [ih, if_neg (fun q => h (q.symm.trans e)), Int.zero_add]
    · rw [List.filter_cons_of_pos (by simp [e])]
      simp only [sumAt, ih]
theorem sum_off_same {s : List UInt8} : ∀ l : List S31, sumAt (off s l) s = 0 := fun l => sumAt_none fun x hx => by
  have := (List.mem_filter.1 hx).2
  simpa using this
/-- Nothing on any account: nothing at all. -/
theorem tot_zero : ∀ (n : Nat) (l : List S31), l.length ≤ n → (∀ s, sumAt l s = 0) → tot l = 0
  | _, [], _, _ => rfl
  | 0, x :: r, h, _ => by simp at h
  | n + 1, x :: r, h, h0 => by
    rw [tot_off (key x), h0, Int.zero_add]
    refine tot_zero n _ ?_ fun s => ?_
    · unfold off
      rw [List.filter_cons_of_neg (by simp)]
      have := List.length_filter_le (fun y => decide (key y ≠ key x)) r
      simp only [List.length_cons] at h
      omega
    · by_cases e : s = key x
      · subst e; exact sum_off_same _
      · rw [sum_off e]; exact h0 s
/-- The balances' amounts are all that is booked. -/
theorem tot_bal : ∀ (ys ps : List S31), ys.Pairwise (fun x y => key x < key y) → (∀ y ∈ ys, sumAt ps (key y) = y.f1) → (∀ s, (∀ y ∈ ys, key y ≠ s) → sumAt ps s = 0) → tot ys = tot ps
  | [], ps, _, _, h0 => (tot_zero ps.length ps (Nat.le_refl _) fun s => h0 s (fun y hy => by simp at hy)).symm
  | y :: ys, ps, hp, h1, h0 => by
    rw [List.pairwise_cons] at hp
    have hne : ∀ z ∈ ys, key z ≠ key y := fun z hz e => by
      have := hp.1 z hz
      rw [e] at this
      exact absurd this (List.lt_irrefl _)
    have ih := tot_bal ys (off (key y) ps) hp.2 (fun z hz => by rw [sum_off (hne z hz)]; exact h1 z (List.mem_cons_of_mem _ hz)) (fun s hs => by
      by_cases e : s = key y
      · subst e; exact sum_off_same _
      · rw [sum_off e]
        refine h0 s fun z hz => ?_
        rcases List.mem_cons.1 hz with rfl | hz
        · exact fun q => e q.symm
        · exact hs z hz)
    simp only [tot]
    rw [ih, tot_off (key y) ps, h1 y List.mem_cons_self]
theorem nodup_len {α : Type} [DecidableEq α] {a b : List α} (ha : a.Nodup) (hb : b.Nodup) (h : ∀ x, x ∈ a ↔ x ∈ b) : a.length = b.length := ((List.perm_ext_iff_of_nodup ha hb).2 h).length_eq
set_option maxRecDepth 100000 in
/-- A list without fault sums to nothing (no list of these is long enough to wrap). -/
theorem chk_sum : ∀ (l : List S31) (s : Int) (n : Nat), chk s l = 0 → l.length ≤ n → -100000000000 * ((1000 : Int) - n) ≤ s → s ≤ 100000000000 * ((1000 : Int) - n) → n ≤ 1000 → s + tot l = 0
  | [], s, n, h, _, _, _, _ => by
    simp only [chk] at h
    by_cases q : s = 0
    · rw [q]; rfl
    · rw [if_neg q] at h; exact absurd h (by decide)
  | x :: r, s, 0, h, hl, _, _, _ => by simp at hl
  | x :: r, s, n + 1, h, hl, h1, h2, hn => by
    have hx := chk_ok (x :: r) s h x List.mem_cons_self
    have hf := hx.1
    simp only [chk] at h
    rw [if_pos hx.1, if_pos hx.2] at h
    unfold Fit at hf
    have hw : wrap64 (s + x.f1) = s + x.f1 := wrap_in (by omega) (by omega)
    rw [hw] at h
    have := chk_sum r (s + x.f1) n h (by simp only [List.length_cons] at hl; omega) (by omega) (by omega) (by omega)
    simp only [tot]
    omega
theorem bal_at {D : DM} {V : List UInt8 → Int} {ys : List S31} (hB : Bal D ys) (hH : Holds D V) {y : S31} (hy : y ∈ ys) : V (key y) = y.f1 ∧ y.f1 ≠ 0 := by
  have h := (hB.1 (key y) y.f1).2 ⟨y, hy, rfl, rfl⟩
  rw [hH.2] at h
  unfold nz at h
  split at h
  · cases h
  · next q =>
    have e := Option.some.inj h
    exact ⟨e, by rw [← e]; exact q⟩
theorem bal_off {D : DM} {V : List UInt8 → Int} {ys : List S31} (hB : Bal D ys) (hH : Holds D V) {s : List UInt8} (h : ∀ y ∈ ys, key y ≠ s) : V s = 0 := by
  by_cases q : V s = 0
  · exact q
  · have e : got D s = some (V s) := by rw [hH.2]; unfold nz; rw [if_neg q]
    obtain ⟨x, hx, h1, _⟩ := (hB.1 s (V s)).1 e
    exact absurd h1 (h x hx)
theorem tot_rng : ∀ l : List S31, (∀ y ∈ l, Fit y.f1) → -100000000000 * (l.length : Int) ≤ tot l ∧ tot l ≤ 100000000000 * (l.length : Int)
  | [], _ => by simp [tot]
  | x :: r, h => by
    have h1 := h x List.mem_cons_self
    have ih := tot_rng r (fun y hy => h y (List.mem_cons_of_mem _ hy))
    unfold Fit at h1
    simp only [tot, List.length_cons]
    omega
set_option maxRecDepth 100000 in
theorem not_named_nil : ¬ Named ⟨#[]⟩ := fun h => absurd (ev_one h (Ev.of (post_name.mono _) (k := 40) (by kernel_rfl) : Ev (fun k => post_name.f k ⟨#[]⟩) false)) (by decide)
def nobody : ByteArray := ⟨#[110, 111, 98, 111, 100, 121, 32, 104, 101, 114, 101]⟩
set_option maxRecDepth 100000 in
theorem not_named_nobody : ¬ Named nobody := fun h => absurd (ev_one h (Ev.of (post_name.mono _) (k := 40) (by kernel_rfl) : Ev (fun k => post_name.f k nobody) false)) (by decide)
theorem off_named {ps : List S31} (hn : ∀ x ∈ ps, Named x.f0) {s : ByteArray} (h : ¬ Named s) : sumAt ps s.data.toList = 0 := sumAt_none fun x hx e => by
  have e2 : x.f0 = s := by
    obtain ⟨⟨a⟩, _⟩ := x
    obtain ⟨b⟩ := s
    have : a = b := Array.toList_inj.1 e
    subst this
    rfl
  exact h (e2 ▸ hn x hx)
theorem key_ne_nil {ps : List S31} (hn : ∀ x ∈ ps, Named x.f0) {y : S31} (h : sumAt ps (key y) ≠ 0) : [] < key y := by
  have hk : key y ≠ [] := fun e => h (by rw [e]; exact off_named hn not_named_nil)
  cases q : key y with
  | nil => exact absurd q hk
  | cons a r => exact List.nil_lt_cons _ _
/-- Those looked at that are not nothing. -/
def VZ (D4 : DM) (left : Lit → Bool) (zs : List (List UInt8)) : Prop := zs.Nodup ∧ ∀ s, s ∈ zs ↔ has D4 (.string s) = true ∧ left (.string s) = false ∧ val D4 s ≠ 0
theorem VZ.start (D4 : DM) : VZ D4 (has D4) [] := ⟨List.nodup_nil, fun s => ⟨fun h => by simp at h, fun h => by rw [h.1] at h; exact absurd h.2.1 (by simp)⟩⟩
theorem VZ.more {D4 : DM} {left : Lit → Bool} {zs : List (List UInt8)} (h : VZ D4 left zs) {s : List UInt8} {c : Int} (hl : left (.string s) = true) (hat : ∀ z, D4.atKey (.string s) z = .lit (.int .i64 c)) (hc : c ≠ 0) : VZ D4 (fun z => left z && !z.sameKey (.string s)) (zs ++ [s]) := by
  have hv : val D4 s = c := by unfold val; rw [got_some hat]; rfl
  refine ⟨?_, fun t => ?_⟩
  · rw [List.nodup_append]
    refine ⟨h.1, by simp, fun a ha b hb e => ?_⟩
    rw [List.mem_singleton] at hb
    rw [e, hb] at ha
    have := ((h.2 s).1 ha).2.1
    rw [hl] at this
    cases this
  · rw [List.mem_append, List.mem_singleton, h.2 t]
    simp only [left_next]
    constructor
    · rintro (⟨h1, h2, h3⟩ | rfl)
      · exact ⟨h1, .inl h2, h3⟩
      · exact ⟨has_true_of_atKey hat, .inr rfl, by rw [hv]; exact hc⟩
    · rintro ⟨h1, h2 | h2, h3⟩
      · exact .inl ⟨h1, h2, h3⟩
      · exact .inr h2
theorem VZ.same {D4 : DM} {left : Lit → Bool} {zs : List (List UInt8)} (h : VZ D4 left zs) {s : List UInt8} (hat : ∀ z, D4.atKey (.string s) z = .lit (.int .i64 0)) : VZ D4 (fun z => left z && !z.sameKey (.string s)) zs := by
  have hv : val D4 s = 0 := by unfold val; rw [got_some hat]; rfl
  refine ⟨h.1, fun t => ?_⟩
  rw [h.2 t]
  simp only [left_next]
  constructor
  · rintro ⟨h1, h2, h3⟩; exact ⟨h1, .inl h2, h3⟩
  · rintro ⟨h1, h2 | h2, h3⟩
    · exact ⟨h1, h2, h3⟩
    · subst h2; exact absurd hv h3
theorem VZ.len {D D4 : DM} {V : List UInt8 → Int} {ys : List S31} {left : Lit → Bool} {zs : List (List UInt8)} (h : VZ D4 left zs) (hl : ∀ z, left z = false) (hB : Bal D ys) (hH : Holds D V) (hv : ∀ s, val D4 s = V s) : zs.length = ys.length := by
  have e := nodup_len (a := zs) (b := ys.map key) h.1 (by
    rw [List.nodup_iff_pairwise_ne, List.pairwise_map]
    exact hB.2.1.imp fun h e => absurd (e ▸ h) (List.lt_irrefl _)) (fun s => by
    rw [h.2 s, List.mem_map]
    constructor
    · rintro ⟨_, _, h3⟩
      rw [hv] at h3
      by_cases q : ∃ y ∈ ys, key y = s
      · obtain ⟨y, hy, e⟩ := q; exact ⟨y, hy, e⟩
      · exact absurd (bal_off hB hH fun y hy e => q ⟨y, hy, e⟩) h3
    · rintro ⟨y, hy, rfl⟩
      have hb := bal_at hB hH hy
      have hn : val D4 (key y) ≠ 0 := by rw [hv, hb.1]; exact hb.2
      refine ⟨?_, hl _, hn⟩
      by_cases q : has D4 (.string (key y)) = true
      · exact q
      · refine absurd ?_ hn
        unfold val
        rw [got_none (by simpa using q)]
        rfl)
  rw [e, List.length_map]
end Go.Proofs.YtjljhianehhlgaaDoor.M
