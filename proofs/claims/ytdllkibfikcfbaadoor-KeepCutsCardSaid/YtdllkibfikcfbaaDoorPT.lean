import Derived.Test.YtdllkibfikcfbaaDoorKT
import Derived.Test.YtdllkibfikcfbaaDoorKS
import Derived.Test.YtdllkibfikcfbaaDoorKL
import Derived.Test.YtdllkibfikcfbaaDoorPS
/-! ### What Same, Clone and Lines answer: the plain part -/
namespace Go.Proofs.YtdllkibfikcfbaaDoor.PA
open Go.Proofs.YtdllkibfikcfbaaDoorW.PrintWords Go.Proofs.YtdllkibfikcfbaaDoor.K
set_option linter.unusedVariables false
theorem eqKinds_l0 (l : List S58) (hl : l.length ≤ 9223372036854775807) : ∀ d j : Nat, l.length - j = d → j ≤ l.length → Ev (fun k => eqKinds.l0 k l l (l.length : Int) (j : Int)) true := by
  intro d
  induction d with
  | zero =>
    intro j hd hj
    exact Ev.step (f := fun _ => some true) (fun k => by simp only [eqKinds.l0]; rw [if_neg (by omega)]) (Ev.now _)
  | succ d ih =>
    intro j hd hj
    refine Ev.step (f := fun k => eqKinds.l0 k l l (l.length : Int) ((j + 1 : Nat) : Int)) (fun k => ?_) (ih (j + 1) (by omega) (by omega))
    simp only [eqKinds.l0]
    rw [if_pos (by omega), if_pos (by omega), if_pos (by omega), if_pos (by omega), if_neg (by simp), wrap_succ (n := l.length) (by omega) hl]
theorem eqBands_l0 (l : List S41) (hl : l.length ≤ 9223372036854775807) : ∀ d j : Nat, l.length - j = d → j ≤ l.length → Ev (fun k => eqBands.l0 k l l (l.length : Int) (j : Int)) true := by
  intro d
  induction d with
  | zero =>
    intro j hd hj
    exact Ev.step (f := fun _ => some true) (fun k => by simp only [eqBands.l0]; rw [if_neg (by omega)]) (Ev.now _)
  | succ d ih =>
    intro j hd hj
    refine Ev.step (f := fun k => eqBands.l0 k l l (l.length : Int) ((j + 1 : Nat) : Int)) (fun k => ?_) (ih (j + 1) (by omega) (by omega))
    simp only [eqBands.l0]
    rw [if_pos (by omega), if_pos (by omega), if_pos (by omega), if_pos (by omega), if_neg (by simp), wrap_succ (n := l.length) (by omega) hl]
theorem eqBands_ev (l : List S41) (hl : l.length ≤ 9223372036854775807) : Ev (fun k => eqBands.f k l l) true :=
  Ev.congr (fun k => by unfold eqBands.f; rw [if_pos rfl]; rfl) (eqBands_l0 l hl l.length 0 (by omega) (by omega))
theorem eqKinds_ev (l : List S58) (hl : l.length ≤ 9223372036854775807) : Ev (fun k => eqKinds.f k l l) true :=
  Ev.congr (fun k => by unfold eqKinds.f; rw [if_pos rfl]; rfl) (eqKinds_l0 l hl l.length 0 (by omega) (by omega))
theorem same1_ev (a : S43) (h : a.f2.length ≤ 9223372036854775807) : Ev (fun k => table_Same_1.f k a.f0 a.f1 a.f2 a.f3 a.f4 a.f5 a.f0 a.f1 a.f2 a.f3 a.f4 a.f5) true := by
  refine Ev.congr (f := fun k => (eqBands.f k a.f2 a.f2).bind fun t => some t) (fun k => ?_) (Ev.bind (eqBands_ev a.f2 h) (Ev.now _))
  unfold table_Same_1.f
  simp
theorem eqContribs_l0 (l : List S43) (hl : l.length ≤ 9223372036854775807) (hb : ∀ z ∈ l, z.f2.length ≤ 9223372036854775807) : ∀ d j : Nat, l.length - j = d → j ≤ l.length → Ev (fun k => eqContribs.l0 k l l (l.length : Int) (j : Int)) true := by
  intro d
  induction d with
  | zero =>
    intro j hd hj
    exact Ev.step (f := fun _ => some true) (fun k => by simp only [eqContribs.l0]; rw [if_neg (by omega)]) (Ev.now _)
  | succ d ih =>
    intro j hd hj
    have hlt : j < l.length := by omega
    refine Ev.step (f := fun k => (table_Same_1.f k l[j].f0 l[j].f1 l[j].f2 l[j].f3 l[j].f4 l[j].f5 l[j].f0 l[j].f1 l[j].f2 l[j].f3 l[j].f4 l[j].f5).bind fun t => if t = true then eqContribs.l0 k l l (l.length : Int) ((j + 1 : Nat) : Int) else some false) (fun k => ?_)
      (Ev.bind (same1_ev l[j] (hb _ (List.getElem_mem hlt))) (Ev.congr (fun k => if_pos rfl) (ih (j + 1) (by omega) (by omega))))
    simp only [eqContribs.l0, rd43 l j hlt]
    rw [if_pos (by omega), if_pos (by omega), if_pos (by omega), if_pos (by omega), wrap_succ (n := l.length) (by omega) hl]
theorem same2_ev (l : List S41) (hl : l.length ≤ 9223372036854775807) : Ev (fun k => table_Same_2.f k l l) true := Ev.bind (eqBands_ev l hl) (Ev.now _)
theorem eqSchemes_l0 (l : List (List S41)) (hl : l.length ≤ 9223372036854775807) (hb : ∀ z ∈ l, z.length ≤ 9223372036854775807) : ∀ d j : Nat, l.length - j = d → j ≤ l.length → Ev (fun k => eqSchemes.l0 k l l (l.length : Int) (j : Int)) true := by
  intro d
  induction d with
  | zero =>
    intro j hd hj
    exact Ev.step (f := fun _ => some true) (fun k => by simp only [eqSchemes.l0]; rw [if_neg (by omega)]) (Ev.now _)
  | succ d ih =>
    intro j hd hj
    have hlt : j < l.length := by omega
    refine Ev.step (f := fun k => (table_Same_2.f k l[j] l[j]).bind fun t => if t = true then eqSchemes.l0 k l l (l.length : Int) ((j + 1 : Nat) : Int) else some false) (fun k => ?_)
      (Ev.bind (same2_ev l[j] (hb _ (List.getElem_mem hlt))) (Ev.congr (fun k => if_pos rfl) (ih (j + 1) (by omega) (by omega))))
    simp only [eqSchemes.l0, rdL2 l j hlt]
    rw [if_pos (by omega), if_pos (by omega), if_pos (by omega), if_pos (by omega), wrap_succ (n := l.length) (by omega) hl]
theorem same_ev {s : List (List S41)} {c : List S43} {n : List S58} (h : Sized s c n) (x y : Int) : Ev (fun k => table_Same.f k s c n x y s c n x y) true := by
  have h1 : Ev (fun k => eqContribs.f k c c) true := Ev.congr (fun k => by unfold eqContribs.f; rw [if_pos rfl]; rfl) (eqContribs_l0 c h.c0 (fun z hz => (h.c1 z hz).2) c.length 0 (by omega) (by omega))
  have h2 : Ev (fun k => eqSchemes.f k s s) true := Ev.congr (fun k => by unfold eqSchemes.f; rw [if_pos rfl]; rfl) (eqSchemes_l0 s h.s0 h.s1 s.length 0 (by omega) (by omega))
  refine Ev.congr (f := fun k => (eqKinds.f k n n).bind fun t => if t = true then (eqContribs.f k c c).bind fun t => (if t = true then (eqSchemes.f k s s).bind fun t => some t else some false) else some false) (fun k => ?_)
    (Ev.bind (eqKinds_ev n h.n0) (Ev.congr (fun k => if_pos rfl) (Ev.bind h1 (Ev.congr (fun k => if_pos rfl) (Ev.bind h2 (Ev.now _))))))
  unfold table_Same.f
  rw [if_pos rfl, if_pos rfl]
theorem kinds_le {n : List S58} (h : KindsOK n) : n.length ≤ 12 := by
  refine Decidable.byContradiction fun hn => ?_
  have hj : Ev (fun k => table_kinds.f k [] [] n 0 0) 2 := by
    refine Ev.congr (f := fun k => table_kinds.j0 k true [] [] n 0 0) (fun k => ?_) (Ev.step (f := fun _ => some 2) (fun k => by simp only [table_kinds.j0]; rfl) (Ev.now _))
    unfold table_kinds.f
    rw [if_neg (by omega), decide_eq_true (by omega)]
  exact absurd (ev_one (h [] [] 0 0) hj) (by decide)

theorem band_clone (l : List S41) (h : l.length ≤ 8) : api_Band_31.f l = some l := by
  simp only [api_Band_31.f, Option.bind_some, List.length_nil, List.nil_append]
  exact if_pos (by omega)

theorem clone_l1 (c : List S43) (hc : c.length ≤ 1000) (hb : ∀ z ∈ c, z.f2.length ≤ 8) (a : List (List S41)) (n : List S58) (x y : Int) : ∀ d j : Nat, c.length - j = d → j ≤ c.length → Ev (fun k => table_Clone.l1 k (c.length : Int) (j : Int) a c n x y) (a, c, n, x, y)
  | 0, j, hd, hj => Ev.step (f := fun _ => some (a, c, n, x, y)) (fun k => by simp only [table_Clone.l1]; exact if_neg (by omega)) (Ev.now _)
  | d + 1, j, hd, hj => by
    have hlt : j < c.length := by omega
    have ih := clone_l1 c hc hb a n x y d (j + 1) (by omega) (by omega)
    refine Ev.step (f := fun k => table_Clone.l1 k (c.length : Int) ((j + 1 : Nat) : Int) a c n x y) (fun k => ?_) ih
    simp only [table_Clone.l1, rd43 c j hlt]
    rw [if_pos (by omega), if_pos (by omega), if_pos (by omega), band_clone _ (hb _ (List.getElem_mem hlt)), Option.bind_some, wrap_succ hlt (by omega)]
    have : c.set ((j : Int)).toNat (⟨c[j].f0, c[j].f1, c[j].f2, c[j].f3, c[j].f4, c[j].f5⟩ : S43) = c := by
      rw [Int.toNat_natCast]
      exact List.set_getElem_self hlt
    rw [this]

theorem clone_l0 (s : List (List S41)) (hs : s.length ≤ 1000) (hsb : ∀ b ∈ s, b.length ≤ 8) (c : List S43) (hc : c.length ≤ 1000) (hb : ∀ z ∈ c, z.f2.length ≤ 8) (n : List S58) (x y : Int) : ∀ d j : Nat, s.length - j = d → j ≤ s.length → Ev (fun k => table_Clone.l0 k s (s.length : Int) (j : Int) (s.take j) c n x y) (s, c, n, x, y)
  | 0, j, hd, hj => by
    have e : s.take j = s := List.take_of_length_le (by omega)
    rw [e]
    exact Ev.step (f := fun k => table_Clone.l1 k (c.length : Int) ((0 : Nat) : Int) s c n x y) (fun k => by simp only [table_Clone.l0]; exact if_neg (by omega)) (clone_l1 c hc hb s n x y c.length 0 (by omega) (by omega))
  | d + 1, j, hd, hj => by
    have hlt : j < s.length := by omega
    have ih := clone_l0 s hs hsb c hc hb n x y d (j + 1) (by omega) (by omega)
    refine Ev.step (f := fun k => table_Clone.l0 k s (s.length : Int) ((j + 1 : Nat) : Int) (s.take (j + 1)) c n x y) (fun k => ?_) ih
    simp only [table_Clone.l0, rdL2 s j hlt]
    rw [if_pos (by omega), if_pos (by omega), if_pos (by omega), band_clone _ (hsb _ (List.getElem_mem hlt)), Option.bind_some, if_pos (by rw [List.length_take]; omega), wrap_succ hlt (by omega), List.take_succ_eq_append_getElem hlt]

theorem clone_ev {s : List (List S41)} {c : List S43} {n : List S58} {x y : Int} (h : Sized s c n) (ht : TableFit s c n x y) : Ev (fun k => table_Clone.f k s c n x y) (s, c, n, x, y) := by
  have h6 := ht.contribs.1
  have h8 := ht.schemes.2.1
  have hn := kinds_le ht.kinds
  have hl := clone_l0 s (by omega) (fun b hb => (fit_schemes h ht b hb).hi) c (by omega) (fun z hz => (fit_contribs h ht z hz).hi) n x y s.length 0 (by omega) (by omega)
  refine Ev.congr (fun k => ?_) hl
  simp only [table_Clone.f, api_Contrib_29.f, api_Kind_30.f, Option.bind_some, List.length_nil, List.nil_append]
  rw [if_pos (by omega), Option.bind_some, if_pos (by omega), Option.bind_some, List.take_zero]
  rfl


/-! #### Lines -/
theorem name_le {s : ByteArray} (h : NameOK s) : s.size ≤ 16 := by
  refine Decidable.byContradiction fun hn => ?_
  have hj : Ev (fun k => word_Name.f k s) false := by
    refine Ev.congr (f := fun k => word_Name.j0 k s true) (fun k => ?_) (Ev.step (f := fun _ => some false) (fun k => by simp only [word_Name.j0]; rfl) (Ev.now _))
    unfold word_Name.f
    split
    · rfl
    · rw [decide_eq_true (by omega)]
  exact absurd (ev_one h hj) (by decide)
theorem digF_len : ∀ f u : Nat, (digF f u).length ≤ f + 1
  | 0, u => by simp [digF]
  | f + 1, u => by
    have := digF_len f (u / 10)
    simp only [digF]
    split
    · simp
    · simp; omega
theorem digs_size (n : Int) : (digs n).size ≤ 22 := by
  show (if n < 0 then 45 :: digF 20 n.natAbs else digF 20 n.toNat).toArray.size ≤ 22
  have h1 := digF_len 20 n.natAbs
  have h2 := digF_len 20 n.toNat
  split <;> simp <;> omega
theorem itoa_ev (n : Int) (h0 : -9223372036854775808 ≤ n) (h1 : n ≤ 9223372036854775807) : strconv_Itoa_19.f n = some (digs n) := by
  unfold strconv_Itoa_19.f
  rw [if_pos h0, if_pos h1]
theorem picks_at : ∀ (c : List S43) (ms : List Int), Picks c ms → ms.length = c.length ∧ ∀ j (h : j < c.length), ∃ (i : Nat) (h' : i < c[j].f2.length), rd ms (j : Int) = (i : Int)
  | [], [], _ => ⟨rfl, fun j h => absurd h (by simp)⟩
  | z :: c, m :: ms, h => by
    obtain ⟨h1, h2⟩ := picks_at c ms h.2
    refine ⟨by simp [h1], fun j hj => ?_⟩
    cases j with
    | zero =>
      obtain ⟨i, hi, e, _⟩ := h.1
      exact ⟨i, hi, by simpa [rd] using e⟩
    | succ j =>
      obtain ⟨i, hi, e⟩ := h2 j (by simpa using hj)
      refine ⟨i, by simpa using hi, ?_⟩
      have : ((j + 1 : Nat) : Int).toNat = j + 1 := by omega
      simp only [rd, this] at e ⊢
      simpa using e
  | [], _ :: _, h => h.elim
  | _ :: _, [], h => h.elim
theorem lines_l0 {s : List (List S41)} {c : List S43} {n : List S58} {x y : Int} (hf : ∀ z ∈ c, BandsFit z.f2) (hn : ∀ z ∈ c, z.f0.size ≤ 16) (hl : c.length ≤ 1000) (sc at_ : Int) (ms : List Int) (kept : Int) (hk0 : -9223372036854775808 ≤ kept) (hk1 : kept ≤ 9223372036854775807) (hP : Picks c ms) :
    ∀ d j : Nat, c.length - j = d → j ≤ c.length → ∀ acc : List ByteArray, acc.length = j + 1 → ∃ l, Ev (fun k => keep_Lines.l0 k acc ms (ms.length : Int) (j : Int) s c n x y sc at_ ms kept) l ∧ l.length = c.length + 2 := by
  obtain ⟨hlen, hat⟩ := picks_at c ms hP
  intro d
  induction d with
  | zero =>
    intro j hd hj acc ha
    have hs := digs_size kept
    refine ⟨_, Ev.step (f := fun _ => some (acc ++ [(⟨#[107, 101, 101, 112, 32]⟩ : ByteArray) ++ digs kept])) (fun k => ?_) (Ev.now _), by simp; omega⟩
    simp only [keep_Lines.l0]
    rw [if_neg (by omega), itoa_ev kept hk0 hk1, Option.bind_some, if_pos (by omega), if_pos (by omega)]
  | succ d ih =>
    intro j hd hj acc ha
    have hlt : j < c.length := by omega
    obtain ⟨i, hi, e⟩ := hat j hlt
    have hb := hf _ (List.getElem_mem hlt)
    have hr := hb.rates _ (List.getElem_mem hi)
    have hz := hn _ (List.getElem_mem hlt)
    have h8 := hb.hi
    have s1 := digs_size (i : Int)
    have s2 := digs_size c[j].f2[i].f1
    have e1 : ((⟨#[32, 98, 97, 110, 100, 32]⟩ : ByteArray)).size = 6 := rfl
    have e2 : ((⟨#[32]⟩ : ByteArray)).size = 1 := rfl
    obtain ⟨l, hev, hll⟩ := ih (j + 1) (by omega) (by omega) (acc ++ [(((c[j].f0 ++ (⟨#[32, 98, 97, 110, 100, 32]⟩ : ByteArray)) ++ digs (i : Int)) ++ (⟨#[32]⟩ : ByteArray)) ++ digs c[j].f2[i].f1]) (by simp; omega)
    refine ⟨l, Ev.step (fun k => ?_) hev, hll⟩
    simp only [keep_Lines.l0, rd43 c j hlt, e, rd41 c[j].f2 i hi]
    rw [if_pos (by omega), if_pos (by omega), if_pos (by omega), if_pos (by omega), if_pos (by omega), itoa_ev (i : Int) (by omega) (by omega), Option.bind_some, if_pos (by simp only [ByteArray.size_append]; omega), if_pos (by simp only [ByteArray.size_append]; omega), if_pos (by omega), if_pos (by omega), itoa_ev _ (by omega) (by omega), Option.bind_some, if_pos (by simp only [ByteArray.size_append]; omega), if_pos (by omega), wrap_succ (n := ms.length) (by omega) (by omega)]
theorem lines_j0 {s : List (List S41)} {c : List S43} {n : List S58} {x y : Int} (hf : ∀ z ∈ c, BandsFit z.f2) (hn : ∀ z ∈ c, z.f0.size ≤ 16) (hl : c.length ≤ 1000) (sc at_ : Int) (ms : List Int) (kept : Int) (hk0 : -9223372036854775808 ≤ kept) (hk1 : kept ≤ 9223372036854775807) (hP : Picks c ms) (q : ByteArray) (hq : q.size ≤ 1000) (rate : Int) (r0 : 0 ≤ rate) (r1 : rate ≤ 10000) :
    ∃ l, Ev (fun k => keep_Lines.j0 k q rate s c n x y sc at_ ms kept) l ∧ l.length = c.length + 2 := by
  have s1 := digs_size rate
  have e2 : ((⟨#[32]⟩ : ByteArray)).size = 1 := rfl
  obtain ⟨l, hev, hll⟩ := lines_l0 (s := s) (n := n) (x := x) (y := y) hf hn hl sc at_ ms kept hk0 hk1 hP c.length 0 (by omega) (by omega) [(q ++ (⟨#[32]⟩ : ByteArray)) ++ digs rate] rfl
  refine ⟨l, Ev.step (fun k => ?_) hev, hll⟩
  simp only [keep_Lines.j0]
  rw [if_pos (by omega), itoa_ev rate (by omega) (by omega), Option.bind_some, if_pos (by simp only [ByteArray.size_append]; omega)]
  rfl
theorem lines_ev {s : List (List S41)} {c : List S43} {n : List S58} {x y T sc at_ : Int} {ms : List Int} (h : Sized s c n) (ht : TableFit s c n x y) (hT : Tax s x T sc at_) (hP : Picks c ms) (hw : Ev (fun k => keep_Worst.f k s c n x y) (sc, at_, ms, 10000 - T - tops c, 0)) :
    ∃ l, Ev (fun k => keep_Lines.f k s c n x y) l ∧ l.length = c.length + 2 := by
  have hf := fit_contribs h ht
  have hn : ∀ z ∈ c, z.f0.size ≤ 16 := fun z hz => name_le (ht.contribs.2.1 z hz).name
  have hl : c.length ≤ 1000 := by have := ht.contribs.1; omega
  have hr := tax_range h ht hT
  have hp := tops_range h ht
  rcases hT.best with ⟨e1, e2, e3⟩ | ⟨i, m, hi, hm, e1, e2, e3⟩
  · obtain ⟨l, hev, hll⟩ := lines_j0 (s := s) (n := n) (x := x) (y := y) hf hn hl sc at_ ms (10000 - T - tops c) (by omega) (by omega) hP (⟨#[108, 105, 109, 105, 116]⟩ : ByteArray) (by decide) x (by have := ht.limit; omega) (by have := ht.limit; omega)
    obtain ⟨K1, h1⟩ := hw
    obtain ⟨K2, h2⟩ := hev
    refine ⟨l, ⟨max K1 K2, fun k hk => ?_⟩, hll⟩
    have a := h1 k (by omega)
    have b := h2 k (by omega)
    simp only [] at a b
    show keep_Lines.f k s c n x y = _
    unfold keep_Lines.f
    rw [a, Option.bind_some]
    simp only []
    rw [if_pos trivial, if_neg (by omega)]
    exact b
  · have hfs := fit_schemes h ht _ (List.getElem_mem hi)
    have h8 := ht.schemes.2.1
    have hr2 := hfs.rates _ (List.getElem_mem hm)
    have hm8 := hfs.hi
    have s1 := digs_size (i : Int)
    have s2 := digs_size (m : Int)
    have z1 : ((⟨#[32, 98, 97, 110, 100, 32]⟩ : ByteArray)).size = 6 := rfl
    have z2 : ((⟨#[115, 99, 104, 101, 109, 101, 32]⟩ : ByteArray)).size = 7 := rfl
    obtain ⟨l, hev, hll⟩ := lines_j0 (s := s) (n := n) (x := x) (y := y) hf hn hl sc at_ ms (10000 - T - tops c) (by omega) (by omega) hP ((((⟨#[115, 99, 104, 101, 109, 101, 32]⟩ : ByteArray) ++ digs (i : Int)) ++ (⟨#[32, 98, 97, 110, 100, 32]⟩ : ByteArray)) ++ digs (m : Int)) (by simp only [ByteArray.size_append]; omega) s[i][m].f1 (by omega) (by omega)
    obtain ⟨K1, h1⟩ := hw
    obtain ⟨K2, h2⟩ := hev
    refine ⟨l, ⟨max K1 K2, fun k hk => ?_⟩, hll⟩
    have a := h1 k (by omega)
    have b := h2 k (by omega)
    simp only [] at a b
    subst e1 e2
    show keep_Lines.f k s c n x y = _
    unfold keep_Lines.f
    rw [a, Option.bind_some]
    simp only [rdL2 s i hi, rd41 s[i] m hm]
    rw [if_pos trivial, if_pos (by omega), itoa_ev (i : Int) (by omega) (by omega), Option.bind_some, if_pos (by omega), if_pos (by simp only [ByteArray.size_append]; omega), itoa_ev (m : Int) (by omega) (by omega), Option.bind_some, if_pos (by simp only [ByteArray.size_append]; omega), if_pos (by omega), if_pos (by omega), if_pos (by omega), if_pos (by omega)]
    exact b
theorem lines_bad {s : List (List S41)} {c : List S43} {n : List S58} {x y r : Int} (h0 : r ≠ 0) (hw : Ev (fun k => keep_Worst.f k s c n x y) (0, 0, [], 0, r)) : Ev (fun k => keep_Lines.f k s c n x y) [] := by
  obtain ⟨K1, h1⟩ := hw
  refine ⟨K1, fun k hk => ?_⟩
  have a := h1 k (by omega)
  simp only [] at a
  show keep_Lines.f k s c n x y = _
  unfold keep_Lines.f
  rw [a, Option.bind_some]
  simp only []
  rw [if_neg h0]
end Go.Proofs.YtdllkibfikcfbaaDoor.PA
