import Derived.Test.YtjljhianehhlgaaDoorPB
/-! ### PostBooks: the walk -/
namespace Go.Proofs.YtjljhianehhlgaaDoor.M
open Go Go.RowKit Go.Maps Go.Proofs.YtjljhianehhlgaaDoorW.PrintWords Go.Proofs.YtjljhianehhlgaaDoorW.PrintLast Go.Proofs.YtjljhianehhlgaaDoorW.PrintMore Go.Proofs.YtjljhianehhlgaaDoor.K Go.Proofs.YtjljhianehhlgaaDoor.V Go.Proofs.YtjljhianehhlgaaDoor.KTab
set_option linter.unusedVariables false
theorem at_LL {w : World} {A : Option Addr} {ls : List (List S31)} (h : (Kd.slice 31 k31).C w A ls.length ls) (j : Nat) (hj : j < ls.length) : ∃ ad Aj cj, A = some ad ∧ w.cell? (ad.add j) = some (.slice Aj ls[j].length cj) ∧ ls[j].length ≤ cj ∧ k31.C w Aj ls[j].length ls[j] := by
  obtain ⟨_, _, hr⟩ := h
  obtain ⟨ad, ha, hcs⟩ := hr (by omega)
  obtain ⟨cs, h1, ⟨Aj, cj, rfl, hc, hC⟩, h3⟩ := hcs j ls[j] (List.getElem?_eq_getElem hj)
  have h4 := h3 0 _ rfl
  refine ⟨ad, Aj, cj, ha, ?_, hc, hC⟩
  rw [← h4]
  show _ = w.cell? (ad.add (j * 1 + 0))
  rw [Nat.mul_one, Nat.add_zero]
/-- What stands when so many lists have been booked. -/
structure BK (w : World) (g mb m4 k : Nat) (D D4 : DM) (ps : List S31) (cnt : Nat) : Prop where
  book : Book w g mb (30 * k) D cnt [] 88
  hold : Holds D (sumAt ps)
  want : MP w m4 (30 * k) D4
  nums : Nums D4
  vals : ∀ s, val D4 s = sumAt ps s
  fit : ∀ s, Fit (sumAt ps s)
  named : ∀ x ∈ ps, Named x.f0
  total : tot ps = 0
  n1 : m4 ≠ g
  n2 : m4 ≠ mb
  cnt0 : cnt ≤ 30 * k
/-- The copy of a map that is under way. -/
def CP (D4 D9 : DM) (left : Lit → Bool) : Prop := Nums D9 ∧ ∀ s, got D9 s = if left (.string s) = true then none else got D4 s
theorem CP.start (D4 : DM) : CP D4 (.map []) (has D4) := ⟨nums_empty, fun s => by
  rw [got_empty]
  by_cases q : has D4 (.string s) = true
  · rw [if_pos q]
  · rw [if_neg q, got_none (by simpa using q)]⟩
theorem CP.put {D4 D9 : DM} {left : Lit → Bool} (h : CP D4 D9 left) {s : List UInt8} {c : Int} (hat : ∀ z, D4.atKey (.string s) z = .lit (.int .i64 c)) (hw : (Lit.int .i64 c).wf = true) : CP D4 (D9.put (.string s) (.lit (.int .i64 c))) (fun z => left z && !z.sameKey (.string s)) := by
  have hc : -9223372036854775808 ≤ c ∧ c ≤ 9223372036854775807 := by
    simp [Lit.wf, IntKind.min, IntKind.max, IntKind.signed, IntKind.bits] at hw
    exact hw
  refine ⟨nums_put h.1 s hc.1 hc.2, fun s' => ?_⟩
  rw [got_put h.1, h.2 s']
  by_cases e : s' = s
  · subst e
    rw [if_pos rfl, if_neg (by simp only [key_eq]; simp), got_some hat]
  · rw [if_neg e]
    simp only [key_eq]
    simp [e]
theorem CP.done {D4 D9 : DM} {left : Lit → Bool} (h : CP D4 D9 left) (hl : ∀ z, left z = false) : ∀ s, val D9 s = val D4 s := fun s => by
  unfold val
  rw [h.2 s, if_neg (by rw [hl]; simp)]
/-- What the law's own booking knows when j entries have been gone through. -/
def KC (V : List UInt8 → Int) (l : List S31) (j : Nat) (code : Int) (D9 : DM) : Prop := Nums D9 ∧ ((chk 0 l ≠ 0 ∧ code = chk 0 l) ∨ (chk 0 l = 0 ∧ code = 0 ∧ Within V l j ∧ (∀ s, val D9 s = V s + sumAt (l.take j) s) ∧ ∀ s, Fit (V s + sumAt (l.take j) s)) ∨ (chk 0 l = 0 ∧ code = 10 ∧ ∃ i, i < l.length ∧ Within V l i ∧ ¬ Within V l (i + 1)))
theorem KC.start {V : List UInt8 → Int} {l : List S31} {D9 : DM} (hn : Nums D9) (hv : ∀ s, val D9 s = V s) (hf : ∀ s, Fit (V s)) : KC V l 0 (chk 0 l) D9 := by
  refine ⟨hn, ?_⟩
  by_cases q : chk 0 l = 0
  · exact .inr (.inl ⟨q, q, fun i h h0 => absurd h0 (Nat.not_lt_zero _), fun s => by rw [List.take_zero, hv]; simp [sumAt], fun s => by rw [List.take_zero]; simpa [sumAt] using hf s⟩)
  · exact .inl ⟨q, rfl⟩
theorem KC.skip {V : List UInt8 → Int} {l : List S31} {j : Nat} {code : Int} {D9 : DM} (h : KC V l j code D9) (hc : code ≠ 0) : KC V l (j + 1) code D9 := by
  obtain ⟨hn, h | h | h⟩ := h
  · exact ⟨hn, .inl h⟩
  · exact absurd h.2.1 hc
  · exact ⟨hn, .inr (.inr h)⟩
theorem KC.zero {V : List UInt8 → Int} {l : List S31} {j : Nat} {D9 : DM} (h : KC V l j 0 D9) : chk 0 l = 0 ∧ Within V l j ∧ (∀ s, val D9 s = V s + sumAt (l.take j) s) ∧ ∀ s, Fit (V s + sumAt (l.take j) s) := by
  obtain ⟨hn, h | h | h⟩ := h
  · exact absurd h.2.symm h.1
  · exact ⟨h.1, h.2.2⟩
  · exact absurd h.2.1 (by decide)
theorem within_succ {V : List UInt8 → Int} {l : List S31} {j : Nat} (hj : j < l.length) : Within V l (j + 1) ↔ Within V l j ∧ Fit (V (key l[j]) + sumAt (l.take j) (key l[j]) + l[j].f1) := by
  have e : V (key l[j]) + sumAt (l.take (j + 1)) (key l[j]) = V (key l[j]) + sumAt (l.take j) (key l[j]) + l[j].f1 := by rw [take_snoc hj, sumAt_append, sum_one, if_pos rfl, Int.add_assoc]
  constructor
  · intro h
    exact ⟨fun i hi h0 => h i hi (by omega), by rw [← e]; exact h j hj (by omega)⟩
  · rintro ⟨h, hf⟩ i hi h0
    rcases Nat.lt_or_ge i j with h1 | h1
    · exact h i hi h1
    · have : i = j := by omega
      subst this
      rw [e]; exact hf
theorem KC.good {V : List UInt8 → Int} {l : List S31} {j : Nat} {D9 : DM} (h : KC V l j 0 D9) (hj : j < l.length) {u : Int} (hu : u = V (key l[j]) + sumAt (l.take j) (key l[j])) (hf : Fit (u + l[j].f1)) : KC V l (j + 1) 0 (D9.put (kk l[j].f0) (.lit (.int .i64 (u + l[j].f1)))) := by
  have hz := h.zero
  have hb := hf
  unfold Fit at hb
  have hs (s : List UInt8) : sumAt (l.take (j + 1)) s = sumAt (l.take j) s + if key l[j] = s then l[j].f1 else 0 := by rw [take_snoc hj, sumAt_append, sum_one]
  refine ⟨nums_put h.1 _ (by omega) (by omega), .inr (.inl ⟨hz.1, rfl, (within_succ hj).2 ⟨hz.2.1, by rw [← hu]; exact hf⟩, fun s => ?_, fun s => ?_⟩)⟩
  · unfold val
    rw [show kk l[j].f0 = .string (key l[j]) from rfl, got_put h.1, hs]
    by_cases q : s = key l[j]
    · subst q
      rw [if_pos rfl, if_pos rfl]
      show u + _ = _
      omega
    · rw [if_neg q, if_neg (fun e => q e.symm), Int.add_zero]
      exact hz.2.2.1 s
  · rw [hs]
    by_cases q : key l[j] = s
    · rw [if_pos q, ← q, ← Int.add_assoc, ← hu]; exact hf
    · rw [if_neg q, Int.add_zero]; exact hz.2.2.2 s
theorem KC.bad {V : List UInt8 → Int} {l : List S31} {j : Nat} {D9 : DM} (h : KC V l j 0 D9) (hj : j < l.length) {u : Int} (hu : u = V (key l[j]) + sumAt (l.take j) (key l[j])) (h0 : -9223372036854775808 ≤ u + l[j].f1) (h1 : u + l[j].f1 ≤ 9223372036854775807) (hf : ¬ Fit (u + l[j].f1)) : KC V l (j + 1) 10 (D9.put (kk l[j].f0) (.lit (.int .i64 (u + l[j].f1)))) := by
  have hz := h.zero
  exact ⟨nums_put h.1 _ h0 h1, .inr (.inr ⟨hz.1, rfl, j, hj, hz.2.1, fun q => hf (by have := ((within_succ hj).1 q).2; rw [hu]; exact this)⟩)⟩
theorem val_put {D9 : DM} (hn : Nums D9) (s : List UInt8) (c : Int) : val (D9.put (.string s) (.lit (.int .i64 c))) s = c := by
  unfold val
  rw [got_put hn, if_pos rfl]
  rfl
theorem BK.same {w w' : World} {g mb m4 k : Nat} {D D4 : DM} {ps : List S31} {cnt : Nat} (h : BK w g mb m4 k D D4 ps cnt) (hb : Below w.heap.size w w') : BK w' g mb m4 (k + 1) D D4 ps cnt := by
  have hbk := h.book.below hb h.book.lt h.book.map.lt
  exact ⟨⟨hbk.blk, hbk.map.mono (by omega), hbk.ne⟩, h.hold, (h.want.below hb h.want.lt).mono (by omega), h.nums, h.vals, h.fit, h.named, h.total, h.n1, h.n2, by have := h.cnt0; omega⟩
theorem BK.same' {w w' : World} {g mb m4 k : Nat} {D D4 : DM} {ps : List S31} {cnt : Nat} (h : BK w g mb m4 k D D4 ps cnt) (hb : Below w.heap.size w w') : BK w' g mb m4 k D D4 ps cnt := ⟨h.book.below hb h.book.lt h.book.map.lt, h.hold, h.want.below hb h.want.lt, h.nums, h.vals, h.fit, h.named, h.total, h.n1, h.n2, h.cnt0⟩
theorem holds_congr {D : DM} {V V' : List UInt8 → Int} (h : Holds D V) (e : ∀ s, V s = V' s) : Holds D V' := by
  have : V = V' := funext e
  exact this ▸ h
theorem BK.more {w w' : World} {g mb m4 m9 k n' m : Nat} {D D4 D' D9 : DM} {ps l : List S31} {cnt : Nat} (h : BK w g mb m4 k D D4 ps cnt) (hl : l.length ≤ 30) (hk : KC (sumAt ps) l l.length 0 D9) (hbk : Book w' g mb n' D' ((cnt : Int) + l.length) [] 88) (hn : n' ≤ 30 * k + l.length) (hh : Holds D' (fun s => sumAt ps s + sumAt l s)) (hm : MP w' m9 m D9) (hm2 : m ≤ 30 * k + l.length) (h1 : m9 ≠ g) (h2 : m9 ≠ mb) : BK w' g mb m9 (k + 1) D' D9 (ps ++ l) (cnt + l.length) := by
  have hz := hk.zero
  rw [List.take_length] at hz
  have ha : ∀ s, sumAt ps s + sumAt l s = sumAt (ps ++ l) s := fun s => (sumAt_append ps l s).symm
  refine ⟨⟨?_, hbk.map.mono (by omega), hbk.ne⟩, holds_congr hh ha, hm.mono (by omega), hk.1, fun s => by rw [← ha]; exact hz.2.2.1 s, fun s => by rw [← ha]; exact hz.2.2.2 s, fun x hx => ?_, ?_, h1, h2, by have := h.cnt0; omega⟩
  · rw [hbk.blk]
    rfl
  · rcases List.mem_append.1 hx with hx | hx
    · exact h.named x hx
    · exact (chk_ok l 0 hz.1 x hx).2
  · have := chk_sum l 0 30 hz.1 hl (by decide) (by decide) (by decide)
    rw [tot_append, h.total]
    omega
set_option maxHeartbeats 2000000 in
set_option maxRecDepth 100000 in
theorem postBooks_calls {w : World} {A : Option Addr} {c : Nat} {ls : List (List S31)} (hr : (Kd.slice 31 k31).C w A ls.length ls) (hc : ls.length ≤ c) (hl : ∀ l ∈ ls, ∀ x ∈ l, Came x) (htb : TB w) :
    Calls Tryd.prog 3 #[.slice A ls.length c] w fun e w' => e = .returned (.bool true) ∧ Below w.heap.size w w' := by
  have hmm := @run_makeMap Tryd.prog
  have HR := AM hr
  have HC := AM hc
  have HL := AM hl
  have HT := AM htb
  clear hr hc hl htb
  by_cases h30 : (ls.length : Int) > 30
  · have hd : decide ((30 : Int) < (ls.length : Int)) = true := decide_eq_true h30
    go_enter Tryd.func3, Tryd.ntmps3
    go_wp2_with (go_at_call 9; (with_reducible refine (stipendlaw22_books.calls _ HT.out).mono ?_); rintro e w1 ⟨rfl, hb⟩; have HB := AM hb; clear hb)
    go_ret
    exact ⟨rfl, HB.out⟩
  · have hd : decide ((30 : Int) < (ls.length : Int)) = false := decide_eq_false h30
    have H30 := AM h30
    clear h30
    go_enter Tryd.func3, Tryd.ntmps3
    go_wp2_with (first
      | (go_at_call 9; (with_reducible refine (stipendlaw22_books.calls _ HT.out).mono ?_); rintro e w1 ⟨rfl, hb⟩; have HB0 := AM hb; clear hb)
      | (go_at_call 10; (with_reducible refine (new_t _).mono ?_); rintro e w2 ⟨g, mb, rfl, hbk, hg1, hg2, hb⟩; have HBK0 := AM hbk; have HG1 := AM (Nat.le_trans HB0.out.size hg1); have HG2 := AM (Nat.le_trans HB0.out.size hg2); have HB2 := AM (bT HB0.out hb); clear hbk hg1 hg2 hb))
    go_loopw [4, 5, 30] (fun s4 s5 s30 wr => ∃ (k m4 cnt : Nat) (D D4 : DM) (ps : List S31), s4 = .map (some m4) ∧ s5 = .int .i64 cnt ∧ s30 = .int .i64 k ∧ Aside0 (k ≤ ls.length) ∧ Aside0 (BK wr g mb m4 k D D4 ps cnt) ∧ Aside0 (w.heap.size ≤ m4) ∧ Aside0 (Below w.heap.size w wr)) (fun _ _ i _ => ls.length - (intOf i).toNat)
    case atStart =>
      have hgl := HBK0.out.lt
      have hml := HBK0.out.map.lt
      exact ⟨0, _, 0, _, .map [], [], rfl, rfl, rfl, ⟨Nat.zero_le _⟩, ⟨⟨(HBK0.out.below (bA (Below.refl _ _) _) hgl hml), holds_empty, made w2, nums_empty, fun s => by unfold val; rw [got_empty]; rfl, fun s => by show Fit 0; decide, fun x hx => by simp at hx, rfl, by omega, by omega, Nat.zero_le _⟩⟩, ⟨HB2.out.size⟩, ⟨bA HB2.out _⟩⟩
    case round =>
      obtain ⟨k, m4, cnt, D, D4, ps, rfl, rfl, rfl, HK, HBK, HM4, HB⟩ := hrel
      rename World => W0
      clear HBK0 HB2 HB0
      by_cases hlt : k < ls.length
      · obtain ⟨ad, Aj, cj, rfl, hx0, hcj, hCj⟩ := at_LL HR.out k hlt
        replace hx0 := (HB.out.cell (bL w _ hx0)).trans hx0
        have HCJ := AM hcj
        have HCC := AM (cB hCj HB.out)
        have HLJ : Aside0 (∀ x ∈ ls[k], Came x) := AM (HL.out _ (List.getElem_mem hlt))
        have hwr : IntKind.i64.wrap ((k : Int) + 1) = ((k + 1 : Nat) : Int) := by rw [IntKind.wrap_i64]; have := H30.out; omega
        have hgt : decide ((k : Int) < (ls.length : Int)) = true := decide_eq_true (by omega)
        obtain ⟨l, hlk⟩ : ∃ l, l = ls[k] := ⟨_, rfl⟩
        rw [← hlk] at hx0 HCJ HCC HLJ
        clear hcj hCj hlk
        by_cases h30 : (l.length : Int) > 30
        · have hd3 : decide ((30 : Int) < (l.length : Int)) = true := decide_eq_true h30
          clear h30
          go_wp2
          go_ret
          exact ⟨rfl, HB.out⟩
        · have hd3 : decide ((30 : Int) < (l.length : Int)) = false := decide_eq_false h30
          have HL30 := AM h30
          have HCK := AM (check_ev l (by omega) (fun x hx => size_ok' (HLJ.out x hx)))
          clear h30
          have hgl := HBK.out.book.lt
          have hml := HBK.out.book.map.lt
          have hwl := HBK.out.want.lt
          go_wp2_with (first
            | (go_at_call 11; (with_reducible refine (check_t HCC.out HCJ.out HCK.out).mono ?_); rintro e w3 ⟨rfl, hb⟩; have HS3 := AM hb; clear hb)
            | (at_range; refine wp_range rfl _ rfl rfl (HBK.out.want.below (bA HS3.out _) hwl) ?_; intro w5 hrg hgr hsz2; have HRG := AM hrg; have HGR := AM hgr; clear hrg hgr hsz2; go_frame))
          have hrs : (w3.alloc (.map #[] 0)).heap.size = w3.heap.size + 1 := by simp
          have hw3 := HS3.out.size
          rw [hrs] at HRG ⊢
          clear hrs
          go_loopw [10] (fun _ wq => ∃ (left : Lit → Bool) (cnt' m : Nat) (D9 : DM), Aside0 (RG wq m4 (w3.heap.size + 1) (30 * k) D4 left cnt') ∧ Aside0 (MP wq w3.heap.size m D9) ∧ Aside0 (m + cnt' ≤ 30 * k) ∧ Aside0 (CP D4 D9 left) ∧ Aside0 (Below W0.heap.size W0 wq)) (fun _ wq => wq.rangeLeft m4 (w3.heap.size + 1))
          case atStart =>
            exact ⟨_, _, 0, .map [], HRG, ⟨(made w3).touch (Touch.of_grown HGR.out) (fun q => by cases q)⟩, ⟨by have := World.ownsMap.size_le HBK.out.want; omega⟩, ⟨CP.start D4⟩, ⟨Touch.below_after (bA HS3.out _) (Touch.of_grown HGR.out) (fun _ q => by cases q)⟩⟩
          case round =>
            obtain ⟨left, cnt', m, D9, HR2, HM9, HC2, HCP, HS⟩ := hrel
            go_wp2_with (first
              | (at_next; refine wp_next rfl _ rfl left cnt' rfl HR2.out ?_ ?_))
            · intro hz hl
              have HCP2 := AM (HCP.out.done hl)
              have HN9 := AM HCP.out.1
              have HM := AM (HM9.out.mono (by have := HC2.out; omega : m ≤ 30 * k))
              clear hz hl HCP HC2 HR2 HM9 HRG HGR HS3
              go_wp2
              go_loopw [8, 52] (fun s8 s52 wq => ∃ (j m : Nat) (code : Int) (D9 : DM), s8 = .int .i64 code ∧ s52 = .int .i64 j ∧ Aside0 (j ≤ l.length) ∧ Aside0 (m ≤ 30 * k + j) ∧ Aside0 (MP wq w3.heap.size m D9) ∧ Aside0 (KC (sumAt ps) l j code D9) ∧ Aside0 (Below W0.heap.size W0 wq)) (fun _ i _ => l.length - (intOf i).toNat)
              case atStart => exact ⟨0, 30 * k, _, D9, rfl, rfl, ⟨Nat.zero_le _⟩, ⟨Nat.le_refl _⟩, HM, ⟨KC.start HN9.out (fun s => by rw [HCP2.out, HBK.out.vals]) HBK.out.fit⟩, HS⟩
              case round =>
                obtain ⟨j, m2, code, D9, rfl, rfl, HJ, HM2, HM9, HKC, HS⟩ := hrel
                by_cases hlt2 : j < l.length
                · have hrd := rd31 l j hlt2
                  obtain ⟨al, hal, hy0, hy1⟩ := at_T31 HCC.out (j : Int) (by omega) (by omega)
                  subst hal
                  replace hy0 := (HS.out.cell (bL W0 _ hy0)).trans hy0
                  replace hy1 := (HS.out.cell (bL W0 _ hy1)).trans hy1
                  rw [hrd] at hy0 hy1
                  simp only [Int.toNat_natCast] at hy0 hy1
                  have hwj : IntKind.i64.wrap ((j : Int) + 1) = ((j + 1 : Nat) : Int) := by rw [IntKind.wrap_i64]; have := HL30.out; omega
                  have hgt2 : decide ((j : Int) < (l.length : Int)) = true := decide_eq_true (by omega)
                  have hsz := (HLJ.out _ (List.getElem_mem hlt2)).1
                  by_cases hc0 : code = 0
                  · subst hc0
                    have hz := HKC.out.zero
                    obtain ⟨u, hu⟩ : ∃ u, u = sumAt ps (key l[j]) + sumAt (l.take j) (key l[j]) := ⟨_, rfl⟩
                    have hfu : Fit u := by rw [hu]; exact hz.2.2.2 _
                    have hff : Fit l[j].f1 := (chk_ok l 0 hz.1 _ (List.getElem_mem hlt2)).1
                    have hb0 : -9223372036854775808 ≤ u + l[j].f1 := by unfold Fit at hfu hff; omega
                    have hb1 : u + l[j].f1 ≤ 9223372036854775807 := by unfold Fit at hfu hff; omega
                    have hwu : wrap64 (u + l[j].f1) = u + l[j].f1 := wrap_in hb0 hb1
                    have hvl : val D9 l[j].f0.data.toList = u := by rw [hu]; exact hz.2.2.1 _
                    have hn9 := HKC.out.1
                    have hl1 (ob : Obj) := MP.look (w := wr.alloc ob) (HM9.out.below (bA (Below.refl _ _) _) HM9.out.lt) hn9 hsz
                    rw [hvl] at hl1
                    have HU := AM hu
                    have HWF := AM (wf_of hb0 hb1)
                    have HB0 := AM hb0
                    have HB1 := AM hb1
                    have HN2 := AM (nums_put hn9 l[j].f0.data.toList hb0 hb1)
                    have HV2 := AM (val_put hn9 l[j].f0.data.toList (u + l[j].f1))
                    clear hz hu hfu hff hb0 hb1 hvl hn9
                    by_cases hq : Fit (u + l[j].f1)
                    · have hf1 : decide ((100000000000 : Int) < u + l[j].f1) = false := decide_eq_false (by unfold Fit at hq; omega)
                      have hf2 : decide (u + l[j].f1 < (-100000000000 : Int)) = false := decide_eq_false (by unfold Fit at hq; omega)
                      have HG := AM (HKC.out.good hlt2 HU.out hq)
                      clear hq
                      go_wp2_with (first
                        | (at_mapUpdate; refine wp_put (b := w3.heap.size) (n := m2) (D := D9) rfl _ _ _ rfl rfl (HM9.out.below (bA (Below.refl _ _) _) HM9.out.lt) (by have := HM2.out; have := HJ.out; have := H30.out; have := HL30.out; have := HK.out; unfold maxLen; omega) l[j].f0 (u + l[j].f1) rfl (by first | rfl | exact congrArg (Value.int .i64) hwu) hsz HWF.out ?_; intro w8 hm8 hgr8; have hl3 : (Instr.lookup 26 (.map (some w3.heap.size)) (.string l[j].f0) false).run Tryd.prog w8 = .ok (.int .i64 (u + l[j].f1)) w8 := (MP.look hm8 HN2.out hsz).trans (by rw [show val (D9.put (kk l[j].f0) (.lit (.int .i64 (u + l[j].f1)))) l[j].f0.data.toList = _ from HV2.out]); have HM8 := AM hm8; have hm9l := HM9.out.lt; have HBX := AM (blk_touch (blk_new wr _) (Touch.of_grown hgr8) (fun q => by injection q; omega)); have hX := bX2 HBX.out; obtain ⟨_, _, _, _⟩ := hX; have HS8 := AM (Touch.below_after (bA HS.out _) (Touch.of_grown hgr8) (fun i q => by injection q; omega)); clear hm8 hgr8; go_frame))
                      go_roundw
                      case rel => exact ⟨j + 1, m2 + 1, 0, _, rfl, rfl, ⟨hlt2⟩, ⟨by have := HM2.out; omega⟩, HM8, HG, HS8⟩
                      case measure => simp only [intOf]; omega
                    · have HG := AM (HKC.out.bad hlt2 HU.out HB0.out HB1.out hq)
                      by_cases h1 : (100000000000 : Int) < u + l[j].f1
                      · have hf1 : decide ((100000000000 : Int) < u + l[j].f1) = true := decide_eq_true h1
                        clear h1 hq
                        go_wp2_with (first
                        | (at_mapUpdate; refine wp_put (b := w3.heap.size) (n := m2) (D := D9) rfl _ _ _ rfl rfl (HM9.out.below (bA (Below.refl _ _) _) HM9.out.lt) (by have := HM2.out; have := HJ.out; have := H30.out; have := HL30.out; have := HK.out; unfold maxLen; omega) l[j].f0 (u + l[j].f1) rfl (by first | rfl | exact congrArg (Value.int .i64) hwu) hsz HWF.out ?_; intro w8 hm8 hgr8; have hl3 : (Instr.lookup 26 (.map (some w3.heap.size)) (.string l[j].f0) false).run Tryd.prog w8 = .ok (.int .i64 (u + l[j].f1)) w8 := (MP.look hm8 HN2.out hsz).trans (by rw [show val (D9.put (kk l[j].f0) (.lit (.int .i64 (u + l[j].f1)))) l[j].f0.data.toList = _ from HV2.out]); have HM8 := AM hm8; have hm9l := HM9.out.lt; have HBX := AM (blk_touch (blk_new wr _) (Touch.of_grown hgr8) (fun q => by injection q; omega)); have hX := bX2 HBX.out; obtain ⟨_, _, _, _⟩ := hX; have HS8 := AM (Touch.below_after (bA HS.out _) (Touch.of_grown hgr8) (fun i q => by injection q; omega)); clear hm8 hgr8; go_frame))
                        go_roundw
                        case rel => exact ⟨j + 1, m2 + 1, 10, _, rfl, rfl, ⟨hlt2⟩, ⟨by have := HM2.out; omega⟩, HM8, HG, HS8⟩
                        case measure => simp only [intOf]; omega
                      · have hf1 : decide ((100000000000 : Int) < u + l[j].f1) = false := decide_eq_false h1
                        have hf2 : decide (u + l[j].f1 < (-100000000000 : Int)) = true := decide_eq_true (by unfold Fit at hq; omega)
                        clear h1 hq
                        go_wp2_with (first
                        | (at_mapUpdate; refine wp_put (b := w3.heap.size) (n := m2) (D := D9) rfl _ _ _ rfl rfl (HM9.out.below (bA (Below.refl _ _) _) HM9.out.lt) (by have := HM2.out; have := HJ.out; have := H30.out; have := HL30.out; have := HK.out; unfold maxLen; omega) l[j].f0 (u + l[j].f1) rfl (by first | rfl | exact congrArg (Value.int .i64) hwu) hsz HWF.out ?_; intro w8 hm8 hgr8; have hl3 : (Instr.lookup 26 (.map (some w3.heap.size)) (.string l[j].f0) false).run Tryd.prog w8 = .ok (.int .i64 (u + l[j].f1)) w8 := (MP.look hm8 HN2.out hsz).trans (by rw [show val (D9.put (kk l[j].f0) (.lit (.int .i64 (u + l[j].f1)))) l[j].f0.data.toList = _ from HV2.out]); have HM8 := AM hm8; have hm9l := HM9.out.lt; have HBX := AM (blk_touch (blk_new wr _) (Touch.of_grown hgr8) (fun q => by injection q; omega)); have hX := bX2 HBX.out; obtain ⟨_, _, _, _⟩ := hX; have HS8 := AM (Touch.below_after (bA HS.out _) (Touch.of_grown hgr8) (fun i q => by injection q; omega)); clear hm8 hgr8; go_frame))
                        go_roundw
                        case rel => exact ⟨j + 1, m2 + 1, 10, _, rfl, rfl, ⟨hlt2⟩, ⟨by have := HM2.out; omega⟩, HM8, HG, HS8⟩
                        case measure => simp only [intOf]; omega
                  · have hc1 : (code == 0) = false := beq_eq_false_iff_ne.2 hc0
                    have HG := AM (HKC.out.skip hc0)
                    clear hc0
                    go_wp2
                    go_roundw
                    case rel => exact ⟨j + 1, m2, code, D9, rfl, rfl, ⟨hlt2⟩, ⟨by have := HM2.out; omega⟩, ⟨HM9.out.below (bA (Below.refl _ _) _) HM9.out.lt⟩, HG, ⟨bA HS.out _⟩⟩
                    case measure => simp only [intOf]; omega
                · have hgt2 : decide ((j : Int) < (l.length : Int)) = false := decide_eq_false (by omega)
                  have hjl : j = l.length := by have := HJ.out; omega
                  have HKL := AM (hjl ▸ HKC.out : KC (sumAt ps) l l.length code D9)
                  have HM2L := AM (hjl ▸ HM2.out : m2 ≤ 30 * k + l.length)
                  have HFIT : Aside0 (chk 0 l = 0 → ∀ x ∈ l, Fit x.f1) := AM (fun q x hx => (chk_ok l 0 q x hx).1)
                  have HSZ : Aside0 (∀ x ∈ l, x.f0.size ≤ maxLen) := AM (fun x hx => (HLJ.out x hx).1)
                  have HBW := AM (HBK.out.book.below HS.out hgl hml)
                  have HCW := AM (cB HCC.out HS.out)
                  have HBX := AM (bT HB.out HS.out)
                  clear HKC HM2 hjl
                  obtain ⟨_, hcode | hcode | hcode⟩ := HKL.out
                  · have HC0 := AM hcode.1
                    have hne : (code == 0) = false := beq_eq_false_iff_ne.2 (by rw [hcode.2]; exact hcode.1)
                    obtain ⟨_, rfl⟩ := hcode
                    go_wp2_with (first
                      | (go_at_call 12; (with_reducible refine (post_bad (g := g) HCW.out HCJ.out HCK.out HC0.out).mono ?_); rintro e w9 ⟨rfl, hb⟩; have HQ := AM (HBK.out.same (bT HS.out hb)); have HBQ := AM (bT HBX.out hb); have HM5 := HM4; clear hb)
                      | (go_at_call 13; (with_reducible refine (bal_t HQ.out.book (nums_of HQ.out.hold) (by have := H30.out; have := HK.out; omega)).mono ?_); rintro e w10 ⟨Ab, cb, ys, rfl, hcb, hCb, hBal, hys, hb⟩; have HYB := AM hBal; have HYN := AM hys; have HYC := AM hCb; have HYR := AM (HQ.out.same' hb); have HBY := AM (bT HBQ.out hb); clear hcb hCb hBal hys hb))
                    have HYL : Aside0 (ys.length ≤ 900) := AM (by have := HYN.out; have := H30.out; have := HK.out; omega)
                    go_loopw [14, 15, 16, 93] (fun s14 s15 s16 s93 wq => ∃ (i : Nat) (lb : ByteArray), s14 = .int .i64 (tot (ys.take i)) ∧ s15 = .int .i64 i ∧ s16 = .string lb ∧ s93 = .int .i64 i ∧ Aside0 (i ≤ ys.length) ∧ Aside0 (∀ h : i < ys.length, lb.data.toList < key ys[i]) ∧ Aside0 (Below w10.heap.size w10 wq)) (fun _ _ _ i _ => ys.length - (intOf i).toNat)
                    case atStart => exact ⟨0, ⟨#[]⟩, rfl, rfl, rfl, rfl, ⟨Nat.zero_le _⟩, ⟨fun h => key_ne_nil HYR.out.named (by have hb := bal_at HYB.out HYR.out.hold (List.getElem_mem h); rw [hb.1]; exact hb.2)⟩, ⟨Below.refl _ _⟩⟩
                    case round =>
                      obtain ⟨i, lb, rfl, rfl, rfl, rfl, HI6, HLB, HS6⟩ := hrel
                      by_cases hlt6 : i < ys.length
                      · have hrd := rd31 ys i hlt6
                        obtain ⟨ay, hay, hy0, hy1⟩ := at_T31 HYC.out (i : Int) (by omega) (by omega)
                        subst hay
                        replace hy0 := (HS6.out.cell (bL w10 _ hy0)).trans hy0
                        replace hy1 := (HS6.out.cell (bL w10 _ hy1)).trans hy1
                        rw [hrd] at hy0 hy1
                        simp only [Int.toNat_natCast] at hy0 hy1
                        have hwi : IntKind.i64.wrap ((i : Int) + 1) = ((i + 1 : Nat) : Int) := by rw [IntKind.wrap_i64]; have := HYL.out; omega
                        have hgt6 : decide ((i : Int) < (ys.length : Int)) = true := decide_eq_true (by omega)
                        have hba := bal_at HYB.out HYR.out.hold (List.getElem_mem hlt6)
                        have hsz6 := HYB.out.2.2 _ (List.getElem_mem hlt6)
                        have hnz : (ys[i].f1 == 0) = false := beq_eq_false_iff_ne.2 hba.2
                        have hvw := HYR.out.vals (key ys[i])
                        rw [hba.1] at hvw
                        have hvo := HYR.out.hold.val (key ys[i])
                        rw [hba.1] at hvo
                        have hl1 (ob : Obj) (q : Nat) := MP.look (w := (wr.alloc ob).drewN q) (HYR.out.want.below (bD (bA HS6.out _) _) HYR.out.want.lt) HYR.out.nums hsz6
                        rw [show val _ ys[i].f0.data.toList = ys[i].f1 from hvw] at hl1
                        have hon (ob : Obj) (q : Nat) := on_t (w := (wr.alloc ob).drewN q) (HYR.out.book.below (bD (bA HS6.out _) _) HYR.out.book.lt HYR.out.book.map.lt) (nums_of HYR.out.hold) ys[i].f0 hsz6
                        rw [show val _ ys[i].f0.data.toList = ys[i].f1 from hvo] at hon
                        have HON := AM hon
                        have hle := HLB.out hlt6
                        have hle1 : Op.bytesLess ys[i].f0.toList lb.toList = false := by
                          rw [bytesLess_eq, Lib.toList_data, Lib.toList_data]
                          exact decide_eq_false (fun h => absurd (List.lt_trans h hle) (List.lt_irrefl _))
                        have hle2 : (ys[i].f0.toList == lb.toList) = false := by
                          rw [Lib.toList_data, Lib.toList_data]
                          exact beq_eq_false_iff_ne.2 (fun e => by rw [← e] at hle; exact absurd hle (List.lt_irrefl _))
                        have hfs : ∀ y ∈ ys, Fit y.f1 := fun y hy => by rw [← (bal_at HYB.out HYR.out.hold hy).1]; exact HYR.out.fit _
                        have htr := tot_rng (ys.take i) (fun y hy => hfs y (List.mem_of_mem_take hy))
                        have hff := hfs _ (List.getElem_mem hlt6)
                        have hts : tot (ys.take (i + 1)) = tot (ys.take i) + ys[i].f1 := by
                          rw [take_snoc hlt6, tot_append]
                          simp only [tot]
                          omega
                        have hwt : wrap64 (tot (ys.take i) + ys[i].f1) = tot (ys.take (i + 1)) := by
                          rw [hts]
                          have hl9 := HYL.out
                          rw [List.length_take] at htr
                          unfold Fit at hff
                          exact wrap_in (by omega) (by omega)
                        have HNX : Aside0 (∀ h : i + 1 < ys.length, ys[i].f0.data.toList < key ys[i + 1]) := AM (fun h => by
                          have := List.pairwise_iff_getElem.1 HYB.out.2.1 i (i + 1) hlt6 h (by omega)
                          exact this)
                        clear hba hvw hvo hon hle hfs htr hff hts
                        go_wp2
                        go_quiet (first | (go_at_call 14; (with_reducible refine (HON.out _ _).mono ?_); rintro e wz ⟨rfl, hz⟩; subst hz; (try first | exact ⟨rfl, _, rfl⟩)))
                        go_wp2
                        go_roundw
                        case rel => exact ⟨i + 1, ys[i].f0, congrArg (Value.int .i64) hwt, rfl, rfl, rfl, ⟨hlt6⟩, HNX, ⟨bD (bA HS6.out _) _⟩⟩
                        case measure => simp only [intOf]; omega
                      · have hgt6 : decide ((i : Int) < (ys.length : Int)) = false := decide_eq_false (by omega)
                        rename World => W12
                        have hiy : i = ys.length := by have := HI6.out; omega
                        have htt : tot (ys.take i) = 0 := by
                          rw [hiy, List.take_length]
                          rw [tot_bal ys _ HYB.out.2.1 (fun y hy => (bal_at HYB.out HYR.out.hold hy).1) (fun t ht => bal_off HYB.out HYR.out.hold ht)]
                          exact HYR.out.total
                        have HIY := AM hiy
                        have HZR := AM (HYR.out.same' HS6.out)
                        have HBZ := AM (bT HBY.out HS6.out)
                        clear hiy
                        rw [htt]
                        clear htt HS6 HLB
                        go_wp2_with (first
                          | (at_range; refine wp_range rfl _ rfl rfl HZR.out.want ?_; intro W11 hrg hgr hsz2; have HRG := AM hrg; have HGR := AM hgr; clear hrg hgr hsz2; go_frame))
                        have HBB := AM (Touch.below_after (Below.refl _ _) (Touch.of_grown HGR.out) (fun _ q => by cases q) : Below W12.heap.size W12 W11)
                        go_loopw [15, 20] (fun s15 _ wq => ∃ (left : Lit → Bool) (cnt' : Nat) (zs : List (List UInt8)), s15 = .int .i64 ((i : Int) - zs.length) ∧ Aside0 (RG wq m4 W12.heap.size (30 * (k + 1)) D4 left cnt') ∧ Aside0 (VZ D4 left zs) ∧ Aside0 (zs.length + cnt' ≤ 30 * (k + 1)) ∧ Aside0 (Below W12.heap.size W12 wq)) (fun _ _ wq => wq.rangeLeft m4 W12.heap.size)
                        case atStart => exact ⟨_, _, [], by simp, HRG, ⟨VZ.start _⟩, ⟨by have := World.ownsMap.size_le HZR.out.want; simpa using this⟩, HBB⟩
                        case round =>
                          obtain ⟨left, cnt', zs, rfl, HR8, HVZ, HC8, HS8⟩ := hrel
                          go_wp2_with (first
                            | (at_next; refine wp_next rfl _ rfl left cnt' rfl HR8.out ?_ ?_))
                          · intro hz hl
                            have hlen := HVZ.out.len hl HYB.out HYR.out.hold HYR.out.vals
                            have hs0 : ((i : Int) - zs.length != 0) = false := bne_eq_false_iff_eq.2 (by have := HIY.out; omega)
                            have HV8 := AM (HZR.out.same' HS8.out)
                            have HB8 := AM (bT HBZ.out HS8.out)
                            have hnob : Calls Tryd.prog 14 #[.pointer (some ⟨g, 0, none⟩), .string ⟨#[110, 111, 98, 111, 100, 121, 32, 104, 101, 114, 101]⟩] wr fun o w' => o = .returned (.int .i64 0) ∧ w' = wr := by
                              have h := on_t HV8.out.book (nums_of HV8.out.hold) nobody (by decide)
                              rw [HV8.out.hold.val, off_named HV8.out.named not_named_nobody] at h
                              exact h
                            have HNO := AM hnob
                            clear hz hl hlen hnob HR8 HVZ
                            go_wp2_with (first
                              | (go_at_call 15; (with_reducible refine (entries_t HV8.out.book).mono ?_); rintro e wz ⟨rfl, hz⟩; subst hz)
                              | (go_at_call 14; (with_reducible refine HNO.out.mono ?_); rintro e wz ⟨rfl, hz⟩; subst hz))
                            go_roundw
                            case rel => exact ⟨k + 1, _, _, _, _, _, rfl, rfl, rfl, ⟨hlt⟩, HV8, HM5, HB8⟩
                            case measure => simp only [intOf]; omega
                          · intro x cc w13 cnt2 hsx hwf hlx hat hrg hlt4 hgr4 hsz4 hen
                            have HR13 := AM hrg
                            have HLT := AM hlt4
                            have HS13 := AM (Touch.below_after HS8.out (Touch.of_grown hgr4) (fun q h => by injection h; omega))
                            by_cases q0 : cc = 0
                            · subst q0
                              have HVZ2 := AM (HVZ.out.same hat)
                              clear hlx hat hrg hlt4 hgr4 hsz4
                              go_wp2
                              go_roundw
                              case rel => exact ⟨_, cnt2, zs, rfl, HR13, HVZ2, ⟨by have := HC8.out; have := HLT.out; omega⟩, HS13⟩
                              case measure => rw [World.ranges.left_eq HR13.out, World.ranges.left_eq HR8.out]; exact HLT.out
                            · have hq1 : (cc != 0) = true := bne_iff_ne.2 q0
                              have HVZ2 := AM (HVZ.out.more hlx hat q0)
                              have hw8 : wrap64 ((i : Int) - zs.length - 1) = (i : Int) - (zs ++ [x.data.toList]).length := by
                                have h1 := HC8.out
                                have h2 := HI6.out
                                have h3 := HYL.out
                                have h4 := H30.out
                                have h5 := HK.out
                                rw [List.length_append]
                                simp only [List.length_cons, List.length_nil]
                                rw [wrap_in (by omega) (by omega)]
                                omega
                              clear hlx hat hrg hlt4 hgr4 hsz4 q0
                              go_wp2
                              go_roundw
                              case rel => exact ⟨_, cnt2, _, congrArg (Value.int .i64) hw8, HR13, HVZ2, ⟨by rw [List.length_append]; have := HC8.out; have := HLT.out; simp only [List.length_cons, List.length_nil]; omega⟩, HS13⟩
                              case measure => rw [World.ranges.left_eq HR13.out, World.ranges.left_eq HR8.out]; exact HLT.out
                  · obtain ⟨hc0, rfl, hcw⟩ := hcode
                    have HC0 := AM hc0
                    have HCK2 := HCK.out
                    rw [hc0] at HCK2
                    have HCW1 := AM hcw.1
                    clear hc0 hcw
                    have hwc : IntKind.i64.wrap ((cnt : Int) + (l.length : Int)) = ((cnt + l.length : Nat) : Int) := by rw [IntKind.wrap_i64]; have := HBK.out.cnt0; have := H30.out; have := HK.out; have := HL30.out; omega
                    go_wp2_with (first
                      | (go_at_call 12; (with_reducible refine (post_walk (V := sumAt ps) HBW.out HBK.out.hold HBK.out.fit HCW.out HCJ.out HCK2 (HFIT.out HC0.out) HSZ.out (by have := HL30.out; omega) (by have := H30.out; have := HK.out; omega) (by omega) (by have := HBK.out.cnt0; have := H30.out; have := HK.out; omega) l.length (Nat.le_refl _) HCW1.out (fun q => absurd q (Nat.lt_irrefl _))).mono ?_); rintro e w9 (⟨hlt9, _⟩ | ⟨_, rfl, D', n', hn', hbk', hh', ht'⟩); exact absurd hlt9 (Nat.lt_irrefl _); have hm9l := HM9.out.lt; have hw0 := hgl; have hw1 := hml; have HQ := AM (HBK.out.more (by have := HL30.out; omega) HKL.out hbk' hn' hh' (HM9.out.touch ht' (fun q => by rcases q with q | q <;> omega)) HM2L.out (by omega) (by omega)); have HBQ := AM (Touch.below_after HBX.out ht' (fun k q => by rcases q with rfl | rfl; exact HG1.out; exact HG2.out)); have HM5 : Aside0 (w.heap.size ≤ w3.heap.size) := AM (Nat.le_trans HB.out.size hw3); clear hbk' hn' hh' ht')
                      | (go_at_call 13; (with_reducible refine (bal_t HQ.out.book (nums_of HQ.out.hold) (by have := H30.out; have := HK.out; omega)).mono ?_); rintro e w10 ⟨Ab, cb, ys, rfl, hcb, hCb, hBal, hys, hb⟩; have HYB := AM hBal; have HYN := AM hys; have HYC := AM hCb; have HYR := AM (HQ.out.same' hb); have HBY := AM (bT HBQ.out hb); clear hcb hCb hBal hys hb))
                    have HYL : Aside0 (ys.length ≤ 900) := AM (by have := HYN.out; have := H30.out; have := HK.out; omega)
                    go_loopw [14, 15, 16, 93] (fun s14 s15 s16 s93 wq => ∃ (i : Nat) (lb : ByteArray), s14 = .int .i64 (tot (ys.take i)) ∧ s15 = .int .i64 i ∧ s16 = .string lb ∧ s93 = .int .i64 i ∧ Aside0 (i ≤ ys.length) ∧ Aside0 (∀ h : i < ys.length, lb.data.toList < key ys[i]) ∧ Aside0 (Below w10.heap.size w10 wq)) (fun _ _ _ i _ => ys.length - (intOf i).toNat)
                    case atStart => exact ⟨0, ⟨#[]⟩, rfl, rfl, rfl, rfl, ⟨Nat.zero_le _⟩, ⟨fun h => key_ne_nil HYR.out.named (by have hb := bal_at HYB.out HYR.out.hold (List.getElem_mem h); rw [hb.1]; exact hb.2)⟩, ⟨Below.refl _ _⟩⟩
                    case round =>
                      obtain ⟨i, lb, rfl, rfl, rfl, rfl, HI6, HLB, HS6⟩ := hrel
                      by_cases hlt6 : i < ys.length
                      · have hrd := rd31 ys i hlt6
                        obtain ⟨ay, hay, hy0, hy1⟩ := at_T31 HYC.out (i : Int) (by omega) (by omega)
                        subst hay
                        replace hy0 := (HS6.out.cell (bL w10 _ hy0)).trans hy0
                        replace hy1 := (HS6.out.cell (bL w10 _ hy1)).trans hy1
                        rw [hrd] at hy0 hy1
                        simp only [Int.toNat_natCast] at hy0 hy1
                        have hwi : IntKind.i64.wrap ((i : Int) + 1) = ((i + 1 : Nat) : Int) := by rw [IntKind.wrap_i64]; have := HYL.out; omega
                        have hgt6 : decide ((i : Int) < (ys.length : Int)) = true := decide_eq_true (by omega)
                        have hba := bal_at HYB.out HYR.out.hold (List.getElem_mem hlt6)
                        have hsz6 := HYB.out.2.2 _ (List.getElem_mem hlt6)
                        have hnz : (ys[i].f1 == 0) = false := beq_eq_false_iff_ne.2 hba.2
                        have hvw := HYR.out.vals (key ys[i])
                        rw [hba.1] at hvw
                        have hvo := HYR.out.hold.val (key ys[i])
                        rw [hba.1] at hvo
                        have hl1 (ob : Obj) (q : Nat) := MP.look (w := (wr.alloc ob).drewN q) (HYR.out.want.below (bD (bA HS6.out _) _) HYR.out.want.lt) HYR.out.nums hsz6
                        rw [show val _ ys[i].f0.data.toList = ys[i].f1 from hvw] at hl1
                        have hon (ob : Obj) (q : Nat) := on_t (w := (wr.alloc ob).drewN q) (HYR.out.book.below (bD (bA HS6.out _) _) HYR.out.book.lt HYR.out.book.map.lt) (nums_of HYR.out.hold) ys[i].f0 hsz6
                        rw [show val _ ys[i].f0.data.toList = ys[i].f1 from hvo] at hon
                        have HON := AM hon
                        have hle := HLB.out hlt6
                        have hle1 : Op.bytesLess ys[i].f0.toList lb.toList = false := by
                          rw [bytesLess_eq, Lib.toList_data, Lib.toList_data]
                          exact decide_eq_false (fun h => absurd (List.lt_trans h hle) (List.lt_irrefl _))
                        have hle2 : (ys[i].f0.toList == lb.toList) = false := by
                          rw [Lib.toList_data, Lib.toList_data]
                          exact beq_eq_false_iff_ne.2 (fun e => by rw [← e] at hle; exact absurd hle (List.lt_irrefl _))
                        have hfs : ∀ y ∈ ys, Fit y.f1 := fun y hy => by rw [← (bal_at HYB.out HYR.out.hold hy).1]; exact HYR.out.fit _
                        have htr := tot_rng (ys.take i) (fun y hy => hfs y (List.mem_of_mem_take hy))
                        have hff := hfs _ (List.getElem_mem hlt6)
                        have hts : tot (ys.take (i + 1)) = tot (ys.take i) + ys[i].f1 := by
                          rw [take_snoc hlt6, tot_append]
                          simp only [tot]
                          omega
                        have hwt : wrap64 (tot (ys.take i) + ys[i].f1) = tot (ys.take (i + 1)) := by
                          rw [hts]
                          have hl9 := HYL.out
                          rw [List.length_take] at htr
                          unfold Fit at hff
                          exact wrap_in (by omega) (by omega)
                        have HNX : Aside0 (∀ h : i + 1 < ys.length, ys[i].f0.data.toList < key ys[i + 1]) := AM (fun h => by
                          have := List.pairwise_iff_getElem.1 HYB.out.2.1 i (i + 1) hlt6 h (by omega)
                          exact this)
                        clear hba hvw hvo hon hle hfs htr hff hts
                        go_wp2
                        go_quiet (first | (go_at_call 14; (with_reducible refine (HON.out _ _).mono ?_); rintro e wz ⟨rfl, hz⟩; subst hz; (try first | exact ⟨rfl, _, rfl⟩)))
                        go_wp2
                        go_roundw
                        case rel => exact ⟨i + 1, ys[i].f0, congrArg (Value.int .i64) hwt, rfl, rfl, rfl, ⟨hlt6⟩, HNX, ⟨bD (bA HS6.out _) _⟩⟩
                        case measure => simp only [intOf]; omega
                      · have hgt6 : decide ((i : Int) < (ys.length : Int)) = false := decide_eq_false (by omega)
                        rename World => W12
                        have hiy : i = ys.length := by have := HI6.out; omega
                        have htt : tot (ys.take i) = 0 := by
                          rw [hiy, List.take_length]
                          rw [tot_bal ys _ HYB.out.2.1 (fun y hy => (bal_at HYB.out HYR.out.hold hy).1) (fun t ht => bal_off HYB.out HYR.out.hold ht)]
                          exact HYR.out.total
                        have HIY := AM hiy
                        have HZR := AM (HYR.out.same' HS6.out)
                        have HBZ := AM (bT HBY.out HS6.out)
                        clear hiy
                        rw [htt]
                        clear htt HS6 HLB
                        go_wp2_with (first
                          | (at_range; refine wp_range rfl _ rfl rfl HZR.out.want ?_; intro W11 hrg hgr hsz2; have HRG := AM hrg; have HGR := AM hgr; clear hrg hgr hsz2; go_frame))
                        have HBB := AM (Touch.below_after (Below.refl _ _) (Touch.of_grown HGR.out) (fun _ q => by cases q) : Below W12.heap.size W12 W11)
                        go_loopw [15, 20] (fun s15 _ wq => ∃ (left : Lit → Bool) (cnt' : Nat) (zs : List (List UInt8)), s15 = .int .i64 ((i : Int) - zs.length) ∧ Aside0 (RG wq w3.heap.size W12.heap.size (30 * (k + 1)) D9 left cnt') ∧ Aside0 (VZ D9 left zs) ∧ Aside0 (zs.length + cnt' ≤ 30 * (k + 1)) ∧ Aside0 (Below W12.heap.size W12 wq)) (fun _ _ wq => wq.rangeLeft w3.heap.size W12.heap.size)
                        case atStart => exact ⟨_, _, [], by simp, HRG, ⟨VZ.start _⟩, ⟨by have := World.ownsMap.size_le HZR.out.want; simpa using this⟩, HBB⟩
                        case round =>
                          obtain ⟨left, cnt', zs, rfl, HR8, HVZ, HC8, HS8⟩ := hrel
                          go_wp2_with (first
                            | (at_next; refine wp_next rfl _ rfl left cnt' rfl HR8.out ?_ ?_))
                          · intro hz hl
                            have hlen := HVZ.out.len hl HYB.out HYR.out.hold HYR.out.vals
                            have hs0 : ((i : Int) - zs.length != 0) = false := bne_eq_false_iff_eq.2 (by have := HIY.out; omega)
                            have HV8 := AM (HZR.out.same' HS8.out)
                            have HB8 := AM (bT HBZ.out HS8.out)
                            have hnob : Calls Tryd.prog 14 #[.pointer (some ⟨g, 0, none⟩), .string ⟨#[110, 111, 98, 111, 100, 121, 32, 104, 101, 114, 101]⟩] wr fun o w' => o = .returned (.int .i64 0) ∧ w' = wr := by
                              have h := on_t HV8.out.book (nums_of HV8.out.hold) nobody (by decide)
                              rw [HV8.out.hold.val, off_named HV8.out.named not_named_nobody] at h
                              exact h
                            have HNO := AM hnob
                            clear hz hl hlen hnob HR8 HVZ
                            go_wp2_with (first
                              | (go_at_call 15; (with_reducible refine (entries_t HV8.out.book).mono ?_); rintro e wz ⟨rfl, hz⟩; subst hz)
                              | (go_at_call 14; (with_reducible refine HNO.out.mono ?_); rintro e wz ⟨rfl, hz⟩; subst hz))
                            go_roundw
                            case rel => exact ⟨k + 1, _, _, _, _, _, rfl, rfl, rfl, ⟨hlt⟩, HV8, HM5, HB8⟩
                            case measure => simp only [intOf]; omega
                          · intro x cc w13 cnt2 hsx hwf hlx hat hrg hlt4 hgr4 hsz4 hen
                            have HR13 := AM hrg
                            have HLT := AM hlt4
                            have HS13 := AM (Touch.below_after HS8.out (Touch.of_grown hgr4) (fun q h => by injection h; omega))
                            by_cases q0 : cc = 0
                            · subst q0
                              have HVZ2 := AM (HVZ.out.same hat)
                              clear hlx hat hrg hlt4 hgr4 hsz4
                              go_wp2
                              go_roundw
                              case rel => exact ⟨_, cnt2, zs, rfl, HR13, HVZ2, ⟨by have := HC8.out; have := HLT.out; omega⟩, HS13⟩
                              case measure => rw [World.ranges.left_eq HR13.out, World.ranges.left_eq HR8.out]; exact HLT.out
                            · have hq1 : (cc != 0) = true := bne_iff_ne.2 q0
                              have HVZ2 := AM (HVZ.out.more hlx hat q0)
                              have hw8 : wrap64 ((i : Int) - zs.length - 1) = (i : Int) - (zs ++ [x.data.toList]).length := by
                                have h1 := HC8.out
                                have h2 := HI6.out
                                have h3 := HYL.out
                                have h4 := H30.out
                                have h5 := HK.out
                                rw [List.length_append]
                                simp only [List.length_cons, List.length_nil]
                                rw [wrap_in (by omega) (by omega)]
                                omega
                              clear hlx hat hrg hlt4 hgr4 hsz4 q0
                              go_wp2
                              go_roundw
                              case rel => exact ⟨_, cnt2, _, congrArg (Value.int .i64) hw8, HR13, HVZ2, ⟨by rw [List.length_append]; have := HC8.out; have := HLT.out; simp only [List.length_cons, List.length_nil]; omega⟩, HS13⟩
                              case measure => rw [World.ranges.left_eq HR13.out, World.ranges.left_eq HR8.out]; exact HLT.out
                  · obtain ⟨hc0, rfl, hcw⟩ := hcode
                    have HC0 := AM hc0
                    have HCK2 := HCK.out
                    rw [hc0] at HCK2
                    obtain ⟨i, hi, hin, hout⟩ := hcw
                    have HI := AM hi
                    have HIN := AM hin
                    have HOUT := AM hout
                    clear hc0 hi hin hout
                    go_wp2_with (first
                      | (go_at_call 12; (with_reducible refine (post_walk (V := sumAt ps) HBW.out HBK.out.hold HBK.out.fit HCW.out HCJ.out HCK2 (HFIT.out HC0.out) HSZ.out (by have := HL30.out; omega) (by have := H30.out; have := HK.out; omega) (by omega) (by have := HBK.out.cnt0; have := H30.out; have := HK.out; omega) i (Nat.le_of_lt HI.out) HIN.out (fun _ => HOUT.out)).mono ?_); rintro e w9 (⟨_, rfl, hb⟩ | ⟨hlt9, _⟩); rotate_left; exact absurd hlt9 (Nat.ne_of_lt HI.out); have HQ := AM (HBK.out.same (bT HS.out hb)); have HBQ := AM (bT HBX.out hb); have HM5 := HM4; clear hb)
                      | (go_at_call 13; (with_reducible refine (bal_t HQ.out.book (nums_of HQ.out.hold) (by have := H30.out; have := HK.out; omega)).mono ?_); rintro e w10 ⟨Ab, cb, ys, rfl, hcb, hCb, hBal, hys, hb⟩; have HYB := AM hBal; have HYN := AM hys; have HYC := AM hCb; have HYR := AM (HQ.out.same' hb); have HBY := AM (bT HBQ.out hb); clear hcb hCb hBal hys hb))
                    have HYL : Aside0 (ys.length ≤ 900) := AM (by have := HYN.out; have := H30.out; have := HK.out; omega)
                    go_loopw [14, 15, 16, 93] (fun s14 s15 s16 s93 wq => ∃ (i : Nat) (lb : ByteArray), s14 = .int .i64 (tot (ys.take i)) ∧ s15 = .int .i64 i ∧ s16 = .string lb ∧ s93 = .int .i64 i ∧ Aside0 (i ≤ ys.length) ∧ Aside0 (∀ h : i < ys.length, lb.data.toList < key ys[i]) ∧ Aside0 (Below w10.heap.size w10 wq)) (fun _ _ _ i _ => ys.length - (intOf i).toNat)
                    case atStart => exact ⟨0, ⟨#[]⟩, rfl, rfl, rfl, rfl, ⟨Nat.zero_le _⟩, ⟨fun h => key_ne_nil HYR.out.named (by have hb := bal_at HYB.out HYR.out.hold (List.getElem_mem h); rw [hb.1]; exact hb.2)⟩, ⟨Below.refl _ _⟩⟩
                    case round =>
                      obtain ⟨i, lb, rfl, rfl, rfl, rfl, HI6, HLB, HS6⟩ := hrel
                      by_cases hlt6 : i < ys.length
                      · have hrd := rd31 ys i hlt6
                        obtain ⟨ay, hay, hy0, hy1⟩ := at_T31 HYC.out (i : Int) (by omega) (by omega)
                        subst hay
                        replace hy0 := (HS6.out.cell (bL w10 _ hy0)).trans hy0
                        replace hy1 := (HS6.out.cell (bL w10 _ hy1)).trans hy1
                        rw [hrd] at hy0 hy1
                        simp only [Int.toNat_natCast] at hy0 hy1
                        have hwi : IntKind.i64.wrap ((i : Int) + 1) = ((i + 1 : Nat) : Int) := by rw [IntKind.wrap_i64]; have := HYL.out; omega
                        have hgt6 : decide ((i : Int) < (ys.length : Int)) = true := decide_eq_true (by omega)
                        have hba := bal_at HYB.out HYR.out.hold (List.getElem_mem hlt6)
                        have hsz6 := HYB.out.2.2 _ (List.getElem_mem hlt6)
                        have hnz : (ys[i].f1 == 0) = false := beq_eq_false_iff_ne.2 hba.2
                        have hvw := HYR.out.vals (key ys[i])
                        rw [hba.1] at hvw
                        have hvo := HYR.out.hold.val (key ys[i])
                        rw [hba.1] at hvo
                        have hl1 (ob : Obj) (q : Nat) := MP.look (w := (wr.alloc ob).drewN q) (HYR.out.want.below (bD (bA HS6.out _) _) HYR.out.want.lt) HYR.out.nums hsz6
                        rw [show val _ ys[i].f0.data.toList = ys[i].f1 from hvw] at hl1
                        have hon (ob : Obj) (q : Nat) := on_t (w := (wr.alloc ob).drewN q) (HYR.out.book.below (bD (bA HS6.out _) _) HYR.out.book.lt HYR.out.book.map.lt) (nums_of HYR.out.hold) ys[i].f0 hsz6
                        rw [show val _ ys[i].f0.data.toList = ys[i].f1 from hvo] at hon
                        have HON := AM hon
                        have hle := HLB.out hlt6
                        have hle1 : Op.bytesLess ys[i].f0.toList lb.toList = false := by
                          rw [bytesLess_eq, Lib.toList_data, Lib.toList_data]
                          exact decide_eq_false (fun h => absurd (List.lt_trans h hle) (List.lt_irrefl _))
                        have hle2 : (ys[i].f0.toList == lb.toList) = false := by
                          rw [Lib.toList_data, Lib.toList_data]
                          exact beq_eq_false_iff_ne.2 (fun e => by rw [← e] at hle; exact absurd hle (List.lt_irrefl _))
                        have hfs : ∀ y ∈ ys, Fit y.f1 := fun y hy => by rw [← (bal_at HYB.out HYR.out.hold hy).1]; exact HYR.out.fit _
                        have htr := tot_rng (ys.take i) (fun y hy => hfs y (List.mem_of_mem_take hy))
                        have hff := hfs _ (List.getElem_mem hlt6)
                        have hts : tot (ys.take (i + 1)) = tot (ys.take i) + ys[i].f1 := by
                          rw [take_snoc hlt6, tot_append]
                          simp only [tot]
                          omega
                        have hwt : wrap64 (tot (ys.take i) + ys[i].f1) = tot (ys.take (i + 1)) := by
                          rw [hts]
                          have hl9 := HYL.out
                          rw [List.length_take] at htr
                          unfold Fit at hff
                          exact wrap_in (by omega) (by omega)
                        have HNX : Aside0 (∀ h : i + 1 < ys.length, ys[i].f0.data.toList < key ys[i + 1]) := AM (fun h => by
                          have := List.pairwise_iff_getElem.1 HYB.out.2.1 i (i + 1) hlt6 h (by omega)
                          exact this)
                        clear hba hvw hvo hon hle hfs htr hff hts
                        go_wp2
                        go_quiet (first | (go_at_call 14; (with_reducible refine (HON.out _ _).mono ?_); rintro e wz ⟨rfl, hz⟩; subst hz; (try first | exact ⟨rfl, _, rfl⟩)))
                        go_wp2
                        go_roundw
                        case rel => exact ⟨i + 1, ys[i].f0, congrArg (Value.int .i64) hwt, rfl, rfl, rfl, ⟨hlt6⟩, HNX, ⟨bD (bA HS6.out _) _⟩⟩
                        case measure => simp only [intOf]; omega
                      · have hgt6 : decide ((i : Int) < (ys.length : Int)) = false := decide_eq_false (by omega)
                        rename World => W12
                        have hiy : i = ys.length := by have := HI6.out; omega
                        have htt : tot (ys.take i) = 0 := by
                          rw [hiy, List.take_length]
                          rw [tot_bal ys _ HYB.out.2.1 (fun y hy => (bal_at HYB.out HYR.out.hold hy).1) (fun t ht => bal_off HYB.out HYR.out.hold ht)]
                          exact HYR.out.total
                        have HIY := AM hiy
                        have HZR := AM (HYR.out.same' HS6.out)
                        have HBZ := AM (bT HBY.out HS6.out)
                        clear hiy
                        rw [htt]
                        clear htt HS6 HLB
                        go_wp2_with (first
                          | (at_range; refine wp_range rfl _ rfl rfl HZR.out.want ?_; intro W11 hrg hgr hsz2; have HRG := AM hrg; have HGR := AM hgr; clear hrg hgr hsz2; go_frame))
                        have HBB := AM (Touch.below_after (Below.refl _ _) (Touch.of_grown HGR.out) (fun _ q => by cases q) : Below W12.heap.size W12 W11)
                        go_loopw [15, 20] (fun s15 _ wq => ∃ (left : Lit → Bool) (cnt' : Nat) (zs : List (List UInt8)), s15 = .int .i64 ((i : Int) - zs.length) ∧ Aside0 (RG wq m4 W12.heap.size (30 * (k + 1)) D4 left cnt') ∧ Aside0 (VZ D4 left zs) ∧ Aside0 (zs.length + cnt' ≤ 30 * (k + 1)) ∧ Aside0 (Below W12.heap.size W12 wq)) (fun _ _ wq => wq.rangeLeft m4 W12.heap.size)
                        case atStart => exact ⟨_, _, [], by simp, HRG, ⟨VZ.start _⟩, ⟨by have := World.ownsMap.size_le HZR.out.want; simpa using this⟩, HBB⟩
                        case round =>
                          obtain ⟨left, cnt', zs, rfl, HR8, HVZ, HC8, HS8⟩ := hrel
                          go_wp2_with (first
                            | (at_next; refine wp_next rfl _ rfl left cnt' rfl HR8.out ?_ ?_))
                          · intro hz hl
                            have hlen := HVZ.out.len hl HYB.out HYR.out.hold HYR.out.vals
                            have hs0 : ((i : Int) - zs.length != 0) = false := bne_eq_false_iff_eq.2 (by have := HIY.out; omega)
                            have HV8 := AM (HZR.out.same' HS8.out)
                            have HB8 := AM (bT HBZ.out HS8.out)
                            have hnob : Calls Tryd.prog 14 #[.pointer (some ⟨g, 0, none⟩), .string ⟨#[110, 111, 98, 111, 100, 121, 32, 104, 101, 114, 101]⟩] wr fun o w' => o = .returned (.int .i64 0) ∧ w' = wr := by
                              have h := on_t HV8.out.book (nums_of HV8.out.hold) nobody (by decide)
                              rw [HV8.out.hold.val, off_named HV8.out.named not_named_nobody] at h
                              exact h
                            have HNO := AM hnob
                            clear hz hl hlen hnob HR8 HVZ
                            go_wp2_with (first
                              | (go_at_call 15; (with_reducible refine (entries_t HV8.out.book).mono ?_); rintro e wz ⟨rfl, hz⟩; subst hz)
                              | (go_at_call 14; (with_reducible refine HNO.out.mono ?_); rintro e wz ⟨rfl, hz⟩; subst hz))
                            go_roundw
                            case rel => exact ⟨k + 1, _, _, _, _, _, rfl, rfl, rfl, ⟨hlt⟩, HV8, HM5, HB8⟩
                            case measure => simp only [intOf]; omega
                          · intro x cc w13 cnt2 hsx hwf hlx hat hrg hlt4 hgr4 hsz4 hen
                            have HR13 := AM hrg
                            have HLT := AM hlt4
                            have HS13 := AM (Touch.below_after HS8.out (Touch.of_grown hgr4) (fun q h => by injection h; omega))
                            by_cases q0 : cc = 0
                            · subst q0
                              have HVZ2 := AM (HVZ.out.same hat)
                              clear hlx hat hrg hlt4 hgr4 hsz4
                              go_wp2
                              go_roundw
                              case rel => exact ⟨_, cnt2, zs, rfl, HR13, HVZ2, ⟨by have := HC8.out; have := HLT.out; omega⟩, HS13⟩
                              case measure => rw [World.ranges.left_eq HR13.out, World.ranges.left_eq HR8.out]; exact HLT.out
                            · have hq1 : (cc != 0) = true := bne_iff_ne.2 q0
                              have HVZ2 := AM (HVZ.out.more hlx hat q0)
                              have hw8 : wrap64 ((i : Int) - zs.length - 1) = (i : Int) - (zs ++ [x.data.toList]).length := by
                                have h1 := HC8.out
                                have h2 := HI6.out
                                have h3 := HYL.out
                                have h4 := H30.out
                                have h5 := HK.out
                                rw [List.length_append]
                                simp only [List.length_cons, List.length_nil]
                                rw [wrap_in (by omega) (by omega)]
                                omega
                              clear hlx hat hrg hlt4 hgr4 hsz4 q0
                              go_wp2
                              go_roundw
                              case rel => exact ⟨_, cnt2, _, congrArg (Value.int .i64) hw8, HR13, HVZ2, ⟨by rw [List.length_append]; have := HC8.out; have := HLT.out; simp only [List.length_cons, List.length_nil]; omega⟩, HS13⟩
                              case measure => rw [World.ranges.left_eq HR13.out, World.ranges.left_eq HR8.out]; exact HLT.out
            · intro x cc w6 cnt2 hsx hwf hlx hat hrg hlt4 hgr4 hsz4 hen
              have HCP2 := AM (HCP.out.put hat hwf)
              have HLT := AM hlt4
              have HR6 := AM hrg
              have hr6 := World.ranges.lt hrg
              have HM6 := AM (HM9.out.touch (Touch.of_grown hgr4) (fun q => by injection q; omega))
              have HS6 := AM (Touch.below_after HS.out (Touch.of_grown hgr4) (fun i q => by injection q; omega))
              clear hat hlt4 hrg hgr4 hsz4
              go_wp2_with (first
                | (at_mapUpdate; refine wp_put rfl _ _ _ rfl rfl HM6.out (by have := HC2.out; have := H30.out; unfold maxLen; omega) x cc rfl rfl hsx hwf ?_; intro w7 hm7 hgr7; have HM7 := AM hm7; have HR7 := AM (RG.kept HR6.out (Touch.of_grown hgr7) (fun q => by injection q; omega) (fun q => by injection q; omega)); have HS7 := AM (Touch.below_after HS6.out (Touch.of_grown hgr7) (fun i q => by injection q; omega)); clear hm7 hgr7; go_frame))
              go_roundw
              case rel => exact ⟨_, cnt2, m + 1, _, HR7, HM7, ⟨by have := HC2.out; have := HLT.out; omega⟩, HCP2, HS7⟩
              case measure => rw [World.ranges.left_eq HR7.out, World.ranges.left_eq HR2.out]; exact HLT.out
      · have hgt : decide ((k : Int) < (ls.length : Int)) = false := decide_eq_false (by omega)
        go_wp2
        go_ret
        exact ⟨rfl, HB.out⟩
end Go.Proofs.YtjljhianehhlgaaDoor.M
