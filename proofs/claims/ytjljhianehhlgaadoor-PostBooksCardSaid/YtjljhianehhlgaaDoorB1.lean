import Derived.Test.YtjljhianehhlgaaDoorB0
import Derived.Test.YtjljhianehhlgaaDoorV0
/-! ### Book.Post -/
namespace Go.Proofs.YtjljhianehhlgaaDoor.M
open Go Go.RowKit Go.Maps Go.Proofs.YtjljhianehhlgaaDoorW.PrintWords Go.Proofs.YtjljhianehhlgaaDoor.K Go.Proofs.YtjljhianehhlgaaDoor.V
set_option linter.unusedVariables false
variable {w w' : World} {g mb n : Nat} {D : DM} {e : Int} {more : List Value} {t : TypeId} {A : Option Addr} {c : Nat} {xs : List S31} {V : List UInt8 → Int}
theorem Touch.below_after {b : Nat} {w w' w'' : World} {S : Nat → Prop} (h : Below b w w') (ht : Touch S w' w'') (hs : ∀ k, S k → b ≤ k) (hB : b ≤ w.heap.size := by exact Nat.le_refl _) : Below b w w'' :=
  ⟨ht.os.trans h.os, ht.tape.trans h.tape, ht.output.trans h.output, Nat.le_trans h.size ht.size, fun k hk => (ht.block k (Nat.lt_of_lt_of_le hk (Nat.le_trans hB h.size)) (fun q => by have := hs k q; omega)).trans (h.block k hk)⟩
theorem check_t (hr : Kd.C k31 w A xs.length xs) (hc : xs.length ≤ c) {r : Int} (h : Ev (fun k => post_Check.f k xs) r) : Calls Tryd.prog 11 #[.slice A xs.length c] w fun e w' => e = .returned (.int .i64 r) ∧ Below w.heap.size w w' := by
  obtain ⟨k, hk⟩ := h.rounds
  exact post_Check.calls k A c xs r w hr hc hk
theorem add_t (w : World) {a b r1 r2 : Int} (h : Ev (fun k => money_Add.f k a b) (r1, r2)) : Calls Tryd.prog 36 #[.int .i64 a, .int .i64 b] w fun e w' => e = .returned (.tuple #[.int .i64 r1, .int .i64 r2]) ∧ Below w.heap.size w w' := by
  obtain ⟨k, hk⟩ := h.rounds
  exact money_Add.calls k a b r1 r2 w hk
set_option maxRecDepth 100000 in
/-- Refused by Check. -/
theorem post_bad (hr : Kd.C k31 w A xs.length xs) (hc : xs.length ≤ c) {r : Int} (h : Ev (fun k => post_Check.f k xs) r) (h0 : r ≠ 0) :
    Calls Tryd.prog 12 #[.pointer (some ⟨g, 0, none⟩), .slice A xs.length c] w fun o w' => o = .returned (.int .i64 r) ∧ Below w.heap.size w w' := by
  have hb0 : (r == 0) = false := beq_eq_false_iff_ne.mpr h0
  have hb1 : (r != 0) = true := bne_iff_ne.mpr h0
  have HR := AM hr
  have HC := AM hc
  have HE := AM h
  clear hr hc h h0
  go_enter Tryd.func12, Tryd.ntmps12
  go_wp2_with (go_at_call 11; (with_reducible refine (check_t HR.out HC.out HE.out).mono ?_); rintro e w1 ⟨rfl, hb⟩; have HB := AM hb; clear hb)
  go_ret
  exact ⟨rfl, HB.out⟩
/-- What the map of the new sums holds when k entries have been looked at. -/
def NX (V : List UInt8 → Int) (xs : List S31) (k : Nat) (N : DM) : Prop := Nums N ∧ (∀ s, has N (.string s) = true ↔ ∃ x ∈ xs.take k, key x = s) ∧ (∀ s, has N (.string s) = true → val N s = V s + sumAt (xs.take k) s) ∧ ∀ s, Fit (V s + sumAt (xs.take k) s)
theorem take_snoc {k : Nat} (h : k < xs.length) : xs.take (k + 1) = xs.take k ++ [xs[k]] := by rw [List.take_succ_eq_append_getElem h]
theorem sum_one (x : S31) (s : List UInt8) : sumAt [x] s = if key x = s then x.f1 else 0 := by simp [sumAt]
theorem NX.start (V : List UInt8 → Int) (hV : ∀ s, Fit (V s)) (xs : List S31) : NX V xs 0 (.map []) := ⟨nums_empty, fun s => by simp [has_eq], fun s h => by simp [has_eq] at h, fun s => by rw [List.take_zero]; simp only [sumAt]; rw [Int.add_zero]; exact hV s⟩
/-- What next is when the sum is looked up. -/
theorem NX.next {k : Nat} {N : DM} (h : NX V xs k N) (s : List UInt8) : (if has N (.string s) = true then val N s else V s) = V s + sumAt (xs.take k) s := by
  by_cases q : has N (.string s) = true
  · rw [if_pos q, h.2.2.1 s q]
  · rw [if_neg q, sumAt_none fun x hx e => q ((h.2.1 s).2 ⟨x, hx, e⟩), Int.add_zero]
theorem NX.step {k : Nat} {N : DM} (h : NX V xs k N) (hk : k < xs.length) {c : Int} (hc : c = V (key xs[k]) + sumAt (xs.take k) (key xs[k]) + xs[k].f1) (hf : Fit c) : NX V xs (k + 1) (N.put (kk xs[k].f0) (.lit (.int .i64 c))) := by
  obtain ⟨h1, h2, h3, h4⟩ := h
  have hf' := hf
  unfold Fit at hf
  have hp := got_put h1 (key xs[k])
  have hs (s : List UInt8) : sumAt (xs.take (k + 1)) s = sumAt (xs.take k) s + if key xs[k] = s then xs[k].f1 else 0 := by rw [take_snoc hk, sumAt_append, sum_one]
  refine ⟨nums_put h1 _ (by omega) (by omega), fun s => ?_, fun s hs' => ?_, fun s => ?_⟩
  · by_cases q : s = key xs[k]
    · subst q
      refine ⟨fun _ => ⟨xs[k], by rw [take_snoc hk]; exact List.mem_append_right _ (List.mem_singleton.2 rfl), rfl⟩, fun _ => ?_⟩
      exact has_of_got (by rw [show kk xs[k].f0 = .string (key xs[k]) from rfl, hp]; rw [if_pos rfl])
    · rw [show kk xs[k].f0 = .string (key xs[k]) from rfl, has_put_other (fun e => q (by injection e)), h2 s, take_snoc hk]
      constructor
      · rintro ⟨x, hx, rfl⟩
        exact ⟨x, List.mem_append_left _ hx, rfl⟩
      · rintro ⟨x, hx, rfl⟩
        rcases List.mem_append.1 hx with hx | hx
        · exact ⟨x, hx, rfl⟩
        · rw [List.mem_singleton] at hx
          exact absurd (by rw [hx]) q
  · unfold val
    rw [show kk xs[k].f0 = .string (key xs[k]) from rfl, hp, hs]
    by_cases q : s = key xs[k]
    · subst q
      rw [if_pos rfl, if_pos rfl, hc]
      show V _ + _ + _ = _
      omega
    · rw [if_neg q, if_neg (fun e => q e.symm), Int.add_zero]
      have hs'' : has N (.string s) = true := by rwa [show kk xs[k].f0 = .string (key xs[k]) from rfl, has_put_other (fun e => q (by injection e))] at hs'
      exact h3 s hs''
  · rw [hs]
    by_cases q : key xs[k] = s
    · rw [if_pos q, ← q, ← Int.add_assoc, ← hc]; exact hf'
    · rw [if_neg q, Int.add_zero]; exact h4 s
/-- What the book's map holds when some of the new sums have been laid into it. -/
def MV (V : List UInt8 → Int) (xs : List S31) (N D D1 : DM) (left : Lit → Bool) : Prop := Nums D1 ∧ ∀ s, got D1 s = if has N (.string s) = true ∧ left (.string s) = false then nz (V s + sumAt xs s) else got D s
theorem MV.start {N : DM} (h : Nums D) : MV V xs N D D (has N) := ⟨h, fun s => by
  rw [if_neg]
  rintro ⟨h1, h2⟩
  rw [h1] at h2
  cases h2⟩
theorem left_next {left : Lit → Bool} {s s' : List UInt8} : (left (.string s') && !(Lit.string s').sameKey (.string s)) = false ↔ left (.string s') = false ∨ s' = s := by
  rw [key_eq]
  by_cases e : s' = s
  · simp [e]
  · simp [e]
theorem MV.put {N D1 : DM} {left : Lit → Bool} (h : MV V xs N D D1 left) {s : List UInt8} (hn : has N (.string s) = true) {c : Int} (hc : c = V s + sumAt xs s) (h0 : c ≠ 0) (hf : Fit c) : MV V xs N D (D1.put (.string s) (.lit (.int .i64 c))) (fun z => left z && !z.sameKey (.string s)) := by
  unfold Fit at hf
  refine ⟨nums_put h.1 s (by omega) (by omega), fun s' => ?_⟩
  rw [got_put h.1, h.2 s']
  simp only [left_next]
  by_cases e : s' = s
  · subst e
    rw [if_pos rfl, if_pos ⟨hn, .inr rfl⟩, ← hc]
    unfold nz
    rw [if_neg h0]
  · rw [if_neg e]
    simp [e]
theorem MV.del {N D1 : DM} {left : Lit → Bool} (h : MV V xs N D D1 left) {s : List UInt8} (hn : has N (.string s) = true) {c : Int} (hc : c = V s + sumAt xs s) (h0 : c = 0) : MV V xs N D ((D1.put (.string s) (.lit (.int .i64 c))).del (.string s)) (fun z => left z && !z.sameKey (.string s)) := by
  have hp := nums_put h.1 s (c := c) (by omega) (by omega)
  refine ⟨nums_del hp s, fun s' => ?_⟩
  rw [got_del, got_put h.1, h.2 s']
  simp only [left_next]
  by_cases e : s' = s
  · subst e
    rw [if_pos rfl, if_pos ⟨hn, .inr rfl⟩, ← hc]
    unfold nz
    rw [if_pos h0]
  · rw [if_neg e, if_neg e]
    simp [e]
theorem NX.at {N : DM} {k : Nat} (h : NX V xs k N) (hk : k = xs.length) {s : List UInt8} {c : Int} (hat : ∀ z, N.atKey (.string s) z = .lit (.int .i64 c)) : has N (.string s) = true ∧ c = V s + sumAt xs s ∧ Fit c := by
  have h1 := has_true_of_atKey hat
  have h2 := h.2.2.1 s h1
  have h3 := h.2.2.2 s
  rw [hk, List.take_length] at h2 h3
  have h4 : val N s = c := by unfold val; rw [got_some hat]; rfl
  rw [h4] at h2
  exact ⟨h1, h2, h2 ▸ h3⟩
theorem MV.done {N D1 : DM} {left : Lit → Bool} {k : Nat} (h : MV V xs N D D1 left) (hx : NX V xs k N) (hk : k = xs.length) (hD : Holds D V) (hl : ∀ z, left z = false) : Holds D1 (fun s => V s + sumAt xs s) := by
  refine ⟨h.1, fun s => ?_⟩
  rw [h.2 s]
  by_cases q : has N (.string s) = true
  · rw [if_pos ⟨q, hl _⟩]
  · rw [if_neg (fun e => q e.1), hD.2 s]
    have := hx.2.1 s
    rw [hk, List.take_length] at this
    show _ = nz (V s + sumAt xs s)
    rw [sumAt_none (l := xs) (s := s) fun x hx e => q (this.2 ⟨x, hx, e⟩), Int.add_zero]
set_option maxHeartbeats 1000000 in
set_option maxRecDepth 100000 in
/-- Booked, or beyond the most. -/
theorem post_walk (hbk : Book w g mb n D e more t) (hD : Holds D V) (hV : ∀ s, Fit (V s)) (hr : Kd.C k31 w A xs.length xs) (hc : xs.length ≤ c) (h : Ev (fun k => post_Check.f k xs) 0) (hfit : ∀ x ∈ xs, Fit x.f1) (hsz : ∀ x ∈ xs, x.f0.size ≤ maxLen) (hlen : xs.length ≤ 1000000) (hn : n ≤ 1000000000) (he0 : 0 ≤ e) (he1 : e ≤ 1000000000) (j : Nat) (hj : j ≤ xs.length) (hin : Within V xs j) (hout : j < xs.length → ¬ Within V xs (j + 1)) :
    Calls Tryd.prog 12 #[.pointer (some ⟨g, 0, none⟩), .slice A xs.length c] w fun o w' => (j < xs.length ∧ o = .returned (.int .i64 10) ∧ Below w.heap.size w w') ∨ (j = xs.length ∧ o = .returned (.int .i64 0) ∧ ∃ D' n', n' ≤ n + xs.length ∧ Book w' g mb n' D' (e + xs.length) more t ∧ Holds D' (fun s => V s + sumAt xs s) ∧ Touch (fun k => k = g ∨ k = mb) w w') := by
  have hmm := @run_makeMap Tryd.prog
  have HR := AM hr
  have HC := AM hc
  have HE := AM h
  have HBK := AM hbk
  have HD := AM hD
  have HV := AM hV
  have HF := AM hfit
  have HS := AM hsz
  have HIN := AM hin
  have HOUT := AM hout
  have HLEN := AM hlen
  have HN := AM hn
  have HE0 := AM he0
  have HE1 := AM he1
  have HJ := AM hj
  clear hbk hD hV hr hc h hfit hsz hlen hn he0 he1 hj hin hout
  go_enter Tryd.func12, Tryd.ntmps12
  go_wp2_with (go_at_call 11; (with_reducible refine (check_t HR.out HC.out HE.out).mono ?_); rintro e w1 ⟨rfl, hb⟩; have HB1 := AM hb; clear hb)
  go_loopw [23] (fun i wr => ∃ (k : Nat) (N : DM), i = .int .i64 k ∧ Aside0 (k ≤ j) ∧ Aside0 (MP wr w1.heap.size k N) ∧ Aside0 (NX V xs k N) ∧ Aside0 (Below w.heap.size w wr)) (fun i _ => xs.length - (intOf i).toNat)
  case atStart => exact ⟨0, .map [], rfl, ⟨Nat.zero_le _⟩, ⟨made w1⟩, ⟨NX.start V HV.out xs⟩, ⟨bA HB1.out _⟩⟩
  case round =>
    obtain ⟨k, N, rfl, HK, HM, HX, HB⟩ := hrel
    have hg := Nat.lt_of_lt_of_le HBK.out.lt HB.out.size
    have hc0 : wr.cell? ⟨g, 0, none⟩ = some (.map (some mb)) := (HBK.out.below HB.out HBK.out.lt HBK.out.map.lt).c0
    by_cases hlt : k < xs.length
    · have hrd := rd31 xs k hlt
      obtain ⟨ad, rfl, hx0, hx1⟩ := at_T31 HR.out (k : Int) (by omega) (by omega)
      replace hx0 := (HB.out.cell (bL w _ hx0)).trans hx0
      replace hx1 := (HB.out.cell (bL w _ hx1)).trans hx1
      rw [hrd] at hx0 hx1
      simp only [Int.toNat_natCast] at hx0 hx1
      have hsz := HS.out _ (List.getElem_mem hlt)
      have hgt : decide ((k : Int) < (xs.length : Int)) = true := decide_eq_true (by omega)
      have hl1 (ob : Obj) := MP.look_ok (w := wr.alloc ob) (HM.out.below (bA (Below.refl _ _) _) HM.out.lt) HX.out.1 hsz
      have hl2 (ob : Obj) := MP.look (w := wr.alloc ob) (HBK.out.map.below (bA HB.out _) HBK.out.map.lt) HD.out.1 hsz
      have hl2' (ob : Obj) (m : Nat) := MP.look (w := (wr.alloc ob).drewN m) (HBK.out.map.below (bD (bA HB.out _) _) HBK.out.map.lt) HD.out.1 hsz
      have hnx := HX.out.next xs[k].f0.data.toList
      have hnx' : V xs[k].f0.data.toList + sumAt (xs.take k) xs[k].f0.data.toList = V (key xs[k]) + sumAt (xs.take k) (key xs[k]) := rfl
      have hpf := HX.out.2.2.2 (key xs[k])
      have hef := HF.out _ (List.getElem_mem hlt)
      have HADD := AM (add_ev hpf hef)
      have hsum : V (key xs[k]) + sumAt (xs.take (k + 1)) (key xs[k]) = V (key xs[k]) + sumAt (xs.take k) (key xs[k]) + xs[k].f1 := by rw [take_snoc hlt, sumAt_append, sum_one, if_pos rfl, Int.add_assoc]
      have HSUM := AM hsum
      obtain ⟨u, hu⟩ : ∃ u, u = V (key xs[k]) + sumAt (xs.take k) (key xs[k]) := ⟨_, rfl⟩
      have HU := AM hu
      rw [hnx', ← hu] at hnx
      rw [← hu] at HADD hpf
      rw [HD.out.val] at hl2 hl2'
      have hwr : IntKind.i64.wrap ((k : Int) + 1) = ((k + 1 : Nat) : Int) := by rw [IntKind.wrap_i64]; have := HLEN.out; omega
      clear hnx' hpf hef hsum hu
      by_cases hh : has N (kk xs[k].f0) = true
      · rw [hh] at hl1
        rw [show Lit.string xs[k].f0.data.toList = kk xs[k].f0 from rfl, if_pos hh] at hnx
        rw [hnx] at hl1
        clear hnx
        by_cases hq : Fit (u + xs[k].f1)
        · rw [if_pos hq] at HADD
          have HQ := AM hq
          clear hq
          have hkj : Aside0 (k < j) := AM (by
            have h0 := HK.out
            by_cases e : k < j
            · exact e
            · have e : k = j := by omega
              exact absurd (fun i hi hij => by
                by_cases e2 : i < j
                · exact HIN.out i hi e2
                · have e3 : i = k := by omega
                  subst e3
                  rw [HSUM.out, ← HU.out]; exact HQ.out) (HOUT.out (by omega)))
          go_wp2_with (first
          | (go_at_call 36; (with_reducible refine (add_t _ HADD.out).mono ?_); rintro e2 w2 ⟨rfl, hb⟩; have BX := AM (kB (blk_new wr _) hb); have HM2 := AM (HM.out.below (bT (bA (Below.refl _ _) _) hb) HM.out.lt); have HB2 := AM (bT (bA HB.out _) hb); have hX2 := bX2 BX.out; obtain ⟨_, _, _, _⟩ := hX2; clear hb)
          | (at_mapUpdate; refine wp_put (b := w1.heap.size) (n := k) (D := N) rfl _ _ _ rfl rfl HM2.out (by have := HLEN.out; unfold maxLen; omega) xs[k].f0 (u + xs[k].f1) rfl rfl hsz (wf_of (by have := HQ.out; unfold Fit at this; omega) (by have := HQ.out; unfold Fit at this; omega)) ?_; intro w3 hm3 hgr; have HM3 := AM hm3; have HB3 : Aside0 (Below w.heap.size w w3) := AM (Touch.below_after HB2.out (Touch.of_grown hgr) (fun x hx => by cases hx; exact HB1.out.size)); clear hm3 hgr))
          go_roundw
          case rel => exact ⟨k + 1, _, rfl, hkj, HM3, ⟨HX.out.step hlt (by rw [HU.out]) HQ.out⟩, HB3⟩
          case measure => simp only [intOf]; omega
        · rw [if_neg hq] at HADD
          have hkj : Aside0 (k = j) := AM (by
            have h0 := HK.out
            by_cases e : k < j
            · have := HIN.out k hlt e
              rw [HSUM.out, ← HU.out] at this
              exact absurd this hq
            · omega)
          clear hq
          go_wp2_with (first
          | (go_at_call 36; (with_reducible refine (add_t _ HADD.out).mono ?_); rintro e2 w2 ⟨rfl, hb⟩; have BX := AM (kB (blk_new wr _) hb); have HM2 := AM (HM.out.below (bT (bA (Below.refl _ _) _) hb) HM.out.lt); have HB2 := AM (bT (bA HB.out _) hb); have hX2 := bX2 BX.out; obtain ⟨_, _, _, _⟩ := hX2; clear hb))
          go_ret
          exact .inl ⟨by rw [← hkj.out]; exact hlt, rfl, HB2.out⟩
      · have hh' : has N (kk xs[k].f0) = false := by simpa using hh
        rw [hh'] at hl1
        rw [show Lit.string xs[k].f0.data.toList = kk xs[k].f0 from rfl, if_neg hh] at hnx
        rw [hnx] at hl2 hl2'
        clear hnx
        by_cases hq : Fit (u + xs[k].f1)
        · rw [if_pos hq] at HADD
          have HQ := AM hq
          clear hq
          have hkj : Aside0 (k < j) := AM (by
            have h0 := HK.out
            by_cases e : k < j
            · exact e
            · have e : k = j := by omega
              exact absurd (fun i hi hij => by
                by_cases e2 : i < j
                · exact HIN.out i hi e2
                · have e3 : i = k := by omega
                  subst e3
                  rw [HSUM.out, ← HU.out]; exact HQ.out) (HOUT.out (by omega)))
          go_wp2
          go_quiet (fail)
          go_wp2_with (first
          | (go_at_call 36; (with_reducible refine (add_t _ HADD.out).mono ?_); rintro e2 w2 ⟨rfl, hb⟩; have BX := AM (kB (kD (blk_new wr _) _) hb); have HM2 := AM (HM.out.below (bT (bD (bA (Below.refl _ _) _) _) hb) HM.out.lt); have HB2 := AM (bT (bD (bA HB.out _) _) hb); have hX2 := bX2 BX.out; obtain ⟨_, _, _, _⟩ := hX2; clear hb)
          | (at_mapUpdate; refine wp_put (b := w1.heap.size) (n := k) (D := N) rfl _ _ _ rfl rfl HM2.out (by have := HLEN.out; unfold maxLen; omega) xs[k].f0 (u + xs[k].f1) rfl rfl hsz (wf_of (by have := HQ.out; unfold Fit at this; omega) (by have := HQ.out; unfold Fit at this; omega)) ?_; intro w3 hm3 hgr; have HM3 := AM hm3; have HB3 : Aside0 (Below w.heap.size w w3) := AM (Touch.below_after HB2.out (Touch.of_grown hgr) (fun x hx => by cases hx; exact HB1.out.size)); clear hm3 hgr))
          go_roundw
          case rel => exact ⟨k + 1, _, rfl, hkj, HM3, ⟨HX.out.step hlt (by rw [HU.out]) HQ.out⟩, HB3⟩
          case measure => simp only [intOf]; omega
        · rw [if_neg hq] at HADD
          have hkj : Aside0 (k = j) := AM (by
            have h0 := HK.out
            by_cases e : k < j
            · have := HIN.out k hlt e
              rw [HSUM.out, ← HU.out] at this
              exact absurd this hq
            · omega)
          clear hq
          go_wp2
          go_quiet (fail)
          go_wp2_with (first
          | (go_at_call 36; (with_reducible refine (add_t _ HADD.out).mono ?_); rintro e2 w2 ⟨rfl, hb⟩; have BX := AM (kB (kD (blk_new wr _) _) hb); have HM2 := AM (HM.out.below (bT (bD (bA (Below.refl _ _) _) _) hb) HM.out.lt); have HB2 := AM (bT (bD (bA HB.out _) _) hb); have hX2 := bX2 BX.out; obtain ⟨_, _, _, _⟩ := hX2; clear hb))
          go_ret
          exact .inl ⟨by rw [← hkj.out]; exact hlt, rfl, HB2.out⟩
    · have HKL : Aside0 (k = xs.length) := AM (by have := HK.out; have := HJ.out; omega)
      have HJL : Aside0 (j = xs.length) := AM (by have := HK.out; have := HJ.out; omega)
      have hgt : decide ((k : Int) < (xs.length : Int)) = false := decide_eq_false (by omega)
      have hgb := (HB.out.block g HBK.out.lt).trans HBK.out.blk
      go_wp2_with (first
        | (at_range; refine wp_range rfl _ rfl rfl HM.out ?_; intro w2 hrg hgr hsz2; have HRG := AM hrg; have HGR := AM hgr; have HG2 := AM (blk_touch hgb (Touch.of_grown hgr) (fun q => by cases q)); clear hrg hgr hsz2; go_frame))
      go_loopw [13] (fun _ ws => ∃ (left : Lit → Bool) (cnt m : Nat) (D1 : DM), Aside0 (RG ws w1.heap.size wr.heap.size k N left cnt) ∧ Aside0 (MP ws mb m D1) ∧ Aside0 (m + cnt ≤ n + size N) ∧ Aside0 (MV V xs N D D1 left) ∧ Aside0 (ws.heap[g]? = some (.cells (#[.map (some mb), .int .i64 e] ++ more.toArray) t (0, 0))) ∧ Aside0 (Touch (fun q => q = mb) w ws)) (fun _ ws => ws.rangeLeft w1.heap.size wr.heap.size)
      case atStart =>
        exact ⟨_, _, n, D, HRG, ⟨(HBK.out.map.below HB.out HBK.out.map.lt).touch (Touch.of_grown HGR.out) (fun q => by cases q)⟩, ⟨Nat.le_refl _⟩, ⟨MV.start HD.out.1⟩, HG2, ⟨(Touch.of_below HB.out _).trans (Touch.of_grown HGR.out) (fun _ _ q => by cases q)⟩⟩
      case round =>
        obtain ⟨left, cnt, m, D1, HR2, HM2, HC2, HV2, HG3, HT2⟩ := hrel
        have hc0 : wr.cell? ⟨g, 0, none⟩ = some (.map (some mb)) := (blk_cell HG3.out 0).trans (by simp)
        have hc1 : wr.cell? ⟨g, 1, none⟩ = some (.int .i64 e) := (blk_cell HG3.out 1).trans (by simp)
        have hf1 : wr.frozen? ⟨g, 1, none⟩ = false := blk_frozen HG3.out 1
        have hwe : IntKind.i64.wrap (e + (xs.length : Int)) = e + (xs.length : Int) := by rw [IntKind.wrap_i64]; have := HLEN.out; have := HE0.out; have := HE1.out; omega
        go_wp2_with (first
          | (at_next; refine wp_next rfl _ rfl left cnt rfl HR2.out ?_ ?_))
        · intro hz hl
          have HL := AM hl
          clear hz hl
          go_wp2
          go_ret
          have hsN := World.ownsMap.size_le HM.out
          have hbn := HC2.out
          exact .inr ⟨HJL.out, rfl, D1, m, by have := HKL.out; omega, ⟨kP HG3.out 1 _ (by apply Array.toList_inj.1; simp), HM2.out.touch (Touch.setCell wr g 1 _) (fun q => HBK.out.ne q.symm), HBK.out.ne⟩, HV2.out.done HX.out HKL.out HD.out HL.out, (HT2.out.mono (fun _ _ q => .inr q)).trans (Touch.setCell _ _ _ _) (fun _ _ q => .inl q)⟩
        · intro x cc w4 cnt' hsx hwf hlx hat hrg hlt4 hgr4 hsz4 hen
          have hat' := HX.out.at HKL.out hat
          have HAT := AM hat'
          have HLT := AM hlt4
          have hsz0 := HB.out.size
          have hsz1 := HB1.out.size
          have hgl := HBK.out.lt
          have hml := HBK.out.map.lt
          have HG4 := AM (blk_touch HG3.out (Touch.of_grown hgr4) (fun q => by injection q; omega))
          have HM4 := AM (HM2.out.touch (Touch.of_grown hgr4) (fun q => by injection q; omega))
          have HT4 := AM (HT2.out.trans (Touch.of_grown hgr4) (fun k hk q => by exfalso; injection q; omega))
          have HR4 := AM hrg
          have hc4 : w4.cell? ⟨g, 0, none⟩ = some (.map (some mb)) := (blk_cell HG4.out 0).trans (by simp)
          clear hat' hat hlt4 hrg hgr4 hsz4 hc0 hc1 hf1
          by_cases q0 : cc = 0
          · subst q0
            go_wp2_with (first
            | (at_mapUpdate; refine wp_put rfl _ _ _ rfl rfl HM4.out (by have := HC2.out; have := HN.out; have := HLEN.out; have := World.ownsMap.size_le HM.out; have := HKL.out; unfold maxLen; omega) x 0 rfl rfl hsx (by decide) ?_; intro w5 hm5 hgr5; have HM5 := AM hm5; have HR5 := AM (RG.kept HR4.out (Touch.of_grown hgr5) (fun q => by injection q; omega) (fun q => by injection q; omega)); have hG5 := blk_touch HG4.out (Touch.of_grown hgr5) (fun q => by injection q with q; exact HBK.out.ne q); have HG5 := AM hG5; have HT5 := AM (HT4.out.trans (Touch.of_grown hgr5) (fun k hk q => by injection q)); have hc5 : w5.cell? ⟨g, 0, none⟩ = some (.map (some mb)) := (blk_cell hG5 0).trans (by simp); clear hm5 hgr5 hG5; obtain ⟨w6, hrun6, hm6, htd⟩ := World.ownsMap.drop HM5.out law9 Tryd.underlying26 (key_ok hsx) 0; have hgr6 := htd.grown; have HM6 : Aside0 (MP w6 mb (m + 1) _) := AM hm6; have HR6 := AM (RG.kept HR5.out (Touch.of_grown hgr6) (fun q => by injection q; omega) (fun q => by injection q; omega)); have HG6 := AM (blk_touch HG5.out (Touch.of_grown hgr6) (fun q => by injection q with q; exact HBK.out.ne q)); have HT6 := AM (HT5.out.trans (Touch.of_grown hgr6) (fun k hk q => by injection q)); clear hm6 hgr6 htd))
            go_roundw
            case rel => exact ⟨_, cnt', m + 1, _, HR6, HM6, ⟨by have := HC2.out; have := HLT.out; omega⟩, ⟨HV2.out.del HAT.out.1 HAT.out.2.1 rfl⟩, HG6, HT6⟩
            case measure => rw [World.ranges.left_eq HR6.out, World.ranges.left_eq HR2.out]; exact HLT.out
          · have hq0 : (cc == 0) = false := beq_eq_false_iff_ne.mpr q0
            have hq1 : decide (cc = 0) = false := decide_eq_false q0
            go_wp2_with (first
            | (at_mapUpdate; refine wp_put rfl _ _ _ rfl rfl HM4.out (by have := HC2.out; have := HN.out; have := HLEN.out; have := World.ownsMap.size_le HM.out; have := HKL.out; unfold maxLen; omega) x cc rfl rfl hsx hwf ?_; intro w5 hm5 hgr5; have HM5 := AM hm5; have HR5 := AM (RG.kept HR4.out (Touch.of_grown hgr5) (fun q => by injection q; omega) (fun q => by injection q; omega)); have hG5 := blk_touch HG4.out (Touch.of_grown hgr5) (fun q => by injection q with q; exact HBK.out.ne q); have HG5 := AM hG5; have HT5 := AM (HT4.out.trans (Touch.of_grown hgr5) (fun k hk q => by injection q)); have hc5 : w5.cell? ⟨g, 0, none⟩ = some (.map (some mb)) := (blk_cell hG5 0).trans (by simp); clear hm5 hgr5 hG5))
            go_roundw
            case rel => exact ⟨_, cnt', m + 1, _, HR5, HM5, ⟨by have := HC2.out; have := HLT.out; omega⟩, ⟨HV2.out.put HAT.out.1 HAT.out.2.1 q0 HAT.out.2.2⟩, HG5, HT5⟩
            case measure => rw [World.ranges.left_eq HR5.out, World.ranges.left_eq HR2.out]; exact HLT.out
end Go.Proofs.YtjljhianehhlgaaDoor.M
