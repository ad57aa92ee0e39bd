import Derived.Test.YtjljhianehhlgaaDoorS1
/-! ### slices.DeleteFunc at entries: those of nothing are left out -/
namespace Go.Proofs.YtjljhianehhlgaaDoor.M
open Go Go.RowKit Go.Maps Go.Proofs.YtjljhianehhlgaaDoorW.PrintWords Go.Proofs.YtjljhianehhlgaaDoorW.PrintLast Go.Proofs.YtjljhianehhlgaaDoorW.PrintMore Go.Proofs.YtjljhianehhlgaaDoor.K Go.Proofs.YtjljhianehhlgaaDoor.V
set_option linter.unusedVariables false
set_option maxRecDepth 100000
variable {w w' W : World} {base g n c : Nat} {ok : Nat → Prop} {xs ys : List S31} {A : Option Addr} {v : Value}
theorem _root_.Go.RowKit.Below.mono_base {b b' : Nat} {w w' : World} (h : Below b w w') (hb : b' ≤ b) : Below b' w w' := ⟨h.os, h.tape, h.output, h.size, fun k hk => h.block k (Nat.lt_of_lt_of_le hk hb)⟩
theorem take_snoc' {k : Nat} (h : k < xs.length) : xs.take (k + 1) = xs.take k ++ [xs[k]] := by rw [List.take_succ_eq_append_getElem h]
theorem closure56 (s : ByteArray) (b : Int) (W : World) : Calls Tryd.prog 56 #[.agg #[.string s, .int .i64 b]] W fun e w' => e = .returned (.bool (b == 0)) ∧ Below W.heap.size W w' := by
  go_enter Tryd.func56, Tryd.ntmps56
  go_wp2
  go_ret
  exact ⟨rfl, bA (Below.refl _ _) _⟩
/-- The first of nothing, or none. -/
def At0 (xs : List S31) (r : Int) : Prop := (r = -1 ∧ ∀ x ∈ xs, x.f1 ≠ 0) ∨ ∃ i : Nat, r = i ∧ ∃ h : i < xs.length, xs[i].f1 = 0 ∧ ∀ j (hj : j < xs.length), j < i → xs[j].f1 ≠ 0
theorem index_t (hr : Kd.C k31 w A xs.length xs) (hc : xs.length ≤ c) : Calls Tryd.prog 82 #[.slice A xs.length c, .func (.func 56) #[] #[]] w fun e w' => ∃ r, e = .returned (.int .i64 r) ∧ At0 xs r ∧ Below w.heap.size w w' := by
  have HR := AM hr
  have HM := AM (Kd.C_max hr)
  clear hr
  go_enter Tryd.func82, Tryd.ntmps82
  go_wp2
  go_loopw [8] (fun v wr => ∃ (k : Nat), v = .int .i64 k ∧ Aside0 (∀ j (hj : j < xs.length), j < k → xs[j].f1 ≠ 0) ∧ Aside0 (Below w.heap.size w wr)) (fun i _ => xs.length - (intOf i).toNat)
  case atStart => exact ⟨0, rfl, ⟨fun j hj h => absurd h (Nat.not_lt_zero _)⟩, ⟨Below.refl _ _⟩⟩
  case round =>
    obtain ⟨k, rfl, HZ, HB⟩ := hrel
    by_cases hlt : k < xs.length
    · have hrd := rd31 xs k hlt
      obtain ⟨ad, rfl, hx0, hx1⟩ := at_T31 HR.out (k : Int) (by omega) (by omega)
      replace hx0 := (HB.out.cell (bL w _ hx0)).trans hx0
      replace hx1 := (HB.out.cell (bL w _ hx1)).trans hx1
      rw [hrd] at hx0 hx1
      simp only [Int.toNat_natCast] at hx0 hx1
      have hwr : IntKind.i64.wrap ((k : Int) + 1) = ((k + 1 : Nat) : Int) := by rw [IntKind.wrap_i64]; have := HM.out; omega
      have hgt : decide ((k : Int) < (xs.length : Int)) = true := decide_eq_true (by omega)
      by_cases q : xs[k].f1 = 0
      · have hb : (xs[k].f1 == 0) = true := beq_iff_eq.2 q
        have HQ := AM q
        clear q
        go_wp2_with (go_at_call 56; (with_reducible refine (closure56 _ _ _).mono ?_); rw [hb]; rintro e w2 ⟨rfl, hb2⟩; have HB2 := AM (bT HB.out hb2); clear hb2)
        go_ret
        exact ⟨k, rfl, .inr ⟨k, rfl, hlt, HQ.out, HZ.out⟩, HB2.out⟩
      · have hb : (xs[k].f1 == 0) = false := beq_eq_false_iff_ne.2 q
        have HQ := AM q
        clear q
        go_wp2_with (go_at_call 56; (with_reducible refine (closure56 _ _ _).mono ?_); rw [hb]; rintro e w2 ⟨rfl, hb2⟩; have HB2 := AM (bT HB.out hb2); clear hb2)
        go_roundw
        case rel =>
          refine ⟨k + 1, rfl, ⟨fun j hj h => ?_⟩, HB2⟩
          rcases Nat.lt_or_ge j k with h1 | h1
          · exact HZ.out j hj h1
          · have : j = k := by omega
            subst this
            exact HQ.out
        case measure => simp only [intOf]; omega
    · have hgt : decide ((k : Int) < (xs.length : Int)) = false := decide_eq_false (by omega)
      have HK := AM hlt
      go_wp2
      go_ret
      refine ⟨-1, rfl, .inl ⟨rfl, fun x hx => ?_⟩, HB.out⟩
      obtain ⟨j, hj, rfl⟩ := List.getElem_of_mem hx
      exact HZ.out j hj (by have := HK.out; omega)
/-- An entry of something. -/
def some0 (x : S31) : Bool := x.f1 != 0
/-- The list while it is gone through: the kept ones lie in front. -/
structure DInv (xs dk : List S31) (i j : Nat) : Prop where
  len : dk.length = xs.length
  lt : i < j
  le : j ≤ xs.length
  front : dk.take i = (xs.take j).filter some0
  back : ∀ t (h : t < dk.length) (h' : t < xs.length), j ≤ t → dk[t] = xs[t]
theorem DInv.start {i : Nat} (hi : i < xs.length) (h0 : xs[i].f1 = 0) (hz : ∀ j (hj : j < xs.length), j < i → xs[j].f1 ≠ 0) : DInv xs xs i (i + 1) := by
  refine ⟨rfl, by omega, by omega, ?_, fun _ _ _ _ => rfl⟩
  rw [take_snoc' hi, List.filter_append]
  have e1 : [xs[i]].filter some0 = [] := by simp [some0, h0]
  rw [e1, List.append_nil, List.filter_eq_self.2]
  intro x hx
  obtain ⟨j, hj, rfl⟩ := List.getElem_of_mem hx
  rw [List.length_take] at hj
  rw [List.getElem_take]
  exact bne_iff_ne.2 (hz j (by omega) (by omega))
theorem DInv.skip {dk : List S31} {i j : Nat} (h : DInv xs dk i j) (hj : j < xs.length) (h0 : xs[j].f1 = 0) : DInv xs dk i (j + 1) := by
  refine ⟨h.len, by have := h.lt; omega, by omega, ?_, fun t a b c => h.back t a b (by omega)⟩
  rw [take_snoc' hj, List.filter_append, ← h.front]
  simp [some0, h0]
theorem DInv.keep {dk : List S31} {i j : Nat} (h : DInv xs dk i j) (hj : j < xs.length) (h0 : xs[j].f1 ≠ 0) : DInv xs (dk.set i xs[j]) (i + 1) (j + 1) := by
  have hij := h.lt
  have hl := h.len
  refine ⟨by simp [h.len], by omega, by omega, ?_, fun t a b c => ?_⟩
  · rw [take_snoc' hj, List.filter_append, ← h.front]
    have e1 : [xs[j]].filter some0 = [xs[j]] := by simp [some0, h0]
    rw [e1, take_snoc' (by simp; omega), List.getElem_set_self, List.take_set_of_le (Nat.le_refl i)]
  · rw [List.getElem_set_ne (by omega)]
    exact h.back t (by simpa using a) b (by omega)
theorem clear_R {dk : List S31} {i m : Nat} (h : k31.R 31 W base ok (.slice (some ⟨g, 0, none⟩) m c) dk) (hi : i < m) : m ≤ c ∧ (Builtin.clear_ #[27] 0 #[.slice (some ⟨g, i * 2, none⟩) (m - i) (c - i)]).run Tryd.prog W = .ok (.tuple #[]) (W.setCells g (i * 2) (Builtin.zeroCells #[.string ⟨#[]⟩, .int .i64 0] (m - i)).toList) ∧ k31.R 31 (W.setCells g (i * 2) (Builtin.zeroCells #[.string ⟨#[]⟩, .int .i64 0] (m - i)).toList) base ok (.slice (some ⟨g, 0, none⟩) i c) (dk.take i) := by
  obtain ⟨hm, hmc, _⟩ := Kd.R_reads' h
  have h2 := Kd.R_take h (m := i) (by omega)
  obtain ⟨hok, inner, hown, hr⟩ := h2
  obtain ⟨hlen, hv, _⟩ | ⟨hlen, g', cap', cur, hv, hbg, hh, hic, hcm, hcs, htk⟩ : (_ ∧ _ ∧ _) ∨ (_ ∧ _) := by
    rcases hown with ⟨h1, h2 | h2⟩
    · exact .inl ⟨h1, h2⟩
    · exact .inr ⟨h1, h2⟩
  · cases hv
  injection hv with ha hn hc
  injection ha with ha
  injection ha with hg'
  subst hg' hc
  obtain ⟨vs, hvs⟩ : ∃ vs, vs = (Builtin.zeroCells #[.string ⟨#[]⟩, .int .i64 0] (m - i)).toList := ⟨_, rfl⟩
  have hvl : vs.length = (m - i) * 2 := by rw [hvs]; simp [Builtin.zeroCells]
  have hv1 : ∀ v ∈ vs, v.oneCell' = true := by
    rw [hvs]
    intro v hv
    simp only [Builtin.zeroCells, Array.toList_map, List.mem_map] at hv
    obtain ⟨a, _, rfl⟩ := hv
    show ((#[Value.string ⟨#[]⟩, .int .i64 0] : Array Value)[a % 2]!).oneCell' = true
    rcases Nat.mod_two_eq_zero_or_one a with q | q <;> rw [q] <;> rfl
  have hsz : i * 2 + vs.length ≤ cur.size := by rw [hvl, hcs]; show i * 2 + _ ≤ c * 2; omega
  refine ⟨hmc, ?_, ?_⟩
  · have hst := run_storeCells_cells (P := Tryd.prog) g (i * 2) vs 0 W (fun j hj => by rw [cell_of_row W g _ cur 31 (0, 0) hh]; simp; omega) (fun j _ => blk_frozen hh _) hv1
    simp only [Nat.add_zero] at hst
    have hz : ∀ w, (zeroValue 31).run Tryd.prog w = .ok (.agg #[.string ⟨#[]⟩, .int .i64 0]) w := fun w => by kernel_rfl
    obtain ⟨q, hq⟩ : ∃ q, m - i = q + 1 := ⟨m - i - 1, by omega⟩
    rw [← hvs]
    rw [hq] at hvs ⊢
    have hcl : (Value.agg #[.string ⟨#[]⟩, .int .i64 0]).cells = #[.string ⟨#[]⟩, .int .i64 0] := rfl
    simp [Builtin.clear_, run_underlying Tryd.underlying27, hz, hcl, ← hvs, hst]
  · rw [← hvs]
    obtain ⟨cur', hh', hs', ht'⟩ := setCells_row vs (i * 2) W cur hh hsz
    refine ⟨hok, inner, ⟨hlen, .inr ⟨g, c, cur', congrArg (fun q => Value.slice (some ⟨g, 0, none⟩) q c) hn, hbg, hh', hic, hcm, by rw [hs']; exact hcs, ?_⟩⟩, hr.imp_ fun p c hp => by rw [k31_openM hp]; exact k31_mkM _ _ _ _⟩
    have e : (List.take i dk).length * k31.sz = i * 2 := by rw [← hn]; rfl
    rw [e] at htk ⊢
    have hl : (List.take (i * 2) cur.toList).length = i * 2 := by rw [List.length_take, Array.length_toList]; omega
    rw [ht', ← htk, List.append_assoc, List.take_left' hl]
theorem delete_t (HO : k31.R 31 w base ok v xs) (hb : base ≤ w.heap.size) : Calls Tryd.prog 55 #[v, .func (.func 56) #[] #[]] w fun e w' => ∃ v', e = .returned v' ∧ k31.R 31 w' base ok v' (xs.filter some0) ∧ Below base w w' := by
  obtain ⟨A, c, hv, hc, hC⟩ := Kd.R_reads HO
  have HO1 := AM HO
  have HM := AM (Kd.C_max hC)
  have HI := AM (index_t hC hc)
  have HBB := AM hb
  subst hv
  clear HO hC hb
  go_enter Tryd.func55, Tryd.ntmps55
  go_wp2_with (go_at_call 82; (with_reducible refine HI.out.mono ?_); rintro e w1 ⟨r, rfl, ha, hb⟩; have HB := AM hb; clear hb; rcases ha with ⟨rfl, hz⟩ | ⟨i0, rfl, hi0, h00, hz⟩; (have HZ := AM hz; clear hz); rotate_left; (have HI0 := AM (DInv.start hi0 h00 hz); have hne : ((i0 : Int) == -1) = false := beq_eq_false_iff_ne.2 (by omega); have hw1 : IntKind.i64.wrap ((i0 : Int) + 1) = ((i0 + 1 : Nat) : Int) := (by rw [IntKind.wrap_i64]; have := HM.out; omega); clear hi0 h00 hz); rotate_left)
  · go_ret
    refine ⟨_, rfl, ?_, (HB.out).mono_base HBB.out⟩
    rw [show xs.filter some0 = xs from List.filter_eq_self.2 fun x hx => bne_iff_ne.2 (HZ.out x hx)]
    exact Kd.R_below HO1.out HB.out
  · have hp : 0 < xs.length := by have h1 := HI0.out.lt; have h2 := HI0.out.le; omega
    obtain ⟨g, cap, hv, hbg, hglt, _⟩ := Kd.R_form HO1.out hp
    obtain ⟨rfl, rfl⟩ : A = some ⟨g, 0, none⟩ ∧ c = cap := by injection hv with h1 h2 h3; exact ⟨h1, h3⟩
    clear hv
    go_loopw [5, 6] (fun s5 s6 wr => ∃ (i j : Nat) (dk : List S31), s5 = .int .i64 i ∧ s6 = .int .i64 j ∧ Aside0 (DInv xs dk i j) ∧ Aside0 (k31.R 31 wr base ok (.slice (some ⟨g, 0, none⟩) xs.length c) dk) ∧ Aside0 (Below base w wr)) (fun _ s6 _ => xs.length - (intOf s6).toNat)
    case atStart => exact ⟨i0, i0 + 1, xs, rfl, rfl, HI0, ⟨Kd.R_below HO1.out HB.out⟩, ⟨HB.out.mono_base HBB.out⟩⟩
    case round =>
      clear HI0 HB
      obtain ⟨i, j, dk, rfl, rfl, HD, HO, HB⟩ := hrel
      have hdl := HD.out.len
      by_cases hlt : j < xs.length
      · have hlt' : j < dk.length := by omega
        have hij := HD.out.lt
        have hile : i < dk.length := by omega
        have hil : i < xs.length := by omega
        have hrd := rd31 dk j hlt'
        have hbk := HD.out.back j hlt' hlt (Nat.le_refl _)
        have hC := (Kd.R_reads' HO.out).2.2
        obtain ⟨ad, had, hx0, hx1⟩ := at_T31 hC (j : Int) (by omega) (by omega)
        cases had
        rw [hrd, hbk] at hx0 hx1
        simp only [Int.toNat_natCast, Lib.add_plain, Nat.zero_add] at hx0 hx1
        have hwr : IntKind.i64.wrap ((j : Int) + 1) = ((j + 1 : Nat) : Int) := by rw [IntKind.wrap_i64]; have := HM.out; omega
        have hwi : IntKind.i64.wrap ((i : Int) + 1) = ((i + 1 : Nat) : Int) := by rw [IntKind.wrap_i64]; have := HM.out; omega
        have hgt : decide ((j : Int) < (xs.length : Int)) = true := decide_eq_true (by omega)
        by_cases q : xs[j].f1 = 0
        · have hb : (xs[j].f1 == 0) = true := beq_iff_eq.2 q
          have HD2 := AM (HD.out.skip hlt q)
          clear q hdl hlt' hij hile hrd hbk hC
          go_wp2_with (go_at_call 56; (with_reducible refine (closure56 _ _ _).mono ?_); rw [hb]; rintro e w2 ⟨rfl, hb2⟩; have HO2 := AM (Kd.R_below (Kd.R_alloc HO.out _) hb2); have HB2 := AM (HB.out.trans ((bT (bA (Below.refl _ _) _) hb2).mono_base (Nat.le_trans HBB.out HB.out.size))); clear hb2)
          go_roundw
          case rel => exact ⟨i, j + 1, dk, rfl, rfl, HD2, HO2, HB2⟩
          case measure => simp only [intOf]; omega
        · have hb : (xs[j].f1 == 0) = false := beq_eq_false_iff_ne.2 q
          have HD2 := AM (HD.out.keep hlt q)
          clear q hdl hlt' hij hrd hbk hC
          go_wp2_with (first
            | (go_at_call 56; (with_reducible refine (closure56 _ _ _).mono ?_); rw [hb]; rintro e w2 ⟨rfl, hb2⟩; have HO2 := AM (Kd.R_below (Kd.R_alloc HO.out _) hb2); have HB2 := AM (HB.out.trans ((bT (bA (Below.refl _ _) _) hb2).mono_base (Nat.le_trans HBB.out HB.out.size))); have hX := bX2 (kB (blk_new wr _) hb2); obtain ⟨_, _, _, _⟩ := hX; clear hb2)
            | ((with_reducible refine gate_ (.store 31 (.tmp 33) (.tmp 32)) rfl ?_); obtain ⟨cs, hcl, hcM, hcc, hcf⟩ := Kd.R_elem HO2.out z31 (i : Int) (by omega) (by omega); refine Kd.R_store k31 (w0 := w) base rfl rfl 31 (.tmp 33) (.tmp 32) rfl 31 (g := g) (n := xs.length) (cap := c) (o' := i * 2) (i : Int) 0 dk xs[j] (.agg #[.string xs[j].f0, .int .i64 xs[j].f1]) [.string xs[j].f0, .int .i64 xs[j].f1] cs ok (fun _ => False) rfl (by rw [Int.toNat_natCast]; rfl) rfl rfl (by kernel_rfl) (by intro q hq; simp only [List.mem_cons, List.not_mem_nil, or_false] at hq; rcases hq with rfl | rfl <;> rfl) HO2.out (by omega) (by omega) hcl hcc (Nat.le_refl 2) (by rw [List.take_zero, List.nil_append, List.drop_of_length_le (by rw [hcl]; exact Nat.le_refl _), List.append_nil]; exact k31_mkM _ _ _ _) (fun _ h => h.elim) HB2.out ?_; intro w3 ho hb hg; rw [Int.toNat_natCast] at ho; have HO3 := AM ho; have HB3 := AM hb; clear ho hb hg hcl hcM hcc hcf))
          go_roundw
          case rel => exact ⟨i + 1, j + 1, _, rfl, rfl, HD2, HO3, HB3⟩
          case measure => simp only [intOf]; omega
      · have hjl : j = xs.length := by have := HD.out.le; omega
        have hij := HD.out.lt
        have hil : i < xs.length := by omega
        have HJL := AM hjl
        clear hjl
        have hgt : decide ((j : Int) < (xs.length : Int)) = false := decide_eq_false (by omega)
        obtain ⟨hcap, hrun, hfin⟩ := clear_R HO.out hil
        have HF := AM hfin
        have hlt2 : i < c := by omega
        clear hdl hfin
        go_wp2
        go_ret
        have hfr := HD.out.front
        rw [HJL.out, List.take_length] at hfr
        rw [hfr] at HF
        have hs := setCells_same g (Builtin.zeroCells #[.string ⟨#[]⟩, .int .i64 0] (xs.length - i)).toList (i * 2) wr
        exact ⟨_, rfl, HF.out, HB.out.trans ⟨hs.1, hs.2.1, hs.2.2.1, by rw [hs.2.2.2]; exact Nat.le_refl _, fun k hk => setCells_far _ _ k (by omega)⟩⟩
end Go.Proofs.YtjljhianehhlgaaDoor.M
