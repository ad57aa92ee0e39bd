/- The walk of word.Cut over its real code (labels and jumps): what it computes is cutL. -/
import Derived.Test.YtodijkdmcjnpkaaDoorKx0
import Derived.Test.YtodijkdmcjnpkaaDoorKx12
import Derived.Test.YtodijkdmcjnpkaaDoorKScope
namespace Go.Proofs.YtodijkdmcjnpkaaDoor.K
open Go.RowKit Go.Proofs.YtodijkdmcjnpkaaDoorW.PrintWords Go.Proofs.YtodijkdmcjnpkaaDoorW.PrintLast Go.Proofs.YtodijkdmcjnpkaaDoorW.PrintMore
attribute [local go_sem] max2_int min2_int max_two min_two max_three min_three max_four min_four   -- for this text's walks alone
set_option linter.unusedVariables false
set_option linter.unusedSimpArgs false
theorem info9 : (Tryd.prog.info? 9).map (fun i => (i.zero, i.size, i.bytes)) = some (some (.string ⟨#[]⟩), 1, 16) := by kernel_rfl
def plainB (c : UInt8) : Bool := decide (c.toNat > 32) && decide (c.toNat < 127) && decide (c.toNat ≠ 34) && decide (c.toNat ≠ 35)
def shownB (c : UInt8) : Bool := decide (c.toNat ≥ 32) && decide (c.toNat < 127) && decide (c.toNat ≠ 34)
theorem plain_f (c : UInt8) : word_plain.f (c.toNat : Int) = some (plainB c) := by
  unfold word_plain.f plainB
  by_cases h1 : c.toNat > 32
  · by_cases h2 : c.toNat < 127
    · by_cases h3 : c.toNat = 34
      · rw [if_pos (by omega), if_pos (by omega), if_pos (by omega)]; simp [h3]
      · rw [if_pos (by omega), if_pos (by omega), if_neg (by omega)]
        by_cases h4 : c.toNat = 35
        · simp [h4]
        · have e1 : (((c.toNat : Int)) != 35) = true := by rw [bne_iff_ne]; omega
          rw [e1]; simp [h1, h2, h3, h4]
    · rw [if_pos (by omega), if_neg (by omega)]; simp [h2]
  · rw [if_neg (by omega)]; simp [h1]
theorem shown_f (c : UInt8) : word_shown.f (c.toNat : Int) = some (shownB c) := by
  unfold word_shown.f shownB
  by_cases h1 : c.toNat ≥ 32
  · by_cases h2 : c.toNat < 127
    · rw [if_pos (by omega), if_pos (by omega)]
      by_cases h3 : c.toNat = 34
      · simp [h3]
      · have e1 : (((c.toNat : Int)) != 34) = true := by rw [bne_iff_ne]; omega
        rw [e1]; simp [h1, h2, h3]
    · rw [if_pos (by omega), if_neg (by omega)]; simp [h2]
  · rw [if_neg (by omega)]; simp [h1]
abbrev CutR := List ByteArray × Int
def mkb (l : List UInt8) : ByteArray := ⟨l.toArray⟩
mutual
def cutB : Nat → List UInt8 → List ByteArray → Option CutR
  | 0, _, _ => none
  | _ + 1, [], out => some (out, 0)
  | k + 1, c :: r, out => if c.toNat = 35 then some (out, 0) else if c.toNat = 32 then cutB k r out else if out.length = 32 then some ([], 2) else if c.toNat = 34 then cutQ k [] r out else cutW k [] (c :: r) out
def cutW : Nat → List UInt8 → List UInt8 → List ByteArray → Option CutR
  | 0, _, _, _ => none
  | k + 1, p, [], out => if p = [] then some ([], 5) else cutE k [] (out ++ [mkb p])
  | k + 1, p, c :: r, out => if plainB c = true then cutW k (p ++ [c]) r out else if p = [] then some ([], 5) else cutE k (c :: r) (out ++ [mkb p])
def cutQ : Nat → List UInt8 → List UInt8 → List ByteArray → Option CutR
  | 0, _, _, _ => none
  | _ + 1, _, [], _ => some ([], 5)
  | k + 1, p, c :: r, out => if shownB c = true then cutQ k (p ++ [c]) r out else if c.toNat = 34 then cutE k r (out ++ [mkb p]) else some ([], 5)
def cutE : Nat → List UInt8 → List ByteArray → Option CutR
  | 0, _, _ => none
  | k + 1, [], out => cutB k [] out
  | k + 1, c :: r, out => if c.toNat = 32 then cutB k (c :: r) out else if c.toNat = 35 then cutB k (c :: r) out else some ([], 5)
end
def word_Cut.f (s : ByteArray) : Option CutR := if (s.size : Int) > 512 then some ([], 2) else cutB (4 * s.size + 8) s.data.toList []
/-- What holds at a label. -/
def Jx (a0 : ByteArray) (r1 : List ByteArray) (r2 : Int) (l n : Nat) (out : List ByteArray) (x5 x6 : Int) : Prop :=
  0 ≤ x6 ∧ x6 ≤ x5 ∧ x5 ≤ a0.size ∧ a0.size ≤ 512 ∧
  match l with
  | 0 => out.length ≤ 32 ∧ cutB n (a0.data.toList.drop x5.toNat) out = some (r1, r2)
  | 2 => out.length < 32 ∧ cutW n ((a0.data.toList.take x5.toNat).drop x6.toNat) (a0.data.toList.drop x5.toNat) out = some (r1, r2)
  | 1 => out.length < 32 ∧ cutQ n ((a0.data.toList.take x5.toNat).drop x6.toNat) (a0.data.toList.drop x5.toNat) out = some (r1, r2)
  | 4 => out.length ≤ 32 ∧ cutE n (a0.data.toList.drop x5.toNat) out = some (r1, r2)
  | 3 => r1 = [] ∧ r2 = 5
  | _ => False
theorem drop_bt (s : ByteArray) (x : Int) (h0 : 0 ≤ x) (h1 : x < s.size) : ∃ c, s.data.toList.drop x.toNat = c :: s.data.toList.drop (x + 1).toNat ∧ (c.toNat : Int) = bt s x := by
  have hlt : x.toNat < s.data.toList.length := by rw [data_length]; omega
  refine ⟨s.data.toList[x.toNat], ?_, ?_⟩
  · rw [List.drop_eq_getElem_cons hlt, show (x + 1).toNat = x.toNat + 1 by omega]
  · rw [← bt_at s x (by omega)]; rfl
theorem drop_end (s : ByteArray) (x : Int) (h1 : x = s.size) : s.data.toList.drop x.toNat = [] := by
  apply List.drop_eq_nil_of_le; rw [data_length]; omega
theorem take_next (s : ByteArray) (x y : Int) (c : UInt8) (r : List UInt8) (h0 : 0 ≤ x) (hy : y.toNat ≤ x.toNat) (h : s.data.toList.drop x.toNat = c :: r) : (s.data.toList.take (x + 1).toNat).drop y.toNat = (s.data.toList.take x.toNat).drop y.toNat ++ [c] := by
  have hlt : x.toNat < s.data.toList.length := by
    rcases Nat.lt_or_ge x.toNat s.data.toList.length with h' | h'
    · exact h'
    · rw [List.drop_eq_nil_of_le h'] at h; cases h
  have hc : s.data.toList[x.toNat] = c := by
    rw [List.drop_eq_getElem_cons hlt] at h; injection h
  rw [show (x + 1).toNat = x.toNat + 1 by omega, List.take_succ_eq_append_getElem hlt, List.drop_append_of_le_length (by rw [List.length_take]; omega), hc]
theorem take_none (s : ByteArray) (x y : Int) (h : x.toNat ≤ y.toNat) : (s.data.toList.take x.toNat).drop y.toNat = [] := by
  apply List.drop_eq_nil_of_le; rw [List.length_take]; omega
theorem take_some (s : ByteArray) (x y : Int) (h : y.toNat < x.toNat) (hs : x ≤ s.size) : (s.data.toList.take x.toNat).drop y.toNat ≠ [] := by
  intro e
  have := congrArg List.length e
  rw [List.length_drop, List.length_take, data_length] at this
  simp at this; omega
theorem extract_mkb (s : ByteArray) (a b : Nat) : s.extract a b = mkb ((s.data.toList.take b).drop a) := by
  apply ByteArray.ext
  apply Array.ext'
  simp [mkb, ByteArray.data_extract, Array.toList_extract, List.extract, List.drop_take]
theorem wrap_small (x : Int) (h0 : 0 ≤ x) (h1 : x ≤ 513) : wrap64 (x + 1) = x + 1 := by
  unfold wrap64; omega
/-- The frame at a label. -/
def FrameIs (s : ByteArray) (vo : Value) (x5 x6 : Int) (a : Act) : Prop := a.defers = [] ∧ ∃ l : List Value, l.length = 96 ∧ a.tmps.toList = .string s :: undef :: .slice none 0 0 :: .int .i64 0 :: vo :: .int .i64 x5 :: .int .i64 x6 :: l
theorem list_opened (l : List Value) (n : Nat) (h : l.length = n) : l = (List.range n).map (fun q => l.getD q undef) := by
  subst h
  apply List.ext_getElem (by simp)
  intro i h1 h2
  simp [List.getD_eq_getElem?_getD, h1]
set_option maxRecDepth 100000 in
theorem FrameIs.opened {s : ByteArray} {vo : Value} {x5 x6 : Int} {a : Act} (h : FrameIs s vo x5 x6 a) : ∃ u : Nat → Value, a = { tmps := #[.string s, undef, .slice none 0 0, .int .i64 0, vo, .int .i64 x5, .int .i64 x6, u 7, u 8, u 9, u 10, u 11, u 12, u 13, u 14, u 15, u 16, u 17, u 18, u 19, u 20, u 21, u 22, u 23, u 24, u 25, u 26, u 27, u 28, u 29, u 30, u 31, u 32, u 33, u 34, u 35, u 36, u 37, u 38, u 39, u 40, u 41, u 42, u 43, u 44, u 45, u 46, u 47, u 48, u 49, u 50, u 51, u 52, u 53, u 54, u 55, u 56, u 57, u 58, u 59, u 60, u 61, u 62, u 63, u 64, u 65, u 66, u 67, u 68, u 69, u 70, u 71, u 72, u 73, u 74, u 75, u 76, u 77, u 78, u 79, u 80, u 81, u 82, u 83, u 84, u 85, u 86, u 87, u 88, u 89, u 90, u 91, u 92, u 93, u 94, u 95, u 96, u 97, u 98, u 99, u 100, u 101, u 102], defers := [] } := by
  obtain ⟨hd, l, hl, ht⟩ := h
  have e := list_opened l _ hl
  refine ⟨fun q => l.getD (q - 7) undef, ?_⟩
  obtain ⟨t, d⟩ := a
  simp only at hd ht
  subst hd
  congr 1
  apply Array.ext'
  rw [ht]
  refine congrArg (fun z => Value.string s :: undef :: .slice none 0 0 :: .int .i64 0 :: vo :: .int .i64 x5 :: .int .i64 x6 :: z) (e.trans ?_)
  rfl
set_option maxHeartbeats 2000000 in
set_option maxRecDepth 100000 in
theorem word_Cut.calls (a0 : ByteArray) (r1 : List ByteArray) (r2 : Int) (w : World) (h : word_Cut.f a0 = some (r1, r2)) :
    Calls Tryd.prog 14 #[.string a0] w fun e w' => ∃ v0_ : Value, e = .returned (.tuple #[v0_, .int .i64 r2]) ∧ Kd.R Kd.string 9 w' w.heap.size (fun _ => True) v0_ r1 ∧ Below w.heap.size w w' := by
  unfold word_Cut.f at h
  by_cases c0 : (a0.size : Int) > 512
  · rw [if_pos c0] at h
    obtain ⟨rfl, rfl⟩ : ([] : List ByteArray) = r1 ∧ (2 : Int) = r2 := by simpa using h
    clear h
    have c0b0 : decide (512 < (a0.size : Int)) = true := decide_eq_true c0
    have c0b1 : decide (512 < a0.size) = true := decide_eq_true (by omega)
    clear c0
    go_enter Tryd.func14, Tryd.ntmps14
    go_wp2
    refine wp_scope_straight ?_
    go_wp2
    rw [Exit.noGoto_ret]
    go_ret2
    exact ⟨_, rfl, Kd.R_nil _ _ _ _ _, Below.refl _ _⟩
  rw [if_neg c0] at h
  have hz : a0.size ≤ 512 := by omega
  have c0b0 : decide (512 < (a0.size : Int)) = false := decide_eq_false c0
  have c0b1 : decide (512 < a0.size) = false := decide_eq_false (by omega)
  have HC := Aside0.mk h
  have HZ := Aside0.mk hz
  clear h hz c0
  go_enter Tryd.func14, Tryd.ntmps14
  go_wp2
  refine KScope.wp_scope_five (fun l n a' w' => ∃ (out : List ByteArray) (vo : Value) (x5 x6 : Int), FrameIs a0 vo x5 x6 a' ∧ Aside0 (Jx a0 r1 r2 l n out x5 x6) ∧ Aside0 (Kd.R Kd.string 9 w' w.heap.size (fun _ => True) vo out) ∧ Aside0 (Below w.heap.size w w')) rfl rfl rfl rfl rfl (fun l n a w' h => ?lab) ?p3 ?p4 ?p2 ?p1 ?p0 ?first
  case lab =>
    obtain ⟨out, vo, x5, x6, _, HJ, _, _⟩ := h
    have h := HJ.out.2.2.2.2
    match l, h with
    | 0, _ => simp
    | 1, _ => simp
    | 2, _ => simp
    | 3, _ => simp
    | 4, _ => simp
    | l + 5, h => exact h.elim
  case first =>
    intro h0_
    go_wp2
    go_step3
    (try simp only [Exit.then])
    rename_i hK
    refine hK _ _ ?_
    clear hK
    refine h0_ (4 * a0.size + 8) _ _ ⟨[], _, 0, 0, ⟨rfl, _, ?lx, rfl⟩, ⟨?jx⟩, ⟨Kd.R_nil _ _ _ _ _⟩, ⟨Below.refl _ _⟩⟩
    case lx => rfl
    case jx => exact ⟨by omega, by omega, by omega, HZ.out, by simp, HC.out⟩
  case p0 =>
    intro h2_ n a' wr hJ
    obtain ⟨out, vo, x5, x6, hfr, HJ, HR, HB⟩ := hJ
    obtain ⟨u, rfl⟩ := hfr.opened
    clear hfr
    obtain ⟨h0, h1, h2, h3, hl, hc⟩ := HJ.out
    clear HJ
    cases n with
    | zero => exact absurd hc (by simp [cutB])
    | succ k =>
      by_cases e : x5 = (a0.size : Int)
      · rw [drop_end a0 x5 e] at hc
        simp only [cutB, Option.some.injEq, Prod.mk.injEq] at hc
        obtain ⟨rfl, rfl⟩ := hc
        have t0 : (x5 == (a0.size : Int)) = true := beq_iff_eq.2 e
        clear e h0 h1 h2 h3 hl
        go_wp2
        repeat (go_quiet (fail); try go_wp2)
        refine KScope.jumps_ret ?_
        go_ret2
        exact ⟨_, rfl, by (with_reducible repeat (first | apply Kd.R_alloc | apply Kd.R_drewN | apply Kd.R_drew)); exact HR.out, by repeat (first | (with_reducible first | exact HB.out | apply below_alloc | apply pw_below_drewN | apply below_drew1) | exact HB.out)⟩
      have g0 : 0 ≤ x5 := by omega
      have g1 : x5 < (a0.size : Int) := by omega
      have t0 : (x5 == (a0.size : Int)) = false := beq_eq_false_iff_ne.2 e
      obtain ⟨c, hd, hcb⟩ := drop_bt a0 x5 g0 g1
      rw [hd] at hc
      simp only [cutB] at hc
      have HI := Aside0.mk (⟨h0, h1, h2, h3⟩ : 0 ≤ x6 ∧ x6 ≤ x5 ∧ x5 ≤ (a0.size : Int) ∧ a0.size ≤ 512)
      have HL := Aside0.mk hl
      have HW := Aside0.mk (wrap_small x5 (by omega) (by omega))
      clear h0 h1 h2 h3 hl
      clear e
      have p := eq_true g0
      have q := eq_true g1
      have hx := bt_at a0 x5
      clear g0 g1
      by_cases c35 : c.toNat = 35
      · rw [if_pos c35] at hc
        simp only [Option.some.injEq, Prod.mk.injEq] at hc
        obtain ⟨rfl, rfl⟩ := hc
        have t35 : (bt a0 x5 == 35) = true := by rw [beq_iff_eq]; omega
        clear hd hcb c35 c
        go_wp2
        repeat (go_quiet (fail); try go_wp2)
        refine KScope.jumps_ret ?_
        go_ret2
        exact ⟨_, rfl, by (with_reducible repeat (first | apply Kd.R_alloc | apply Kd.R_drewN | apply Kd.R_drew)); exact HR.out, by repeat (first | (with_reducible first | exact HB.out | apply below_alloc | apply pw_below_drewN | apply below_drew1) | exact HB.out)⟩
      rw [if_neg c35] at hc
      have t35 : (bt a0 x5 == 35) = false := by rw [beq_eq_false_iff_ne]; omega
      by_cases c32 : c.toNat = 32
      · rw [if_pos c32] at hc
        have t32 : (bt a0 x5 == 32) = true := by rw [beq_iff_eq]; omega
        have HC := Aside0.mk hc
        clear hd hcb c35 c32 c hc
        go_wp2
        repeat (go_quiet (fail); try go_wp2)
        go_step3
        (try simp only [Exit.inBlock])
        (try simp only [Exit.then])
        refine KScope.jumps_goto ?_
        refine ⟨k, by omega, out, vo, wrap64 (x5 + 1), x6, ⟨rfl, _, ?lx, rfl⟩, ⟨?jx⟩, ⟨by (with_reducible repeat (first | apply Kd.R_alloc | apply Kd.R_drewN | apply Kd.R_drew)); exact HR.out⟩, ⟨by repeat (first | (with_reducible first | exact HB.out | apply below_alloc | apply pw_below_drewN | apply below_drew1) | exact HB.out)⟩⟩
        case lx => rfl
        case jx =>
          have h_ := HI.out
          have hl_ := HL.out
          rw [HW.out]
          exact ⟨by omega, by omega, by have := of_eq_true q; omega, by omega, by omega, HC.out⟩
      rw [if_neg c32] at hc
      have t32 : (bt a0 x5 == 32) = false := by rw [beq_eq_false_iff_ne]; omega
      by_cases cl : out.length = 32
      · rw [if_pos cl] at hc
        simp only [Option.some.injEq, Prod.mk.injEq] at hc
        obtain ⟨rfl, rfl⟩ := hc
        obtain ⟨A4, c4, rfl⟩ := Kd.R_slice HR.out
        have tl : ((out.length : Int) == 32) = true := by rw [beq_iff_eq]; omega
        clear hd hcb c35 c32 cl c
        go_wp2
        repeat (go_quiet (fail); try go_wp2)
        refine KScope.jumps_ret ?_
        go_ret2
        exact ⟨_, rfl, Kd.R_nil _ _ _ _ _, by repeat (first | (with_reducible first | exact HB.out | apply below_alloc | apply pw_below_drewN | apply below_drew1) | exact HB.out)⟩
      rw [if_neg cl] at hc
      have tl : ((out.length : Int) == 32) = false := by rw [beq_eq_false_iff_ne]; omega
      have hl3 : out.length < 32 := by have := HL.out; omega
      clear HL
      have HL := Aside0.mk hl3
      clear hl3 cl
      obtain ⟨A4, c4, rfl⟩ := Kd.R_slice HR.out
      by_cases c34 : c.toNat = 34
      · rw [if_pos c34] at hc
        have t34 : (bt a0 x5 == 34) = true := by rw [beq_iff_eq]; omega
        have HC := Aside0.mk hc
        clear hd hcb c35 c32 c34 c hc
        go_wp2
        repeat (go_quiet (fail); try go_wp2)
        go_step3
        (try simp only [Exit.inBlock])
        (try simp only [Exit.then])
        refine KScope.jumps_goto ?_
        refine ⟨k, by omega, out, _, wrap64 (x5 + 1), wrap64 (x5 + 1), ⟨rfl, _, ?lx, rfl⟩, ⟨?jx⟩, ⟨by (with_reducible repeat (first | apply Kd.R_alloc | apply Kd.R_drewN | apply Kd.R_drew)); exact HR.out⟩, ⟨by repeat (first | (with_reducible first | exact HB.out | apply below_alloc | apply pw_below_drewN | apply below_drew1) | exact HB.out)⟩⟩
        case lx => rfl
        case jx =>
          have h_ := HI.out
          have hl_ := HL.out
          rw [HW.out]
          refine ⟨by omega, by omega, by have := of_eq_true q; omega, by omega, by omega, ?_⟩
          rw [take_none a0 (x5 + 1) (x5 + 1) (by omega)]; exact HC.out
      rw [if_neg c34] at hc
      have t34 : (bt a0 x5 == 34) = false := by rw [beq_eq_false_iff_ne]; omega
      have HC := Aside0.mk hc
      have HD := Aside0.mk hd
      clear hd hcb c35 c32 c34 hc
      go_wp2
      repeat (go_quiet (fail); try go_wp2)
      go_step3
      (try simp only [Exit.then])
      rename_i hK
      refine hK _ _ ?_
      clear hK
      refine h2_ k (k + 1) _ _ (by omega) ⟨out, _, x5, x5, ⟨rfl, _, ?lx, rfl⟩, ⟨?jx⟩, ⟨by (with_reducible repeat (first | apply Kd.R_alloc | apply Kd.R_drewN | apply Kd.R_drew)); exact HR.out⟩, ⟨by repeat (first | (with_reducible first | exact HB.out | apply below_alloc | apply pw_below_drewN | apply below_drew1) | exact HB.out)⟩⟩
      case lx => rfl
      case jx =>
        have h_ := HI.out
        have hl_ := HL.out
        refine ⟨by omega, by omega, by omega, by omega, hl_, ?_⟩
        rw [take_none a0 x5 x5 (Nat.le_refl _), HD.out]; exact HC.out
  case p1 =>
    intro h4_ n a' wr hJ
    obtain ⟨out, vo, x5, x6, hfr, HJ, HR, HB⟩ := hJ
    obtain ⟨u, rfl⟩ := hfr.opened
    clear hfr
    obtain ⟨h0, h1, h2, h3, hl, hc⟩ := HJ.out
    clear HJ
    cases n with
    | zero => exact absurd hc (by simp [cutQ])
    | succ k =>
      by_cases e : x5 = (a0.size : Int)
      · rw [drop_end a0 x5 e] at hc
        simp only [cutQ, Option.some.injEq, Prod.mk.injEq] at hc
        obtain ⟨rfl, rfl⟩ := hc
        have t0 : (x5 == (a0.size : Int)) = true := beq_iff_eq.2 e
        have HI := Aside0.mk (⟨h0, h1, h2, h3⟩ : 0 ≤ x6 ∧ x6 ≤ x5 ∧ x5 ≤ (a0.size : Int) ∧ a0.size ≤ 512)
        have HL := Aside0.mk hl
        have HW := Aside0.mk (wrap_small x5 (by omega) (by omega))
        clear h0 h1 h2 h3 hl
        clear e
        go_wp2
        repeat (go_quiet (fail); try go_wp2)
        go_step3
        (try simp only [Exit.inBlock])
        (try simp only [Exit.then])
        refine KScope.jumps_goto ?_
        refine ⟨0, by omega, out, vo, x5, x6, ⟨rfl, _, ?lx, rfl⟩, ⟨?jx⟩, ⟨by (with_reducible repeat (first | apply Kd.R_alloc | apply Kd.R_drewN | apply Kd.R_drew)); exact HR.out⟩, ⟨by repeat (first | (with_reducible first | exact HB.out | apply below_alloc | apply pw_below_drewN | apply below_drew1) | exact HB.out)⟩⟩
        case lx => rfl
        case jx =>
          have h_ := HI.out
          exact ⟨by omega, by omega, by omega, by omega, rfl, rfl⟩
      have g0 : 0 ≤ x5 := by omega
      have g1 : x5 < (a0.size : Int) := by omega
      have t0 : (x5 == (a0.size : Int)) = false := beq_eq_false_iff_ne.2 e
      obtain ⟨c, hd, hcb⟩ := drop_bt a0 x5 g0 g1
      rw [hd] at hc
      simp only [cutQ] at hc
      have HI := Aside0.mk (⟨h0, h1, h2, h3⟩ : 0 ≤ x6 ∧ x6 ≤ x5 ∧ x5 ≤ (a0.size : Int) ∧ a0.size ≤ 512)
      have HL := Aside0.mk hl
      have HW := Aside0.mk (wrap_small x5 (by omega) (by omega))
      clear h0 h1 h2 h3 hl
      clear e
      have p := eq_true g0
      have q := eq_true g1
      have hx := bt_at a0 x5
      clear g0 g1
      have AP := Aside0.mk (show word_shown.f (bt a0 x5) = some (shownB c) by rw [← hcb]; exact shown_f c)
      by_cases pb : shownB c = true
      · rw [if_pos pb] at hc
        rw [pb] at AP
        have HC := Aside0.mk hc
        have HTN := Aside0.mk (take_next a0 x5 x6 c _ (of_eq_true p) (by have := HI.out; omega) hd)
        clear hd hcb pb hc
        go_wp2_with (first | (go_at_call 30; (with_reducible refine (word_shown.calls (bt a0 x5) true _ AP.out).mono ?_); rintro e w' ⟨rfl, ⟨nd, rfl⟩⟩))
        repeat (go_quiet (first | (go_at_call 30; (with_reducible refine (word_shown.calls (bt a0 x5) true _ AP.out).mono ?_); rintro e w' ⟨rfl, ⟨nd, rfl⟩⟩)); try go_wp2_with (first | (go_at_call 30; (with_reducible refine (word_shown.calls (bt a0 x5) true _ AP.out).mono ?_); rintro e w' ⟨rfl, ⟨nd, rfl⟩⟩)))
        go_step3
        (try simp only [Exit.inBlock])
        (try simp only [Exit.then])
        refine KScope.jumps_goto ?_
        refine ⟨k, by omega, out, vo, wrap64 (x5 + 1), x6, ⟨rfl, _, ?lx, rfl⟩, ⟨?jx⟩, ⟨by (with_reducible repeat (first | apply Kd.R_alloc | apply Kd.R_drewN | apply Kd.R_drew)); exact HR.out⟩, ⟨by repeat (first | (with_reducible first | exact HB.out | apply below_alloc | apply pw_below_drewN | apply below_drew1) | exact HB.out)⟩⟩
        case lx => rfl
        case jx =>
          have h_ := HI.out
          have hl_ := HL.out
          rw [HW.out]
          refine ⟨by omega, by omega, by have := of_eq_true q; omega, by omega, by omega, ?_⟩
          rw [HTN.out]; exact HC.out
      rw [if_neg pb] at hc
      replace pb := Bool.eq_false_iff.2 pb
      rw [pb] at AP
      by_cases c34 : c.toNat = 34
      · rw [if_pos c34] at hc
        have t34 : (bt a0 x5 != 34) = false := by rw [bne_eq_false_iff_eq]; omega
        have HC := Aside0.mk hc
        have f0 : 0 ≤ x6 := by have := HI.out; omega
        have f1 : x6 ≤ x5 := by have := HI.out; omega
        have f2 : x5 ≤ (a0.size : Int) := by have := HI.out; omega
        replace f0 := eq_true f0
        replace f1 := eq_true f1
        replace f2 := eq_true f2
        obtain ⟨A4, c4, rfl⟩ := Kd.R_slice HR.out
        clear hd hcb pb c34 hc
        go_upto_region 23 with (first | (go_at_call 30; (with_reducible refine (word_shown.calls (bt a0 x5) false _ AP.out).mono ?_); rintro e w' ⟨rfl, ⟨nd, rfl⟩⟩))
        repeat (go_quiet (first | (go_at_call 30; (with_reducible refine (word_shown.calls (bt a0 x5) false _ AP.out).mono ?_); rintro e w' ⟨rfl, ⟨nd, rfl⟩⟩)); try go_upto_region 23 with (first | (go_at_call 30; (with_reducible refine (word_shown.calls (bt a0 x5) false _ AP.out).mono ?_); rintro e w' ⟨rfl, ⟨nd, rfl⟩⟩)))
        go_wp2_with (first | ((with_reducible refine gate_builtin (b := .append) (xs := #[.tmp 78, .tmp 83]) rfl ?_); at_builtin; refine Kd.R_append Kd.string (w0 := w) w.heap.size rfl (.tmp 78) (.tmp 83) 24 9 (.string ⟨#[]⟩) 16 rfl Tryd.underlying24 info9 rfl (by decide) (by omega) (.slice A4 out.length c4) out (a0.extract x6.toNat x5.toNat) [.string (a0.extract x6.toNat x5.toNat)] (fun _ => True) (fun _ => False) rfl rfl ?aP (fun _ hk => hk.elim) ?aF ?aO ?aB ?aS ?aL ?_; (case aP => exact rfl); (case aB => exact (by repeat (first | (with_reducible first | exact HB.out | apply below_alloc | apply pw_below_drewN | apply below_drew1) | exact HB.out))); (case aF => exact (fun _ _ => trivial)); (case aO => exact (by (with_reducible repeat (first | apply Kd.R_alloc | apply Kd.R_drewN | apply Kd.R_drew)); exact HR.out)); (case aS => exact (below_size (by repeat (first | (with_reducible first | exact HB.out | apply below_alloc | apply pw_below_drewN | apply below_drew1) | exact HB.out)))); (case aL => have := HL.out; omega); intro v3 w3 ho hb hg hat; have n0_ := Aside0.mk hb; have n1_ := Aside0.mk ho; clear HB HR; have HB := n0_; have HR := n1_; clear n0_ n1_; clear ho hb hg hat))
        go_wp2
        repeat (go_quiet (fail); try go_wp2)
        go_step3
        (try simp only [Exit.then])
        rename_i hK
        refine hK _ _ ?_
        clear hK
        refine h4_ k (k + 1) _ _ (by omega) ⟨_, _, wrap64 (x5 + 1), x6, ⟨rfl, _, ?lx, rfl⟩, ⟨?jx⟩, ⟨by (with_reducible repeat (first | apply Kd.R_alloc | apply Kd.R_drewN | apply Kd.R_drew)); exact HR.out⟩, ⟨by repeat (first | (with_reducible first | exact HB.out | apply below_alloc | apply pw_below_drewN | apply below_drew1) | exact HB.out)⟩⟩
        case lx => rfl
        case jx =>
          have h_ := HI.out
          have hl_ := HL.out
          rw [HW.out]
          have hq_ := of_eq_true q
          refine ⟨by omega, by omega, by omega, by omega, by simp; omega, ?_⟩
          rw [extract_mkb]; exact HC.out
      rw [if_neg c34] at hc
      have t34 : (bt a0 x5 != 34) = true := by rw [bne_iff_ne]; omega
      simp only [Option.some.injEq, Prod.mk.injEq] at hc
      obtain ⟨rfl, rfl⟩ := hc
      clear hd hcb pb c34
      go_wp2_with (first | (go_at_call 30; (with_reducible refine (word_shown.calls (bt a0 x5) false _ AP.out).mono ?_); rintro e w' ⟨rfl, ⟨nd, rfl⟩⟩))
      repeat (go_quiet (first | (go_at_call 30; (with_reducible refine (word_shown.calls (bt a0 x5) false _ AP.out).mono ?_); rintro e w' ⟨rfl, ⟨nd, rfl⟩⟩)); try go_wp2_with (first | (go_at_call 30; (with_reducible refine (word_shown.calls (bt a0 x5) false _ AP.out).mono ?_); rintro e w' ⟨rfl, ⟨nd, rfl⟩⟩)))
      go_step3
      (try simp only [Exit.inBlock])
      (try simp only [Exit.then])
      refine KScope.jumps_goto ?_
      refine ⟨0, by omega, out, vo, x5, x6, ⟨rfl, _, ?lx, rfl⟩, ⟨?jx⟩, ⟨by (with_reducible repeat (first | apply Kd.R_alloc | apply Kd.R_drewN | apply Kd.R_drew)); exact HR.out⟩, ⟨by repeat (first | (with_reducible first | exact HB.out | apply below_alloc | apply pw_below_drewN | apply below_drew1) | exact HB.out)⟩⟩
      case lx => rfl
      case jx =>
        have h_ := HI.out
        exact ⟨by omega, by omega, by omega, by omega, rfl, rfl⟩
  case p2 =>
    intro n a' wr hJ
    obtain ⟨out, vo, x5, x6, hfr, HJ, HR, HB⟩ := hJ
    obtain ⟨u, rfl⟩ := hfr.opened
    clear hfr
    obtain ⟨h0, h1, h2, h3, hl, hc⟩ := HJ.out
    clear HJ
    cases n with
    | zero => exact absurd hc (by simp [cutW])
    | succ k =>
      by_cases e : x5 = (a0.size : Int)
      · rw [drop_end a0 x5 e] at hc
        simp only [cutW] at hc
        have tlt : decide (x5 < (a0.size : Int)) = false := decide_eq_false (by omega)
        have HI := Aside0.mk (⟨h0, h1, h2, h3⟩ : 0 ≤ x6 ∧ x6 ≤ x5 ∧ x5 ≤ (a0.size : Int) ∧ a0.size ≤ 512)
        have HL := Aside0.mk hl
        have HW := Aside0.mk (wrap_small x5 (by omega) (by omega))
        clear h0 h1 h2 h3 hl
        by_cases ef : x6 = x5
        · rw [take_none a0 x5 x6 (by omega)] at hc
          simp only [if_true, Option.some.injEq, Prod.mk.injEq] at hc
          obtain ⟨rfl, rfl⟩ := hc
          have tee : (x5 == x6) = true := by rw [beq_iff_eq]; omega
          clear e ef
          go_wp2
          repeat (go_quiet (fail); try go_wp2)
          go_step3
          (try simp only [Exit.inBlock])
          (try simp only [Exit.then])
          refine KScope.jumps_goto ?_
          refine ⟨0, by omega, out, vo, x5, x6, ⟨rfl, _, ?lx, rfl⟩, ⟨?jx⟩, ⟨by (with_reducible repeat (first | apply Kd.R_alloc | apply Kd.R_drewN | apply Kd.R_drew)); exact HR.out⟩, ⟨by repeat (first | (with_reducible first | exact HB.out | apply below_alloc | apply pw_below_drewN | apply below_drew1) | exact HB.out)⟩⟩
          case lx => rfl
          case jx =>
            have h_ := HI.out
            exact ⟨by omega, by omega, by omega, by omega, rfl, rfl⟩
        rw [if_neg (take_some a0 x5 x6 (by have := HI.out; omega) (by omega))] at hc
        have tee : (x5 == x6) = false := by rw [beq_eq_false_iff_ne]; omega
        have HD := Aside0.mk (drop_end a0 x5 e)
        have HC := Aside0.mk hc
        clear e ef hc
        have f0 : 0 ≤ x6 := by have := HI.out; omega
        have f1 : x6 ≤ x5 := by have := HI.out; omega
        have f2 : x5 ≤ (a0.size : Int) := by have := HI.out; omega
        replace f0 := eq_true f0
        replace f1 := eq_true f1
        replace f2 := eq_true f2
        obtain ⟨A4, c4, rfl⟩ := Kd.R_slice HR.out
        go_upto_region 18 with (fail)
        repeat (go_quiet (fail); try go_upto_region 18 with (fail))
        go_wp2_with (first | ((with_reducible refine gate_builtin (b := .append) (xs := #[.tmp 57, .tmp 62]) rfl ?_); at_builtin; refine Kd.R_append Kd.string (w0 := w) w.heap.size rfl (.tmp 57) (.tmp 62) 24 9 (.string ⟨#[]⟩) 16 rfl Tryd.underlying24 info9 rfl (by decide) (by omega) (.slice A4 out.length c4) out (a0.extract x6.toNat x5.toNat) [.string (a0.extract x6.toNat x5.toNat)] (fun _ => True) (fun _ => False) rfl rfl ?aP (fun _ hk => hk.elim) ?aF ?aO ?aB ?aS ?aL ?_; (case aP => exact rfl); (case aB => exact (by repeat (first | (with_reducible first | exact HB.out | apply below_alloc | apply pw_below_drewN | apply below_drew1) | exact HB.out))); (case aF => exact (fun _ _ => trivial)); (case aO => exact (by (with_reducible repeat (first | apply Kd.R_alloc | apply Kd.R_drewN | apply Kd.R_drew)); exact HR.out)); (case aS => exact (below_size (by repeat (first | (with_reducible first | exact HB.out | apply below_alloc | apply pw_below_drewN | apply below_drew1) | exact HB.out)))); (case aL => have := HL.out; omega); intro v3 w3 ho hb hg hat; have n0_ := Aside0.mk hb; have n1_ := Aside0.mk ho; clear HB HR; have HB := n0_; have HR := n1_; clear n0_ n1_; clear ho hb hg hat))
        go_wp2
        repeat (go_quiet (fail); try go_wp2)
        go_step3
        (try simp only [Exit.inBlock])
        (try simp only [Exit.then])
        refine KScope.jumps_goto ?_
        refine ⟨k, by omega, _, _, x5, x6, ⟨rfl, _, ?lx, rfl⟩, ⟨?jx⟩, ⟨by (with_reducible repeat (first | apply Kd.R_alloc | apply Kd.R_drewN | apply Kd.R_drew)); exact HR.out⟩, ⟨by repeat (first | (with_reducible first | exact HB.out | apply below_alloc | apply pw_below_drewN | apply below_drew1) | exact HB.out)⟩⟩
        case lx => rfl
        case jx =>
          have h_ := HI.out
          have hl_ := HL.out
          refine ⟨by omega, by omega, by omega, by omega, by simp; omega, ?_⟩
          rw [extract_mkb]; rw [HD.out]; exact HC.out
      have g0 : 0 ≤ x5 := by omega
      have g1 : x5 < (a0.size : Int) := by omega
      obtain ⟨c, hd, hcb⟩ := drop_bt a0 x5 g0 g1
      rw [hd] at hc
      simp only [cutW] at hc
      have HI := Aside0.mk (⟨h0, h1, h2, h3⟩ : 0 ≤ x6 ∧ x6 ≤ x5 ∧ x5 ≤ (a0.size : Int) ∧ a0.size ≤ 512)
      have HL := Aside0.mk hl
      have HW := Aside0.mk (wrap_small x5 (by omega) (by omega))
      clear h0 h1 h2 h3 hl
      clear e
      have p := eq_true g0
      have q := eq_true g1
      have hx := bt_at a0 x5
      have tlt : decide (x5 < (a0.size : Int)) = true := decide_eq_true g1
      clear g0 g1
      have AP := Aside0.mk (show word_plain.f (bt a0 x5) = some (plainB c) by rw [← hcb]; exact plain_f c)
      by_cases pb : plainB c = true
      · rw [if_pos pb] at hc
        rw [pb] at AP
        have HC := Aside0.mk hc
        have HTN := Aside0.mk (take_next a0 x5 x6 c _ (of_eq_true p) (by have := HI.out; omega) hd)
        clear hd hcb pb hc
        go_wp2_with (first | (go_at_call 29; (with_reducible refine (word_plain.calls (bt a0 x5) true _ AP.out).mono ?_); rintro e w' ⟨rfl, ⟨nd, rfl⟩⟩))
        repeat (go_quiet (first | (go_at_call 29; (with_reducible refine (word_plain.calls (bt a0 x5) true _ AP.out).mono ?_); rintro e w' ⟨rfl, ⟨nd, rfl⟩⟩)); try go_wp2_with (first | (go_at_call 29; (with_reducible refine (word_plain.calls (bt a0 x5) true _ AP.out).mono ?_); rintro e w' ⟨rfl, ⟨nd, rfl⟩⟩)))
        go_step3
        (try simp only [Exit.inBlock])
        (try simp only [Exit.then])
        refine KScope.jumps_goto ?_
        refine ⟨k, by omega, out, vo, wrap64 (x5 + 1), x6, ⟨rfl, _, ?lx, rfl⟩, ⟨?jx⟩, ⟨by (with_reducible repeat (first | apply Kd.R_alloc | apply Kd.R_drewN | apply Kd.R_drew)); exact HR.out⟩, ⟨by repeat (first | (with_reducible first | exact HB.out | apply below_alloc | apply pw_below_drewN | apply below_drew1) | exact HB.out)⟩⟩
        case lx => rfl
        case jx =>
          have h_ := HI.out
          have hl_ := HL.out
          rw [HW.out]
          refine ⟨by omega, by omega, by have := of_eq_true q; omega, by omega, by omega, ?_⟩
          rw [HTN.out]; exact HC.out
      rw [if_neg pb] at hc
      replace pb := Bool.eq_false_iff.2 pb
      rw [pb] at AP
      by_cases ef : x6 = x5
      · rw [take_none a0 x5 x6 (by omega)] at hc
        simp only [if_true, Option.some.injEq, Prod.mk.injEq] at hc
        obtain ⟨rfl, rfl⟩ := hc
        have tee : (x5 == x6) = true := by rw [beq_iff_eq]; omega
        clear hd hcb pb ef
        go_wp2_with (first | (go_at_call 29; (with_reducible refine (word_plain.calls (bt a0 x5) false _ AP.out).mono ?_); rintro e w' ⟨rfl, ⟨nd, rfl⟩⟩))
        repeat (go_quiet (first | (go_at_call 29; (with_reducible refine (word_plain.calls (bt a0 x5) false _ AP.out).mono ?_); rintro e w' ⟨rfl, ⟨nd, rfl⟩⟩)); try go_wp2_with (first | (go_at_call 29; (with_reducible refine (word_plain.calls (bt a0 x5) false _ AP.out).mono ?_); rintro e w' ⟨rfl, ⟨nd, rfl⟩⟩)))
        go_step3
        (try simp only [Exit.inBlock])
        (try simp only [Exit.then])
        refine KScope.jumps_goto ?_
        refine ⟨0, by omega, out, vo, x5, x6, ⟨rfl, _, ?lx, rfl⟩, ⟨?jx⟩, ⟨by (with_reducible repeat (first | apply Kd.R_alloc | apply Kd.R_drewN | apply Kd.R_drew)); exact HR.out⟩, ⟨by repeat (first | (with_reducible first | exact HB.out | apply below_alloc | apply pw_below_drewN | apply below_drew1) | exact HB.out)⟩⟩
        case lx => rfl
        case jx =>
          have h_ := HI.out
          exact ⟨by omega, by omega, by omega, by omega, rfl, rfl⟩
      rw [if_neg (take_some a0 x5 x6 (by have := HI.out; omega) (by have := of_eq_true q; omega))] at hc
      have tee : (x5 == x6) = false := by rw [beq_eq_false_iff_ne]; omega
      have HD := Aside0.mk hd
      have HC := Aside0.mk hc
      clear hd hcb pb ef hc
      have f0 : 0 ≤ x6 := by have := HI.out; omega
      have f1 : x6 ≤ x5 := by have := HI.out; omega
      have f2 : x5 ≤ (a0.size : Int) := by have := HI.out; omega
      replace f0 := eq_true f0
      replace f1 := eq_true f1
      replace f2 := eq_true f2
      obtain ⟨A4, c4, rfl⟩ := Kd.R_slice HR.out
      go_upto_region 18 with (first | (go_at_call 29; (with_reducible refine (word_plain.calls (bt a0 x5) false _ AP.out).mono ?_); rintro e w' ⟨rfl, ⟨nd, rfl⟩⟩))
      repeat (go_quiet (first | (go_at_call 29; (with_reducible refine (word_plain.calls (bt a0 x5) false _ AP.out).mono ?_); rintro e w' ⟨rfl, ⟨nd, rfl⟩⟩)); try go_upto_region 18 with (first | (go_at_call 29; (with_reducible refine (word_plain.calls (bt a0 x5) false _ AP.out).mono ?_); rintro e w' ⟨rfl, ⟨nd, rfl⟩⟩)))
      go_wp2_with (first | ((with_reducible refine gate_builtin (b := .append) (xs := #[.tmp 57, .tmp 62]) rfl ?_); at_builtin; refine Kd.R_append Kd.string (w0 := w) w.heap.size rfl (.tmp 57) (.tmp 62) 24 9 (.string ⟨#[]⟩) 16 rfl Tryd.underlying24 info9 rfl (by decide) (by omega) (.slice A4 out.length c4) out (a0.extract x6.toNat x5.toNat) [.string (a0.extract x6.toNat x5.toNat)] (fun _ => True) (fun _ => False) rfl rfl ?aP (fun _ hk => hk.elim) ?aF ?aO ?aB ?aS ?aL ?_; (case aP => exact rfl); (case aB => exact (by repeat (first | (with_reducible first | exact HB.out | apply below_alloc | apply pw_below_drewN | apply below_drew1) | exact HB.out))); (case aF => exact (fun _ _ => trivial)); (case aO => exact (by (with_reducible repeat (first | apply Kd.R_alloc | apply Kd.R_drewN | apply Kd.R_drew)); exact HR.out)); (case aS => exact (below_size (by repeat (first | (with_reducible first | exact HB.out | apply below_alloc | apply pw_below_drewN | apply below_drew1) | exact HB.out)))); (case aL => have := HL.out; omega); intro v3 w3 ho hb hg hat; have n0_ := Aside0.mk hb; have n1_ := Aside0.mk ho; clear HB HR; have HB := n0_; have HR := n1_; clear n0_ n1_; clear ho hb hg hat))
      go_wp2
      repeat (go_quiet (fail); try go_wp2)
      go_step3
      (try simp only [Exit.inBlock])
      (try simp only [Exit.then])
      refine KScope.jumps_goto ?_
      refine ⟨k, by omega, _, _, x5, x6, ⟨rfl, _, ?lx, rfl⟩, ⟨?jx⟩, ⟨by (with_reducible repeat (first | apply Kd.R_alloc | apply Kd.R_drewN | apply Kd.R_drew)); exact HR.out⟩, ⟨by repeat (first | (with_reducible first | exact HB.out | apply below_alloc | apply pw_below_drewN | apply below_drew1) | exact HB.out)⟩⟩
      case lx => rfl
      case jx =>
        have h_ := HI.out
        have hl_ := HL.out
        refine ⟨by omega, by omega, by omega, by omega, by simp; omega, ?_⟩
        rw [extract_mkb]; rw [HD.out]; exact HC.out
  case p3 =>
    intro n a' wr hJ
    obtain ⟨out, vo, x5, x6, hfr, HJ, HR, HB⟩ := hJ
    obtain ⟨u, rfl⟩ := hfr.opened
    clear hfr
    obtain ⟨rfl, rfl⟩ := HJ.out.2.2.2.2
    clear HJ
    go_wp2
    repeat (go_quiet (fail); try go_wp2)
    refine KScope.jumps_ret ?_
    go_ret2
    exact ⟨_, rfl, Kd.R_nil _ _ _ _ _, by repeat (first | (with_reducible first | exact HB.out | apply below_alloc | apply pw_below_drewN | apply below_drew1) | exact HB.out)⟩
  case p4 =>
    intro h3_ n a' wr hJ
    obtain ⟨out, vo, x5, x6, hfr, HJ, HR, HB⟩ := hJ
    obtain ⟨u, rfl⟩ := hfr.opened
    clear hfr
    obtain ⟨h0, h1, h2, h3, hl, hc⟩ := HJ.out
    clear HJ
    cases n with
    | zero => exact absurd hc (by simp [cutE])
    | succ k =>
      by_cases e : x5 = (a0.size : Int)
      · rw [drop_end a0 x5 e] at hc
        simp only [cutE] at hc
        have HD := Aside0.mk (drop_end a0 x5 e)
        have HC := Aside0.mk hc
        have t0 : (x5 == (a0.size : Int)) = true := beq_iff_eq.2 e
        have HI := Aside0.mk (⟨h0, h1, h2, h3⟩ : 0 ≤ x6 ∧ x6 ≤ x5 ∧ x5 ≤ (a0.size : Int) ∧ a0.size ≤ 512)
        have HL := Aside0.mk hl
        have HW := Aside0.mk (wrap_small x5 (by omega) (by omega))
        clear h0 h1 h2 h3 hl
        clear e hc
        go_wp2
        repeat (go_quiet (fail); try go_wp2)
        go_step3
        (try simp only [Exit.inBlock])
        (try simp only [Exit.then])
        refine KScope.jumps_goto ?_
        refine ⟨k, by omega, out, vo, x5, x6, ⟨rfl, _, ?lx, rfl⟩, ⟨?jx⟩, ⟨by (with_reducible repeat (first | apply Kd.R_alloc | apply Kd.R_drewN | apply Kd.R_drew)); exact HR.out⟩, ⟨by repeat (first | (with_reducible first | exact HB.out | apply below_alloc | apply pw_below_drewN | apply below_drew1) | exact HB.out)⟩⟩
        case lx => rfl
        case jx =>
          have h_ := HI.out
          have hl_ := HL.out
          refine ⟨by omega, by omega, by omega, by omega, hl_, ?_⟩
          rw [HD.out]; exact HC.out
      have g0 : 0 ≤ x5 := by omega
      have g1 : x5 < (a0.size : Int) := by omega
      have t0 : (x5 == (a0.size : Int)) = false := beq_eq_false_iff_ne.2 e
      obtain ⟨c, hd, hcb⟩ := drop_bt a0 x5 g0 g1
      rw [hd] at hc
      simp only [cutE] at hc
      have HI := Aside0.mk (⟨h0, h1, h2, h3⟩ : 0 ≤ x6 ∧ x6 ≤ x5 ∧ x5 ≤ (a0.size : Int) ∧ a0.size ≤ 512)
      have HL := Aside0.mk hl
      have HW := Aside0.mk (wrap_small x5 (by omega) (by omega))
      clear h0 h1 h2 h3 hl
      clear e
      have p := eq_true g0
      have q := eq_true g1
      have hx := bt_at a0 x5
      clear g0 g1
      have HD := Aside0.mk hd
      clear hd
      by_cases c32 : c.toNat = 32
      · rw [if_pos c32] at hc
        have t32 : (bt a0 x5 == 32) = true := by rw [beq_iff_eq]; omega
        have HC := Aside0.mk hc
        clear hcb c32 hc
        go_wp2
        repeat (go_quiet (fail); try go_wp2)
        go_step3
        (try simp only [Exit.inBlock])
        (try simp only [Exit.then])
        refine KScope.jumps_goto ?_
        refine ⟨k, by omega, out, vo, x5, x6, ⟨rfl, _, ?lx, rfl⟩, ⟨?jx⟩, ⟨by (with_reducible repeat (first | apply Kd.R_alloc | apply Kd.R_drewN | apply Kd.R_drew)); exact HR.out⟩, ⟨by repeat (first | (with_reducible first | exact HB.out | apply below_alloc | apply pw_below_drewN | apply below_drew1) | exact HB.out)⟩⟩
        case lx => rfl
        case jx =>
          have h_ := HI.out
          have hl_ := HL.out
          refine ⟨by omega, by omega, by omega, by omega, hl_, ?_⟩
          rw [HD.out]; exact HC.out
      rw [if_neg c32] at hc
      have t32 : (bt a0 x5 == 32) = false := by rw [beq_eq_false_iff_ne]; omega
      by_cases c35 : c.toNat = 35
      · rw [if_pos c35] at hc
        have t35 : (bt a0 x5 == 35) = true := by rw [beq_iff_eq]; omega
        have HC := Aside0.mk hc
        clear hcb c32 c35 hc
        go_wp2
        repeat (go_quiet (fail); try go_wp2)
        go_step3
        (try simp only [Exit.inBlock])
        (try simp only [Exit.then])
        refine KScope.jumps_goto ?_
        refine ⟨k, by omega, out, vo, x5, x6, ⟨rfl, _, ?lx, rfl⟩, ⟨?jx⟩, ⟨by (with_reducible repeat (first | apply Kd.R_alloc | apply Kd.R_drewN | apply Kd.R_drew)); exact HR.out⟩, ⟨by repeat (first | (with_reducible first | exact HB.out | apply below_alloc | apply pw_below_drewN | apply below_drew1) | exact HB.out)⟩⟩
        case lx => rfl
        case jx =>
          have h_ := HI.out
          have hl_ := HL.out
          refine ⟨by omega, by omega, by omega, by omega, hl_, ?_⟩
          rw [HD.out]; exact HC.out
      rw [if_neg c35] at hc
      have t35 : (bt a0 x5 == 35) = false := by rw [beq_eq_false_iff_ne]; omega
      simp only [Option.some.injEq, Prod.mk.injEq] at hc
      obtain ⟨rfl, rfl⟩ := hc
      clear hcb c32 c35
      go_wp2
      repeat (go_quiet (fail); try go_wp2)
      go_step3
      (try simp only [Exit.then])
      rename_i hK
      refine hK _ _ ?_
      clear hK
      refine h3_ 0 (k + 1) _ _ (by omega) ⟨out, vo, x5, x6, ⟨rfl, _, ?lx, rfl⟩, ⟨?jx⟩, ⟨by (with_reducible repeat (first | apply Kd.R_alloc | apply Kd.R_drewN | apply Kd.R_drew)); exact HR.out⟩, ⟨by repeat (first | (with_reducible first | exact HB.out | apply below_alloc | apply pw_below_drewN | apply below_drew1) | exact HB.out)⟩⟩
      case lx => rfl
      case jx =>
        have h_ := HI.out
        exact ⟨by omega, by omega, by omega, by omega, rfl, rfl⟩
end Go.Proofs.YtodijkdmcjnpkaaDoor.K
