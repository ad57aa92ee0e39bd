import Derived.Test.YtjljhianehhlgaaDoorKB
import Derived.Test.YtjljhianehhlgaaDoorQC
import Derived.Test.YtjljhianehhlgaaDoorKTab
/-! ### PostChecks -/
namespace Go.Proofs.YtjljhianehhlgaaDoor.M
open Go Go.RowKit Go.Maps Go.Proofs.YtjljhianehhlgaaDoorW.PrintWords Go.Proofs.YtjljhianehhlgaaDoorW.PrintLast Go.Proofs.YtjljhianehhlgaaDoorW.PrintMore Go.Proofs.YtjljhianehhlgaaDoor.K Go.Proofs.YtjljhianehhlgaaDoor.V Go.Proofs.YtjljhianehhlgaaDoor.KTab
set_option linter.unusedVariables false
def fundP : ByteArray := ⟨#[102, 117, 110, 100, 45]⟩
theorem has_total (s : ByteArray) : ∃ h, stringslite_HasPrefix.f s fundP = some h ∧ (h = true → 5 ≤ s.size) := by
  unfold stringslite_HasPrefix.f
  have e5 : (fundP.size : Int) = 5 := by decide
  rw [e5]
  by_cases q : (s.size : Int) ≥ 5
  · rw [if_pos q, if_pos (by omega), if_pos (by omega)]
    exact ⟨_, rfl, fun _ => by omega⟩
  · rw [if_neg q]
    exact ⟨_, rfl, fun h => by cases h⟩
theorem cut_name (s : ByteArray) (hs : s.size ≤ 9223372036854775807) : ∃ rest has b1 b2, strings_CutPrefix.f s fundP = some (rest, has) ∧ Ev (fun k => word_Name.f k s) b1 ∧ Ev (fun k => word_Name.f k rest) b2 ∧ Ev (fun k => post_name.f k s) (b1 || (has && b2)) := by
  obtain ⟨h, hh, h5⟩ := has_total s
  obtain ⟨b1, hb1⟩ := name_total s hs
  have e5 : (fundP.size : Int) = 5 := by decide
  have hpn (rest : ByteArray) (ht : strings_TrimPrefix.f s fundP = some rest) (b2 : Bool) (hb2 : Ev (fun k => word_Name.f k rest) b2) : Ev (fun k => post_name.f k s) (b1 || b2) := by
    refine Ev.bind hb1 ?_
    cases b1 with
    | true => exact Ev.congr (fun k => if_pos rfl) (Ev.now _)
    | false =>
      refine Ev.congr (f := fun k => (word_Name.f k rest).bind fun t => some t) (fun k => ?_) (Ev.bind hb2 (Ev.now _))
      rw [if_neg (by simp)]
      show (strings_TrimPrefix.f s fundP).bind _ = _
      rw [ht]
      rfl
  cases h with
  | true =>
    have h5' := h5 rfl
    have ht : strings_TrimPrefix.f s fundP = some (s.extract ((fundP.size : Int) : Int).toNat s.size) := by
      unfold strings_TrimPrefix.f stringslite_TrimPrefix.f
      rw [hh]
      simp only [Option.bind_some]
      rw [if_pos trivial, if_pos (by omega), if_pos (by omega)]
      rfl
    obtain ⟨b2, hb2⟩ := name_total (s.extract ((fundP.size : Int) : Int).toNat s.size) (by simp only [ByteArray.size_extract]; omega)
    refine ⟨_, true, b1, b2, ?_, hb1, hb2, hpn _ ht b2 hb2⟩
    unfold strings_CutPrefix.f stringslite_CutPrefix.f
    rw [hh]
    simp only [Option.bind_some]
    rw [if_pos trivial, if_pos (by omega), if_pos (by omega)]
    rfl
  | false =>
    have ht : strings_TrimPrefix.f s fundP = some s := by
      unfold strings_TrimPrefix.f stringslite_TrimPrefix.f
      rw [hh]
      rfl
    refine ⟨s, false, b1, b1, ?_, hb1, hb1, ?_⟩
    · unfold strings_CutPrefix.f stringslite_CutPrefix.f
      rw [hh]
      rfl
    · have := hpn s ht b1 hb1
      simpa using this
theorem name_t {s : ByteArray} {b : Bool} (h : Ev (fun k => word_Name.f k s) b) (w : World) : Calls Tryd.prog 18 #[.string s] w fun e w' => e = .returned (.bool b) ∧ Below w.heap.size w w' := by
  obtain ⟨k, hk⟩ := h.rounds
  refine (word_Name.calls k s b w hk).mono ?_
  rintro e w' ⟨rfl, n, rfl⟩
  exact ⟨rfl, bD (Below.refl _ _) _⟩
theorem cut_t {s rest : ByteArray} {has : Bool} (h : strings_CutPrefix.f s fundP = some (rest, has)) (w : World) : Calls Tryd.prog 17 #[.string s, .string ⟨#[102, 117, 110, 100, 45]⟩] w fun e w' => e = .returned (.tuple #[.string rest, .bool has]) ∧ Below w.heap.size w w' := by
  refine (strings_CutPrefix.calls s fundP rest has w h).mono ?_
  rintro e w' ⟨rfl, n, rfl⟩
  exact ⟨rfl, bD (Below.refl _ _) _⟩
/-- How far a list may be booked from nothing. -/
theorem within_some (V : List UInt8 → Int) (xs : List S31) : ∀ j, j ≤ xs.length → (Within V xs j) ∨ ∃ i, i < j ∧ Within V xs i ∧ ¬ Within V xs (i + 1)
  | 0, _ => .inl fun i h h0 => absurd h0 (Nat.not_lt_zero _)
  | j + 1, hj => by
    rcases within_some V xs j (by omega) with h | ⟨i, h1, h2⟩
    · by_cases q : Within V xs (j + 1)
      · exact .inl q
      · exact .inr ⟨j, by omega, h, q⟩
    · exact .inr ⟨i, by omega, h2⟩
theorem within_far (V : List UInt8 → Int) (xs : List S31) : ∃ j, j ≤ xs.length ∧ Within V xs j ∧ (j < xs.length → ¬ Within V xs (j + 1)) := by
  rcases within_some V xs xs.length (Nat.le_refl _) with h | ⟨i, h1, h2, h3⟩
  · exact ⟨xs.length, Nat.le_refl _, h, fun h => absurd h (Nat.lt_irrefl _)⟩
  · exact ⟨i, by omega, h2, fun _ => h3⟩
/-- What the law's own reading knows when k entries have been read. -/
def CI (l : List S31) (k : Nat) (a b : Int) : Prop := (a = 0 → chk 0 l = chk b (l.drop k)) ∧ (a ≠ 0 → chk 0 l = a)
theorem CI.start (l : List S31) : CI l 0 0 0 := ⟨fun _ => by rw [List.drop_zero], fun h => absurd rfl h⟩
theorem CI.on {l : List S31} {k : Nat} {a b : Int} (h : CI l k a b) (ha : a ≠ 0) : CI l (k + 1) a b := ⟨fun e => absurd e ha, h.2⟩
theorem CI.far {l : List S31} {k : Nat} {b : Int} (h : CI l k 0 b) (hk : k < l.length) (hf : ¬ Fit l[k].f1) : CI l (k + 1) 10 b := by
  refine ⟨fun e => absurd e (by decide), fun _ => ?_⟩
  rw [h.1 rfl, List.drop_eq_getElem_cons hk]
  simp only [chk]
  rw [if_neg hf]
theorem CI.unnamed {l : List S31} {k : Nat} {b : Int} (h : CI l k 0 b) (hk : k < l.length) (hf : Fit l[k].f1) (hn : ¬ Named l[k].f0) : CI l (k + 1) 5 b := by
  refine ⟨fun e => absurd e (by decide), fun _ => ?_⟩
  rw [h.1 rfl, List.drop_eq_getElem_cons hk]
  simp only [chk]
  rw [if_pos hf, if_neg hn]
theorem CI.good {l : List S31} {k : Nat} {b : Int} (h : CI l k 0 b) (hk : k < l.length) (hf : Fit l[k].f1) (hn : Named l[k].f0) : CI l (k + 1) 0 (wrap64 (b + l[k].f1)) := by
  refine ⟨fun _ => ?_, fun e => absurd rfl e⟩
  rw [h.1 rfl, List.drop_eq_getElem_cons hk]
  simp only [chk]
  rw [if_pos hf, if_pos hn]
theorem CI.done {l : List S31} {k : Nat} {a b : Int} (h : CI l k a b) (hk : k = l.length) : chk 0 l = if a = 0 then (if b = 0 then 0 else 6) else a := by
  by_cases q : a = 0
  · rw [if_pos q, h.1 q, List.drop_of_length_le (by omega)]
    rfl
  · rw [if_neg q, h.2 q]
set_option maxHeartbeats 1000000 in
set_option maxRecDepth 100000 in
theorem postChecks_calls {w : World} {A : Option Addr} {c : Nat} {l : List S31} (hr : k31.C w A l.length l) (hc : l.length ≤ c) (hl : ∀ x ∈ l, Came x) (htb : TB w) :
    Calls Tryd.prog 5 #[.slice A l.length c] w fun e w' => e = .returned (.bool true) ∧ Below w.heap.size w w' := by
  have HR := AM hr
  have HC := AM hc
  have HL := AM hl
  have HT := AM htb
  clear hr hc hl htb
  by_cases h60 : (l.length : Int) > 60
  · have hd : decide ((60 : Int) < (l.length : Int)) = true := decide_eq_true h60
    go_enter Tryd.func5, Tryd.ntmps5
    go_wp2_with (go_at_call 9; (with_reducible refine (stipendlaw22_books.calls _ HT.out).mono ?_); rintro e w1 ⟨rfl, hb⟩; have HB := AM hb; clear hb)
    go_ret
    exact ⟨rfl, HB.out⟩
  · have hd : decide ((60 : Int) < (l.length : Int)) = false := decide_eq_false h60
    have H60 := AM h60
    clear h60
    go_enter Tryd.func5, Tryd.ntmps5
    go_wp2_with (go_at_call 9; (with_reducible refine (stipendlaw22_books.calls _ HT.out).mono ?_); rintro e w1 ⟨rfl, hb⟩; have HB0 := AM hb; clear hb)
    go_loopw [3, 4, 18] (fun s3 s4 s18 wr => ∃ (k : Nat) (a b : Int), s3 = .int .i64 a ∧ s4 = .int .i64 b ∧ s18 = .int .i64 k ∧ Aside0 (k ≤ l.length) ∧ Aside0 (CI l k a b) ∧ Aside0 (∀ i (h : i < l.length), i < k → l[i].f0.size ≤ 100) ∧ Aside0 (Below w.heap.size w wr)) (fun _ _ i _ => l.length - (intOf i).toNat)
    case atStart => exact ⟨0, 0, 0, rfl, rfl, rfl, ⟨Nat.zero_le _⟩, ⟨CI.start l⟩, ⟨fun i h h0 => absurd h0 (Nat.not_lt_zero _)⟩, HB0⟩
    case round =>
      clear HB0
      obtain ⟨k, a, b, rfl, rfl, rfl, HK, HI, HZ, HB⟩ := hrel
      by_cases hlt : k < l.length
      · have hrd := rd31 l k hlt
        obtain ⟨ad, rfl, hx0, hx1⟩ := at_T31 HR.out (k : Int) (by omega) (by omega)
        replace hx0 := (HB.out.cell (bL w _ hx0)).trans hx0
        replace hx1 := (HB.out.cell (bL w _ hx1)).trans hx1
        rw [hrd] at hx0 hx1
        simp only [Int.toNat_natCast] at hx0 hx1
        have hwr : IntKind.i64.wrap ((k : Int) + 1) = ((k + 1 : Nat) : Int) := by rw [IntKind.wrap_i64]; have := H60.out; omega
        have hgt : decide ((k : Int) < (l.length : Int)) = true := decide_eq_true (by omega)
        obtain ⟨rest, has, b1, b2, hcut, hn1, hn2, hpn⟩ := cut_name l[k].f0 (by have := (HL.out _ (List.getElem_mem hlt)).1; unfold maxLen at this; omega)
        have HCU := AM hcut
        have HN1 := AM hn1
        have HN2 := AM hn2
        have HPN := AM hpn
        clear hcut hn1 hn2 hpn
        by_cases h100 : (l[k].f0.size : Int) > 100
        · have hs : decide ((100 : Int) < (l[k].f0.size : Int)) = true := decide_eq_true h100
          clear h100
          go_wp2
          go_ret
          exact ⟨rfl, bA HB.out _⟩
        · have hs : decide ((100 : Int) < (l[k].f0.size : Int)) = false := decide_eq_false h100
          have HZ1 : Aside0 (∀ i (h : i < l.length), i < k + 1 → l[i].f0.size ≤ 100) := AM (fun i h hi => by
            rcases Nat.lt_or_ge i k with h1 | h1
            · exact HZ.out i h h1
            · have : i = k := by omega
              subst this
              omega)
          clear h100
          by_cases ha : a = 0
          · subst ha
            by_cases hf : Fit l[k].f1
            · have hf1 : decide ((100000000000 : Int) < l[k].f1) = false := decide_eq_false (by unfold Fit at hf; omega)
              have hf2 : decide (l[k].f1 < (-100000000000 : Int)) = false := decide_eq_false (by unfold Fit at hf; omega)
              have HF := AM hf
              clear hf
              cases b1 with
              | true =>
                have HG := AM (HI.out.good hlt HF.out (show Named _ from HPN.out))
                go_wp2_with (first
                  | (go_at_call 17; (with_reducible refine (cut_t HCU.out _).mono ?_); rintro e w2 ⟨rfl, hb⟩; have hb2 := bT (bA (Below.refl _ _) _) hb; have BX := AM (kB (blk_new wr _) hb); have hX := bX2 BX.out; obtain ⟨_, _, _, _⟩ := hX; have HB2 := AM (bT HB.out hb2); clear hb hb2)
                  | (go_at_call 18; (with_reducible refine (name_t HN1.out _).mono ?_); rintro e w3 ⟨rfl, hb⟩; have HB3 := AM (bT HB2.out hb); have BX3 := AM (kB BX.out hb); have hX3 := bX2 BX3.out; obtain ⟨_, _, _, _⟩ := hX3; clear hb))
                go_roundw
                case rel => exact ⟨k + 1, _, _, rfl, rfl, rfl, ⟨hlt⟩, HG, HZ1, HB3⟩
                case measure => simp only [intOf]; omega
              | false =>
                cases has with
                | false =>
                  have HG := AM (HI.out.unnamed hlt HF.out (fun q => absurd (ev_one q HPN.out) (by simp)))
                  go_wp2_with (first
                    | (go_at_call 17; (with_reducible refine (cut_t HCU.out _).mono ?_); rintro e w2 ⟨rfl, hb⟩; have hb2 := bT (bA (Below.refl _ _) _) hb; have BX := AM (kB (blk_new wr _) hb); have hX := bX2 BX.out; obtain ⟨_, _, _, _⟩ := hX; have HB2 := AM (bT HB.out hb2); clear hb hb2)
                    | (go_at_call 18; (with_reducible refine (name_t HN1.out _).mono ?_); rintro e w3 ⟨rfl, hb⟩; have HB3 := AM (bT HB2.out hb); have BX3 := AM (kB BX.out hb); have hX3 := bX2 BX3.out; obtain ⟨_, _, _, _⟩ := hX3; clear hb))
                  go_roundw
                  case rel => exact ⟨k + 1, _, _, rfl, rfl, rfl, ⟨hlt⟩, HG, HZ1, HB3⟩
                  case measure => simp only [intOf]; omega
                | true =>
                  cases b2 with
                  | true =>
                    have HG := AM (HI.out.good hlt HF.out (show Named _ from HPN.out))
                    go_wp2_with (first
                      | (go_at_call 17; (with_reducible refine (cut_t HCU.out _).mono ?_); rintro e w2 ⟨rfl, hb⟩; have hb2 := bT (bA (Below.refl _ _) _) hb; have BX := AM (kB (blk_new wr _) hb); have hX := bX2 BX.out; obtain ⟨_, _, _, _⟩ := hX; have HB2 := AM (bT HB.out hb2); clear hb hb2)
                      | (go_at_call 18; (with_reducible refine (name_t HN1.out _).mono ?_); rintro e w3 ⟨rfl, hb⟩; have HB3 := AM (bT HB2.out hb); have BX3 := AM (kB BX.out hb); have hX3 := bX2 BX3.out; obtain ⟨_, _, _, _⟩ := hX3; clear hb)
                      | (go_at_call 18; (with_reducible refine (name_t HN2.out _).mono ?_); rintro e w4 ⟨rfl, hb⟩; have HB4 := AM (bT HB3.out hb); have BX4 := AM (kB BX3.out hb); have hX4 := bX2 BX4.out; obtain ⟨_, _, _, _⟩ := hX4; clear hb))
                    go_roundw
                    case rel => exact ⟨k + 1, _, _, rfl, rfl, rfl, ⟨hlt⟩, HG, HZ1, HB4⟩
                    case measure => simp only [intOf]; omega
                  | false =>
                    have HG := AM (HI.out.unnamed hlt HF.out (fun q => absurd (ev_one q HPN.out) (by simp)))
                    go_wp2_with (first
                      | (go_at_call 17; (with_reducible refine (cut_t HCU.out _).mono ?_); rintro e w2 ⟨rfl, hb⟩; have hb2 := bT (bA (Below.refl _ _) _) hb; have BX := AM (kB (blk_new wr _) hb); have hX := bX2 BX.out; obtain ⟨_, _, _, _⟩ := hX; have HB2 := AM (bT HB.out hb2); clear hb hb2)
                      | (go_at_call 18; (with_reducible refine (name_t HN1.out _).mono ?_); rintro e w3 ⟨rfl, hb⟩; have HB3 := AM (bT HB2.out hb); have BX3 := AM (kB BX.out hb); have hX3 := bX2 BX3.out; obtain ⟨_, _, _, _⟩ := hX3; clear hb)
                      | (go_at_call 18; (with_reducible refine (name_t HN2.out _).mono ?_); rintro e w4 ⟨rfl, hb⟩; have HB4 := AM (bT HB3.out hb); have BX4 := AM (kB BX3.out hb); have hX4 := bX2 BX4.out; obtain ⟨_, _, _, _⟩ := hX4; clear hb))
                    go_roundw
                    case rel => exact ⟨k + 1, _, _, rfl, rfl, rfl, ⟨hlt⟩, HG, HZ1, HB4⟩
                    case measure => simp only [intOf]; omega
            · have HG := AM (HI.out.far hlt hf)
              by_cases h1 : (100000000000 : Int) < l[k].f1
              · have hf1 : decide ((100000000000 : Int) < l[k].f1) = true := decide_eq_true h1
                clear h1 hf
                go_wp2_with (first
                  | (go_at_call 17; (with_reducible refine (cut_t HCU.out _).mono ?_); rintro e w2 ⟨rfl, hb⟩; have hb2 := bT (bA (Below.refl _ _) _) hb; have BX := AM (kB (blk_new wr _) hb); have hX := bX2 BX.out; obtain ⟨_, _, _, _⟩ := hX; have HB2 := AM (bT HB.out hb2); clear hb hb2))
                go_roundw
                case rel => exact ⟨k + 1, _, _, rfl, rfl, rfl, ⟨hlt⟩, HG, HZ1, HB2⟩
                case measure => simp only [intOf]; omega
              · have hf1 : decide ((100000000000 : Int) < l[k].f1) = false := decide_eq_false h1
                have hf2 : decide (l[k].f1 < (-100000000000 : Int)) = true := decide_eq_true (by unfold Fit at hf; omega)
                clear h1 hf
                go_wp2_with (first
                  | (go_at_call 17; (with_reducible refine (cut_t HCU.out _).mono ?_); rintro e w2 ⟨rfl, hb⟩; have hb2 := bT (bA (Below.refl _ _) _) hb; have BX := AM (kB (blk_new wr _) hb); have hX := bX2 BX.out; obtain ⟨_, _, _, _⟩ := hX; have HB2 := AM (bT HB.out hb2); clear hb hb2))
                go_roundw
                case rel => exact ⟨k + 1, _, _, rfl, rfl, rfl, ⟨hlt⟩, HG, HZ1, HB2⟩
                case measure => simp only [intOf]; omega
          · have ha1 : (a != 0) = true := bne_iff_ne.2 ha
            have HG := AM (HI.out.on ha)
            clear ha
            go_wp2_with (first
              | (go_at_call 17; (with_reducible refine (cut_t HCU.out _).mono ?_); rintro e w2 ⟨rfl, hb⟩; have hb2 := bT (bA (Below.refl _ _) _) hb; have BX := AM (kB (blk_new wr _) hb); have hX := bX2 BX.out; obtain ⟨_, _, _, _⟩ := hX; have HB2 := AM (bT HB.out hb2); clear hb hb2))
            go_roundw
            case rel => exact ⟨k + 1, _, _, rfl, rfl, rfl, ⟨hlt⟩, HG, HZ1, HB2⟩
            case measure => simp only [intOf]; omega
      · have hgt : decide ((k : Int) < (l.length : Int)) = false := decide_eq_false (by omega)
        have hkl : k = l.length := by have := HK.out; omega
        have HD := AM (HI.out.done hkl)
        have hxs : ∀ x ∈ l, x.f0.size ≤ 100 := fun x hx => by
          obtain ⟨i, hi, rfl⟩ := List.getElem_of_mem hx
          exact HZ.out i hi (by omega)
        have HXS := AM hxs
        have HCK := AM (check_ev l (by have := H60.out; omega) (fun x hx => by have := hxs x hx; omega))
        clear hkl hxs
        by_cases ha : a = 0
        · subst ha
          rw [if_pos rfl] at HD
          by_cases hb0 : b = 0
          · subst hb0
            rw [if_pos rfl] at HD
            rw [HD.out] at HCK
            have hok := chk_ok l 0 HD.out
            have HFIT : Aside0 (∀ x ∈ l, Fit x.f1) := AM (fun x hx => (hok x hx).1)
            have HSZ : Aside0 (∀ x ∈ l, x.f0.size ≤ maxLen) := AM (fun x hx => (HL.out x hx).1)
            obtain ⟨j, hj, hin, hout⟩ := within_far (fun _ => 0) l
            have HJ := AM hj
            have HIN := AM hin
            have HOUT := AM hout
            clear hok hj hin hout
            go_wp2_with (first
              | (go_at_call 10; (with_reducible refine (new_t _).mono ?_); rintro e w2 ⟨g, mb, rfl, hbk, hg1, hg2, hb⟩; have HBK := AM hbk; have HB2 := AM (bT HB.out hb); have HR2 := AM (cB HR.out HB2.out); have HG1 := AM (Nat.le_trans HB.out.size hg1); have HG2 := AM (Nat.le_trans HB.out.size hg2); clear hbk hg1 hg2 hb)
              | (go_at_call 11; (with_reducible refine (check_t HR2.out HC.out HCK.out).mono ?_); rintro e w3 ⟨rfl, hb⟩; have HB3 := AM (bT HB2.out hb); have HR3 := AM (cB HR.out HB3.out); have HBK3 := AM (HBK.out.below hb HBK.out.lt HBK.out.map.lt); clear hb)
              | (go_at_call 12; (with_reducible refine (post_walk (V := fun _ => 0) HBK3.out holds_empty (fun _ => by decide) HR3.out HC.out HCK.out HFIT.out HSZ.out (by have := H60.out; omega) (Nat.zero_le _) (Int.le_refl 0) (by decide) j HJ.out HIN.out HOUT.out).mono ?_); rintro e w4 (⟨_, rfl, hb⟩ | ⟨_, rfl, D', n', _, _, _, ht⟩); (have HB4 := AM (bT HB3.out hb); have HBK4 := AM (HBK3.out.below hb HBK3.out.lt HBK3.out.map.lt); clear hb); rotate_left; (have HB4 := AM (Touch.below_after HB3.out ht (fun k q => by rcases q with rfl | rfl; exact HG1.out; exact HG2.out)); clear ht); rotate_left)
              | (go_at_call 15; (with_reducible refine (entries_t HBK4.out).mono ?_); rintro e w5 ⟨rfl, hw⟩; subst hw))
            all_goals (go_ret; exact ⟨rfl, HB4.out⟩)
          · have hb1 : (b != 0) = true := bne_iff_ne.2 hb0
            rw [if_neg hb0] at HD
            rw [HD.out] at HCK
            clear hb0
            go_wp2_with (first
              | (go_at_call 10; (with_reducible refine (new_t _).mono ?_); rintro e w2 ⟨g, mb, rfl, hbk, hg1, hg2, hb⟩; have HBK := AM hbk; have HB2 := AM (bT HB.out hb); have HR2 := AM (cB HR.out HB2.out); clear hbk hg1 hg2 hb)
              | (go_at_call 11; (with_reducible refine (check_t HR2.out HC.out HCK.out).mono ?_); rintro e w3 ⟨rfl, hb⟩; have HB3 := AM (bT HB2.out hb); have HR3 := AM (cB HR.out HB3.out); have HBK3 := AM (HBK.out.below hb HBK.out.lt HBK.out.map.lt); clear hb)
              | (go_at_call 12; (with_reducible refine (post_bad (g := g) HR3.out HC.out HCK.out (by decide)).mono ?_); rintro e w4 ⟨rfl, hb⟩; have HB4 := AM (bT HB3.out hb); have HBK4 := AM (HBK3.out.below hb HBK3.out.lt HBK3.out.map.lt); clear hb)
              | (go_at_call 15; (with_reducible refine (entries_t HBK4.out).mono ?_); rintro e w5 ⟨rfl, hw⟩; subst hw)
              | (go_at_call 13; (with_reducible refine (bal_t HBK4.out nums_empty (Nat.zero_le _)).mono ?_); rintro e w6 ⟨Ab, cb, ys, rfl, hcb, hCb, hB, hys, hb⟩; obtain rfl : ys = [] := List.eq_nil_of_length_eq_zero (by omega); have HB6 := AM (bT HB4.out hb); clear hcb hCb hB hys hb))
            go_ret
            exact ⟨rfl, HB6.out⟩
        · have ha1 : (a != 0) = true := bne_iff_ne.2 ha
          have ha2 : (a == 0) = false := beq_eq_false_iff_ne.2 ha
          rw [if_neg ha] at HD
          rw [HD.out] at HCK
          have HA := AM ha
          clear ha
          go_wp2_with (first
            | (go_at_call 10; (with_reducible refine (new_t _).mono ?_); rintro e w2 ⟨g, mb, rfl, hbk, hg1, hg2, hb⟩; have HBK := AM hbk; have HB2 := AM (bT HB.out hb); have HR2 := AM (cB HR.out HB2.out); clear hbk hg1 hg2 hb)
            | (go_at_call 11; (with_reducible refine (check_t HR2.out HC.out HCK.out).mono ?_); rintro e w3 ⟨rfl, hb⟩; have HB3 := AM (bT HB2.out hb); have HR3 := AM (cB HR.out HB3.out); have HBK3 := AM (HBK.out.below hb HBK.out.lt HBK.out.map.lt); clear hb)
            | (go_at_call 12; (with_reducible refine (post_bad (g := g) HR3.out HC.out HCK.out HA.out).mono ?_); rintro e w4 ⟨rfl, hb⟩; have HB4 := AM (bT HB3.out hb); have HBK4 := AM (HBK3.out.below hb HBK3.out.lt HBK3.out.map.lt); clear hb)
            | (go_at_call 15; (with_reducible refine (entries_t HBK4.out).mono ?_); rintro e w5 ⟨rfl, hw⟩; subst hw)
            | (go_at_call 13; (with_reducible refine (bal_t HBK4.out nums_empty (Nat.zero_le _)).mono ?_); rintro e w6 ⟨Ab, cb, ys, rfl, hcb, hCb, hB, hys, hb⟩; obtain rfl : ys = [] := List.eq_nil_of_length_eq_zero (by omega); have HB6 := AM (bT HB4.out hb); clear hcb hCb hB hys hb))
          go_ret
          exact ⟨rfl, HB6.out⟩
end Go.Proofs.YtjljhianehhlgaaDoor.M
