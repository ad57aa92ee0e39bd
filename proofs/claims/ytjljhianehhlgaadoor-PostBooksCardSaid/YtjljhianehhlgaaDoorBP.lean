import Derived.Test.YtjljhianehhlgaaDoorB1
import Derived.Test.YtjljhianehhlgaaDoorS3
import Derived.Test.YtjljhianehhlgaaDoorQ7
import Derived.Test.YtjljhianehhlgaaDoorQF
import Derived.Test.YtjljhianehhlgaaDoorQ5
import Derived.Test.YtjljhianehhlgaaDoorQM
/-! ### the law's own book: its values -/
namespace Go.Proofs.YtjljhianehhlgaaDoor.M
open Go Go.RowKit Go.Maps Go.Proofs.YtjljhianehhlgaaDoorW.PrintWords Go.Proofs.YtjljhianehhlgaaDoor.K Go.Proofs.YtjljhianehhlgaaDoor.V
set_option linter.unusedVariables false
def eWages : S31 := ⟨⟨#[119, 97, 103, 101, 115]⟩, 1000⟩
def eBurden : S31 := ⟨⟨#[98, 117, 114, 100, 101, 110]⟩, 60⟩
def eTax : S31 := ⟨⟨#[116, 97, 120]⟩, -100⟩
def eCare : S31 := ⟨⟨#[102, 117, 110, 100, 45, 99, 97, 114, 101]⟩, -110⟩
def eOrders : S31 := ⟨⟨#[111, 114, 100, 101, 114, 115]⟩, -50⟩
def eBank : S31 := ⟨⟨#[98, 97, 110, 107]⟩, -800⟩
def ES : List S31 := [eWages, eBurden, eTax, eCare, eOrders, eBank]
def BS : List S31 := [eBank, eBurden, eCare, eOrders, eTax, eWages]
set_option maxRecDepth 100000 in
theorem of_ES : post_Of.f 40 [] [⟨⟨#[99, 97, 114, 101]⟩, 0, [], 0, 0, 0⟩] [] 0 0 1 1000 0 0 100 0 [⟨50, 60⟩] 850 [⟨0, 0, 0, 0, 50, 0⟩] 800 = some (ES, 0) := by kernel_rfl
set_option maxRecDepth 100000 in
theorem chk_ES : Ev (fun k => post_Check.f k ES) 0 := Ev.of (post_Check.mono ES) (k := 40) (by kernel_rfl)
set_option maxRecDepth 100000 in
theorem chk_X : Ev (fun k => post_Check.f k [⟨⟨#[120]⟩, 1⟩]) 6 := Ev.of (post_Check.mono _) (k := 40) (by kernel_rfl)
def LS : List ByteArray := (post_Book_Lines.f 40 BS).getD []
set_option maxRecDepth 100000 in
theorem lines_BS : post_Book_Lines.f 40 BS = some LS := by kernel_rfl
theorem within_ES : Within (fun _ => 0) ES 6 := by
  unfold Within
  decide
theorem fit_ES : ∀ x ∈ ES, Fit x.f1 := by decide
theorem size_ES : ∀ x ∈ ES, x.f0.size ≤ maxLen := by decide
theorem sum_perm {xs ys : List S31} (h : xs.Perm ys) (s : List UInt8) : sumAt xs s = sumAt ys s := by
  induction h with
  | nil => rfl
  | cons x _ ih => simp only [sumAt, ih]
  | swap x y l => simp only [sumAt]; omega
  | trans _ _ h1 h2 => exact h1.trans h2
theorem nz_rise : ∀ (xs : List S31), xs.Pairwise (fun x y => key x < key y) → (∀ x ∈ xs, x.f1 ≠ 0) → ∀ s c, nz (sumAt xs s) = some c ↔ ∃ x ∈ xs, key x = s ∧ x.f1 = c
  | [], _, _, s, c => by simp [sumAt, nz]
  | x :: xs, h, h0, s, c => by
    rw [List.pairwise_cons] at h
    simp only [sumAt]
    by_cases e : key x = s
    · have hn : ∀ y ∈ xs, key y ≠ s := fun y hy q => by
        have := h.1 y hy
        rw [e, q] at this
        exact absurd this (List.lt_irrefl _)
      rw [if_pos e, sumAt_none hn, Int.add_zero]
      unfold nz
      rw [if_neg (h0 x List.mem_cons_self)]
      constructor
      · intro q; exact ⟨x, List.mem_cons_self, e, Option.some.inj q⟩
      · rintro ⟨y, hy, h1, h2⟩
        rcases List.mem_cons.1 hy with rfl | hy
        · rw [h2]
        · exact absurd h1 (hn y hy)
    · rw [if_neg e, Int.zero_add, nz_rise xs h.2 (fun y hy => h0 y (List.mem_cons_of_mem _ hy))]
      constructor
      · rintro ⟨y, hy, h1⟩; exact ⟨y, List.mem_cons_of_mem _ hy, h1⟩
      · rintro ⟨y, hy, h1, h2⟩
        rcases List.mem_cons.1 hy with rfl | hy
        · exact absurd h1 e
        · exact ⟨y, hy, h1, h2⟩
theorem bal_of {D : DM} {V : List UInt8 → Int} (h : Holds D V) {ys : List S31} (hv : ∀ s, V s = sumAt ys s) (hr : ys.Pairwise (fun x y => key x < key y)) (h0 : ∀ x ∈ ys, x.f1 ≠ 0) (hs : ∀ x ∈ ys, x.f0.size ≤ maxLen) : Bal D ys :=
  ⟨fun s c => by rw [h.2 s, hv s]; exact nz_rise ys hr h0 s c, hr, hs⟩
instance : DecidableEq S31 := fun a b => decidable_of_iff (a.f0 = b.f0 ∧ a.f1 = b.f1) ⟨fun h => by cases a; cases b; cases h.1; cases h.2; rfl, fun h => by rw [h]; exact ⟨rfl, rfl⟩⟩
theorem perm_ES : ES.Perm BS := by
  exact List.isPerm_iff.1 (by decide)
theorem bal_BS {D : DM} (h : Holds D (fun s => 0 + sumAt ES s)) : Bal D BS := bal_of h (fun s => by rw [Int.zero_add]; exact sum_perm perm_ES s) (by decide) (by decide) (by decide)
theorem holds_empty : Holds (.map []) (fun _ => 0) := ⟨nums_empty, fun s => got_empty s⟩
def bankS : ByteArray := ⟨#[98, 97, 110, 107]⟩
theorem val_bank {D : DM} (h : Holds D (fun s => 0 + sumAt ES s)) : val D bankS.data.toList = -800 := by rw [h.val]; decide
theorem cells_str {W : World} {base : Nat} {ok : Nat → Prop} {g n c : Nat} {xs : List ByteArray} (h : Kd.string.R 9 W base ok (.slice (some ⟨g, 0, none⟩) n c) xs) : ∀ (j : Nat) x, xs[j]? = some x → W.cell? ⟨g, 0 + j, none⟩ = some (.string x) := by
  intro j x hj
  have hl := (List.getElem?_eq_some_iff.1 hj).1
  obtain ⟨_, _, hC⟩ := Kd.R_reads' h
  obtain ⟨_, _, hr⟩ := hC
  obtain ⟨ad, ha, hc⟩ := hr (by omega)
  cases ha
  obtain ⟨cs, h1, h2, h3⟩ := hc j x hj
  have h4 := h3 0 (.string x) (by rw [show cs = [.string x] from h2]; rfl)
  rw [Lib.add_plain] at h4
  rw [← h4]
  show _ = W.cell? ⟨g, 0 + (j * 1 + 0), none⟩
  rw [Nat.mul_one, Nat.add_zero]
theorem C_one (W : World) (x : S31) : k31.C (W.alloc (.cells #[.string x.f0, .int .i64 x.f1] 31)) (some ⟨W.heap.size, 0, none⟩) 1 [x] := by
  refine ⟨rfl, by decide, fun _ => ⟨_, rfl, fun j p hj => ?_⟩⟩
  have hl := (List.getElem?_eq_some_iff.1 hj).1
  have hj0 : j = 0 := by simpa using hl
  subst hj0
  have hp : x = p := by simpa using hj
  subst hp
  refine ⟨[.string x.f0, .int .i64 x.f1], rfl, k31_mk _ _, fun i u hi => ?_⟩
  rw [Lib.add_plain]
  have hb := blk_cell (blk_new W (.cells #[.string x.f0, .int .i64 x.f1] 31)) (0 + (0 * k31.sz + i))
  rw [hb]
  have hi2 : i < 2 := (List.getElem?_eq_some_iff.1 hi).1
  rw [show 0 + (0 * k31.sz + i) = i by rw [Nat.zero_mul, Nat.zero_add, Nat.zero_add]]
  rcases (by omega : i = 0 ∨ i = 1) with rfl | rfl
  · exact hi
  · exact hi
set_option maxRecDepth 100000 in
theorem LS_len : LS.length = 6 := by kernel_rfl
def JS : ByteArray := ⟨#[98, 97, 110, 107, 32, 45, 56, 46, 48, 48, 44, 32, 98, 117, 114, 100, 101, 110, 32, 48, 46, 54, 48, 44, 32, 102, 117, 110, 100, 45, 99, 97, 114, 101, 32, 45, 49, 46, 49, 48, 44, 32, 111, 114, 100, 101, 114, 115, 32, 45, 48, 46, 53, 48, 44, 32, 116, 97, 120, 32, 45, 49, 46, 48, 48, 44, 32, 119, 97, 103, 101, 115, 32, 49, 48, 46, 48, 48]⟩
set_option maxRecDepth 100000 in
theorem join_LS : (⟨(Lib.join (LS.map (·.data.toList)) (⟨#[44, 32]⟩ : ByteArray).data.toList).toArray⟩ : ByteArray) = JS := by kernel_rfl
set_option maxRecDepth 100000 in
theorem join_len : (Lib.join (LS.map (·.data.toList)) (⟨#[44, 32]⟩ : ByteArray).data.toList).length = 78 := by kernel_rfl
theorem JS_list : JS.toList = [98, 97, 110, 107, 32, 45, 56, 46, 48, 48, 44, 32, 98, 117, 114, 100, 101, 110, 32, 48, 46, 54, 48, 44, 32, 102, 117, 110, 100, 45, 99, 97, 114, 101, 32, 45, 49, 46, 49, 48, 44, 32, 111, 114, 100, 101, 114, 115, 32, 45, 48, 46, 53, 48, 44, 32, 116, 97, 120, 32, 45, 49, 46, 48, 48, 44, 32, 119, 97, 103, 101, 115, 32, 49, 48, 46, 48, 48] := by rw [Lib.toList_data]; rfl
theorem nums_of {D : DM} {V : List UInt8 → Int} (h : Holds D V) : Nums D := h.1
theorem post_ES_t {w : World} {g mb ge c : Nat} (hbk : Book w g mb 0 (.map []) 0 [] 88) (hr : k31.C w (some ⟨ge, 0, none⟩) ES.length ES) (hc : ES.length ≤ c) :
    Calls Tryd.prog 12 #[.pointer (some ⟨g, 0, none⟩), .slice (some ⟨ge, 0, none⟩) 6 c] w fun o w' => o = .returned (.int .i64 0) ∧ ∃ D' n', n' ≤ 6 ∧ Book w' g mb n' D' 6 [] 88 ∧ Holds D' (fun s => 0 + sumAt ES s) ∧ Touch (fun k => k = g ∨ k = mb) w w' := by
  have h := post_walk (V := fun _ => 0) hbk holds_empty (fun _ => by decide) hr hc chk_ES fit_ES size_ES (by decide) (by decide) (by decide) (by decide) 6 (by decide) within_ES (fun h => absurd h (by decide))
  refine Calls.mono h ?_
  rintro e w' (⟨hlt, _⟩ | ⟨_, rfl, D', n', hn', hbk, hh, ht⟩)
  · exact absurd hlt (by decide)
  · have e6 : (0 : Int) + (ES.length : Int) = 6 := by decide
    rw [e6] at hbk
    have e7 : 0 + ES.length = 6 := by decide
    rw [e7] at hn'
    exact ⟨rfl, D', n', hn', hbk, hh, ht⟩
theorem post_X_t (w : World) (g : Nat) :
    Calls Tryd.prog 12 #[.pointer (some ⟨g, 0, none⟩), .slice (some ⟨w.heap.size, 0, none⟩) 1 1] (w.alloc (.cells #[.string ⟨#[120]⟩, .int .i64 1] 31)) fun o w' => o = .returned (.int .i64 6) ∧ Below w.heap.size w w' := by
  have h := post_bad (g := g) (C_one w ⟨⟨#[120]⟩, 1⟩) (c := 1) (by decide) chk_X (by decide)
  refine Calls.mono h ?_
  rintro e w' ⟨rfl, hb⟩
  exact ⟨rfl, bT (bA (Below.refl _ _) _) hb⟩
theorem bank_t {w : World} {g mb n : Nat} {D : DM} {e : Int} {more : List Value} {t : TypeId} (hbk : Book w g mb n D e more t) (hh : Holds D (fun s => 0 + sumAt ES s)) :
    Calls Tryd.prog 14 #[.pointer (some ⟨g, 0, none⟩), .string ⟨#[98, 97, 110, 107]⟩] w fun o w' => o = .returned (.int .i64 (-800)) ∧ w' = w := by
  have h := on_t hbk hh.1 bankS (by decide)
  rw [val_bank hh] at h
  exact h
theorem join_t {w : World} {base gl c n : Nat} (hr : Kd.string.R 9 w base (fun _ => True) (.slice (some ⟨gl, 0, none⟩) n c) LS) (hg : gl < w.heap.size) :
    Calls Tryd.prog 33 #[.slice (some ⟨gl, 0, none⟩) n c, .string ⟨#[44, 32]⟩] w fun o w' => o = .returned (.string JS) ∧ Below w.heap.size w w' := by
  obtain ⟨hn, hc, _⟩ := Kd.R_reads' hr
  have hj := Tryd.strings_Join gl 0 c LS ⟨#[44, 32]⟩ w (cells_str hr) hg (by rw [LS_len]; decide) (by rw [← hn]; exact hc) (by rw [join_len]; decide)
  rw [join_LS] at hj
  subst hn
  exact hj
end Go.Proofs.YtjljhianehhlgaaDoor.M
