import Derived.Test.YtdllkibfikcfbaaDoorKRoom
/-! ### keep.Cut, walked by hand -/
namespace Go.Proofs.YtdllkibfikcfbaaDoor.K
open Go.RowKit Go.Proofs.YtdllkibfikcfbaaDoorW.PrintWords Go.Proofs.YtdllkibfikcfbaaDoorW.PrintLast Go.Proofs.YtdllkibfikcfbaaDoorW.PrintMore
attribute [local go_sem] max2_int min2_int max_two min_two
set_option linter.unusedVariables false
variable {w W : World} {A0 : Option Addr} {c0 : Nat} {A1 : Option Addr} {c1 : Nat} {A2 : Option Addr} {c2 : Nat} {s : List (List S41)} {c : List S43} {n : List S58} {x y : Int}
set_option maxHeartbeats 1000000 in
set_option maxRecDepth 100000 in
theorem cut_bad (h : TR w A0 c0 A1 c1 A2 c2 s c n) {r : Int} (hc : Ev (fun k => table_Check.f k s c n x y) r) (h0 : r ≠ 0) :
    Calls Tryd.prog 6 #[TA A0 c0 A1 c1 A2 c2 s c n x y] w fun o w' => o = .returned (.tuple #[.agg #[.slice none 0 0, .slice none 0 0, .slice none 0 0, .int .i64 0, .int .i64 0], .bool false]) ∧ Below w.heap.size w w' := by
  have hu26 := Tryd.underlying26
  have HC := AM hc
  have HT := AM h.foot
  have HB := AM (Below.refl w.heap.size w)
  have hb0 : (r == 0) = false := beq_eq_false_iff_ne.mpr h0
  have hb1 : (r != 0) = true := bne_iff_ne.mpr h0
  clear hc h
  go_enter Tryd.func6, Tryd.ntmps6
  go_wp2_with (first
    | ((with_reducible refine gD (N := 1) rfl ?_); refine bE ?hg (N := 1) ?hd (cs := #[.slice A0 s.length c0, .slice A1 c.length c1, .slice A2 n.length c2, .int .i64 x, .int .i64 y]) (t := 26) ?hr ?_; (case hd => rfl); (case hg => rfl); (case hr => first | (go_simp; done) | (go_simp; rfl)); intro g1 hg w1 hbox hb; have BK1 := AM hbox; have n0_ := AM (bT bQ hb); have n1_ := AM (tX HT hb); clear HB HT; have HB := n0_; have HT := n1_; clear n0_ n1_ hb; clear hbox hg; obtain ⟨_, _, _, _, _, _, _, _, _, _⟩ := bX5 BK1.out)
    | ((with_reducible refine gD (N := 2) rfl ?_); refine bE ?hg (N := 2) ?hd (cs := #[.slice none 0 0, .slice none 0 0, .slice none 0 0, .int .i64 0, .int .i64 0]) (t := 26) ?hr ?_; (case hd => rfl); (case hg => rfl); (case hr => first | (go_simp; done) | (go_simp; rfl)); intro g2 hg w2 hbox hb; have GE2 := AM ((by rw [hg]; exact (bZ bQ) : w.heap.size ≤ g2)); have BK2 := AM hbox; have n0_ := AM (bT bQ hb); have n1_ := AM (tX HT hb); have n2_ := AM (kX BK1 hb); clear HB HT BK1; have HB := n0_; have HT := n1_; have BK1 := n2_; clear n0_ n1_ n2_ hb; clear hbox hg; obtain ⟨_, _, _, _, _, _, _, _, _, _⟩ := bX5 BK2.out; obtain ⟨_, _, _, _, _, _, _, _, _, _⟩ := bX5 BK1.out)
    | (go_at_call 9; (with_reducible refine (check_t ?ht HC.out).mono ?_); (case ht => exact tN HT); rintro e w3 ⟨rfl, hb⟩; have n0_ := AM (bT bQ hb); have n1_ := AM (tX HT hb); have n2_ := AM (kX BK1 hb); have n3_ := AM (kX BK2 hb); clear HB HT BK1 BK2; have HB := n0_; have HT := n1_; have BK1 := n2_; have BK2 := n3_; clear n0_ n1_ n2_ n3_ hb; obtain ⟨_, _, _, _, _, _, _, _, _, _⟩ := bX5 BK1.out; obtain ⟨_, _, _, _, _, _, _, _, _, _⟩ := bX5 BK2.out))
  refine bodyPost_ret (results_ct rfl _ _ g2 26 #[.slice none 0 0, .slice none 0 0, .slice none 0 0, .int .i64 0, .int .i64 0] (0, 0) _ rfl (put5 BK2.out) Tryd.underlying26 rfl (by kernel_rfl)) rfl ?_
  exact ⟨rfl, bQ⟩
set_option maxHeartbeats 1000000 in
set_option maxRecDepth 100000 in
theorem cut_same (h : TR w A0 c0 A1 c1 A2 c2 s c n) (hc : Ev (fun k => table_Check.f k s c n x y) 0) (hcl : Ev (fun k => table_Clone.f k s c n x y) (s, c, n, x, y)) {sc at_ kept : Int} {ms : List Int} (he : Ev (fun k => keep_Worst.f k s c n x y) (sc, at_, ms, kept, 0)) (hk : Ev (fun k => keep_Check.f k s c n x y) 0) (h0 : 500 ≤ kept) (h1 : kept ≤ 100000) :
    Calls Tryd.prog 6 #[TA A0 c0 A1 c1 A2 c2 s c n x y] w fun o w' => ∃ B0 d0 B1 d1 B2 d2, o = .returned (.tuple #[TA B0 d0 B1 d1 B2 d2 s c n x y, .bool true]) ∧ TR w' B0 d0 B1 d1 B2 d2 s c n ∧ Below w.heap.size w w' := by
  have hu26 := Tryd.underlying26
  have HC := AM hc
  have HT := AM h.foot
  have HB := AM (Below.refl w.heap.size w)
  have HE := AM he
  have HL := AM hcl
  have HK := AM hk
  have hd5 : decide (kept - 500 < 0) = false := decide_eq_false (by omega)
  have H0 : Aside0 (-100000 ≤ kept) := AM (by omega)
  have H1 : Aside0 (kept ≤ 100000) := AM (by omega)
  clear he h hc hcl hk
  clear h0 h1
  go_enter Tryd.func6, Tryd.ntmps6
  go_wp2_with (first
    | ((with_reducible refine gD (N := 1) rfl ?_); refine bE ?hg (N := 1) ?hd (cs := #[.slice A0 s.length c0, .slice A1 c.length c1, .slice A2 n.length c2, .int .i64 x, .int .i64 y]) (t := 26) ?hr ?_; (case hd => rfl); (case hg => rfl); (case hr => first | (go_simp; done) | (go_simp; rfl)); intro g1 hg w1 hbox hb; have BK1 := AM hbox; have n0_ := AM (bT bQ hb); have n1_ := AM (tX HT hb); clear HB HT; have HB := n0_; have HT := n1_; clear n0_ n1_ hb; clear hbox hg; obtain ⟨_, _, _, _, _, _, _, _, _, _⟩ := bX5 BK1.out)
    | ((with_reducible refine gD (N := 2) rfl ?_); refine bE ?hg (N := 2) ?hd (cs := #[.slice none 0 0, .slice none 0 0, .slice none 0 0, .int .i64 0, .int .i64 0]) (t := 26) ?hr ?_; (case hd => rfl); (case hg => rfl); (case hr => first | (go_simp; done) | (go_simp; rfl)); intro g2 hg w2 hbox hb; have GE2 := AM ((by rw [hg]; exact (bZ bQ) : w.heap.size ≤ g2)); have BK2 := AM hbox; have n0_ := AM (bT bQ hb); have n1_ := AM (tX HT hb); have n2_ := AM (kX BK1 hb); clear HB HT BK1; have HB := n0_; have HT := n1_; have BK1 := n2_; clear n0_ n1_ n2_ hb; clear hbox hg; obtain ⟨_, _, _, _, _, _, _, _, _, _⟩ := bX5 BK2.out; obtain ⟨_, _, _, _, _, _, _, _, _, _⟩ := bX5 BK1.out)
    | (go_at_call 9; (with_reducible refine (check_t ?ht HC.out).mono ?_); (case ht => exact tN HT); rintro e w3 ⟨rfl, hb⟩; have n0_ := AM (bT bQ hb); have n1_ := AM (tX HT hb); have n2_ := AM (kX BK1 hb); have n3_ := AM (kX BK2 hb); clear HB HT BK1 BK2; have HB := n0_; have HT := n1_; have BK1 := n2_; have BK2 := n3_; clear n0_ n1_ n2_ n3_ hb; obtain ⟨_, _, _, _, _, _, _, _, _, _⟩ := bX5 BK1.out; obtain ⟨_, _, _, _, _, _, _, _, _, _⟩ := bX5 BK2.out)
    | (go_at_call 12; (with_reducible refine (clone_t (b := w.heap.size) ?ht HL.out).mono ?_); (case ht => exact HT.out.below bR); rintro e w4 hcl; have LT2 := AM (blk_lt BK2.out); obtain ⟨⟨B0, d0, B1, d1, B2, d2, rfl, hf⟩, hb⟩ := hcl; have HU := AM hf.bound; clear hf; have n0_ := AM (bT bQ hb); have n1_ := AM (kX BK2 hb); clear HB BK2; have HB := n0_; have BK2 := n1_; clear n0_ n1_ hb; clear HT BK1)
    | (go_at_call 7; (with_reducible refine (room_ok ?ht HE.out H0.out H1.out).mono ?_); (case ht => exact tN HU); rintro e w5 ⟨rfl, hb⟩; have GE4 := AM (bZ HB.out); have LT4 := AM (blk_lt BK2.out); have BK4 := AM (kX (AM (blk_new w4 _)) hb); have n0_ := AM (bT bQ hb); have n1_ := AM (tX HU hb); have n2_ := AM (kX BK2 hb); clear HB HU BK2; have HB := n0_; have HU := n1_; have BK2 := n2_; clear n0_ n1_ n2_ hb; obtain ⟨_, _, _, _, _, _, _, _, _, _⟩ := bX5 BK4.out)
    | (go_at_call 11; (with_reducible refine (kcheck_t ?ht HK.out).mono ?_); (case ht => exact tN HU); rintro e w6 ⟨rfl, hb⟩; have n0_ := AM (bT bQ hb); have n1_ := AM (tX HU hb); have n2_ := AM (kX BK2 hb); have n3_ := AM (kX BK4 hb); clear HB HU BK2 BK4; have HB := n0_; have HU := n1_; have BK2 := n2_; have BK4 := n3_; clear n0_ n1_ n2_ n3_ hb; obtain ⟨_, _, _, _, _, _, _, _, _, _⟩ := bX5 BK4.out; obtain ⟨_, _, _, _, _, _, _, _, _, _⟩ := bX5 BK2.out))
  refine bodyPost_ret (results_ct rfl _ _ g2 26 #[.slice B0 s.length d0, .slice B1 c.length d1, .slice B2 n.length d2, .int .i64 x, .int .i64 y] (0, 0) _ rfl (put5 BK2.out) Tryd.underlying26 rfl (by kernel_rfl)) rfl ?_
  exact ⟨_, _, _, _, _, _, rfl, (HU.out.far (g := g2) (fun k hk => by have h1 := GE2.out; have h2 := LT2.out; omega) far5).now, bQ⟩
set_option maxHeartbeats 1000000 in
set_option maxRecDepth 100000 in
theorem cut_less (h : TR w A0 c0 A1 c1 A2 c2 s c n) (hc : Ev (fun k => table_Check.f k s c n x y) 0) (hcl : Ev (fun k => table_Clone.f k s c n x y) (s, c, n, x, y)) {sc at_ kept : Int} {ms : List Int} (he : Ev (fun k => keep_Worst.f k s c n x y) (sc, at_, ms, kept, 0)) {X : Int} (hX : (if 0 < x + (kept - 500) then x + (kept - 500) else 0) = X) (hk : Ev (fun k => keep_Check.f k s c n X y) 0) (h0 : -100000 ≤ kept) (h1 : kept < 500) (hx0 : 0 ≤ x) (hx1 : x ≤ 10000) :
    Calls Tryd.prog 6 #[TA A0 c0 A1 c1 A2 c2 s c n x y] w fun o w' => ∃ B0 d0 B1 d1 B2 d2, o = .returned (.tuple #[TA B0 d0 B1 d1 B2 d2 s c n X y, .bool true]) ∧ TR w' B0 d0 B1 d1 B2 d2 s c n ∧ Below w.heap.size w w' := by
  have hu26 := Tryd.underlying26
  have HC := AM hc
  have HT := AM h.foot
  have HB := AM (Below.refl w.heap.size w)
  have HE := AM he
  have HL := AM hcl
  have HK := AM hk
  have hd5 : decide (kept - 500 < 0) = true := decide_eq_true (by omega)
  have H0 : Aside0 (-100000 ≤ kept) := AM (by omega)
  have H1 : Aside0 (kept ≤ 100000) := AM (by omega)
  have hw : wrap64 (x + (kept - 500)) = x + (kept - 500) := by unfold wrap64; omega
  clear he h hc hcl hk
  clear h0 h1 hx0 hx1
  by_cases q : 0 < x + (kept - 500)
  · rw [if_pos q] at hX
    subst hX
    replace q := eq_true q
    go_enter Tryd.func6, Tryd.ntmps6
    go_wp2_with (first
      | ((with_reducible refine gD (N := 1) rfl ?_); refine bE ?hg (N := 1) ?hd (cs := #[.slice A0 s.length c0, .slice A1 c.length c1, .slice A2 n.length c2, .int .i64 x, .int .i64 y]) (t := 26) ?hr ?_; (case hd => rfl); (case hg => rfl); (case hr => first | (go_simp; done) | (go_simp; rfl)); intro g1 hg w1 hbox hb; have BK1 := AM hbox; have n0_ := AM (bT bQ hb); have n1_ := AM (tX HT hb); clear HB HT; have HB := n0_; have HT := n1_; clear n0_ n1_ hb; clear hbox hg; obtain ⟨_, _, _, _, _, _, _, _, _, _⟩ := bX5 BK1.out)
      | ((with_reducible refine gD (N := 2) rfl ?_); refine bE ?hg (N := 2) ?hd (cs := #[.slice none 0 0, .slice none 0 0, .slice none 0 0, .int .i64 0, .int .i64 0]) (t := 26) ?hr ?_; (case hd => rfl); (case hg => rfl); (case hr => first | (go_simp; done) | (go_simp; rfl)); intro g2 hg w2 hbox hb; have GE2 := AM ((by rw [hg]; exact (bZ bQ) : w.heap.size ≤ g2)); have BK2 := AM hbox; have n0_ := AM (bT bQ hb); have n1_ := AM (tX HT hb); have n2_ := AM (kX BK1 hb); clear HB HT BK1; have HB := n0_; have HT := n1_; have BK1 := n2_; clear n0_ n1_ n2_ hb; clear hbox hg; obtain ⟨_, _, _, _, _, _, _, _, _, _⟩ := bX5 BK2.out; obtain ⟨_, _, _, _, _, _, _, _, _, _⟩ := bX5 BK1.out)
      | (go_at_call 9; (with_reducible refine (check_t ?ht HC.out).mono ?_); (case ht => exact tN HT); rintro e w3 ⟨rfl, hb⟩; have n0_ := AM (bT bQ hb); have n1_ := AM (tX HT hb); have n2_ := AM (kX BK1 hb); have n3_ := AM (kX BK2 hb); clear HB HT BK1 BK2; have HB := n0_; have HT := n1_; have BK1 := n2_; have BK2 := n3_; clear n0_ n1_ n2_ n3_ hb; obtain ⟨_, _, _, _, _, _, _, _, _, _⟩ := bX5 BK1.out; obtain ⟨_, _, _, _, _, _, _, _, _, _⟩ := bX5 BK2.out)
      | (go_at_call 12; (with_reducible refine (clone_t (b := w.heap.size) ?ht HL.out).mono ?_); (case ht => exact HT.out.below bR); rintro e w4 hcl; have LT2 := AM (blk_lt BK2.out); obtain ⟨⟨B0, d0, B1, d1, B2, d2, rfl, hf⟩, hb⟩ := hcl; have HU := AM hf.bound; clear hf; have n0_ := AM (bT bQ hb); have n1_ := AM (kX BK2 hb); clear HB BK2; have HB := n0_; have BK2 := n1_; clear n0_ n1_ hb; clear HT BK1)
      | (go_at_call 7; (with_reducible refine (room_ok ?ht HE.out H0.out H1.out).mono ?_); (case ht => exact tN HU); rintro e w5 ⟨rfl, hb⟩; have GE4 := AM (bZ HB.out); have LT4 := AM (blk_lt BK2.out); have BK4 := AM (kX (AM (blk_new w4 _)) hb); have n0_ := AM (bT bQ hb); have n1_ := AM (tX HU hb); have n2_ := AM (kX BK2 hb); clear HB HU BK2; have HB := n0_; have HU := n1_; have BK2 := n2_; clear n0_ n1_ n2_ hb; obtain ⟨_, _, _, _, _, _, _, _, _, _⟩ := bX5 BK4.out)
      | ((with_reducible refine gS (t := 3) (p := 25) rfl ?_); refine sE (t := 3) (p := 25) (v := ?vo) (w1 := w5.setCell ⟨w4.heap.size, 3, none⟩ (.int .i64 (x + (kept - 500)))) ?hg ?ho ?hn ?hr ?_; (case ho => rfl); (case hg => rfl); (case hn => rfl); (case hr => first | (go_simp; done) | (go_simp; rfl)); intro w6 hw6; have n0_ : Aside0 (Below w.heap.size w w6) := AM (by rw [hw6]; exact bS HB.out GE4.out); have n1_ : Aside0 (TF w6 (fun k => (k < w.heap.size ∨ w3.heap.size ≤ k) ∧ k < w4.heap.size) B0 d0 B1 d1 B2 d2 s c n) := AM (by rw [hw6]; exact HU.out.far (g := w4.heap.size) (fun k hk => Nat.ne_of_lt hk.2) far1); have n2_ := AM ((congrArg (fun W_ : World => W_.heap[g2]?) hw6).trans (kF BK2.out (Nat.ne_of_lt LT4.out) _)); have n3_ : Aside0 (w6.heap[w4.heap.size]? = some (.cells #[.slice B0 s.length d0, .slice B1 c.length d1, .slice B2 n.length d2, .int .i64 (x + (kept - 500)), .int .i64 y] 26 (0, 0))) := AM (by rw [hw6]; exact kP BK4.out 3 _ (by first | rfl | (simp [mx]; done))); clear HB HU BK2 BK4; have HB := n0_; have HU := n1_; have BK2 := n2_; have BK4 := n3_; clear n0_ n1_ n2_ n3_ hw6; obtain ⟨_, _, _, _, _, _, _, _, _, _⟩ := bX5 BK4.out; obtain ⟨_, _, _, _, _, _, _, _, _, _⟩ := bX5 BK2.out)
      | (go_at_call 11; (with_reducible refine (kcheck_t ?ht HK.out).mono ?_); (case ht => exact tN HU); rintro e w7 ⟨rfl, hb⟩; have n0_ := AM (bT bQ hb); have n1_ := AM (tX HU hb); have n2_ := AM (kX BK2 hb); have n3_ := AM (kX BK4 hb); clear HB HU BK2 BK4; have HB := n0_; have HU := n1_; have BK2 := n2_; have BK4 := n3_; clear n0_ n1_ n2_ n3_ hb; obtain ⟨_, _, _, _, _, _, _, _, _, _⟩ := bX5 BK4.out; obtain ⟨_, _, _, _, _, _, _, _, _, _⟩ := bX5 BK2.out))
    refine bodyPost_ret (results_ct rfl _ _ g2 26 #[.slice B0 s.length d0, .slice B1 c.length d1, .slice B2 n.length d2, .int .i64 (x + (kept - 500)), .int .i64 y] (0, 0) _ rfl (put5 BK2.out) Tryd.underlying26 rfl (by kernel_rfl)) rfl ?_
    exact ⟨_, _, _, _, _, _, rfl, (HU.out.far (g := g2) (fun k hk => by have h1 := GE2.out; have h2 := LT2.out; omega) far5).now, bQ⟩
  · rw [if_neg q] at hX
    subst hX
    replace q := eq_false q
    go_enter Tryd.func6, Tryd.ntmps6
    go_wp2_with (first
      | ((with_reducible refine gD (N := 1) rfl ?_); refine bE ?hg (N := 1) ?hd (cs := #[.slice A0 s.length c0, .slice A1 c.length c1, .slice A2 n.length c2, .int .i64 x, .int .i64 y]) (t := 26) ?hr ?_; (case hd => rfl); (case hg => rfl); (case hr => first | (go_simp; done) | (go_simp; rfl)); intro g1 hg w1 hbox hb; have BK1 := AM hbox; have n0_ := AM (bT bQ hb); have n1_ := AM (tX HT hb); clear HB HT; have HB := n0_; have HT := n1_; clear n0_ n1_ hb; clear hbox hg; obtain ⟨_, _, _, _, _, _, _, _, _, _⟩ := bX5 BK1.out)
      | ((with_reducible refine gD (N := 2) rfl ?_); refine bE ?hg (N := 2) ?hd (cs := #[.slice none 0 0, .slice none 0 0, .slice none 0 0, .int .i64 0, .int .i64 0]) (t := 26) ?hr ?_; (case hd => rfl); (case hg => rfl); (case hr => first | (go_simp; done) | (go_simp; rfl)); intro g2 hg w2 hbox hb; have GE2 := AM ((by rw [hg]; exact (bZ bQ) : w.heap.size ≤ g2)); have BK2 := AM hbox; have n0_ := AM (bT bQ hb); have n1_ := AM (tX HT hb); have n2_ := AM (kX BK1 hb); clear HB HT BK1; have HB := n0_; have HT := n1_; have BK1 := n2_; clear n0_ n1_ n2_ hb; clear hbox hg; obtain ⟨_, _, _, _, _, _, _, _, _, _⟩ := bX5 BK2.out; obtain ⟨_, _, _, _, _, _, _, _, _, _⟩ := bX5 BK1.out)
      | (go_at_call 9; (with_reducible refine (check_t ?ht HC.out).mono ?_); (case ht => exact tN HT); rintro e w3 ⟨rfl, hb⟩; have n0_ := AM (bT bQ hb); have n1_ := AM (tX HT hb); have n2_ := AM (kX BK1 hb); have n3_ := AM (kX BK2 hb); clear HB HT BK1 BK2; have HB := n0_; have HT := n1_; have BK1 := n2_; have BK2 := n3_; clear n0_ n1_ n2_ n3_ hb; obtain ⟨_, _, _, _, _, _, _, _, _, _⟩ := bX5 BK1.out; obtain ⟨_, _, _, _, _, _, _, _, _, _⟩ := bX5 BK2.out)
      | (go_at_call 12; (with_reducible refine (clone_t (b := w.heap.size) ?ht HL.out).mono ?_); (case ht => exact HT.out.below bR); rintro e w4 hcl; have LT2 := AM (blk_lt BK2.out); obtain ⟨⟨B0, d0, B1, d1, B2, d2, rfl, hf⟩, hb⟩ := hcl; have HU := AM hf.bound; clear hf; have n0_ := AM (bT bQ hb); have n1_ := AM (kX BK2 hb); clear HB BK2; have HB := n0_; have BK2 := n1_; clear n0_ n1_ hb; clear HT BK1)
      | (go_at_call 7; (with_reducible refine (room_ok ?ht HE.out H0.out H1.out).mono ?_); (case ht => exact tN HU); rintro e w5 ⟨rfl, hb⟩; have GE4 := AM (bZ HB.out); have LT4 := AM (blk_lt BK2.out); have BK4 := AM (kX (AM (blk_new w4 _)) hb); have n0_ := AM (bT bQ hb); have n1_ := AM (tX HU hb); have n2_ := AM (kX BK2 hb); clear HB HU BK2; have HB := n0_; have HU := n1_; have BK2 := n2_; clear n0_ n1_ n2_ hb; obtain ⟨_, _, _, _, _, _, _, _, _, _⟩ := bX5 BK4.out)
      | ((with_reducible refine gS (t := 3) (p := 25) rfl ?_); refine sE (t := 3) (p := 25) (v := ?vo) (w1 := w5.setCell ⟨w4.heap.size, 3, none⟩ (.int .i64 0)) ?hg ?ho ?hn ?hr ?_; (case ho => rfl); (case hg => rfl); (case hn => rfl); (case hr => first | (go_simp; done) | (go_simp; rfl)); intro w6 hw6; have n0_ : Aside0 (Below w.heap.size w w6) := AM (by rw [hw6]; exact bS HB.out GE4.out); have n1_ : Aside0 (TF w6 (fun k => (k < w.heap.size ∨ w3.heap.size ≤ k) ∧ k < w4.heap.size) B0 d0 B1 d1 B2 d2 s c n) := AM (by rw [hw6]; exact HU.out.far (g := w4.heap.size) (fun k hk => Nat.ne_of_lt hk.2) far1); have n2_ := AM ((congrArg (fun W_ : World => W_.heap[g2]?) hw6).trans (kF BK2.out (Nat.ne_of_lt LT4.out) _)); have n3_ : Aside0 (w6.heap[w4.heap.size]? = some (.cells #[.slice B0 s.length d0, .slice B1 c.length d1, .slice B2 n.length d2, .int .i64 0, .int .i64 y] 26 (0, 0))) := AM (by rw [hw6]; exact kP BK4.out 3 _ (by first | rfl | (simp [mx]; done))); clear HB HU BK2 BK4; have HB := n0_; have HU := n1_; have BK2 := n2_; have BK4 := n3_; clear n0_ n1_ n2_ n3_ hw6; obtain ⟨_, _, _, _, _, _, _, _, _, _⟩ := bX5 BK4.out; obtain ⟨_, _, _, _, _, _, _, _, _, _⟩ := bX5 BK2.out)
      | (go_at_call 11; (with_reducible refine (kcheck_t ?ht HK.out).mono ?_); (case ht => exact tN HU); rintro e w7 ⟨rfl, hb⟩; have n0_ := AM (bT bQ hb); have n1_ := AM (tX HU hb); have n2_ := AM (kX BK2 hb); have n3_ := AM (kX BK4 hb); clear HB HU BK2 BK4; have HB := n0_; have HU := n1_; have BK2 := n2_; have BK4 := n3_; clear n0_ n1_ n2_ n3_ hb; obtain ⟨_, _, _, _, _, _, _, _, _, _⟩ := bX5 BK4.out; obtain ⟨_, _, _, _, _, _, _, _, _, _⟩ := bX5 BK2.out))
    refine bodyPost_ret (results_ct rfl _ _ g2 26 #[.slice B0 s.length d0, .slice B1 c.length d1, .slice B2 n.length d2, .int .i64 0, .int .i64 y] (0, 0) _ rfl (put5 BK2.out) Tryd.underlying26 rfl (by kernel_rfl)) rfl ?_
    exact ⟨_, _, _, _, _, _, rfl, (HU.out.far (g := g2) (fun k hk => by have h1 := GE2.out; have h2 := LT2.out; omega) far5).now, bQ⟩
set_option maxHeartbeats 1000000 in
set_option maxRecDepth 100000 in
theorem cut_none (h : TR w A0 c0 A1 c1 A2 c2 s c n) (hc : Ev (fun k => table_Check.f k s c n x y) 0) (hcl : Ev (fun k => table_Clone.f k s c n x y) (s, c, n, x, y)) {sc at_ kept : Int} {ms : List Int} (he : Ev (fun k => keep_Worst.f k s c n x y) (sc, at_, ms, kept, 0)) {X : Int} (hX : (if 0 < x + (kept - 500) then x + (kept - 500) else 0) = X) (hk : Ev (fun k => keep_Check.f k s c n X y) 100) (h0 : -100000 ≤ kept) (h1 : kept < 500) (hx0 : 0 ≤ x) (hx1 : x ≤ 10000) :
    Calls Tryd.prog 6 #[TA A0 c0 A1 c1 A2 c2 s c n x y] w fun o w' => o = .returned (.tuple #[.agg #[.slice none 0 0, .slice none 0 0, .slice none 0 0, .int .i64 0, .int .i64 0], .bool false]) ∧ Below w.heap.size w w' := by
  have hu26 := Tryd.underlying26
  have HC := AM hc
  have HT := AM h.foot
  have HB := AM (Below.refl w.heap.size w)
  have HE := AM he
  have HL := AM hcl
  have HK := AM hk
  have hd5 : decide (kept - 500 < 0) = true := decide_eq_true (by omega)
  have H0 : Aside0 (-100000 ≤ kept) := AM (by omega)
  have H1 : Aside0 (kept ≤ 100000) := AM (by omega)
  have hw : wrap64 (x + (kept - 500)) = x + (kept - 500) := by unfold wrap64; omega
  clear he h hc hcl hk
  clear h0 h1 hx0 hx1
  by_cases q : 0 < x + (kept - 500)
  · rw [if_pos q] at hX
    subst hX
    replace q := eq_true q
    go_enter Tryd.func6, Tryd.ntmps6
    go_wp2_with (first
      | ((with_reducible refine gD (N := 1) rfl ?_); refine bE ?hg (N := 1) ?hd (cs := #[.slice A0 s.length c0, .slice A1 c.length c1, .slice A2 n.length c2, .int .i64 x, .int .i64 y]) (t := 26) ?hr ?_; (case hd => rfl); (case hg => rfl); (case hr => first | (go_simp; done) | (go_simp; rfl)); intro g1 hg w1 hbox hb; have BK1 := AM hbox; have n0_ := AM (bT bQ hb); have n1_ := AM (tX HT hb); clear HB HT; have HB := n0_; have HT := n1_; clear n0_ n1_ hb; clear hbox hg; obtain ⟨_, _, _, _, _, _, _, _, _, _⟩ := bX5 BK1.out)
      | ((with_reducible refine gD (N := 2) rfl ?_); refine bE ?hg (N := 2) ?hd (cs := #[.slice none 0 0, .slice none 0 0, .slice none 0 0, .int .i64 0, .int .i64 0]) (t := 26) ?hr ?_; (case hd => rfl); (case hg => rfl); (case hr => first | (go_simp; done) | (go_simp; rfl)); intro g2 hg w2 hbox hb; have GE2 := AM ((by rw [hg]; exact (bZ bQ) : w.heap.size ≤ g2)); have BK2 := AM hbox; have n0_ := AM (bT bQ hb); have n1_ := AM (tX HT hb); have n2_ := AM (kX BK1 hb); clear HB HT BK1; have HB := n0_; have HT := n1_; have BK1 := n2_; clear n0_ n1_ n2_ hb; clear hbox hg; obtain ⟨_, _, _, _, _, _, _, _, _, _⟩ := bX5 BK2.out; obtain ⟨_, _, _, _, _, _, _, _, _, _⟩ := bX5 BK1.out)
      | (go_at_call 9; (with_reducible refine (check_t ?ht HC.out).mono ?_); (case ht => exact tN HT); rintro e w3 ⟨rfl, hb⟩; have n0_ := AM (bT bQ hb); have n1_ := AM (tX HT hb); have n2_ := AM (kX BK1 hb); have n3_ := AM (kX BK2 hb); clear HB HT BK1 BK2; have HB := n0_; have HT := n1_; have BK1 := n2_; have BK2 := n3_; clear n0_ n1_ n2_ n3_ hb; obtain ⟨_, _, _, _, _, _, _, _, _, _⟩ := bX5 BK1.out; obtain ⟨_, _, _, _, _, _, _, _, _, _⟩ := bX5 BK2.out)
      | (go_at_call 12; (with_reducible refine (clone_t (b := w.heap.size) ?ht HL.out).mono ?_); (case ht => exact HT.out.below bR); rintro e w4 hcl; have LT2 := AM (blk_lt BK2.out); obtain ⟨⟨B0, d0, B1, d1, B2, d2, rfl, hf⟩, hb⟩ := hcl; have HU := AM hf.bound; clear hf; have n0_ := AM (bT bQ hb); have n1_ := AM (kX BK2 hb); clear HB BK2; have HB := n0_; have BK2 := n1_; clear n0_ n1_ hb; clear HT BK1)
      | (go_at_call 7; (with_reducible refine (room_ok ?ht HE.out H0.out H1.out).mono ?_); (case ht => exact tN HU); rintro e w5 ⟨rfl, hb⟩; have GE4 := AM (bZ HB.out); have LT4 := AM (blk_lt BK2.out); have BK4 := AM (kX (AM (blk_new w4 _)) hb); have n0_ := AM (bT bQ hb); have n1_ := AM (tX HU hb); have n2_ := AM (kX BK2 hb); clear HB HU BK2; have HB := n0_; have HU := n1_; have BK2 := n2_; clear n0_ n1_ n2_ hb; obtain ⟨_, _, _, _, _, _, _, _, _, _⟩ := bX5 BK4.out)
      | ((with_reducible refine gS (t := 3) (p := 25) rfl ?_); refine sE (t := 3) (p := 25) (v := ?vo) (w1 := w5.setCell ⟨w4.heap.size, 3, none⟩ (.int .i64 (x + (kept - 500)))) ?hg ?ho ?hn ?hr ?_; (case ho => rfl); (case hg => rfl); (case hn => rfl); (case hr => first | (go_simp; done) | (go_simp; rfl)); intro w6 hw6; have n0_ : Aside0 (Below w.heap.size w w6) := AM (by rw [hw6]; exact bS HB.out GE4.out); have n1_ : Aside0 (TF w6 (fun k => (k < w.heap.size ∨ w3.heap.size ≤ k) ∧ k < w4.heap.size) B0 d0 B1 d1 B2 d2 s c n) := AM (by rw [hw6]; exact HU.out.far (g := w4.heap.size) (fun k hk => Nat.ne_of_lt hk.2) far1); have n2_ := AM ((congrArg (fun W_ : World => W_.heap[g2]?) hw6).trans (kF BK2.out (Nat.ne_of_lt LT4.out) _)); have n3_ : Aside0 (w6.heap[w4.heap.size]? = some (.cells #[.slice B0 s.length d0, .slice B1 c.length d1, .slice B2 n.length d2, .int .i64 (x + (kept - 500)), .int .i64 y] 26 (0, 0))) := AM (by rw [hw6]; exact kP BK4.out 3 _ (by first | rfl | (simp [mx]; done))); clear HB HU BK2 BK4; have HB := n0_; have HU := n1_; have BK2 := n2_; have BK4 := n3_; clear n0_ n1_ n2_ n3_ hw6; obtain ⟨_, _, _, _, _, _, _, _, _, _⟩ := bX5 BK4.out; obtain ⟨_, _, _, _, _, _, _, _, _, _⟩ := bX5 BK2.out)
      | (go_at_call 11; (with_reducible refine (kcheck_t ?ht HK.out).mono ?_); (case ht => exact tN HU); rintro e w7 ⟨rfl, hb⟩; have n0_ := AM (bT bQ hb); have n1_ := AM (tX HU hb); have n2_ := AM (kX BK2 hb); have n3_ := AM (kX BK4 hb); clear HB HU BK2 BK4; have HB := n0_; have HU := n1_; have BK2 := n2_; have BK4 := n3_; clear n0_ n1_ n2_ n3_ hb; obtain ⟨_, _, _, _, _, _, _, _, _, _⟩ := bX5 BK4.out; obtain ⟨_, _, _, _, _, _, _, _, _, _⟩ := bX5 BK2.out))
    refine bodyPost_ret (results_ct rfl _ _ g2 26 #[.slice none 0 0, .slice none 0 0, .slice none 0 0, .int .i64 0, .int .i64 0] (0, 0) _ rfl (put5 BK2.out) Tryd.underlying26 rfl (by kernel_rfl)) rfl ?_
    exact ⟨rfl, bQ⟩
  · rw [if_neg q] at hX
    subst hX
    replace q := eq_false q
    go_enter Tryd.func6, Tryd.ntmps6
    go_wp2_with (first
      | ((with_reducible refine gD (N := 1) rfl ?_); refine bE ?hg (N := 1) ?hd (cs := #[.slice A0 s.length c0, .slice A1 c.length c1, .slice A2 n.length c2, .int .i64 x, .int .i64 y]) (t := 26) ?hr ?_; (case hd => rfl); (case hg => rfl); (case hr => first | (go_simp; done) | (go_simp; rfl)); intro g1 hg w1 hbox hb; have BK1 := AM hbox; have n0_ := AM (bT bQ hb); have n1_ := AM (tX HT hb); clear HB HT; have HB := n0_; have HT := n1_; clear n0_ n1_ hb; clear hbox hg; obtain ⟨_, _, _, _, _, _, _, _, _, _⟩ := bX5 BK1.out)
      | ((with_reducible refine gD (N := 2) rfl ?_); refine bE ?hg (N := 2) ?hd (cs := #[.slice none 0 0, .slice none 0 0, .slice none 0 0, .int .i64 0, .int .i64 0]) (t := 26) ?hr ?_; (case hd => rfl); (case hg => rfl); (case hr => first | (go_simp; done) | (go_simp; rfl)); intro g2 hg w2 hbox hb; have GE2 := AM ((by rw [hg]; exact (bZ bQ) : w.heap.size ≤ g2)); have BK2 := AM hbox; have n0_ := AM (bT bQ hb); have n1_ := AM (tX HT hb); have n2_ := AM (kX BK1 hb); clear HB HT BK1; have HB := n0_; have HT := n1_; have BK1 := n2_; clear n0_ n1_ n2_ hb; clear hbox hg; obtain ⟨_, _, _, _, _, _, _, _, _, _⟩ := bX5 BK2.out; obtain ⟨_, _, _, _, _, _, _, _, _, _⟩ := bX5 BK1.out)
      | (go_at_call 9; (with_reducible refine (check_t ?ht HC.out).mono ?_); (case ht => exact tN HT); rintro e w3 ⟨rfl, hb⟩; have n0_ := AM (bT bQ hb); have n1_ := AM (tX HT hb); have n2_ := AM (kX BK1 hb); have n3_ := AM (kX BK2 hb); clear HB HT BK1 BK2; have HB := n0_; have HT := n1_; have BK1 := n2_; have BK2 := n3_; clear n0_ n1_ n2_ n3_ hb; obtain ⟨_, _, _, _, _, _, _, _, _, _⟩ := bX5 BK1.out; obtain ⟨_, _, _, _, _, _, _, _, _, _⟩ := bX5 BK2.out)
      | (go_at_call 12; (with_reducible refine (clone_t (b := w.heap.size) ?ht HL.out).mono ?_); (case ht => exact HT.out.below bR); rintro e w4 hcl; have LT2 := AM (blk_lt BK2.out); obtain ⟨⟨B0, d0, B1, d1, B2, d2, rfl, hf⟩, hb⟩ := hcl; have HU := AM hf.bound; clear hf; have n0_ := AM (bT bQ hb); have n1_ := AM (kX BK2 hb); clear HB BK2; have HB := n0_; have BK2 := n1_; clear n0_ n1_ hb; clear HT BK1)
      | (go_at_call 7; (with_reducible refine (room_ok ?ht HE.out H0.out H1.out).mono ?_); (case ht => exact tN HU); rintro e w5 ⟨rfl, hb⟩; have GE4 := AM (bZ HB.out); have LT4 := AM (blk_lt BK2.out); have BK4 := AM (kX (AM (blk_new w4 _)) hb); have n0_ := AM (bT bQ hb); have n1_ := AM (tX HU hb); have n2_ := AM (kX BK2 hb); clear HB HU BK2; have HB := n0_; have HU := n1_; have BK2 := n2_; clear n0_ n1_ n2_ hb; obtain ⟨_, _, _, _, _, _, _, _, _, _⟩ := bX5 BK4.out)
      | ((with_reducible refine gS (t := 3) (p := 25) rfl ?_); refine sE (t := 3) (p := 25) (v := ?vo) (w1 := w5.setCell ⟨w4.heap.size, 3, none⟩ (.int .i64 0)) ?hg ?ho ?hn ?hr ?_; (case ho => rfl); (case hg => rfl); (case hn => rfl); (case hr => first | (go_simp; done) | (go_simp; rfl)); intro w6 hw6; have n0_ : Aside0 (Below w.heap.size w w6) := AM (by rw [hw6]; exact bS HB.out GE4.out); have n1_ : Aside0 (TF w6 (fun k => (k < w.heap.size ∨ w3.heap.size ≤ k) ∧ k < w4.heap.size) B0 d0 B1 d1 B2 d2 s c n) := AM (by rw [hw6]; exact HU.out.far (g := w4.heap.size) (fun k hk => Nat.ne_of_lt hk.2) far1); have n2_ := AM ((congrArg (fun W_ : World => W_.heap[g2]?) hw6).trans (kF BK2.out (Nat.ne_of_lt LT4.out) _)); have n3_ : Aside0 (w6.heap[w4.heap.size]? = some (.cells #[.slice B0 s.length d0, .slice B1 c.length d1, .slice B2 n.length d2, .int .i64 0, .int .i64 y] 26 (0, 0))) := AM (by rw [hw6]; exact kP BK4.out 3 _ (by first | rfl | (simp [mx]; done))); clear HB HU BK2 BK4; have HB := n0_; have HU := n1_; have BK2 := n2_; have BK4 := n3_; clear n0_ n1_ n2_ n3_ hw6; obtain ⟨_, _, _, _, _, _, _, _, _, _⟩ := bX5 BK4.out; obtain ⟨_, _, _, _, _, _, _, _, _, _⟩ := bX5 BK2.out)
      | (go_at_call 11; (with_reducible refine (kcheck_t ?ht HK.out).mono ?_); (case ht => exact tN HU); rintro e w7 ⟨rfl, hb⟩; have n0_ := AM (bT bQ hb); have n1_ := AM (tX HU hb); have n2_ := AM (kX BK2 hb); have n3_ := AM (kX BK4 hb); clear HB HU BK2 BK4; have HB := n0_; have HU := n1_; have BK2 := n2_; have BK4 := n3_; clear n0_ n1_ n2_ n3_ hb; obtain ⟨_, _, _, _, _, _, _, _, _, _⟩ := bX5 BK4.out; obtain ⟨_, _, _, _, _, _, _, _, _, _⟩ := bX5 BK2.out))
    refine bodyPost_ret (results_ct rfl _ _ g2 26 #[.slice none 0 0, .slice none 0 0, .slice none 0 0, .int .i64 0, .int .i64 0] (0, 0) _ rfl (put5 BK2.out) Tryd.underlying26 rfl (by kernel_rfl)) rfl ?_
    exact ⟨rfl, bQ⟩
end Go.Proofs.YtdllkibfikcfbaaDoor.K
