import Derived.Test.YtdllkibfikcfbaaDoorKT
/-! ### keep.Room, walked by hand -/
namespace Go.Proofs.YtdllkibfikcfbaaDoor.K
open Go.RowKit Go.Proofs.YtdllkibfikcfbaaDoorW.PrintWords Go.Proofs.YtdllkibfikcfbaaDoorW.PrintLast Go.Proofs.YtdllkibfikcfbaaDoorW.PrintMore
attribute [local go_sem] max2_int min2_int max_two min_two
set_option linter.unusedVariables false
variable {w W : World} {A0 : Option Addr} {c0 : Nat} {A1 : Option Addr} {c1 : Nat} {A2 : Option Addr} {c2 : Nat} {s : List (List S41)} {c : List S43} {n : List S58} {x y : Int}
set_option maxHeartbeats 1000000 in
set_option maxRecDepth 100000 in
theorem room_ok (h : TR w A0 c0 A1 c1 A2 c2 s c n) {sc at_ kept : Int} {ms : List Int} (he : Ev (fun k => keep_Worst.f k s c n x y) (sc, at_, ms, kept, 0)) (h0 : -100000 ≤ kept) (h1 : kept ≤ 100000) :
    Calls Tryd.prog 7 #[TA A0 c0 A1 c1 A2 c2 s c n x y] w fun o w' => o = .returned (.tuple #[.int .i64 (kept - 500), .int .i64 0]) ∧ Below w.heap.size w w' := by
  have hu26 := Tryd.underlying26
  have hu39 := Tryd.underlying39
  have HE := AM he
  have HT := AM h.foot
  have HB := AM (Below.refl w.heap.size w)
  clear he h
  go_enter Tryd.func7, Tryd.ntmps7
  go_wp2_with (first
    | ((with_reducible refine gD (N := 1) rfl ?_); refine bE ?hg (N := 1) ?hd (cs := #[.slice A0 s.length c0, .slice A1 c.length c1, .slice A2 n.length c2, .int .i64 x, .int .i64 y]) (t := 26) ?hr ?_; (case hd => rfl); (case hg => rfl); (case hr => first | (go_simp; done) | (go_simp; rfl)); intro g1 hg w1 hbox hb; have BK1 := AM hbox; have n0_ := AM (bT bQ hb); have n1_ := AM (tX HT hb); clear HB HT; have HB := n0_; have HT := n1_; clear n0_ n1_ hb; clear hbox hg; obtain ⟨_, _, _, _, _, _, _, _, _, _⟩ := bX5 BK1.out)
    | (go_at_call 10; (with_reducible refine (worst_t ?ht HE.out).mono ?_); (case ht => exact tN HT); rintro e w2 ⟨B2, d2, rfl, hl2, ho, hb⟩; have n0_ := AM (bT bQ hb); clear HB; have HB := n0_; clear n0_ hb; clear ho hl2)
    | ((with_reducible refine gD (N := 4) rfl ?_); refine bE ?hg (N := 4) ?hd (cs := #[.int .i64 0, .int .i64 0, .slice none 0 0, .int .i64 0]) (t := 39) ?hr ?_; (case hd => rfl); (case hg => rfl); (case hr => first | (go_simp; done) | (go_simp; rfl)); intro g4 hg w4 hbox hb; have GE4 := AM ((by rw [hg]; exact (bZ bQ) : w.heap.size ≤ g4)); have BK4 := AM hbox; have n0_ := AM (bT bQ hb); clear HB; have HB := n0_; clear n0_ hb; clear hbox hg; obtain ⟨_, _, _, _, _, _, _, _⟩ := bX4 BK4.out))
  go_ret2
  exact ⟨rfl, bQ⟩
set_option maxHeartbeats 1000000 in
set_option maxRecDepth 100000 in
theorem room_bad (h : TR w A0 c0 A1 c1 A2 c2 s c n) {r : Int} (he : Ev (fun k => keep_Worst.f k s c n x y) (0, 0, [], 0, r)) (h0 : r ≠ 0) :
    Calls Tryd.prog 7 #[TA A0 c0 A1 c1 A2 c2 s c n x y] w fun o w' => o = .returned (.tuple #[.int .i64 0, .int .i64 r]) ∧ Below w.heap.size w w' := by
  have hu26 := Tryd.underlying26
  have hu39 := Tryd.underlying39
  have HE := AM he
  have HT := AM h.foot
  have HB := AM (Below.refl w.heap.size w)
  have hb0 : (r == 0) = false := beq_eq_false_iff_ne.mpr h0
  have hb1 : (r != 0) = true := bne_iff_ne.mpr h0
  clear he h
  go_enter Tryd.func7, Tryd.ntmps7
  go_wp2_with (first
    | ((with_reducible refine gD (N := 1) rfl ?_); refine bE ?hg (N := 1) ?hd (cs := #[.slice A0 s.length c0, .slice A1 c.length c1, .slice A2 n.length c2, .int .i64 x, .int .i64 y]) (t := 26) ?hr ?_; (case hd => rfl); (case hg => rfl); (case hr => first | (go_simp; done) | (go_simp; rfl)); intro g1 hg w1 hbox hb; have BK1 := AM hbox; have n0_ := AM (bT bQ hb); have n1_ := AM (tX HT hb); clear HB HT; have HB := n0_; have HT := n1_; clear n0_ n1_ hb; clear hbox hg; obtain ⟨_, _, _, _, _, _, _, _, _, _⟩ := bX5 BK1.out)
    | (go_at_call 10; (with_reducible refine (worst_t ?ht HE.out).mono ?_); (case ht => exact tN HT); rintro e w2 ⟨B2, d2, rfl, hl2, ho, hb⟩; have n0_ := AM (bT bQ hb); clear HB; have HB := n0_; clear n0_ hb; clear ho hl2)
    | ((with_reducible refine gD (N := 4) rfl ?_); refine bE ?hg (N := 4) ?hd (cs := #[.int .i64 0, .int .i64 0, .slice none 0 0, .int .i64 0]) (t := 39) ?hr ?_; (case hd => rfl); (case hg => rfl); (case hr => first | (go_simp; done) | (go_simp; rfl)); intro g4 hg w4 hbox hb; have GE4 := AM ((by rw [hg]; exact (bZ bQ) : w.heap.size ≤ g4)); have BK4 := AM hbox; have n0_ := AM (bT bQ hb); clear HB; have HB := n0_; clear n0_ hb; clear hbox hg; obtain ⟨_, _, _, _, _, _, _, _⟩ := bX4 BK4.out))
  go_ret2
  exact ⟨rfl, bQ⟩
end Go.Proofs.YtdllkibfikcfbaaDoor.K
