import Derived.Test.YtdllkibfikcfbaaDoorKCut
import Derived.Test.YtdllkibfikcfbaaDoorKS
import Derived.Test.YtdllkibfikcfbaaDoorKL
import Derived.Test.YtdllkibfikcfbaaDoorKx11
import Derived.Test.YtdllkibfikcfbaaDoorKx12
import Derived.Test.YtdllkibfikcfbaaDoorPT
/-! ### KeepCuts, walked by hand, case by case -/
namespace Go.Proofs.YtdllkibfikcfbaaDoor.K
open Go.RowKit Go.Proofs.YtdllkibfikcfbaaDoorW.PrintWords Go.Proofs.YtdllkibfikcfbaaDoorW.PrintLast Go.Proofs.YtdllkibfikcfbaaDoorW.PrintMore
attribute [local go_sem] max2_int min2_int max_two min_two
set_option linter.unusedVariables false
variable {w W : World} {A0 : Option Addr} {c0 : Nat} {A1 : Option Addr} {c1 : Nat} {A2 : Option Addr} {c2 : Nat} {s : List (List S41)} {c : List S43} {n : List S58} {x y : Int}
theorem lines_t (h : TR w A0 c0 A1 c1 A2 c2 s c n) (htb : TB w) {l : List ByteArray} (he : Ev (fun k => keep_Lines.f k s c n x y) l) {m : Nat} (hm : l.length = m) : Calls Tryd.prog 8 #[TA A0 c0 A1 c1 A2 c2 s c n x y] w fun o w' => ∃ B d, o = .returned (.slice B m d) ∧ Below w.heap.size w w' := by
  obtain ⟨k, hk⟩ := he.rounds
  refine (keep_Lines.calls k _ _ s _ _ c _ _ n x y l w h.r0 h.l0 h.r1 h.l1 h.r2 h.l2 htb hk).mono ?_
  rintro o w' ⟨v, rfl, hv, hb⟩
  obtain ⟨B, d, rfl, q, p⟩ := Kd.R_reads hv
  exact ⟨B, d, by rw [hm], hb⟩
theorem same_t {B0 : Option Addr} {d0 : Nat} {B1 : Option Addr} {d1 : Nat} {B2 : Option Addr} {d2 : Nat} (h : TR w A0 c0 A1 c1 A2 c2 s c n) (h' : TR w B0 d0 B1 d1 B2 d2 s c n) (he : Ev (fun k => table_Same.f k s c n x y s c n x y) true) : Calls Tryd.prog 13 #[TA A0 c0 A1 c1 A2 c2 s c n x y, TA B0 d0 B1 d1 B2 d2 s c n x y] w fun e w' => e = .returned (.bool true) ∧ Below w.heap.size w w' := by
  obtain ⟨k, hk⟩ := he.rounds
  exact table_Same.calls k _ _ s _ _ c _ _ n x y _ _ s _ _ c _ _ n x y true w h.r0 h.l0 h.r1 h.l1 h.r2 h.l2 h'.r0 h'.l0 h'.r1 h'.l1 h'.r2 h'.l2 rfl hk
theorem small_t (h : TR w A0 c0 A1 c1 A2 c2 s c n) {b : Bool} (he : Ev (fun k => stipendlaw10_small.f k s c n x y) b) : Calls Tryd.prog 5 #[TA A0 c0 A1 c1 A2 c2 s c n x y] w fun e w' => e = .returned (.bool b) ∧ Below w.heap.size w w' := by
  obtain ⟨k, hk⟩ := he.rounds
  exact stipendlaw10_small.calls k _ _ s _ _ c _ _ n x y b w h.r0 h.l0 h.r1 h.l1 h.r2 h.l2 hk
theorem keeps_t (w : World) : Calls Tryd.prog 4 #[] w fun e w' => e = .returned (.bool true) ∧ Below w.heap.size w w' := stipendlaw10_keeps.calls true w (by decide +kernel)
set_option maxHeartbeats 2000000 in
set_option maxRecDepth 100000 in
theorem law_big (h : TR w A0 c0 A1 c1 A2 c2 s c n) (htb : TB w) (hs : Ev (fun k => stipendlaw10_small.f k s c n x y) false) :
    Calls Tryd.prog 3 #[TA A0 c0 A1 c1 A2 c2 s c n x y] w fun o w' => o = .returned (.bool true) ∧ Below w.heap.size w w' := by
  have hu26 := Tryd.underlying26
  have hu39 := Tryd.underlying39
  have hu34 := Tryd.underlying34
  have hu23 := Tryd.underlying23
  have hu22 := Tryd.underlying22
  have HS_ := AM hs
  have HT := AM h.foot
  have HB := AM (Below.refl w.heap.size w)
  have HTB := AM htb
  clear h htb hs
  go_enter Tryd.func3, Tryd.ntmps3
  go_wp2_with (first
    | ((with_reducible refine gD (N := 1) rfl ?_); refine bE ?hg (N := 1) ?hd (cs := #[.slice A0 s.length c0, .slice A1 c.length c1, .slice A2 n.length c2, .int .i64 x, .int .i64 y]) (t := 26) ?hr ?_; (case hd => rfl); (case hg => rfl); (case hr => first | (go_simp; done) | (go_simp; rfl)); intro g1 hg w1 hbox hb; have BK1 := AM hbox; have n0_ := AM (bT bQ hb); have n1_ := AM (tX HT hb); clear HB HT; have HB := n0_; have HT := n1_; clear n0_ n1_ hb; clear hbox hg; obtain ⟨_, _, _, _, _, _, _, _, _, _⟩ := bX5 BK1.out)
    | (go_at_call 4; (with_reducible refine (keeps_t _).mono ?_); rintro e w2 ⟨rfl, hb⟩; have n0_ := AM (bT bQ hb); have n1_ := AM (tX HT hb); have n2_ := AM (kX BK1 hb); clear HB HT BK1; have HB := n0_; have HT := n1_; have BK1 := n2_; clear n0_ n1_ n2_ hb; obtain ⟨_, _, _, _, _, _, _, _, _, _⟩ := bX5 BK1.out)
    | (go_at_call 5; (with_reducible refine (small_t ?ht HS_.out).mono ?_); (case ht => exact tN HT); rintro e w3 ⟨rfl, hb⟩; have n0_ := AM (bT bQ hb); have n1_ := AM (tX HT hb); have n2_ := AM (kX BK1 hb); clear HB HT BK1; have HB := n0_; have HT := n1_; have BK1 := n2_; clear n0_ n1_ n2_ hb; obtain ⟨_, _, _, _, _, _, _, _, _, _⟩ := bX5 BK1.out))
  go_ret
  exact ⟨rfl, bQ⟩
set_option maxHeartbeats 2000000 in
set_option maxRecDepth 100000 in
theorem law_bad (h : TR w A0 c0 A1 c1 A2 c2 s c n) (htb : TB w) (hs : Ev (fun k => stipendlaw10_small.f k s c n x y) true) {r : Int} (h0 : r ≠ 0) (hc : Ev (fun k => table_Check.f k s c n x y) r) (he : Ev (fun k => keep_Worst.f k s c n x y) (0, 0, [], 0, r)) (hl : Ev (fun k => keep_Lines.f k s c n x y) []) :
    Calls Tryd.prog 3 #[TA A0 c0 A1 c1 A2 c2 s c n x y] w fun o w' => o = .returned (.bool true) ∧ Below w.heap.size w w' := by
  have hu26 := Tryd.underlying26
  have hu39 := Tryd.underlying39
  have hu34 := Tryd.underlying34
  have hu23 := Tryd.underlying23
  have hu22 := Tryd.underlying22
  have hb0 : (r == 0) = false := beq_eq_false_iff_ne.mpr h0
  have hb1 : (r != 0) = true := bne_iff_ne.mpr h0
  have hb2 : (r == r) = true := beq_self_eq_true r
  have HS_ := AM hs
  have HC_ := AM hc
  have HE_ := AM he
  have HL_ := AM hl
  have H0_ := AM h0
  have HT := AM h.foot
  have HB := AM (Below.refl w.heap.size w)
  have HTB := AM htb
  clear h htb hs hc he hl h0
  go_enter Tryd.func3, Tryd.ntmps3
  go_wp2_with (first
    | ((with_reducible refine gD (N := 1) rfl ?_); refine bE ?hg (N := 1) ?hd (cs := #[.slice A0 s.length c0, .slice A1 c.length c1, .slice A2 n.length c2, .int .i64 x, .int .i64 y]) (t := 26) ?hr ?_; (case hd => rfl); (case hg => rfl); (case hr => first | (go_simp; done) | (go_simp; rfl)); intro g1 hg w1 hbox hb; have BK1 := AM hbox; have n0_ := AM (bT bQ hb); have n1_ := AM (tX HT hb); clear HB HT; have HB := n0_; have HT := n1_; clear n0_ n1_ hb; clear hbox hg; obtain ⟨_, _, _, _, _, _, _, _, _, _⟩ := bX5 BK1.out)
    | (go_at_call 4; (with_reducible refine (keeps_t _).mono ?_); rintro e w2 ⟨rfl, hb⟩; have n0_ := AM (bT bQ hb); have n1_ := AM (tX HT hb); have n2_ := AM (kX BK1 hb); clear HB HT BK1; have HB := n0_; have HT := n1_; have BK1 := n2_; clear n0_ n1_ n2_ hb; obtain ⟨_, _, _, _, _, _, _, _, _, _⟩ := bX5 BK1.out)
    | (go_at_call 5; (with_reducible refine (small_t ?ht HS_.out).mono ?_); (case ht => exact tN HT); rintro e w3 ⟨rfl, hb⟩; have n0_ := AM (bT bQ hb); have n1_ := AM (tX HT hb); have n2_ := AM (kX BK1 hb); clear HB HT BK1; have HB := n0_; have HT := n1_; have BK1 := n2_; clear n0_ n1_ n2_ hb; obtain ⟨_, _, _, _, _, _, _, _, _, _⟩ := bX5 BK1.out)
    | (go_at_call 6; (with_reducible refine (cut_bad ?ht HC_.out H0_.out).mono ?_); (case ht => exact tN HT); rintro e w4 ⟨rfl, hb⟩; have n0_ := AM (bT bQ hb); have n1_ := AM (tX HT hb); have n2_ := AM (kX BK1 hb); clear HB HT BK1; have HB := n0_; have HT := n1_; have BK1 := n2_; clear n0_ n1_ n2_ hb; obtain ⟨_, _, _, _, _, _, _, _, _, _⟩ := bX5 BK1.out; have hlt4 := blk_lt BK1.out)
    | (go_at_call 7; (with_reducible refine (room_bad ?ht HE_.out H0_.out).mono ?_); (case ht => exact tN HT); rintro e w5 ⟨rfl, hb⟩; have BK3 := AM (kX (AM (blk_new w4 _)) hb); have n0_ := AM (bT bQ hb); have n1_ := AM (tX HT hb); have n2_ := AM (kX BK1 hb); clear HB HT BK1; have HB := n0_; have HT := n1_; have BK1 := n2_; clear n0_ n1_ n2_ hb; obtain ⟨_, _, _, _, _, _, _, _, _, _⟩ := bX5 BK1.out)
    | (go_at_call 8; (with_reducible refine (lines_t ?ht (tQ HTB.out) HL_.out rfl).mono ?_); (case ht => exact tN HT); rintro e w6 ⟨B6, d6, rfl, hb⟩; have n0_ := AM (bT bQ hb); have n1_ := AM (tX HT hb); have n2_ := AM (kX BK1 hb); have n3_ := AM (kX BK3 hb); clear HB HT BK1 BK3; have HB := n0_; have HT := n1_; have BK1 := n2_; have BK3 := n3_; clear n0_ n1_ n2_ n3_ hb; obtain ⟨_, _, _, _, _, _, _, _, _, _⟩ := bX5 BK1.out)
    | (go_at_call 9; (with_reducible refine (check_t ?ht HC_.out).mono ?_); (case ht => exact tN HT); rintro e w7 ⟨rfl, hb⟩; have n0_ := AM (bT bQ hb); have n1_ := AM (tX HT hb); have n2_ := AM (kX BK1 hb); have n3_ := AM (kX BK3 hb); clear HB HT BK1 BK3; have HB := n0_; have HT := n1_; have BK1 := n2_; have BK3 := n3_; clear n0_ n1_ n2_ n3_ hb; obtain ⟨_, _, _, _, _, _, _, _, _, _⟩ := bX5 BK1.out; obtain ⟨_, _, _, _, _, _, _, _, _, _⟩ := bX5 BK3.out))
  go_ret
  exact ⟨rfl, bQ⟩
set_option maxHeartbeats 2000000 in
set_option maxRecDepth 100000 in
theorem law_limit (h : TR w A0 c0 A1 c1 A2 c2 s c n) (htb : TB w) (hs : Ev (fun k => stipendlaw10_small.f k s c n x y) true) (hc : Ev (fun k => table_Check.f k s c n x y) 0) (hcl : Ev (fun k => table_Clone.f k s c n x y) (s, c, n, x, y)) {sc at_ kept : Int} {ms : List Int} (he : Ev (fun k => keep_Worst.f k s c n x y) (sc, at_, ms, kept, 0)) {l : List ByteArray} (hl : Ev (fun k => keep_Lines.f k s c n x y) l) (hll : l.length = c.length + 2) (hlc : c.length ≤ 1000) (hx0 : 0 ≤ x) (hx1 : x ≤ 10000) (hk : Ev (fun k => keep_Check.f k s c n x y) 0) (h0 : -100000 ≤ kept) (h1 : kept ≤ 100000) (h2 : 500 ≤ kept) (hsc : sc < 0) (h3 : x + (kept - 500) + 1 ≤ 10000) (hk1 : Ev (fun k => keep_Check.f k s c n (x + (kept - 500)) y) 0) (hk2 : Ev (fun k => keep_Check.f k s c n (x + (kept - 500) + 1) y) 100) (hsX : Ev (fun k => table_Same.f k s c n x y s c n x y) true) :
    Calls Tryd.prog 3 #[TA A0 c0 A1 c1 A2 c2 s c n x y] w fun o w' => o = .returned (.bool true) ∧ Below w.heap.size w w' := by
  have hu26 := Tryd.underlying26
  have hu39 := Tryd.underlying39
  have hu34 := Tryd.underlying34
  have hu23 := Tryd.underlying23
  have hu22 := Tryd.underlying22
  have hw0 : wrap64 (kept - 500) = kept - 500 := by unfold wrap64; omega
  have hw1 : wrap64 (((c.length : Nat) : Int) + 2) = ((c.length : Nat) : Int) + 2 := by unfold wrap64; omega
  have hw2 : wrap64 (x + (kept - 500)) = x + (kept - 500) := by unfold wrap64; omega
  have hw3 : wrap64 (x + (kept - 500) + 1) = x + (kept - 500) + 1 := by unfold wrap64; omega
  have he6 : (kept < 500) = False := eq_false (by omega)
  have he7 : (500 ≤ kept) = True := eq_true (by omega)
  have hd1 : decide (0 ≤ kept - 500) = true := decide_eq_true (by omega)
  have hd2 : ((kept - 500) != (kept - 500)) = false := bne_self_eq_false _
  have hd3 : ((((c.length + 2 : Nat) : Int)) != (((c.length : Nat) : Int) + 2)) = false := by simp
  have hd4 : decide (sc < 0) = true := decide_eq_true hsc
  have hd5 : decide (x + (kept - 500) + 1 ≤ 10000) = true := decide_eq_true h3
  have HS_ := AM hs
  have HC_ := AM hc
  have HCL_ := AM hcl
  have HE_ := AM he
  have HL_ := AM hl
  have HLL_ := AM hll
  have HK_ := AM hk
  have H0_ := AM h0
  have H1_ := AM h1
  have H2_ := AM h2
  have HK2_ := AM hk2
  have HK1_ := AM hk1
  have H3_ := AM h3
  have HSC_ := AM hsc
  have HSX_ := AM hsX
  have HT := AM h.foot
  have HB := AM (Below.refl w.heap.size w)
  have HTB := AM htb
  clear h htb hs hc hcl he hl hll hk h0 h1 h2 hk2 hk1 h3 hsc hsX
  go_enter Tryd.func3, Tryd.ntmps3
  go_wp2_with (first
    | ((with_reducible refine gD (N := 1) rfl ?_); refine bE ?hg (N := 1) ?hd (cs := #[.slice A0 s.length c0, .slice A1 c.length c1, .slice A2 n.length c2, .int .i64 x, .int .i64 y]) (t := 26) ?hr ?_; (case hd => rfl); (case hg => rfl); (case hr => first | (go_simp; done) | (go_simp; rfl)); intro g1 hg w1 hbox hb; have BK1 := AM hbox; have n0_ := AM (bT bQ hb); have n1_ := AM (tX HT hb); clear HB HT; have HB := n0_; have HT := n1_; clear n0_ n1_ hb; clear hbox hg; obtain ⟨_, _, _, _, _, _, _, _, _, _⟩ := bX5 BK1.out)
    | (go_at_call 4; (with_reducible refine (keeps_t _).mono ?_); rintro e w2 ⟨rfl, hb⟩; have n0_ := AM (bT bQ hb); have n1_ := AM (tX HT hb); have n2_ := AM (kX BK1 hb); clear HB HT BK1; have HB := n0_; have HT := n1_; have BK1 := n2_; clear n0_ n1_ n2_ hb; obtain ⟨_, _, _, _, _, _, _, _, _, _⟩ := bX5 BK1.out)
    | (go_at_call 5; (with_reducible refine (small_t ?ht HS_.out).mono ?_); (case ht => exact tN HT); rintro e w3 ⟨rfl, hb⟩; have n0_ := AM (bT bQ hb); have n1_ := AM (tX HT hb); have n2_ := AM (kX BK1 hb); clear HB HT BK1; have HB := n0_; have HT := n1_; have BK1 := n2_; clear n0_ n1_ n2_ hb; obtain ⟨_, _, _, _, _, _, _, _, _, _⟩ := bX5 BK1.out)
    | (go_at_call 6; (with_reducible refine (cut_same ?ht HC_.out HCL_.out HE_.out HK_.out H2_.out H1_.out).mono ?_); (case ht => exact tN HT); rintro e w4 ⟨B0, d0, B1, d1, B2, d2, rfl, hu, hb⟩; have HU := AM hu.foot; clear hu; have n0_ := AM (bT bQ hb); have n1_ := AM (tX HT hb); have n2_ := AM (kX BK1 hb); clear HB HT BK1; have HB := n0_; have HT := n1_; have BK1 := n2_; clear n0_ n1_ n2_ hb; obtain ⟨_, _, _, _, _, _, _, _, _, _⟩ := bX5 BK1.out; have hl4_1 := blk_lt BK1.out)
    | (go_at_call 7; (with_reducible refine (room_ok ?ht HE_.out H0_.out H1_.out).mono ?_); (case ht => exact tN HT); rintro e w5 ⟨rfl, hb⟩; have BK3 := AM (kX (AM (blk_new w4 _)) hb); have n0_ := AM (bT bQ hb); have n1_ := AM (tX HT hb); have n2_ := AM (tX HU hb); have n3_ := AM (kX BK1 hb); clear HB HT HU BK1; have HB := n0_; have HT := n1_; have HU := n2_; have BK1 := n3_; clear n0_ n1_ n2_ n3_ hb; obtain ⟨_, _, _, _, _, _, _, _, _, _⟩ := bX5 BK1.out)
    | (go_at_call 8; (with_reducible refine (lines_t ?ht (tQ HTB.out) HL_.out HLL_.out).mono ?_); (case ht => exact tN HT); rintro e w6 ⟨B6, d6, rfl, hb⟩; have n0_ := AM (bT bQ hb); have n1_ := AM (tX HT hb); have n2_ := AM (tX HU hb); have n3_ := AM (kX BK1 hb); have n4_ := AM (kX BK3 hb); clear HB HT HU BK1 BK3; have HB := n0_; have HT := n1_; have HU := n2_; have BK1 := n3_; have BK3 := n4_; clear n0_ n1_ n2_ n3_ n4_ hb; obtain ⟨_, _, _, _, _, _, _, _, _, _⟩ := bX5 BK1.out)
    | (go_at_call 9; (with_reducible refine (check_t ?ht HC_.out).mono ?_); (case ht => exact tN HT); rintro e w7 ⟨rfl, hb⟩; have n0_ := AM (bT bQ hb); have n1_ := AM (tX HT hb); have n2_ := AM (tX HU hb); have n3_ := AM (kX BK1 hb); have n4_ := AM (kX BK3 hb); clear HB HT HU BK1 BK3; have HB := n0_; have HT := n1_; have HU := n2_; have BK1 := n3_; have BK3 := n4_; clear n0_ n1_ n2_ n3_ n4_ hb; obtain ⟨_, _, _, _, _, _, _, _, _, _⟩ := bX5 BK1.out)
    | (go_at_call 10; (with_reducible refine (worst_t ?ht HE_.out).mono ?_); (case ht => exact tN HT); rintro e w8 ⟨B8, d8, rfl, hl8, ho, hb⟩; have n0_ := AM (bT bQ hb); have n1_ := AM (tX HT hb); have n2_ := AM (tX HU hb); have n3_ := AM (kX BK1 hb); have n4_ := AM (kX BK3 hb); clear HB HT HU BK1 BK3; have HB := n0_; have HT := n1_; have HU := n2_; have BK1 := n3_; have BK3 := n4_; clear n0_ n1_ n2_ n3_ n4_ hb; clear ho hl8; obtain ⟨_, _, _, _, _, _, _, _, _, _⟩ := bX5 BK1.out; have hl8_1 := blk_lt BK1.out; have hl8_3 := blk_lt BK3.out)
    | (go_at_call 11; (with_reducible refine (kcheck_t ?ht HK_.out).mono ?_); (case ht => exact tN HT); rintro e w9 ⟨rfl, hb⟩; have BK9 := AM (kX (AM (blk_new w8 _)) hb); have n0_ := AM (bT bQ hb); have n1_ := AM (tX HT hb); have n2_ := AM (tX HU hb); have n3_ := AM (kX BK1 hb); have n4_ := AM (kX BK3 hb); clear HB HT HU BK1 BK3; have HB := n0_; have HT := n1_; have HU := n2_; have BK1 := n3_; have BK3 := n4_; clear n0_ n1_ n2_ n3_ n4_ hb; obtain ⟨_, _, _, _, _, _, _, _, _, _⟩ := bX5 BK1.out; obtain ⟨_, _, _, _, _, _, _, _⟩ := bX4 BK9.out)
    | (go_at_call 12; (with_reducible refine (clone_t (b := w.heap.size) ?ht HCL_.out).mono ?_); (case ht => exact HT.out.below bR); rintro e w10 hcl; obtain ⟨⟨M0, m0, M1, m1, M2, m2, rfl, hf⟩, hb⟩ := hcl; have HM := AM hf.bound; clear hf; have n0_ := AM (bT bQ hb); have n1_ := AM (tX HT hb); have n2_ := AM (tX HU hb); have n3_ := AM (kX BK1 hb); have n4_ := AM (kX BK3 hb); have n5_ := AM (kX BK9 hb); clear HB HT HU BK1 BK3 BK9; have HB := n0_; have HT := n1_; have HU := n2_; have BK1 := n3_; have BK3 := n4_; have BK9 := n5_; clear n0_ n1_ n2_ n3_ n4_ n5_ hb; obtain ⟨_, _, _, _, _, _, _, _, _, _⟩ := bX5 BK1.out; obtain ⟨_, _, _, _, _, _, _, _, _, _⟩ := bX5 BK3.out; obtain ⟨_, _, _, _, _, _, _, _⟩ := bX4 BK9.out; have hl10_1 := blk_lt BK1.out; have hl10_3 := blk_lt BK3.out; have hl10_9 := blk_lt BK9.out)
    | (go_at_call 11; (with_reducible refine (kcheck_t ?ht HK1_.out).mono ?_); (case ht => exact tN HM); rintro e w11 ⟨rfl, hb⟩; have GE11 := AM (bZ HB.out); have LA := AM (blk_lt BK1.out); have LB := AM (blk_lt BK3.out); have LC := AM (blk_lt BK9.out); have BK11 := AM (kX (AM (blk_new w10 _)) hb); have n0_ := AM (bT bQ hb); have n1_ := AM (tX HT hb); have n2_ := AM (tX HU hb); have n3_ := AM (tX HM hb); have n4_ := AM (kX BK1 hb); have n5_ := AM (kX BK3 hb); have n6_ := AM (kX BK9 hb); clear HB HT HU HM BK1 BK3 BK9; have HB := n0_; have HT := n1_; have HU := n2_; have HM := n3_; have BK1 := n4_; have BK3 := n5_; have BK9 := n6_; clear n0_ n1_ n2_ n3_ n4_ n5_ n6_ hb; obtain ⟨_, _, _, _, _, _, _, _, _, _⟩ := bX5 BK1.out; obtain ⟨_, _, _, _, _, _, _, _, _, _⟩ := bX5 BK3.out; obtain ⟨_, _, _, _, _, _, _, _, _, _⟩ := bX5 BK11.out; obtain ⟨_, _, _, _, _, _, _, _⟩ := bX4 BK9.out)
    | ((with_reducible refine gS (t := 3) (p := 112) rfl ?_); refine sE (t := 3) (p := 112) (v := ?vo) (w1 := w11.setCell ⟨w10.heap.size, 3, none⟩ (.int .i64 (x + (kept - 500) + 1))) ?hg ?ho ?hn ?hr ?_; (case ho => rfl); (case hg => rfl); (case hn => rfl); (case hr => first | (go_simp; done) | (go_simp; rfl)); intro w12 hw6; have n0_ := AM ((by rw [hw6]; exact bS HB.out GE11.out : Below w.heap.size w w12)); have n1_ := AM (HT.out.put hw6 (fun k hk => by have := GE11.out; omega)); have n2_ := AM (HU.out.put hw6 (fun k hk => by have := LB.out; omega)); have n3_ := AM (HM.out.put hw6 (fun k hk => by have := LB.out; omega)); have n4_ := AM ((congrArg (fun W_ : World => W_.heap[g1]?) hw6).trans (kF BK1.out (Nat.ne_of_lt LA.out) _)); have n5_ := AM ((congrArg (fun W_ : World => W_.heap[w4.heap.size]?) hw6).trans (kF BK3.out (Nat.ne_of_lt LB.out) _)); have n6_ := AM ((congrArg (fun W_ : World => W_.heap[w8.heap.size]?) hw6).trans (kF BK9.out (Nat.ne_of_lt LC.out) _)); have n7_ := AM ((by rw [hw6]; exact kP BK11.out 3 _ rfl : w12.heap[w10.heap.size]? = some (.cells #[.slice M0 s.length m0, .slice M1 c.length m1, .slice M2 n.length m2, .int .i64 (x + (kept - 500) + 1), .int .i64 y] 26 (0, 0)))); clear HB HT HU HM BK1 BK3 BK9 BK11; have HB := n0_; have HT := n1_; have HU := n2_; have HM := n3_; have BK1 := n4_; have BK3 := n5_; have BK9 := n6_; have BK11 := n7_; clear n0_ n1_ n2_ n3_ n4_ n5_ n6_ n7_ hw6; obtain ⟨_, _, _, _, _, _, _, _, _, _⟩ := bX5 BK1.out; obtain ⟨_, _, _, _, _, _, _, _, _, _⟩ := bX5 BK3.out; obtain ⟨_, _, _, _, _, _, _, _, _, _⟩ := bX5 BK11.out; obtain ⟨_, _, _, _, _, _, _, _⟩ := bX4 BK9.out)
    | (go_at_call 11; (with_reducible refine (kcheck_t ?ht HK2_.out).mono ?_); (case ht => exact tN HM); rintro e w13 ⟨rfl, hb⟩; have n0_ := AM (bT bQ hb); have n1_ := AM (tX HT hb); have n2_ := AM (tX HU hb); have n3_ := AM (tX HM hb); have n4_ := AM (kX BK1 hb); have n5_ := AM (kX BK3 hb); have n6_ := AM (kX BK9 hb); have n7_ := AM (kX BK11 hb); clear HB HT HU HM BK1 BK3 BK9 BK11; have HB := n0_; have HT := n1_; have HU := n2_; have HM := n3_; have BK1 := n4_; have BK3 := n5_; have BK9 := n6_; have BK11 := n7_; clear n0_ n1_ n2_ n3_ n4_ n5_ n6_ n7_ hb; obtain ⟨_, _, _, _, _, _, _, _, _, _⟩ := bX5 BK1.out; obtain ⟨_, _, _, _, _, _, _, _, _, _⟩ := bX5 BK3.out; obtain ⟨_, _, _, _, _, _, _, _, _, _⟩ := bX5 BK11.out; obtain ⟨_, _, _, _, _, _, _, _⟩ := bX4 BK9.out)
    | (go_at_call 13; (with_reducible refine (same_t ?ht ?hu HSX_.out).mono ?_); (case ht => exact tN HU); (case hu => exact tN HT); rintro e w14 ⟨rfl, hb⟩; have n0_ := AM (bT bQ hb); clear HB; have HB := n0_; clear n0_ hb))
  go_ret
  exact ⟨rfl, bQ⟩
set_option maxHeartbeats 2000000 in
set_option maxRecDepth 100000 in
theorem law_rate (h : TR w A0 c0 A1 c1 A2 c2 s c n) (htb : TB w) (hs : Ev (fun k => stipendlaw10_small.f k s c n x y) true) (hc : Ev (fun k => table_Check.f k s c n x y) 0) (hcl : Ev (fun k => table_Clone.f k s c n x y) (s, c, n, x, y)) {sc at_ kept : Int} {ms : List Int} (he : Ev (fun k => keep_Worst.f k s c n x y) (sc, at_, ms, kept, 0)) {l : List ByteArray} (hl : Ev (fun k => keep_Lines.f k s c n x y) l) (hll : l.length = c.length + 2) (hlc : c.length ≤ 1000) (hx0 : 0 ≤ x) (hx1 : x ≤ 10000) (hk : Ev (fun k => keep_Check.f k s c n x y) 0) (h0 : -100000 ≤ kept) (h1 : kept ≤ 100000) (h2 : 500 ≤ kept) (hsc : 0 ≤ sc) (hsX : Ev (fun k => table_Same.f k s c n x y s c n x y) true) :
    Calls Tryd.prog 3 #[TA A0 c0 A1 c1 A2 c2 s c n x y] w fun o w' => o = .returned (.bool true) ∧ Below w.heap.size w w' := by
  have hu26 := Tryd.underlying26
  have hu39 := Tryd.underlying39
  have hu34 := Tryd.underlying34
  have hu23 := Tryd.underlying23
  have hu22 := Tryd.underlying22
  have hw0 : wrap64 (kept - 500) = kept - 500 := by unfold wrap64; omega
  have hw1 : wrap64 (((c.length : Nat) : Int) + 2) = ((c.length : Nat) : Int) + 2 := by unfold wrap64; omega
  have he6 : (kept < 500) = False := eq_false (by omega)
  have he7 : (500 ≤ kept) = True := eq_true (by omega)
  have hd1 : decide (0 ≤ kept - 500) = true := decide_eq_true (by omega)
  have hd2 : ((kept - 500) != (kept - 500)) = false := bne_self_eq_false _
  have hd3 : ((((c.length + 2 : Nat) : Int)) != (((c.length : Nat) : Int) + 2)) = false := by simp
  have hd4 : decide (sc < 0) = false := decide_eq_false (by omega)
  have HS_ := AM hs
  have HC_ := AM hc
  have HCL_ := AM hcl
  have HE_ := AM he
  have HL_ := AM hl
  have HLL_ := AM hll
  have HK_ := AM hk
  have H0_ := AM h0
  have H1_ := AM h1
  have H2_ := AM h2
  have HSC_ := AM hsc
  have HSX_ := AM hsX
  have HT := AM h.foot
  have HB := AM (Below.refl w.heap.size w)
  have HTB := AM htb
  clear h htb hs hc hcl he hl hll hk h0 h1 h2 hsc hsX
  go_enter Tryd.func3, Tryd.ntmps3
  go_wp2_with (first
    | ((with_reducible refine gD (N := 1) rfl ?_); refine bE ?hg (N := 1) ?hd (cs := #[.slice A0 s.length c0, .slice A1 c.length c1, .slice A2 n.length c2, .int .i64 x, .int .i64 y]) (t := 26) ?hr ?_; (case hd => rfl); (case hg => rfl); (case hr => first | (go_simp; done) | (go_simp; rfl)); intro g1 hg w1 hbox hb; have BK1 := AM hbox; have n0_ := AM (bT bQ hb); have n1_ := AM (tX HT hb); clear HB HT; have HB := n0_; have HT := n1_; clear n0_ n1_ hb; clear hbox hg; obtain ⟨_, _, _, _, _, _, _, _, _, _⟩ := bX5 BK1.out)
    | (go_at_call 4; (with_reducible refine (keeps_t _).mono ?_); rintro e w2 ⟨rfl, hb⟩; have n0_ := AM (bT bQ hb); have n1_ := AM (tX HT hb); have n2_ := AM (kX BK1 hb); clear HB HT BK1; have HB := n0_; have HT := n1_; have BK1 := n2_; clear n0_ n1_ n2_ hb; obtain ⟨_, _, _, _, _, _, _, _, _, _⟩ := bX5 BK1.out)
    | (go_at_call 5; (with_reducible refine (small_t ?ht HS_.out).mono ?_); (case ht => exact tN HT); rintro e w3 ⟨rfl, hb⟩; have n0_ := AM (bT bQ hb); have n1_ := AM (tX HT hb); have n2_ := AM (kX BK1 hb); clear HB HT BK1; have HB := n0_; have HT := n1_; have BK1 := n2_; clear n0_ n1_ n2_ hb; obtain ⟨_, _, _, _, _, _, _, _, _, _⟩ := bX5 BK1.out)
    | (go_at_call 6; (with_reducible refine (cut_same ?ht HC_.out HCL_.out HE_.out HK_.out H2_.out H1_.out).mono ?_); (case ht => exact tN HT); rintro e w4 ⟨B0, d0, B1, d1, B2, d2, rfl, hu, hb⟩; have HU := AM hu.foot; clear hu; have n0_ := AM (bT bQ hb); have n1_ := AM (tX HT hb); have n2_ := AM (kX BK1 hb); clear HB HT BK1; have HB := n0_; have HT := n1_; have BK1 := n2_; clear n0_ n1_ n2_ hb; obtain ⟨_, _, _, _, _, _, _, _, _, _⟩ := bX5 BK1.out; have hl4_1 := blk_lt BK1.out)
    | (go_at_call 7; (with_reducible refine (room_ok ?ht HE_.out H0_.out H1_.out).mono ?_); (case ht => exact tN HT); rintro e w5 ⟨rfl, hb⟩; have BK3 := AM (kX (AM (blk_new w4 _)) hb); have n0_ := AM (bT bQ hb); have n1_ := AM (tX HT hb); have n2_ := AM (tX HU hb); have n3_ := AM (kX BK1 hb); clear HB HT HU BK1; have HB := n0_; have HT := n1_; have HU := n2_; have BK1 := n3_; clear n0_ n1_ n2_ n3_ hb; obtain ⟨_, _, _, _, _, _, _, _, _, _⟩ := bX5 BK1.out)
    | (go_at_call 8; (with_reducible refine (lines_t ?ht (tQ HTB.out) HL_.out HLL_.out).mono ?_); (case ht => exact tN HT); rintro e w6 ⟨B6, d6, rfl, hb⟩; have n0_ := AM (bT bQ hb); have n1_ := AM (tX HT hb); have n2_ := AM (tX HU hb); have n3_ := AM (kX BK1 hb); have n4_ := AM (kX BK3 hb); clear HB HT HU BK1 BK3; have HB := n0_; have HT := n1_; have HU := n2_; have BK1 := n3_; have BK3 := n4_; clear n0_ n1_ n2_ n3_ n4_ hb; obtain ⟨_, _, _, _, _, _, _, _, _, _⟩ := bX5 BK1.out)
    | (go_at_call 9; (with_reducible refine (check_t ?ht HC_.out).mono ?_); (case ht => exact tN HT); rintro e w7 ⟨rfl, hb⟩; have n0_ := AM (bT bQ hb); have n1_ := AM (tX HT hb); have n2_ := AM (tX HU hb); have n3_ := AM (kX BK1 hb); have n4_ := AM (kX BK3 hb); clear HB HT HU BK1 BK3; have HB := n0_; have HT := n1_; have HU := n2_; have BK1 := n3_; have BK3 := n4_; clear n0_ n1_ n2_ n3_ n4_ hb; obtain ⟨_, _, _, _, _, _, _, _, _, _⟩ := bX5 BK1.out)
    | (go_at_call 10; (with_reducible refine (worst_t ?ht HE_.out).mono ?_); (case ht => exact tN HT); rintro e w8 ⟨B8, d8, rfl, hl8, ho, hb⟩; have n0_ := AM (bT bQ hb); have n1_ := AM (tX HT hb); have n2_ := AM (tX HU hb); have n3_ := AM (kX BK1 hb); have n4_ := AM (kX BK3 hb); clear HB HT HU BK1 BK3; have HB := n0_; have HT := n1_; have HU := n2_; have BK1 := n3_; have BK3 := n4_; clear n0_ n1_ n2_ n3_ n4_ hb; clear ho hl8; obtain ⟨_, _, _, _, _, _, _, _, _, _⟩ := bX5 BK1.out; have hl8_1 := blk_lt BK1.out; have hl8_3 := blk_lt BK3.out)
    | (go_at_call 11; (with_reducible refine (kcheck_t ?ht HK_.out).mono ?_); (case ht => exact tN HT); rintro e w9 ⟨rfl, hb⟩; have BK9 := AM (kX (AM (blk_new w8 _)) hb); have n0_ := AM (bT bQ hb); have n1_ := AM (tX HT hb); have n2_ := AM (tX HU hb); have n3_ := AM (kX BK1 hb); have n4_ := AM (kX BK3 hb); clear HB HT HU BK1 BK3; have HB := n0_; have HT := n1_; have HU := n2_; have BK1 := n3_; have BK3 := n4_; clear n0_ n1_ n2_ n3_ n4_ hb; obtain ⟨_, _, _, _, _, _, _, _, _, _⟩ := bX5 BK1.out; obtain ⟨_, _, _, _, _, _, _, _⟩ := bX4 BK9.out)
    | (go_at_call 12; (with_reducible refine (clone_t (b := w.heap.size) ?ht HCL_.out).mono ?_); (case ht => exact HT.out.below bR); rintro e w10 hcl; obtain ⟨⟨M0, m0, M1, m1, M2, m2, rfl, hf⟩, hb⟩ := hcl; have HM := AM hf.bound; clear hf; have n0_ := AM (bT bQ hb); have n1_ := AM (tX HT hb); have n2_ := AM (tX HU hb); have n3_ := AM (kX BK1 hb); have n4_ := AM (kX BK3 hb); have n5_ := AM (kX BK9 hb); clear HB HT HU BK1 BK3 BK9; have HB := n0_; have HT := n1_; have HU := n2_; have BK1 := n3_; have BK3 := n4_; have BK9 := n5_; clear n0_ n1_ n2_ n3_ n4_ n5_ hb; obtain ⟨_, _, _, _, _, _, _, _, _, _⟩ := bX5 BK1.out; obtain ⟨_, _, _, _, _, _, _, _, _, _⟩ := bX5 BK3.out; obtain ⟨_, _, _, _, _, _, _, _⟩ := bX4 BK9.out; have hl10_1 := blk_lt BK1.out; have hl10_3 := blk_lt BK3.out; have hl10_9 := blk_lt BK9.out)
    | (go_at_call 13; (with_reducible refine (same_t ?ht ?hu HSX_.out).mono ?_); (case ht => exact tN HU); (case hu => exact tN HT); rintro e w14 ⟨rfl, hb⟩; have n0_ := AM (bT bQ hb); clear HB; have HB := n0_; clear n0_ hb))
  go_ret
  exact ⟨rfl, bQ⟩
set_option maxHeartbeats 2000000 in
set_option maxRecDepth 100000 in
theorem law_cut (h : TR w A0 c0 A1 c1 A2 c2 s c n) (htb : TB w) (hs : Ev (fun k => stipendlaw10_small.f k s c n x y) true) (hc : Ev (fun k => table_Check.f k s c n x y) 0) (hcl : Ev (fun k => table_Clone.f k s c n x y) (s, c, n, x, y)) {sc at_ kept : Int} {ms : List Int} (he : Ev (fun k => keep_Worst.f k s c n x y) (sc, at_, ms, kept, 0)) {l : List ByteArray} (hl : Ev (fun k => keep_Lines.f k s c n x y) l) (hll : l.length = c.length + 2) (hlc : c.length ≤ 1000) (hx0 : 0 ≤ x) (hx1 : x ≤ 10000) (hk : Ev (fun k => keep_Check.f k s c n x y) 100) (h0 : -100000 ≤ kept) (h1 : kept ≤ 100000) (h2 : kept < 500) {X : Int} (hX : (if 0 < x + (kept - 500) then x + (kept - 500) else 0) = X) (hkX : Ev (fun k => keep_Check.f k s c n X y) 0) (hX0 : 0 ≤ X) (hX1 : X < x) (hsX : Ev (fun k => table_Same.f k s c n X y s c n X y) true) (hk2 : Ev (fun k => keep_Check.f k s c n (X + 1) y) 100) :
    Calls Tryd.prog 3 #[TA A0 c0 A1 c1 A2 c2 s c n x y] w fun o w' => o = .returned (.bool true) ∧ Below w.heap.size w w' := by
  have hu26 := Tryd.underlying26
  have hu39 := Tryd.underlying39
  have hu34 := Tryd.underlying34
  have hu23 := Tryd.underlying23
  have hu22 := Tryd.underlying22
  have HX0x := AM hx0
  have HX1x := AM hx1
  have hw0 : wrap64 (kept - 500) = kept - 500 := by unfold wrap64; omega
  have hw1 : wrap64 (((c.length : Nat) : Int) + 2) = ((c.length : Nat) : Int) + 2 := by unfold wrap64; omega
  have hw2 : wrap64 (X + 1) = X + 1 := by unfold wrap64; omega
  have he6 : (kept < 500) = True := eq_true (by omega)
  have he7 : (500 ≤ kept) = False := eq_false (by omega)
  have hd1 : decide (0 ≤ kept - 500) = false := decide_eq_false (by omega)
  have hd2 : ((kept - 500) != (kept - 500)) = false := bne_self_eq_false _
  have hd3 : ((((c.length + 2 : Nat) : Int)) != (((c.length : Nat) : Int) + 2)) = false := by simp
  have hd4 : decide (x ≤ X) = false := decide_eq_false (by omega)
  have HS_ := AM hs
  have HC_ := AM hc
  have HCL_ := AM hcl
  have HE_ := AM he
  have HL_ := AM hl
  have HLL_ := AM hll
  have HK_ := AM hk
  have H0_ := AM h0
  have H1_ := AM h1
  have H2_ := AM h2
  have HK2_ := AM hk2
  have HX_ := AM hX
  have HKX_ := AM hkX
  have HX0_ := AM hX0
  have HX1_ := AM hX1
  have HSX_ := AM hsX
  have HT := AM h.foot
  have HB := AM (Below.refl w.heap.size w)
  have HTB := AM htb
  clear h htb hs hc hcl he hl hll hk h0 h1 h2 hk2 hX hkX hX0 hX1 hsX
  go_enter Tryd.func3, Tryd.ntmps3
  go_wp2_with (first
    | ((with_reducible refine gD (N := 1) rfl ?_); refine bE ?hg (N := 1) ?hd (cs := #[.slice A0 s.length c0, .slice A1 c.length c1, .slice A2 n.length c2, .int .i64 x, .int .i64 y]) (t := 26) ?hr ?_; (case hd => rfl); (case hg => rfl); (case hr => first | (go_simp; done) | (go_simp; rfl)); intro g1 hg w1 hbox hb; have BK1 := AM hbox; have n0_ := AM (bT bQ hb); have n1_ := AM (tX HT hb); clear HB HT; have HB := n0_; have HT := n1_; clear n0_ n1_ hb; clear hbox hg; obtain ⟨_, _, _, _, _, _, _, _, _, _⟩ := bX5 BK1.out)
    | (go_at_call 4; (with_reducible refine (keeps_t _).mono ?_); rintro e w2 ⟨rfl, hb⟩; have n0_ := AM (bT bQ hb); have n1_ := AM (tX HT hb); have n2_ := AM (kX BK1 hb); clear HB HT BK1; have HB := n0_; have HT := n1_; have BK1 := n2_; clear n0_ n1_ n2_ hb; obtain ⟨_, _, _, _, _, _, _, _, _, _⟩ := bX5 BK1.out)
    | (go_at_call 5; (with_reducible refine (small_t ?ht HS_.out).mono ?_); (case ht => exact tN HT); rintro e w3 ⟨rfl, hb⟩; have n0_ := AM (bT bQ hb); have n1_ := AM (tX HT hb); have n2_ := AM (kX BK1 hb); clear HB HT BK1; have HB := n0_; have HT := n1_; have BK1 := n2_; clear n0_ n1_ n2_ hb; obtain ⟨_, _, _, _, _, _, _, _, _, _⟩ := bX5 BK1.out)
    | (go_at_call 6; (with_reducible refine (cut_less ?ht HC_.out HCL_.out HE_.out HX_.out HKX_.out H0_.out H2_.out HX0x.out HX1x.out).mono ?_); (case ht => exact tN HT); rintro e w4 ⟨B0, d0, B1, d1, B2, d2, rfl, hu, hb⟩; have HU := AM hu.foot; clear hu; have n0_ := AM (bT bQ hb); have n1_ := AM (tX HT hb); have n2_ := AM (kX BK1 hb); clear HB HT BK1; have HB := n0_; have HT := n1_; have BK1 := n2_; clear n0_ n1_ n2_ hb; obtain ⟨_, _, _, _, _, _, _, _, _, _⟩ := bX5 BK1.out; have hl4_1 := blk_lt BK1.out)
    | (go_at_call 7; (with_reducible refine (room_ok ?ht HE_.out H0_.out H1_.out).mono ?_); (case ht => exact tN HT); rintro e w5 ⟨rfl, hb⟩; have BK3 := AM (kX (AM (blk_new w4 _)) hb); have n0_ := AM (bT bQ hb); have n1_ := AM (tX HT hb); have n2_ := AM (tX HU hb); have n3_ := AM (kX BK1 hb); clear HB HT HU BK1; have HB := n0_; have HT := n1_; have HU := n2_; have BK1 := n3_; clear n0_ n1_ n2_ n3_ hb; obtain ⟨_, _, _, _, _, _, _, _, _, _⟩ := bX5 BK1.out)
    | (go_at_call 8; (with_reducible refine (lines_t ?ht (tQ HTB.out) HL_.out HLL_.out).mono ?_); (case ht => exact tN HT); rintro e w6 ⟨B6, d6, rfl, hb⟩; have n0_ := AM (bT bQ hb); have n1_ := AM (tX HT hb); have n2_ := AM (tX HU hb); have n3_ := AM (kX BK1 hb); have n4_ := AM (kX BK3 hb); clear HB HT HU BK1 BK3; have HB := n0_; have HT := n1_; have HU := n2_; have BK1 := n3_; have BK3 := n4_; clear n0_ n1_ n2_ n3_ n4_ hb; obtain ⟨_, _, _, _, _, _, _, _, _, _⟩ := bX5 BK1.out)
    | (go_at_call 9; (with_reducible refine (check_t ?ht HC_.out).mono ?_); (case ht => exact tN HT); rintro e w7 ⟨rfl, hb⟩; have n0_ := AM (bT bQ hb); have n1_ := AM (tX HT hb); have n2_ := AM (tX HU hb); have n3_ := AM (kX BK1 hb); have n4_ := AM (kX BK3 hb); clear HB HT HU BK1 BK3; have HB := n0_; have HT := n1_; have HU := n2_; have BK1 := n3_; have BK3 := n4_; clear n0_ n1_ n2_ n3_ n4_ hb; obtain ⟨_, _, _, _, _, _, _, _, _, _⟩ := bX5 BK1.out)
    | (go_at_call 10; (with_reducible refine (worst_t ?ht HE_.out).mono ?_); (case ht => exact tN HT); rintro e w8 ⟨B8, d8, rfl, hl8, ho, hb⟩; have n0_ := AM (bT bQ hb); have n1_ := AM (tX HT hb); have n2_ := AM (tX HU hb); have n3_ := AM (kX BK1 hb); have n4_ := AM (kX BK3 hb); clear HB HT HU BK1 BK3; have HB := n0_; have HT := n1_; have HU := n2_; have BK1 := n3_; have BK3 := n4_; clear n0_ n1_ n2_ n3_ n4_ hb; clear ho hl8; obtain ⟨_, _, _, _, _, _, _, _, _, _⟩ := bX5 BK1.out; have hl8_1 := blk_lt BK1.out; have hl8_3 := blk_lt BK3.out)
    | (go_at_call 11; (with_reducible refine (kcheck_t ?ht HK_.out).mono ?_); (case ht => exact tN HT); rintro e w9 ⟨rfl, hb⟩; have BK9 := AM (kX (AM (blk_new w8 _)) hb); have n0_ := AM (bT bQ hb); have n1_ := AM (tX HT hb); have n2_ := AM (tX HU hb); have n3_ := AM (kX BK1 hb); have n4_ := AM (kX BK3 hb); clear HB HT HU BK1 BK3; have HB := n0_; have HT := n1_; have HU := n2_; have BK1 := n3_; have BK3 := n4_; clear n0_ n1_ n2_ n3_ n4_ hb; obtain ⟨_, _, _, _, _, _, _, _, _, _⟩ := bX5 BK1.out; obtain ⟨_, _, _, _, _, _, _, _⟩ := bX4 BK9.out)
    | (go_at_call 12; (with_reducible refine (clone_t (b := w.heap.size) ?ht HCL_.out).mono ?_); (case ht => exact HT.out.below bR); rintro e w13 hcl; have hmx := HM; obtain ⟨⟨N0, n0, N1, n1, N2, n2, rfl, hf⟩, hb⟩ := hcl; have HN := AM hf.bound; clear hf hmx; have n0_ := AM (bT bQ hb); have n1_ := AM (tX HT hb); have n2_ := AM (tX HU hb); have n3_ := AM (kX BK1 hb); have n4_ := AM (kX BK3 hb); clear HB HT HU BK1 BK3; have HB := n0_; have HT := n1_; have HU := n2_; have BK1 := n3_; have BK3 := n4_; clear n0_ n1_ n2_ n3_ n4_ hb; clear BK9 HM; obtain ⟨_, _, _, _, _, _, _, _, _, _⟩ := bX5 BK1.out; obtain ⟨_, _, _, _, _, _, _, _, _, _⟩ := bX5 BK3.out; have hl13_1 := blk_lt BK1.out; have hl13_3 := blk_lt BK3.out)
    | (go_at_call 12; (with_reducible refine (clone_t (b := w.heap.size) ?ht HCL_.out).mono ?_); (case ht => exact HT.out.below bR); rintro e w10 hcl; obtain ⟨⟨M0, m0, M1, m1, M2, m2, rfl, hf⟩, hb⟩ := hcl; have HM := AM hf.bound; clear hf; have n0_ := AM (bT bQ hb); have n1_ := AM (tX HT hb); have n2_ := AM (tX HU hb); have n3_ := AM (kX BK1 hb); have n4_ := AM (kX BK3 hb); have n5_ := AM (kX BK9 hb); clear HB HT HU BK1 BK3 BK9; have HB := n0_; have HT := n1_; have HU := n2_; have BK1 := n3_; have BK3 := n4_; have BK9 := n5_; clear n0_ n1_ n2_ n3_ n4_ n5_ hb; obtain ⟨_, _, _, _, _, _, _, _, _, _⟩ := bX5 BK1.out; obtain ⟨_, _, _, _, _, _, _, _, _, _⟩ := bX5 BK3.out; obtain ⟨_, _, _, _, _, _, _, _⟩ := bX4 BK9.out; have hl10_1 := blk_lt BK1.out; have hl10_3 := blk_lt BK3.out; have hl10_9 := blk_lt BK9.out)
    | (go_at_call 13; (with_reducible refine (same_t ?ht ?hu HSX_.out).mono ?_); (case ht => exact tN HU); (case hu => exact tN HN); rintro e w14 ⟨rfl, hb⟩; have GE12 := AM (bZ HB.out); have BK12 := AM (kX (AM (blk_new w13 _)) hb); have n0_ := AM (bT bQ hb); have n1_ := AM (tX HU hb); have n2_ := AM (tX HN hb); have n3_ := AM (kX BK1 hb); have n4_ := AM (kX BK3 hb); clear HB HU HN BK1 BK3; have HB := n0_; have HU := n1_; have HN := n2_; have BK1 := n3_; have BK3 := n4_; clear n0_ n1_ n2_ n3_ n4_ hb; obtain ⟨_, _, _, _, _, _, _, _, _, _⟩ := bX5 BK1.out; obtain ⟨_, _, _, _, _, _, _, _, _, _⟩ := bX5 BK3.out; obtain ⟨_, _, _, _, _, _, _, _, _, _⟩ := bX5 BK12.out)
    | (go_at_call 11; (with_reducible refine (kcheck_t ?ht HKX_.out).mono ?_); (case ht => exact tN HU); rintro e w15 ⟨rfl, hb⟩; have n0_ := AM (bT bQ hb); have n1_ := AM (tX HN hb); have n2_ := AM (kX BK1 hb); have n3_ := AM (kX BK3 hb); have n4_ := AM (kX BK12 hb); clear HB HN BK1 BK3 BK12; have HB := n0_; have HN := n1_; have BK1 := n2_; have BK3 := n3_; have BK12 := n4_; clear n0_ n1_ n2_ n3_ n4_ hb; obtain ⟨_, _, _, _, _, _, _, _, _, _⟩ := bX5 BK1.out; obtain ⟨_, _, _, _, _, _, _, _, _, _⟩ := bX5 BK3.out; obtain ⟨_, _, _, _, _, _, _, _, _, _⟩ := bX5 BK12.out)
    | ((with_reducible refine gS (t := 3) (p := 165) rfl ?_); refine sE (t := 3) (p := 165) (v := ?vo) (w1 := w15.setCell ⟨w13.heap.size, 3, none⟩ (.int .i64 (X + 1))) ?hg ?ho ?hn ?hr ?_; (case ho => rfl); (case hg => rfl); (case hn => rfl); (case hr => first | (go_simp; done) | (go_simp; rfl)); intro w16 hw6; have n0_ := AM ((by rw [hw6]; exact bS HB.out GE12.out : Below w.heap.size w w16)); have n1_ := AM (HN.out.put hw6 (fun k hk => by skip; omega)); have n2_ := AM ((by rw [hw6]; exact kP BK12.out 3 _ rfl : w16.heap[w13.heap.size]? = some (.cells #[.slice N0 s.length n0, .slice N1 c.length n1, .slice N2 n.length n2, .int .i64 (X + 1), .int .i64 y] 26 (0, 0)))); clear HB HN BK12; have HB := n0_; have HN := n1_; have BK12 := n2_; clear n0_ n1_ n2_ hw6; obtain ⟨_, _, _, _, _, _, _, _, _, _⟩ := bX5 BK12.out)
    | (go_at_call 11; (with_reducible refine (kcheck_t ?ht HK2_.out).mono ?_); (case ht => exact tN HN); rintro e w17 ⟨rfl, hb⟩; have n0_ := AM (bT bQ hb); clear HB; have HB := n0_; clear n0_ hb))
  go_ret
  exact ⟨rfl, bQ⟩
set_option maxHeartbeats 2000000 in
set_option maxRecDepth 100000 in
theorem law_none (h : TR w A0 c0 A1 c1 A2 c2 s c n) (htb : TB w) (hs : Ev (fun k => stipendlaw10_small.f k s c n x y) true) (hc : Ev (fun k => table_Check.f k s c n x y) 0) (hcl : Ev (fun k => table_Clone.f k s c n x y) (s, c, n, x, y)) {sc at_ kept : Int} {ms : List Int} (he : Ev (fun k => keep_Worst.f k s c n x y) (sc, at_, ms, kept, 0)) {l : List ByteArray} (hl : Ev (fun k => keep_Lines.f k s c n x y) l) (hll : l.length = c.length + 2) (hlc : c.length ≤ 1000) (hx0 : 0 ≤ x) (hx1 : x ≤ 10000) (hk : Ev (fun k => keep_Check.f k s c n x y) 100) (h0 : -100000 ≤ kept) (h1 : kept ≤ 100000) (h2 : kept < 500) {X : Int} (hX : (if 0 < x + (kept - 500) then x + (kept - 500) else 0) = X) (hkX : Ev (fun k => keep_Check.f k s c n X y) 100) (hk2 : Ev (fun k => keep_Check.f k s c n 0 y) 100) :
    Calls Tryd.prog 3 #[TA A0 c0 A1 c1 A2 c2 s c n x y] w fun o w' => o = .returned (.bool true) ∧ Below w.heap.size w w' := by
  have hu26 := Tryd.underlying26
  have hu39 := Tryd.underlying39
  have hu34 := Tryd.underlying34
  have hu23 := Tryd.underlying23
  have hu22 := Tryd.underlying22
  have HX0x := AM hx0
  have HX1x := AM hx1
  have hw0 : wrap64 (kept - 500) = kept - 500 := by unfold wrap64; omega
  have hw1 : wrap64 (((c.length : Nat) : Int) + 2) = ((c.length : Nat) : Int) + 2 := by unfold wrap64; omega
  have he6 : (kept < 500) = True := eq_true (by omega)
  have he7 : (500 ≤ kept) = False := eq_false (by omega)
  have hd1 : decide (0 ≤ kept - 500) = false := decide_eq_false (by omega)
  have hd2 : ((kept - 500) != (kept - 500)) = false := bne_self_eq_false _
  have hd3 : ((((c.length + 2 : Nat) : Int)) != (((c.length : Nat) : Int) + 2)) = false := by simp
  have HS_ := AM hs
  have HC_ := AM hc
  have HCL_ := AM hcl
  have HE_ := AM he
  have HL_ := AM hl
  have HLL_ := AM hll
  have HK_ := AM hk
  have H0_ := AM h0
  have H1_ := AM h1
  have H2_ := AM h2
  have HK2_ := AM hk2
  have HX_ := AM hX
  have HKX_ := AM hkX
  have HT := AM h.foot
  have HB := AM (Below.refl w.heap.size w)
  have HTB := AM htb
  clear h htb hs hc hcl he hl hll hk h0 h1 h2 hk2 hX hkX
  go_enter Tryd.func3, Tryd.ntmps3
  go_wp2_with (first
    | ((with_reducible refine gD (N := 1) rfl ?_); refine bE ?hg (N := 1) ?hd (cs := #[.slice A0 s.length c0, .slice A1 c.length c1, .slice A2 n.length c2, .int .i64 x, .int .i64 y]) (t := 26) ?hr ?_; (case hd => rfl); (case hg => rfl); (case hr => first | (go_simp; done) | (go_simp; rfl)); intro g1 hg w1 hbox hb; have BK1 := AM hbox; have n0_ := AM (bT bQ hb); have n1_ := AM (tX HT hb); clear HB HT; have HB := n0_; have HT := n1_; clear n0_ n1_ hb; clear hbox hg; obtain ⟨_, _, _, _, _, _, _, _, _, _⟩ := bX5 BK1.out)
    | (go_at_call 4; (with_reducible refine (keeps_t _).mono ?_); rintro e w2 ⟨rfl, hb⟩; have n0_ := AM (bT bQ hb); have n1_ := AM (tX HT hb); have n2_ := AM (kX BK1 hb); clear HB HT BK1; have HB := n0_; have HT := n1_; have BK1 := n2_; clear n0_ n1_ n2_ hb; obtain ⟨_, _, _, _, _, _, _, _, _, _⟩ := bX5 BK1.out)
    | (go_at_call 5; (with_reducible refine (small_t ?ht HS_.out).mono ?_); (case ht => exact tN HT); rintro e w3 ⟨rfl, hb⟩; have n0_ := AM (bT bQ hb); have n1_ := AM (tX HT hb); have n2_ := AM (kX BK1 hb); clear HB HT BK1; have HB := n0_; have HT := n1_; have BK1 := n2_; clear n0_ n1_ n2_ hb; obtain ⟨_, _, _, _, _, _, _, _, _, _⟩ := bX5 BK1.out)
    | (go_at_call 6; (with_reducible refine (cut_none ?ht HC_.out HCL_.out HE_.out HX_.out HKX_.out H0_.out H2_.out HX0x.out HX1x.out).mono ?_); (case ht => exact tN HT); rintro e w4 ⟨rfl, hb⟩; have n0_ := AM (bT bQ hb); have n1_ := AM (tX HT hb); have n2_ := AM (kX BK1 hb); clear HB HT BK1; have HB := n0_; have HT := n1_; have BK1 := n2_; clear n0_ n1_ n2_ hb; obtain ⟨_, _, _, _, _, _, _, _, _, _⟩ := bX5 BK1.out; have hl4_1 := blk_lt BK1.out)
    | (go_at_call 7; (with_reducible refine (room_ok ?ht HE_.out H0_.out H1_.out).mono ?_); (case ht => exact tN HT); rintro e w5 ⟨rfl, hb⟩; have BK3 := AM (kX (AM (blk_new w4 _)) hb); have n0_ := AM (bT bQ hb); have n1_ := AM (tX HT hb); have n2_ := AM (kX BK1 hb); clear HB HT BK1; have HB := n0_; have HT := n1_; have BK1 := n2_; clear n0_ n1_ n2_ hb; obtain ⟨_, _, _, _, _, _, _, _, _, _⟩ := bX5 BK1.out)
    | (go_at_call 8; (with_reducible refine (lines_t ?ht (tQ HTB.out) HL_.out HLL_.out).mono ?_); (case ht => exact tN HT); rintro e w6 ⟨B6, d6, rfl, hb⟩; have n0_ := AM (bT bQ hb); have n1_ := AM (tX HT hb); have n2_ := AM (kX BK1 hb); have n3_ := AM (kX BK3 hb); clear HB HT BK1 BK3; have HB := n0_; have HT := n1_; have BK1 := n2_; have BK3 := n3_; clear n0_ n1_ n2_ n3_ hb; obtain ⟨_, _, _, _, _, _, _, _, _, _⟩ := bX5 BK1.out)
    | (go_at_call 9; (with_reducible refine (check_t ?ht HC_.out).mono ?_); (case ht => exact tN HT); rintro e w7 ⟨rfl, hb⟩; have n0_ := AM (bT bQ hb); have n1_ := AM (tX HT hb); have n2_ := AM (kX BK1 hb); have n3_ := AM (kX BK3 hb); clear HB HT BK1 BK3; have HB := n0_; have HT := n1_; have BK1 := n2_; have BK3 := n3_; clear n0_ n1_ n2_ n3_ hb; obtain ⟨_, _, _, _, _, _, _, _, _, _⟩ := bX5 BK1.out)
    | (go_at_call 10; (with_reducible refine (worst_t ?ht HE_.out).mono ?_); (case ht => exact tN HT); rintro e w8 ⟨B8, d8, rfl, hl8, ho, hb⟩; have n0_ := AM (bT bQ hb); have n1_ := AM (tX HT hb); have n2_ := AM (kX BK1 hb); have n3_ := AM (kX BK3 hb); clear HB HT BK1 BK3; have HB := n0_; have HT := n1_; have BK1 := n2_; have BK3 := n3_; clear n0_ n1_ n2_ n3_ hb; clear ho hl8; obtain ⟨_, _, _, _, _, _, _, _, _, _⟩ := bX5 BK1.out; have hl8_1 := blk_lt BK1.out; have hl8_3 := blk_lt BK3.out)
    | (go_at_call 11; (with_reducible refine (kcheck_t ?ht HK_.out).mono ?_); (case ht => exact tN HT); rintro e w9 ⟨rfl, hb⟩; have BK9 := AM (kX (AM (blk_new w8 _)) hb); have n0_ := AM (bT bQ hb); have n1_ := AM (tX HT hb); have n2_ := AM (kX BK1 hb); have n3_ := AM (kX BK3 hb); clear HB HT BK1 BK3; have HB := n0_; have HT := n1_; have BK1 := n2_; have BK3 := n3_; clear n0_ n1_ n2_ n3_ hb; obtain ⟨_, _, _, _, _, _, _, _, _, _⟩ := bX5 BK1.out; obtain ⟨_, _, _, _, _, _, _, _⟩ := bX4 BK9.out)
    | (go_at_call 12; (with_reducible refine (clone_t (b := w.heap.size) ?ht HCL_.out).mono ?_); (case ht => exact HT.out.below bR); rintro e w13 hcl; have hmx := HM; obtain ⟨⟨N0, n0, N1, n1, N2, n2, rfl, hf⟩, hb⟩ := hcl; have HN := AM hf.bound; clear hf hmx; have n0_ := AM (bT bQ hb); have n1_ := AM (tX HT hb); have n2_ := AM (kX BK1 hb); have n3_ := AM (kX BK3 hb); clear HB HT BK1 BK3; have HB := n0_; have HT := n1_; have BK1 := n2_; have BK3 := n3_; clear n0_ n1_ n2_ n3_ hb; clear BK9 HM; obtain ⟨_, _, _, _, _, _, _, _, _, _⟩ := bX5 BK1.out; obtain ⟨_, _, _, _, _, _, _, _, _, _⟩ := bX5 BK3.out; have hl13_1 := blk_lt BK1.out; have hl13_3 := blk_lt BK3.out)
    | (go_at_call 12; (with_reducible refine (clone_t (b := w.heap.size) ?ht HCL_.out).mono ?_); (case ht => exact HT.out.below bR); rintro e w10 hcl; obtain ⟨⟨M0, m0, M1, m1, M2, m2, rfl, hf⟩, hb⟩ := hcl; have HM := AM hf.bound; clear hf; have n0_ := AM (bT bQ hb); have n1_ := AM (tX HT hb); have n2_ := AM (kX BK1 hb); have n3_ := AM (kX BK3 hb); have n4_ := AM (kX BK9 hb); clear HB HT BK1 BK3 BK9; have HB := n0_; have HT := n1_; have BK1 := n2_; have BK3 := n3_; have BK9 := n4_; clear n0_ n1_ n2_ n3_ n4_ hb; obtain ⟨_, _, _, _, _, _, _, _, _, _⟩ := bX5 BK1.out; obtain ⟨_, _, _, _, _, _, _, _, _, _⟩ := bX5 BK3.out; obtain ⟨_, _, _, _, _, _, _, _⟩ := bX4 BK9.out; have hl10_1 := blk_lt BK1.out; have hl10_3 := blk_lt BK3.out; have hl10_9 := blk_lt BK9.out)
    | (go_at_call 11; (with_reducible refine (kcheck_t ?ht HK2_.out).mono ?_); (case ht => exact tN HN); rintro e w14 ⟨rfl, hb⟩; have n0_ := AM (bT bQ hb); have n1_ := AM (kX BK3 hb); clear HB BK3; have HB := n0_; have BK3 := n1_; clear n0_ n1_ hb; obtain ⟨_, _, _, _, _, _, _, _, _, _⟩ := bX5 BK3.out))
  go_ret
  exact ⟨rfl, bQ⟩
end Go.Proofs.YtdllkibfikcfbaaDoor.K
