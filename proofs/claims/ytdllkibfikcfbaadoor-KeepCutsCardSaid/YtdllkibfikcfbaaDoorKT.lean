import Derived.Test.YtdllkibfikcfbaaDoorKx9
import Derived.Test.YtdllkibfikcfbaaDoorKxD
import Derived.Test.YtdllkibfikcfbaaDoorPB
/-! ### Tables as values that read as lists: the contracts of what KeepCuts calls, once more, over such values -/
namespace Go.Proofs.YtdllkibfikcfbaaDoor.K
open Go.RowKit Go.Proofs.YtdllkibfikcfbaaDoorW.PrintWords Go.Proofs.YtdllkibfikcfbaaDoorW.PrintLast Go.Proofs.YtdllkibfikcfbaaDoorW.PrintMore
set_option linter.unusedVariables false
theorem k41_heap : Kd.Heap k41 := Kd.heap_iso _ (Kd.heap_pair (Kd.heap_int .i64) (Kd.heap_pair (Kd.heap_int .i64) (Kd.heap_int .i64)))
theorem k43_heap : Kd.Heap k43 := Kd.heap_iso _ (Kd.heap_pair Kd.heap_string (Kd.heap_pair (Kd.heap_int .i64) (Kd.heap_pair (Kd.heap_slice 52 k41_heap) (Kd.heap_pair (Kd.heap_int .i64) (Kd.heap_pair (Kd.heap_int .i64) (Kd.heap_int .i64))))))
/-- A table's three slices, as they read. -/
structure TR (w : World) (A0 : Option Addr) (c0 : Nat) (A1 : Option Addr) (c1 : Nat) (A2 : Option Addr) (c2 : Nat) (s : List (List S41)) (c : List S43) (n : List S58) : Prop where
  r0 : Kd.C (Kd.slice 52 k41) w A0 s.length s
  l0 : s.length ≤ c0
  r1 : Kd.C k43 w A1 c.length c
  l1 : c.length ≤ c1
  r2 : Kd.C k58 w A2 n.length n
  l2 : n.length ≤ c2
variable {w W : World} {A0 : Option Addr} {c0 : Nat} {A1 : Option Addr} {c1 : Nat} {A2 : Option Addr} {c2 : Nat} {s : List (List S41)} {c : List S43} {n : List S58} {x y : Int}
theorem TR.below (h : TR w A0 c0 A1 c1 A2 c2 s c n) (hb : Below w.heap.size w W) : TR W A0 c0 A1 c1 A2 c2 s c n := ⟨cB h.r0 hb, h.l0, cB h.r1 hb, h.l1, cB h.r2 hb, h.l2⟩
/-- A table as it is handed on. -/
abbrev TA (A0 : Option Addr) (c0 : Nat) (A1 : Option Addr) (c1 : Nat) (A2 : Option Addr) (c2 : Nat) (s : List (List S41)) (c : List S43) (n : List S58) (x y : Int) : Value := .agg #[.slice A0 s.length c0, .slice A1 c.length c1, .slice A2 n.length c2, .int .i64 x, .int .i64 y]
theorem check_t (h : TR w A0 c0 A1 c1 A2 c2 s c n) {r : Int} (he : Ev (fun k => table_Check.f k s c n x y) r) : Calls Tryd.prog 9 #[TA A0 c0 A1 c1 A2 c2 s c n x y] w fun e w' => e = .returned (.int .i64 r) ∧ Below w.heap.size w w' := by
  obtain ⟨k, hk⟩ := he.rounds
  exact table_Check.calls k _ _ s _ _ c _ _ n x y r w h.r0 h.l0 h.r1 h.l1 h.r2 h.l2 hk
theorem worst_t (h : TR w A0 c0 A1 c1 A2 c2 s c n) {sc at_ kept e : Int} {ms : List Int} (he : Ev (fun k => keep_Worst.f k s c n x y) (sc, at_, ms, kept, e)) : Calls Tryd.prog 10 #[TA A0 c0 A1 c1 A2 c2 s c n x y] w fun o w' => ∃ B d, o = .returned (.tuple #[.agg #[.int .i64 sc, .int .i64 at_, .slice B ms.length d, .int .i64 kept], .int .i64 e]) ∧ ms.length ≤ d ∧ Kd.C (Kd.int .i64) w' B ms.length ms ∧ Below w.heap.size w w' := by
  obtain ⟨k, hk⟩ := he.rounds
  refine (keep_Worst.calls k _ _ s _ _ c _ _ n x y _ _ _ _ _ w h.r0 h.l0 h.r1 h.l1 h.r2 h.l2 hk).mono ?_
  rintro o w' ⟨v, rfl, hv, hb⟩
  obtain ⟨B, d, rfl, q, p⟩ := Kd.R_reads hv
  exact ⟨B, d, rfl, q, p, hb⟩
theorem kcheck_t (h : TR w A0 c0 A1 c1 A2 c2 s c n) {r : Int} (he : Ev (fun k => keep_Check.f k s c n x y) r) : Calls Tryd.prog 11 #[TA A0 c0 A1 c1 A2 c2 s c n x y] w fun e w' => e = .returned (.int .i64 r) ∧ Below w.heap.size w w' := by
  obtain ⟨k, hk⟩ := he.rounds
  exact keep_Check.calls k _ _ s _ _ c _ _ n x y r w h.r0 h.l0 h.r1 h.l1 h.r2 h.l2 hk
/-- A table's three slices, as they read, and by which blocks alone. -/
structure TF (w : World) (ok : Nat → Prop) (A0 : Option Addr) (c0 : Nat) (A1 : Option Addr) (c1 : Nat) (A2 : Option Addr) (c2 : Nat) (s : List (List S41)) (c : List S43) (n : List S58) : Prop where
  r0 : Kd.F (Kd.slice 52 k41) w ok A0 s.length s
  l0 : s.length ≤ c0
  r1 : Kd.F k43 w ok A1 c.length c
  l1 : c.length ≤ c1
  r2 : Kd.F k58 w ok A2 n.length n
  l2 : n.length ≤ c2
variable {ok : Nat → Prop}
theorem TF.now (h : TF w ok A0 c0 A1 c1 A2 c2 s c n) : TR w A0 c0 A1 c1 A2 c2 s c n := ⟨Kd.F_now h.r0, h.l0, Kd.F_now h.r1, h.l1, Kd.F_now h.r2, h.l2⟩
theorem TF.step (h : TF w ok A0 c0 A1 c1 A2 c2 s c n) (hm : ∀ k, ok k → k < w.heap.size → W.heap[k]? = w.heap[k]?) : TF W ok A0 c0 A1 c1 A2 c2 s c n := ⟨Kd.F_step h.r0 hm, h.l0, Kd.F_step h.r1 hm, h.l1, Kd.F_step h.r2 hm, h.l2⟩
theorem TF.below (h : TF w ok A0 c0 A1 c1 A2 c2 s c n) (hb : Below w.heap.size w W) : TF W ok A0 c0 A1 c1 A2 c2 s c n := h.step (fun k _ hk => hb.block k hk)
theorem TF.bound (h : TF w ok A0 c0 A1 c1 A2 c2 s c n) : TF w (fun k => ok k ∧ k < w.heap.size) A0 c0 A1 c1 A2 c2 s c n := ⟨Kd.F_bound h.r0, h.l0, Kd.F_bound h.r1, h.l1, Kd.F_bound h.r2, h.l2⟩
theorem TF.far (h : TF w ok A0 c0 A1 c1 A2 c2 s c n) {g : Nat} (hg : ∀ k, ok k → k ≠ g) (hm : ∀ k, k ≠ g → W.heap[k]? = w.heap[k]?) : TF W ok A0 c0 A1 c1 A2 c2 s c n := h.step (fun k ho _ => hm k (hg k ho))
theorem k58_heap : Kd.Heap k58 := Kd.heap_iso _ (Kd.heap_pair Kd.heap_string (Kd.heap_pair (Kd.heap_int .i64) (Kd.heap_pair (Kd.heap_int .i64) (Kd.heap_int .i64))))
theorem TR.foot (h : TR w A0 c0 A1 c1 A2 c2 s c n) : TF w (fun k => k < w.heap.size) A0 c0 A1 c1 A2 c2 s c n := ⟨Kd.C_F (Kd.heap_slice 52 k41_heap) h.r0, h.l0, Kd.C_F k43_heap h.r1, h.l1, Kd.C_F k58_heap h.r2, h.l2⟩
/-- What a clone is, and where. -/
structure Cloned (w w' : World) (b : Nat) (o : Ending) (s : List (List S41)) (c : List S43) (n : List S58) (x y : Int) : Prop where
  ex : ∃ B0 d0 B1 d1 B2 d2, o = .returned (TA B0 d0 B1 d1 B2 d2 s c n x y) ∧ TF w' (fun k => k < b ∨ w.heap.size ≤ k) B0 d0 B1 d1 B2 d2 s c n
  bel : Below w.heap.size w w'
theorem clone_t {b : Nat} (h : TF w (fun k => k < b) A0 c0 A1 c1 A2 c2 s c n) (he : Ev (fun k => table_Clone.f k s c n x y) (s, c, n, x, y)) : Calls Tryd.prog 12 #[TA A0 c0 A1 c1 A2 c2 s c n x y] w fun o w' => Cloned w w' b o s c n x y := by
  obtain ⟨k, hk⟩ := he.rounds
  refine (table_Clone.calls k _ _ s (fun k => k < b) _ _ c _ _ n x y _ _ _ _ _ w h.now.r0 h.l0 ?_ h.now.r2 h.l2 hk).mono ?_
  · exact ⟨_, _, rfl, h.l1, h.r1⟩
  · rintro o w' ⟨v0, v1, v2, rfl, h0, h1, h2, hb⟩
    obtain ⟨B0, d0, rfl, q0, p0⟩ := Kd.N_reads h0
    obtain ⟨B1, d1, rfl, q1, p1⟩ := Kd.N_reads h1
    obtain ⟨B2, d2, rfl, q2, p2⟩ := Kd.R_reads h2
    exact ⟨⟨_, _, _, _, _, _, rfl, ⟨Kd.F_mono (Kd.N_F h0) (fun k hk => hk.1), q0, Kd.F_mono (Kd.N_F h1) (fun k hk => hk.1), q1, Kd.F_mono (Kd.R_F h2) (fun k hk => .inr hk), q2⟩⟩, hb⟩
/-- A whole struct is stored into its box. -/
theorem put5 {g : Nat} {t : TypeId} {a b c d e a' b' c' d' e' : Value} (h : w.heap[g]? = some (.cells #[a, b, c, d, e] t (0, 0))) :
    (((((w.setCell ⟨g, 0, none⟩ a').setCell ⟨g, 1, none⟩ b').setCell ⟨g, 2, none⟩ c').setCell ⟨g, 3, none⟩ d').setCell ⟨g, 4, none⟩ e').heap[g]? = some (.cells #[a', b', c', d', e'] t (0, 0)) :=
  blk_put (cs := #[a', b', c', d', e]) (blk_put (cs := #[a', b', c', d, e]) (blk_put (cs := #[a', b', c, d, e]) (blk_put (cs := #[a', b, c, d, e]) (blk_put (cs := #[a, b, c, d, e]) h 0 _ rfl) 1 _ rfl) 2 _ rfl) 3 _ rfl) 4 _ rfl
theorem far1 {g j : Nat} {a' : Value} (k : Nat) (hk : k ≠ g) : (w.setCell ⟨g, j, none⟩ a').heap[k]? = w.heap[k]? := Below.heap_setCell _ _ _ k hk
theorem far5 {g : Nat} {a' b' c' d' e' : Value} (k : Nat) (hk : k ≠ g) : (((((w.setCell ⟨g, 0, none⟩ a').setCell ⟨g, 1, none⟩ b').setCell ⟨g, 2, none⟩ c').setCell ⟨g, 3, none⟩ d').setCell ⟨g, 4, none⟩ e').heap[k]? = w.heap[k]? :=
  ((((far1 k hk).trans (far1 k hk)).trans (far1 k hk)).trans (far1 k hk)).trans (far1 k hk)
theorem TF.put (h : TF w ok A0 c0 A1 c1 A2 c2 s c n) {g j : Nat} {a' : Value} (hw : W = w.setCell ⟨g, j, none⟩ a') (hg : ∀ k, ok k → k ≠ g) : TF W ok A0 c0 A1 c1 A2 c2 s c n := by
  rw [hw]
  exact h.far hg far1
theorem bR {b : Nat} (h : Below b w W := by repeat (first | (with_reducible first | exact Below.refl _ _ | apply bA | apply bD | apply b1))) : Below b w W := h
theorem kX {w0 W' : World} {g : Nat} {o : Obj} (h : Aside0 (w0.heap[g]? = some o)) (hb : Below w.heap.size w W') (hr : Below w0.heap.size w0 w := by repeat (first | (with_reducible first | exact Below.refl _ _ | apply bA | apply bD | apply b1))) : W'.heap[g]? = some o :=
  ((bT hr hb).block g (Array.getElem?_eq_some_iff.1 h.out).1).trans h.out
theorem tX {w0 W' : World} (h : Aside0 (TF w0 ok A0 c0 A1 c1 A2 c2 s c n)) (hb : Below w.heap.size w W') (hr : Below w0.heap.size w0 w := by repeat (first | (with_reducible first | exact Below.refl _ _ | apply bA | apply bD | apply b1))) : TF W' ok A0 c0 A1 c1 A2 c2 s c n := h.out.below (bT hr hb)
theorem tN {w0 : World} (h : Aside0 (TF w0 ok A0 c0 A1 c1 A2 c2 s c n)) (hr : Below w0.heap.size w0 w := by repeat (first | (with_reducible first | exact Below.refl _ _ | apply bA | apply bD | apply b1))) : TR w A0 c0 A1 c1 A2 c2 s c n := (h.out.below hr).now
end Go.Proofs.YtdllkibfikcfbaaDoor.K
