-- by a program of this session, over the kit's printer
import Derived.Test.YtodijkdmcjnpkaaDoorProg
import Derived.Below
import Derived.Deep.Draws
import Derived.Deep.AppendLies
import Derived.Maps.AppendAt
import Derived.OwnWalk
import Derived.Laws.BytesArg
import Derived.Laws.MakeOwn
import Derived.Laws.OwnMore
import Derived.Deep.OwnRows
import Derived.Tactics
import Derived.Lib.ConvBytes
import Derived.Laws.Slices
import Derived.WalkKit
import Derived.KernelRfl
import Derived.RowKit3
import Derived.Deep.LoopGhost
import Derived.Deep.QuietTactic
import Derived.BigQuiet
import Derived.WideLaws
import Derived.Deep.DeepCutAuto
import Derived.Deep.CutBlock
import Derived.Deep.RegionHeld3
import Derived.Laws.Rows
import Derived.Lib.AppendStr
import Derived.ArgAppend
import Derived.Laws.IdiomCopy
import Derived.OrdersHeld
import Derived.Laws.BitsLemmas
import Derived.RowKit
import Derived.Test.YtodijkdmcjnpkaaDoorWWords
import Derived.Test.YtodijkdmcjnpkaaDoorWLast
import Derived.Test.YtodijkdmcjnpkaaDoorWTab
import Derived.Test.YtodijkdmcjnpkaaDoorWFour
import Derived.Test.YtodijkdmcjnpkaaDoorWQPut
import Derived.Test.YtodijkdmcjnpkaaDoorWApart
import Derived.Test.YtodijkdmcjnpkaaDoorWArr
import Derived.Test.YtodijkdmcjnpkaaDoorWZeros
import Derived.Test.YtodijkdmcjnpkaaDoorWFoot
import Derived.Test.YtodijkdmcjnpkaaDoorWKept
import Derived.Test.YtodijkdmcjnpkaaDoorWShare
import Derived.Test.YtodijkdmcjnpkaaDoorWN
import Derived.Test.YtodijkdmcjnpkaaDoorWFootNe
import Derived.Test.YtodijkdmcjnpkaaDoorWAt
import Derived.Test.YtodijkdmcjnpkaaDoorWEqStruct
import Derived.Test.YtodijkdmcjnpkaaDoorWRepsOne
import Derived.Test.YtodijkdmcjnpkaaDoorWInv
import Derived.Test.YtodijkdmcjnpkaaDoorWInvWords
import Derived.Test.YtodijkdmcjnpkaaDoorWGuard
import Derived.Test.YtodijkdmcjnpkaaDoorWNEv
import Derived.Test.YtodijkdmcjnpkaaDoorWMore
import Derived.Test.YtodijkdmcjnpkaaDoorShelf
import Derived.Lib.AppendIntMem
namespace Go.Proofs.YtodijkdmcjnpkaaDoor.K
open Go.RowKit Go.Proofs.YtodijkdmcjnpkaaDoorW.PrintWords Go.Proofs.YtodijkdmcjnpkaaDoorW.PrintLast Go.Proofs.YtodijkdmcjnpkaaDoorW.PrintMore
attribute [local go_sem] max2_int min2_int max_two min_two max_three min_three max_four min_four   -- for this text's walks alone
set_option linter.unusedVariables false
set_option linter.unusedSimpArgs false
abbrev cA := @Kd.C_alloc
abbrev cD := @Kd.C_drewN
abbrev c1_ := @Kd.C_drew
abbrev cB := @Kd.C_below
abbrev bL := @World.block_lt_of_cell?
abbrev nA := @Kd.N_alloc
abbrev nD := @Kd.N_drewN
abbrev n1x := @Kd.N_drew
abbrev rA := @Kd.R_alloc
abbrev rD := @Kd.R_drewN
abbrev r1x := @Kd.R_drew
abbrev bD := @pw_below_drewN
abbrev bA := @below_alloc
abbrev b1 := @below_drew1
abbrev bF := @blk_frozen
abbrev bC := @blk_cell
abbrev kD := @blk_drewN
abbrev kA := @blk_alloc
abbrev k1_ := @blk_drew
abbrev bS := @below_set
abbrev AM := @Aside0.mk
abbrev bZ := @below_size
abbrev kB := @blk_below
abbrev bT := @below_step
abbrev bE := @box_event
abbrev gD := @gate_dst
abbrev gG := @gate_guard
abbrev kF := @blk_far
abbrev kP := @blk_put
abbrev gC := @gate_callee
abbrev gL := @goesL_
abbrev gS := @gate_store
abbrev sE := @store_event
theorem bX2 {w : World} {g : Nat} {t : TypeId} {a b : Value} (h : w.heap[g]? = some (.cells #[a, b] t (0, 0))) : w.cell? ⟨g, 0, none⟩ = some a ∧ w.cell? ⟨g, 1, none⟩ = some b ∧ w.frozen? ⟨g, 0, none⟩ = false ∧ w.frozen? ⟨g, 1, none⟩ = false := ⟨(bC h 0).trans rfl, (bC h 1).trans rfl, bF h 0, bF h 1⟩
theorem bX3 {w : World} {g : Nat} {t : TypeId} {a b c : Value} (h : w.heap[g]? = some (.cells #[a, b, c] t (0, 0))) : w.cell? ⟨g, 0, none⟩ = some a ∧ w.cell? ⟨g, 1, none⟩ = some b ∧ w.cell? ⟨g, 2, none⟩ = some c ∧ w.frozen? ⟨g, 0, none⟩ = false ∧ w.frozen? ⟨g, 1, none⟩ = false ∧ w.frozen? ⟨g, 2, none⟩ = false := ⟨(bC h 0).trans rfl, (bC h 1).trans rfl, (bC h 2).trans rfl, bF h 0, bF h 1, bF h 2⟩
theorem bX4 {w : World} {g : Nat} {t : TypeId} {a b c d : Value} (h : w.heap[g]? = some (.cells #[a, b, c, d] t (0, 0))) : w.cell? ⟨g, 0, none⟩ = some a ∧ w.cell? ⟨g, 1, none⟩ = some b ∧ w.cell? ⟨g, 2, none⟩ = some c ∧ w.cell? ⟨g, 3, none⟩ = some d ∧ w.frozen? ⟨g, 0, none⟩ = false ∧ w.frozen? ⟨g, 1, none⟩ = false ∧ w.frozen? ⟨g, 2, none⟩ = false ∧ w.frozen? ⟨g, 3, none⟩ = false := ⟨(bC h 0).trans rfl, (bC h 1).trans rfl, (bC h 2).trans rfl, (bC h 3).trans rfl, bF h 0, bF h 1, bF h 2, bF h 3⟩
theorem bX5 {w : World} {g : Nat} {t : TypeId} {a b c d e : Value} (h : w.heap[g]? = some (.cells #[a, b, c, d, e] t (0, 0))) : w.cell? ⟨g, 0, none⟩ = some a ∧ w.cell? ⟨g, 1, none⟩ = some b ∧ w.cell? ⟨g, 2, none⟩ = some c ∧ w.cell? ⟨g, 3, none⟩ = some d ∧ w.cell? ⟨g, 4, none⟩ = some e ∧ w.frozen? ⟨g, 0, none⟩ = false ∧ w.frozen? ⟨g, 1, none⟩ = false ∧ w.frozen? ⟨g, 2, none⟩ = false ∧ w.frozen? ⟨g, 3, none⟩ = false ∧ w.frozen? ⟨g, 4, none⟩ = false := ⟨(bC h 0).trans rfl, (bC h 1).trans rfl, (bC h 2).trans rfl, (bC h 3).trans rfl, (bC h 4).trans rfl, bF h 0, bF h 1, bF h 2, bF h 3, bF h 4⟩
theorem bX6 {w : World} {g : Nat} {t : TypeId} {a b c d e f : Value} (h : w.heap[g]? = some (.cells #[a, b, c, d, e, f] t (0, 0))) : w.cell? ⟨g, 0, none⟩ = some a ∧ w.cell? ⟨g, 1, none⟩ = some b ∧ w.cell? ⟨g, 2, none⟩ = some c ∧ w.cell? ⟨g, 3, none⟩ = some d ∧ w.cell? ⟨g, 4, none⟩ = some e ∧ w.cell? ⟨g, 5, none⟩ = some f ∧ w.frozen? ⟨g, 0, none⟩ = false ∧ w.frozen? ⟨g, 1, none⟩ = false ∧ w.frozen? ⟨g, 2, none⟩ = false ∧ w.frozen? ⟨g, 3, none⟩ = false ∧ w.frozen? ⟨g, 4, none⟩ = false ∧ w.frozen? ⟨g, 5, none⟩ = false := ⟨(bC h 0).trans rfl, (bC h 1).trans rfl, (bC h 2).trans rfl, (bC h 3).trans rfl, (bC h 4).trans rfl, (bC h 5).trans rfl, bF h 0, bF h 1, bF h 2, bF h 3, bF h 4, bF h 5⟩
theorem oX {p : Prop} (h : Aside0 p) : p := h.out
theorem kW {w w0 : World} {g : Nat} {o o0 : Obj} (h : Aside0 (w0.heap[g]? = some o0)) (f : w0.heap[g]? = some o0 → w.heap[g]? = some o := by intro h; (with_reducible repeat (first | refine kD ?_ _ | refine k1_ ?_ | refine kA ?_ _)); exact h) : w.heap[g]? = some o := f h.out
theorem bQ {b : Nat} {w W : World} (h : Below b w W := by repeat (first | (with_reducible first | exact oX (by assumption) | apply bA | apply bD | apply b1 | refine bS ?_ (oX (by assumption))) | exact oX (by assumption))) : Below b w W := h
theorem cQ {α : Type} {d : Kd α} {w w0 w1 : World} {A : Option Addr} {n : Nat} {xs : List α} (h : Aside0 (d.C w0 A n xs)) (hb : Aside0 (Below w0.heap.size w0 w1)) (f : d.C w1 A n xs → d.C w A n xs := by intro h; repeat (first | exact h | (with_reducible refine cA ?_ _) | (with_reducible refine cD ?_ _) | (with_reducible refine c1_ ?_))) : d.C w A n xs := f (cB h.out hb.out)
/-- The library's table of powers of ten reads as it was laid. -/
def TB (w : World) : Prop := Lib.TabIs Tryd.prog w "internal/strconv.uint64pow10" .u64 Lib.pow10Tab
theorem tQ {w W : World} (h : TB w) (hb : Below w.heap.size w W := by repeat (first | (with_reducible first | exact oX (by assumption) | apply bA | apply bD | apply b1 | refine bS ?_ (oX (by assumption))) | exact oX (by assumption))) : TB W := Lib.tabBelow_of_tabIs h W hb
theorem grown_below (w : World) (k : Nat) (os : Array Obj) : Below w.heap.size w (Go.Sort.grow (w.drewN k) os) :=
  ⟨rfl, rfl, rfl, by show w.heap.size ≤ (w.heap ++ os).size; rw [Array.size_append]; omega, fun _ hj => Go.Sort.heap_grow_old (w.drewN k) os hj⟩
theorem u8w (x : Int) : wrap64 (IntKind.u8.wrap x) = x % 256 := by
  have h : IntKind.u8.wrap x = x % 256 := by simp [IntKind.wrap, IntKind.min, IntKind.max, IntKind.signed, IntKind.bits]
  rw [h]
  unfold wrap64
  omega
/-! #### decimals -/
def digF : Nat → Nat → List UInt8
  | 0, u => [UInt8.ofNat (48 + u)]
  | f + 1, u => if u < 10 then [UInt8.ofNat (48 + u)] else digF f (u / 10) ++ [UInt8.ofNat (48 + u % 10)]
def digs (n : Int) : ByteArray := ⟨(if n < 0 then 45 :: digF 20 n.natAbs else digF 20 n.toNat).toArray⟩
theorem digF_eq : ∀ f u : Nat, u < 10 ^ (f + 1) → digF f u = Lib.decDigits u := by
  intro f
  induction f with
  | zero => intro u h; rw [Lib.decDigits_one (by simpa using h)]; rfl
  | succ f ih =>
    intro u h
    simp only [digF]
    rw [Lib.decDigits]
    split
    · rfl
    · rw [ih (u / 10) (by rw [Nat.pow_succ] at h; omega)]
theorem digs_eq (n : Int) (h0 : -9223372036854775808 ≤ n) (h1 : n ≤ 9223372036854775807) : (⟨(Lib.itoa n).toArray⟩ : ByteArray) = digs n := by
  unfold digs Lib.itoa
  split
  · rw [digF_eq 20 _ (by have : (10:Nat) ^ 21 = 1000000000000000000000 := by decide
                         omega)]
  · rw [digF_eq 20 _ (by have : (10:Nat) ^ 21 = 1000000000000000000000 := by decide
                         omega)]



def errW : Option Int → Value
  | none => .nilIface
  | some c => .iface 0 (.int .i64 c)
theorem errW_none : errW none = .nilIface := rfl
theorem errW_some (c : Int) : errW (some c) = .iface 0 (.int .i64 c) := rfl

theorem info2 : (Tryd.prog.info? 2).map (fun i => (i.zero, i.size, i.bytes)) = some (some (.int .i64 0), 1, 8) := by kernel_rfl
theorem info5 : (Tryd.prog.info? 5).map (fun i => (i.zero, i.size, i.bytes)) = some (some (.int .u8 0), 1, 1) := by kernel_rfl
-- the values' own types

end Go.Proofs.YtodijkdmcjnpkaaDoor.K
