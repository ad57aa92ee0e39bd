import Derived.Test.YtjljhianehhlgaaDoorProg
import Derived.Below
import Derived.Maps.RangeWalk
import Derived.Maps.OwnSet
import Derived.Maps.Ext
import Derived.Maps.OwnOps
import Derived.WalkKit
import Derived.StringKeys
/-! ### Maps from texts to whole numbers: what stands at a key -/
namespace Go.Proofs.YtjljhianehhlgaaDoor.M
open Go Go.RowKit Go.Maps Go.WideMaps
abbrev DM := DataW Unit
theorem law9 : Keyed Tryd.prog 9 := string_keyed Tryd.underlying9
theorem zero2 (w : World) : (zeroValue 2).run Tryd.prog w = .ok (.int .i64 0) w := by kernel_rfl
def kk (s : ByteArray) : Lit := .string s.data.toList
noncomputable def EI : Value → Option (DataW Unit × List MemPlace) := plainElem (H := Unit) Tryd.prog 2
theorem ei_int {a : Int} (h : (Lit.int .i64 a).wf = true) : EI (.int .i64 a) = some (.lit (.int .i64 a), []) := plainElem_int Tryd.underlying2 h
theorem ei_inv {v : Value} {z : DataW Unit × List MemPlace} (h : EI v = some z) : ∃ a, v = .int .i64 a ∧ z = (.lit (.int .i64 a), []) ∧ (Lit.int .i64 a).wf = true := plainElem_int_inv Tryd.underlying2 h
/-- Block b is a map of at most n entries that reads as D. -/
def MP (w : World) (b n : Nat) (D : DM) : Prop := w.ownsMap Tryd.prog 9 EI b n D
/-- What stands at a text. -/
noncomputable def got (D : DM) (s : List UInt8) : Option Int := if has D (.string s) = true then (match D.atKey (.string s) .nil with | .lit (.int _ c) => some c | _ => none) else none
noncomputable def val (D : DM) (s : List UInt8) : Int := (got D s).getD 0
/-- Each element is a whole number. -/
def Nums (D : DM) : Prop := IsMap D ∧ ∀ s, has D (.string s) = true → ∃ c, (∀ z, D.atKey (.string s) z = .lit (.int .i64 c)) ∧ -9223372036854775808 ≤ c ∧ c ≤ 9223372036854775807
theorem int_lit {a b : Int} (h : (DataW.lit (.int .i64 a) : DM) = .lit (.int .i64 b)) : a = b := by
  injection h with h
  injection h
theorem atKey_any {D : DM} {k : Lit} (h : has D k = true) (z z' : DM) : D.atKey k z = D.atKey k z' := by
  cases D <;> simp only [has] at h <;> try cases h
  rename_i es
  simp only [DataW.atKey]
  rw [List.any_eq_true] at h
  obtain ⟨p, hp, hk⟩ := h
  cases hf : es.find? (fun p => p.1.sameKey k) with
  | none => exact absurd hk (by have := List.find?_eq_none.1 hf p hp; simpa using this)
  | some p => rfl
theorem got_none {D : DM} {s : List UInt8} (h : has D (.string s) = false) : got D s = none := by unfold got; rw [if_neg (by simp [h])]
theorem got_some {D : DM} {s : List UInt8} {c : Int} (h : ∀ z, D.atKey (.string s) z = .lit (.int .i64 c)) : got D s = some c := by
  unfold got
  rw [if_pos (has_true_of_atKey h), h]
theorem got_has {D : DM} (hn : Nums D) {s : List UInt8} (h : has D (.string s) = true) : ∃ c, got D s = some c ∧ (∀ z, D.atKey (.string s) z = .lit (.int .i64 c)) ∧ -9223372036854775808 ≤ c ∧ c ≤ 9223372036854775807 := by
  obtain ⟨c, hc, hr⟩ := hn.2 s h
  exact ⟨c, got_some hc, hc, hr⟩
theorem has_of_got {D : DM} {s : List UInt8} {c : Int} (h : got D s = some c) : has D (.string s) = true := by
  unfold got at h
  by_cases q : has D (.string s) = true
  · exact q
  · rw [if_neg q] at h; cases h
theorem wf_of {c : Int} (h0 : -9223372036854775808 ≤ c) (h1 : c ≤ 9223372036854775807) : (Lit.int .i64 c).wf = true := by
  simp [Lit.wf, IntKind.min, IntKind.max, IntKind.signed, IntKind.bits]; omega
theorem nums_empty : Nums (.map []) := ⟨isMap_empty, fun s h => by cases h⟩
theorem got_empty (s : List UInt8) : got (.map []) s = none := got_none rfl
theorem got_put {D : DM} (hn : Nums D) (s s' : List UInt8) (c : Int) : got (D.put (.string s) (.lit (.int .i64 c))) s' = if s' = s then some c else got D s' := by
  by_cases e : s' = s
  · subst e
    rw [if_pos rfl]
    exact got_some (fun z => atKey_put_same hn.1 (show WideAt.IsKeyLit (.string s') from trivial) _ z)
  · rw [if_neg e]
    have hne : (Lit.string s') ≠ .string s := fun h => e (by injection h)
    unfold got
    rw [has_put_other hne, atKey_put_other hne]
theorem nums_put {D : DM} (hn : Nums D) (s : List UInt8) {c : Int} (h0 : -9223372036854775808 ≤ c) (h1 : c ≤ 9223372036854775807) : Nums (D.put (.string s) (.lit (.int .i64 c))) := by
  refine ⟨hn.1.put _ _, fun s' h => ?_⟩
  by_cases e : s' = s
  · subst e
    exact ⟨c, fun z => atKey_put_same hn.1 (show WideAt.IsKeyLit (.string s') from trivial) _ z, h0, h1⟩
  · have hne : (Lit.string s') ≠ .string s := fun h => e (by injection h)
    rw [has_put_other hne] at h
    obtain ⟨c', hc, hr⟩ := hn.2 s' h
    exact ⟨c', fun z => by rw [atKey_put_other hne]; exact hc z, hr⟩
theorem got_del {D : DM} (s s' : List UInt8) : got (D.del (.string s)) s' = if s' = s then none else got D s' := by
  by_cases e : s' = s
  · subst e
    rw [if_pos rfl]
    exact got_none has_del_same
  · rw [if_neg e]
    have hne : (Lit.string s') ≠ .string s := fun h => e (by injection h)
    unfold got
    rw [has_del_other hne, atKey_del_other hne]
theorem nums_del {D : DM} (hn : Nums D) (s : List UInt8) : Nums (D.del (.string s)) := by
  refine ⟨hn.1.del _, fun s' h => ?_⟩
  by_cases e : s' = s
  · subst e
    rw [has_del_same] at h
    cases h
  · have hne : (Lit.string s') ≠ .string s := fun h => e (by injection h)
    rw [has_del_other hne] at h
    obtain ⟨c', hc, hr⟩ := hn.2 s' h
    exact ⟨c', fun z => by rw [atKey_del_other hne]; exact hc z, hr⟩
section
variable {w w' : World} {b n : Nat} {D : DM}
theorem MP.below {B : Nat} (h : MP w b n D) (hb : Below B w w') (hlt : b < B) : MP w' b n D := by
  obtain ⟨es, clock, h0, r⟩ := h
  exact ⟨es, clock, (hb.block b hlt).trans h0, r⟩
theorem MP.same (h : MP w b n D) (hb : w'.heap[b]? = w.heap[b]?) : MP w' b n D := by
  obtain ⟨es, clock, h0, r⟩ := h
  exact ⟨es, clock, hb.trans h0, r⟩
theorem MP.lt (h : MP w b n D) : b < w.heap.size := World.ownsMap.lt h
theorem MP.mono (h : MP w b n D) {m : Nat} (hm : n ≤ m) : MP w b m D := World.ownsMap.mono h hm
theorem made (w : World) : MP (w.alloc (.map #[] 0)) w.heap.size 0 (.map []) := World.ownsMap_made _ _ _ _
theorem key_ok {s : ByteArray} (h : s.size ≤ maxLen) : keyOf Tryd.prog 9 (.string s) = some (kk s) := keyOf_string_mk Tryd.underlying9 h
/-- m[s]. -/
theorem MP.look (h : MP w b n D) (hn : Nums D) {s : ByteArray} (hs : s.size ≤ maxLen) : (Instr.lookup 26 (.map (some b)) (.string s) false).run Tryd.prog w = .ok (.int .i64 (val D s.data.toList)) w := by
  obtain ⟨c, hr, hat, _⟩ := World.ownsMap.lookup_int h law9 Tryd.underlying26 Tryd.underlying2 (zero2 w) (key_ok hs)
  rw [hr]
  by_cases q : has D (kk s) = true
  · obtain ⟨c', hg, hc', -⟩ := got_has hn q
    have e : D.atKey (kk s) (.lit (.int .i64 0)) = .lit (.int .i64 c') := hc' _
    rw [e] at hat
    have hat := int_lit hat
    unfold val
    rw [hg, ← hat]
    rfl
  · have q' : has D (kk s) = false := by simpa using q
    rw [atKey_of_not_has q'] at hat
    have hat := int_lit hat
    unfold val
    rw [got_none q', ← hat]
    rfl
/-- v, ok := m[s]. -/
theorem MP.look_ok (h : MP w b n D) (hn : Nums D) {s : ByteArray} (hs : s.size ≤ maxLen) : (Instr.lookup 26 (.map (some b)) (.string s) true).run Tryd.prog w = .ok (.tuple #[.int .i64 (val D s.data.toList), .bool (has D (kk s))]) w := by
  obtain ⟨v, ps, hr, hv⟩ := World.ownsMap.look_ok h law9 Tryd.underlying26 (zero2 w) (ei_int (a := 0) (by decide)) (key_ok hs)
  rw [hr]
  obtain ⟨c, rfl, hc, _⟩ := ei_inv hv
  simp only [Prod.mk.injEq] at hc
  by_cases q : has D (kk s) = true
  · obtain ⟨c', hg, hc', -⟩ := got_has hn q
    have e : D.atKey (kk s) (.lit (.int .i64 0)) = .lit (.int .i64 c') := hc' _
    rw [e] at hc
    obtain ⟨hc, _⟩ := hc
    have hc := int_lit hc
    unfold val
    rw [hg, ← hc]
    rfl
  · have q' : has D (kk s) = false := by simpa using q
    rw [atKey_of_not_has q'] at hc
    obtain ⟨hc, _⟩ := hc
    have hc := int_lit hc
    unfold val
    rw [got_none q', ← hc]
    rfl
end
end Go.Proofs.YtjljhianehhlgaaDoor.M
