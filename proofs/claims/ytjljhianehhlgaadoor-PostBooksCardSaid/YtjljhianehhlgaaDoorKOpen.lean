import Derived.Test.YtjljhianehhlgaaDoorWWords
import Derived.Deep.Slices
import Derived.ChangeArms
/- What an argument's reading says of its cells, kind by kind: whole numbers, bools, strings, slices, structs. -/
namespace Go.Proofs.YtjljhianehhlgaaDoor.KOpen
open Go Go.ChangeShapes Go.WideShapes Go.Proofs.YtjljhianehhlgaaDoorW.PrintWords
section
variable {H : Type} (enc : TypeId × Value → H) (P : Program) (W : World)

/-- Cells that read as a value of type t hold a value of the kind d, of which Q is true. -/
def OpK {α : Type} (d : Kd α) (t : TypeId) (Q : α → Prop) : Prop :=
  ∀ (fuel : Nat) (cs : List Value) (x : DataW H × List MemPlace), DataW.trod enc P W 0 (fun _ => true) true fuel t cs = some x → ∃ a, d.K W a cs ∧ Q a

variable {enc P W}
theorem op_int {t : TypeId} {k : IntKind} (ht : P.underlying t = some (.int k)) : OpK enc P W (Kd.int k) t (fun a => (Lit.int k a).wf = true) := by
  intro fuel cs x h
  cases fuel with
  | zero => simp [DataW.trod] at h
  | succ n =>
    unfold DataW.trod at h
    rw [ht] at h
    match cs, h with
    | [.int k' a], h =>
      simp at h
      obtain ⟨⟨rfl, hw⟩, _⟩ := h
      exact ⟨a, rfl, hw⟩
theorem op_bool {t : TypeId} (ht : P.underlying t = some .bool) : OpK enc P W Kd.bool t (fun _ => True) := by
  intro fuel cs x h
  cases fuel with
  | zero => simp [DataW.trod] at h
  | succ n =>
    unfold DataW.trod at h
    rw [ht] at h
    match cs, h with
    | [.bool b], h => exact ⟨b, rfl, trivial⟩
theorem op_string {t : TypeId} (ht : P.underlying t = some .string) : OpK enc P W Kd.string t (fun s => s.size ≤ maxLen) := by
  intro fuel cs x h
  cases fuel with
  | zero => simp [DataW.trod] at h
  | succ n =>
    unfold DataW.trod at h
    rw [ht] at h
    match cs, h with
    | [.string s], h =>
      simp at h
      exact ⟨s, rfl, h.1⟩

theorem list_of {α : Type} {n : Nat} {p : Nat → α → Prop} (h : ∀ i, i < n → ∃ x, p i x) : ∃ l : List α, l.length = n ∧ ∀ j x, l[j]? = some x → p j x := by
  induction n with
  | zero => exact ⟨[], rfl, fun j x hj => by simp at hj⟩
  | succ n ih =>
    obtain ⟨l, hl, hp⟩ := ih (fun i hi => h i (Nat.lt_succ_of_lt hi))
    obtain ⟨x, hx⟩ := h n (Nat.lt_succ_self n)
    refine ⟨l ++ [x], by simp [hl], fun j y hj => ?_⟩
    rw [List.getElem?_append] at hj
    split at hj
    · exact hp j y hj
    · rename_i hge
      have hjn : j - l.length = 0 := by
        have := (List.getElem?_eq_some_iff.1 hj).1
        simp at this
        omega
      rw [hjn] at hj
      simp at hj
      subst hj
      have : j = n := by omega
      subst this
      exact hx

def CellsAt (W : World) (a : Addr) (o n : Nat) (c : List Value) : Prop := c.length = n ∧ ∀ j u, c[j]? = some u → W.cell? (a.add (o + j)) = some u

theorem op_slice {α : Type} {d : Kd α} {t e : TypeId} {Q : α → Prop} (ht : P.underlying t = some (.slice e)) (hc : P.cellsOf e = d.sz) (hd : OpK enc P W d e Q) :
    OpK enc P W (Kd.slice e d) t (fun l => l.length ≤ maxLen ∧ ∀ a ∈ l, Q a) := by
  intro fuel cs x h
  rcases Go.Deep.open_slice ht h with ⟨rfl, _⟩ | ⟨a, len, cap, m, n, D, Pl, rfl, _, hl, hm, hmm, _, hx⟩
  · exact ⟨[], ⟨none, 0, rfl, Nat.le_refl _, rfl, by simp, fun h => absurd h (by simp)⟩, by simp [maxLen], fun _ h => by simp at h⟩
  · have hlm : len ≤ m := by rw [hmm]; simpa using hl
    obtain ⟨l, hll, hp⟩ := list_of (n := len) (p := fun i x => ∃ c, CellsAt W a (i * P.cellsOf e) (P.cellsOf e) c ∧ d.K W x c ∧ Q x) (fun i hi => by
      obtain ⟨cs', h1, h2⟩ := hx i (Nat.lt_of_lt_of_le hi hlm)
      obtain ⟨y, hy, hq⟩ := hd _ _ _ h2
      obtain ⟨_, hlen, hcell⟩ := World.cells?_some h1
      exact ⟨y, cs', ⟨hlen, fun j u hj => by
        have := hcell j (by have := (List.getElem?_eq_some_iff.1 hj).1; omega)
        rw [Go.Deep.add_add] at this
        rw [this]; exact hj⟩, hy, hq⟩)
    refine ⟨l, ⟨some a, cap, by rw [hll], by omega, rfl, by unfold maxLen at hm; omega, fun _ => ⟨a, rfl, fun j p hj => ?_⟩⟩, by omega, fun y hy => ?_⟩
    · obtain ⟨c, ⟨h1, h2⟩, h3, _⟩ := hp j p hj
      exact ⟨c, by rw [h1, hc], h3, fun i u hu => by rw [← hc]; exact h2 i u hu⟩
    · obtain ⟨j, hj⟩ := List.mem_iff_getElem?.1 hy
      obtain ⟨_, _, _, hq⟩ := hp j y hj
      exact hq
variable (enc P W) in
/-- The fields from offset off on hold a value of the kind d. -/
def OpFrom {β : Type} (fs : List Field) (off total : Nat) (d : Kd β) (Q : β → Prop) : Prop :=
  ∀ cs : List Value, cs.length = total → (∀ f, f ∈ fs → ∃ n x, DataW.trod enc P W 0 (fun _ => true) true n f.type ((cs.drop f.offset).take (P.cellsOf f.type)) = some x) → ∃ b, d.K W b (cs.drop off) ∧ Q b

theorem opFrom_one {α : Type} {d : Kd α} {f : Field} {off total : Nat} {Q : α → Prop} (ho : f.offset = off) (hc : P.cellsOf f.type = d.sz) (ht : total = off + d.sz) (hd : OpK enc P W d f.type Q) : OpFrom enc P W [f] off total d Q := by
  intro cs hl h
  obtain ⟨n, x, hx⟩ := h f (by simp)
  rw [ho, List.take_of_length_le (by rw [List.length_drop]; omega)] at hx
  exact hd _ _ _ hx

theorem opFrom_cons {α β : Type} {d : Kd α} {d' : Kd β} {f : Field} {fs : List Field} {off total : Nat} {Q : α → Prop} {Q' : β → Prop} (ho : f.offset = off) (hc : P.cellsOf f.type = d.sz) (hd : OpK enc P W d f.type Q) (hr : OpFrom enc P W fs (off + d.sz) total d' Q') :
    OpFrom enc P W (f :: fs) off total (Kd.pair d d') (fun z => Q z.1 ∧ Q' z.2) := by
  intro cs hl h
  obtain ⟨n, x, hx⟩ := h f (by simp)
  obtain ⟨b, hb, hq⟩ := hr cs hl (fun g hg => h g (by simp [hg]))
  rw [ho] at hx
  obtain ⟨a, ha, hqa⟩ := hd _ _ _ hx
  refine ⟨(a, b), ⟨(cs.drop off).take d.sz, cs.drop (off + d.sz), ?_, by rw [← hc]; exact ha, hb⟩, hqa, hq⟩
  rw [← List.drop_drop, List.take_append_drop]

theorem op_struct {β : Type} {t : TypeId} {fs : Array Field} {d : Kd β} {Q : β → Prop} {total : Nat} (ht : P.underlying t = some (.struct fs)) (hc : P.cellsOf t = total) (hr : OpFrom enc P W fs.toList 0 total d Q) : OpK enc P W d t Q := by
  intro fuel cs x h
  obtain ⟨xs, n, _, _, hl, hxs, hf⟩ := DataW.trod_struct ht h
  obtain ⟨b, hb, hq⟩ := hr cs (by rw [hl, hc]) (fun f hm => by
    obtain ⟨i, hi⟩ := List.mem_iff_getElem?.1 hm
    have hi2 : fs[i]? = some f := by simpa using hi
    have hlt : i < xs.length := by rw [hxs]; exact (Array.getElem?_eq_some_iff.1 hi2).1
    exact ⟨n, xs[i], by rw [hf i f hi2, List.getElem?_eq_getElem hlt]⟩)
  exact ⟨b, by simpa using hb, hq⟩

theorem op_iso {α β : Type} {t : TypeId} {d : Kd β} {Q : β → Prop} {g : α → β} (mk : β → α) (hmk : ∀ b, g (mk b) = b) (h : OpK enc P W d t Q) : OpK enc P W (Kd.iso d g) t (fun a => Q (g a)) := by
  intro fuel cs x hx
  obtain ⟨b, hb, hq⟩ := h fuel cs x hx
  exact ⟨mk b, by show d.K W (g (mk b)) cs; rw [hmk]; exact hb, by show Q (g (mk b)); rw [hmk]; exact hq⟩

theorem op_imp {α : Type} {t : TypeId} {d : Kd α} {Q Q' : α → Prop} (h : OpK enc P W d t Q) (hq : ∀ a, Q a → Q' a) : OpK enc P W d t Q' := by
  intro fuel cs x hx
  obtain ⟨b, hb, h1⟩ := h fuel cs x hx
  exact ⟨b, hb, hq b h1⟩
end
end Go.Proofs.YtjljhianehhlgaaDoor.KOpen
