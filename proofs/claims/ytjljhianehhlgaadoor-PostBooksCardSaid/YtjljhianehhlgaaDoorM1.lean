import Derived.Test.YtjljhianehhlgaaDoorM0
import Derived.Test.YtjljhianehhlgaaDoorQ0
/-! ### Maps at the operations; what a step leaves as it was -/
namespace Go.Proofs.YtjljhianehhlgaaDoor.M
open Go Go.RowKit Go.Maps Go.WideMaps Go.Proofs.YtjljhianehhlgaaDoorW.PrintWords
/-- Of what was there nothing has turned but the blocks of S. -/
structure Touch (S : Nat → Prop) (w w' : World) : Prop where
  os : w'.os = w.os
  tape : w'.tape = w.tape
  output : w'.output = w.output
  size : w.heap.size ≤ w'.heap.size
  block : ∀ k, k < w.heap.size → ¬ S k → w'.heap[k]? = w.heap[k]?
section
variable {w w' w'' : World} {S S' : Nat → Prop} {b n : Nat} {D : DM}
theorem Touch.refl (S : Nat → Prop) (w : World) : Touch S w w := ⟨rfl, rfl, rfl, Nat.le_refl _, fun _ _ _ => rfl⟩
theorem Touch.of_below (h : Below w.heap.size w w') (S : Nat → Prop) : Touch S w w' := ⟨h.os, h.tape, h.output, h.size, fun k hk _ => h.block k hk⟩
theorem Touch.of_grown {row : Option Nat} (h : w.grownBy w' row) : Touch (fun k => some k = row) w w' := ⟨h.os, h.tape, h.output, h.size, fun k hk hs => h.block k hk hs⟩
theorem Touch.mono (h : Touch S w w') (hs : ∀ k, k < w.heap.size → S k → S' k) : Touch S' w w' := ⟨h.os, h.tape, h.output, h.size, fun k hk hn => h.block k hk (fun q => hn (hs k hk q))⟩
theorem Touch.trans (h : Touch S w w') (h' : Touch S' w' w'') (hs : ∀ k, k < w.heap.size → S' k → S k) : Touch S w w'' :=
  ⟨h'.os.trans h.os, h'.tape.trans h.tape, h'.output.trans h.output, Nat.le_trans h.size h'.size, fun k hk hn => (h'.block k (Nat.lt_of_lt_of_le hk h.size) (fun q => hn (hs k hk q))).trans (h.block k hk hn)⟩
theorem Touch.below {B : Nat} (h : Touch S w w') (hs : ∀ k, k < w.heap.size → S k → B ≤ k) (hB : B ≤ w.heap.size) : Below B w w' := ⟨h.os, h.tape, h.output, h.size, fun k hk => h.block k (Nat.lt_of_lt_of_le hk hB) (fun q => by have := hs k (Nat.lt_of_lt_of_le hk hB) q; omega)⟩
theorem Touch.setCell (w : World) (g j : Nat) (v : Value) : Touch (fun k => k = g) w (w.setCell ⟨g, j, none⟩ v) := ⟨rfl, rfl, rfl, by simp [World.setCell], fun k hk hn => Below.heap_setCell _ _ _ k hn⟩
theorem MP.touch (h : MP w b n D) (ht : Touch S w w') (hs : ¬ S b) : MP w' b n D := h.same (ht.block b h.lt hs)
theorem blk_touch {g : Nat} {o : Obj} (h : w.heap[g]? = some o) (ht : Touch S w w') (hs : ¬ S g) : w'.heap[g]? = some o := (ht.block g (Array.getElem?_eq_some_iff.1 h).1 hs).trans h
end
/-- What reads as a key of a text's type is a text. -/
theorem str_inv {key : Value} {kl : Lit} (h : keyOf Tryd.prog 9 key = some kl) : ∃ x : ByteArray, key = .string x ∧ kl = kk x ∧ x.size ≤ maxLen := by
  cases key <;> simp [keyOf, Tryd.underlying9, mapKey] at h
  obtain ⟨hs, rfl⟩ := h
  exact ⟨_, rfl, rfl, hs⟩
section
variable {w : World} {ops : Array Oper} {rest : List Oper} {o : Oper} {a : Act} {Q : Exit → Act → World → Prop} {b r n : Nat} {D : DM}
/-- m[s] = c. -/
theorem wp_put (hg : o.guard = none) (m x v : Operand) (hop : o.op = Op.mapUpdate 26 m x v) (hm : a.eval m = .map (some b)) (hown : MP w b n D) (hn : n < maxLen) (s : ByteArray) (c : Int) (hx : a.eval x = .string s) (hv : a.eval v = .int .i64 c) (hs : s.size ≤ maxLen) (hc : (Lit.int .i64 c).wf = true)
    (hK : ∀ w', MP w' b (n + 1) (D.put (kk s) (.lit (.int .i64 c))) → w.grownBy w' (some b) → wpList Tryd.prog ops Q rest (a.put o.dst undef) w') : wpList Tryd.prog ops Q (o :: rest) a w :=
  wpList_mapUpdate_own w hg m x v 26 hop 9 2 law9 Tryd.underlying26 EI b n D hm hown hn _ _ _ hx hv (key_ok hs) _ [] (ei_int hc) hK
/-- delete(m, s). -/
theorem wp_del (hg : o.guard = none) (m x : Operand) (hop : o.op = Op.call { callee := Callee.builtin Builtin.delete, args := #[m, x], argTypes := #[26, 9] }) (hm : a.eval m = .map (some b)) (hown : MP w b n D) (s : ByteArray) (hx : a.eval x = .string s) (hs : s.size ≤ maxLen)
    (hK : ∀ w', MP w' b n (D.del (kk s)) → w.grownBy w' (some b) → wpList Tryd.prog ops Q rest (a.put o.dst (.tuple #[])) w') : wpList Tryd.prog ops Q (o :: rest) a w := by
  refine wpList_plain hg fun K' hK' => ?_
  obtain ⟨w', hrun, r1, r2⟩ := World.ownsMap.drop hown law9 Tryd.underlying26 (key_ok hs) o.type
  unfold Oper.wp
  simp [execOp, hop, resolve, invoke, builtin, hm, hx, hrun, Result.andThen]
  exact hK' _ _ (hK w' r1 r2.grown)
/-- A loop over a map that is under way. -/
def RG (w : World) (b r n : Nat) (D : DM) (left : Lit → Bool) (cnt : Nat) : Prop := w.ranges Tryd.prog 9 EI b r n D left cnt
theorem RG.owns {left : Lit → Bool} {cnt : Nat} (h : RG w b r n D left cnt) : MP w b n D := World.ranges.owns h
theorem RG.kept {w' : World} {left : Lit → Bool} {cnt : Nat} {S : Nat → Prop} (h : RG w b r n D left cnt) (ht : Touch S w w') (h1 : ¬ S b) (h2 : ¬ S r) : RG w' b r n D left cnt := by
  have hb := (World.ranges.owns h).lt
  have hr := World.ranges.lt h
  obtain ⟨es, clock, since, seen, c0, g1, F, hs, hD, g2, rest⟩ := h
  exact ⟨es, clock, since, seen, c0, (ht.block b hb h1).trans g1, F, hs, hD, (ht.block r hr h2).trans g2, rest⟩
/-- range m. -/
theorem wp_range (hg : o.guard = none) (m : Operand) (hop : o.op = Op.range 26 m) (hm : a.eval m = .map (some b)) (hown : MP w b n D)
    (hK : ∀ w', RG w' b w.heap.size n D (has D) (size D) → w.grownBy w' none → w'.heap.size = w.heap.size + 1 → wpList Tryd.prog ops Q rest (a.put o.dst (.pointer (some ⟨w.heap.size, 0, none⟩))) w') : wpList Tryd.prog ops Q (o :: rest) a w :=
  wpList_range_own w hg m 26 hop 9 2 law9 Tryd.underlying26 EI b n D hm hown hK
/-- The step. -/
theorem wp_next (hg : o.guard = none) (it : Operand) (hop : o.op = Op.next it false) (left : Lit → Bool) (cnt : Nat) (hit : a.eval it = .pointer (some ⟨r, 0, none⟩)) (h : RG w b r n D left cnt)
    (hDone : cnt = 0 → (∀ kl, left kl = false) → wpList Tryd.prog ops Q rest (a.put o.dst (.tuple #[.bool false])) w)
    (hMore : ∀ (x : ByteArray) (c : Int) (w' : World) (cnt' : Nat), x.size ≤ maxLen → (Lit.int .i64 c).wf = true → left (kk x) = true → (∀ zd, D.atKey (kk x) zd = .lit (.int .i64 c)) → RG w' b r n D (fun z => left z && !z.sameKey (kk x)) cnt' → cnt' < cnt →
      w.grownBy w' (some r) → w'.heap.size = w.heap.size → (Instr.entry (.pointer (some ⟨r, 0, none⟩))).run Tryd.prog w' = .ok (.tuple #[.string x, .int .i64 c]) w' → wpList Tryd.prog ops Q rest (a.put o.dst (.tuple #[.bool true, .string x, .int .i64 c])) w') :
    wpList Tryd.prog ops Q (o :: rest) a w :=
  wpList_next_ranges w hg it hop 9 law9 EI Value.string (Value.int .i64) (fun key kl hkey => by obtain ⟨x, rfl, _⟩ := str_inv hkey; exact ⟨x, rfl⟩) (fun v y hv => by obtain ⟨c, rfl, _⟩ := ei_inv hv; exact ⟨c, rfl⟩)
    b r n D left cnt hit h hDone (fun x c kl y w' cnt' hkey hlk hv hat hrg hlt hgr hsz hen => by
      obtain ⟨x', ex, rfl, hsx⟩ := str_inv hkey
      cases ex
      obtain ⟨c', ec, rfl, hwc⟩ := ei_inv hv
      cases ec
      exact hMore x c w' cnt' hsx hwc hlk hat hrg hlt hgr hsz hen)
end
/-! #### what is done of a loop over a map -/
theorem key_eq {s s' : List UInt8} : (Lit.string s).sameKey (.string s') = decide (s = s') := by
  by_cases e : s = s'
  · subst e
    rw [WideAt.sameKey_self (show WideAt.IsKeyLit (.string s) from trivial)]
    simp
  · rw [sameKey_ne (fun h => e (by injection h))]
    simp [e]
end Go.Proofs.YtjljhianehhlgaaDoor.M
