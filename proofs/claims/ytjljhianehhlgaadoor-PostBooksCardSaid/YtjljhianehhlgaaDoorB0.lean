import Derived.Test.YtjljhianehhlgaaDoorM1
/-! ### post.New, Book.On, Book.Entries -/
namespace Go.Proofs.YtjljhianehhlgaaDoor.M
open Go Go.RowKit Go.Maps Go.Proofs.YtjljhianehhlgaaDoorW.PrintWords Go.Proofs.YtjljhianehhlgaaDoor.K
set_option linter.unusedVariables false
/-- A book lies at the head of block g: its map in block mb, so many entries; what else the block holds. -/
structure Book (w : World) (g mb n : Nat) (D : DM) (e : Int) (more : List Value) (t : TypeId) : Prop where
  blk : w.heap[g]? = some (.cells (#[.map (some mb), .int .i64 e] ++ more.toArray) t (0, 0))
  map : MP w mb n D
  ne : g ≠ mb
variable {w w' : World} {g mb n : Nat} {D : DM} {e : Int} {more : List Value} {t : TypeId}
theorem Book.c0 (h : Book w g mb n D e more t) : w.cell? ⟨g, 0, none⟩ = some (.map (some mb)) := (blk_cell h.blk 0).trans (by simp)
theorem Book.c1 (h : Book w g mb n D e more t) : w.cell? ⟨g, 1, none⟩ = some (.int .i64 e) := (blk_cell h.blk 1).trans (by simp)
theorem Book.f1 (h : Book w g mb n D e more t) (j : Nat) : w.frozen? ⟨g, j, none⟩ = false := blk_frozen h.blk j
theorem Book.lt (h : Book w g mb n D e more t) : g < w.heap.size := (Array.getElem?_eq_some_iff.1 h.blk).1
theorem Book.touch {S : Nat → Prop} (h : Book w g mb n D e more t) (ht : Touch S w w') (h1 : ¬ S g) (h2 : ¬ S mb) : Book w' g mb n D e more t := ⟨blk_touch h.blk ht h1, h.map.touch ht h2, h.ne⟩
theorem Book.below {B : Nat} (h : Book w g mb n D e more t) (hb : Below B w w') (h1 : g < B) (h2 : mb < B) : Book w' g mb n D e more t := ⟨(hb.block g h1).trans h.blk, h.map.below hb h2, h.ne⟩
set_option maxRecDepth 100000 in
theorem on_t (h : Book w g mb n D e more t) (hn : Nums D) (s : ByteArray) (hs : s.size ≤ maxLen) : Calls Tryd.prog 14 #[.pointer (some ⟨g, 0, none⟩), .string s] w fun o w' => o = .returned (.int .i64 (val D s.data.toList)) ∧ w' = w := by
  have h0 := h.c0
  have hl := h.map.look hn hs
  clear h hn
  go_enter Tryd.func14, Tryd.ntmps14
  go_wp2
  go_ret
  exact ⟨rfl, rfl⟩
set_option maxRecDepth 100000 in
theorem entries_t (h : Book w g mb n D e more t) : Calls Tryd.prog 15 #[.pointer (some ⟨g, 0, none⟩)] w fun o w' => o = .returned (.int .i64 e) ∧ w' = w := by
  have h0 := h.c1
  clear h
  go_enter Tryd.func15, Tryd.ntmps15
  go_wp2
  go_ret
  exact ⟨rfl, rfl⟩
set_option maxRecDepth 100000 in
theorem new_t (w : World) : Calls Tryd.prog 10 #[] w fun o w' => ∃ g mb, o = .returned (.pointer (some ⟨g, 0, none⟩)) ∧ Book w' g mb 0 (.map []) 0 [] 88 ∧ w.heap.size ≤ g ∧ w.heap.size ≤ mb ∧ Below w.heap.size w w' := by
  have hmm := @run_makeMap Tryd.prog
  go_enter Tryd.func10, Tryd.ntmps10
  go_wp2
  go_ret
  have h1 := blk_new (w.alloc (.map #[] 0)) (.cells #[.map (some w.heap.size), .int .i64 0] 88)
  have hs : (w.alloc (.map #[] 0)).heap.size = w.heap.size + 1 := by simp
  rw [hs] at h1
  exact ⟨w.heap.size + 1, w.heap.size, rfl, ⟨h1, (made w).touch (Touch.of_below (bA (Below.refl _ _) _) (fun _ => False)) (fun q => q), by omega⟩, by omega, Nat.le_refl _, bA (bA (Below.refl _ _) _) _⟩
end Go.Proofs.YtjljhianehhlgaaDoor.M
