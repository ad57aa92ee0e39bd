import Derived.Test.YtjljhianehhlgaaDoorS2
/-! ### the balances are one list alone -/
namespace Go.Proofs.YtjljhianehhlgaaDoor.M
open Go Go.RowKit Go.Maps Go.Proofs.YtjljhianehhlgaaDoorW.PrintWords Go.Proofs.YtjljhianehhlgaaDoor.K Go.Proofs.YtjljhianehhlgaaDoor.V
set_option linter.unusedVariables false
variable {w w' : World} {g mb n : Nat} {D : DM} {e : Int} {more : List Value} {t : TypeId}
theorem s31_ext {x y : S31} (h1 : key x = key y) (h2 : x.f1 = y.f1) : x = y := by
  obtain ⟨⟨a⟩, b⟩ := x
  obtain ⟨⟨a'⟩, b'⟩ := y
  have : a = a' := Array.toList_inj.1 h1
  subst this
  cases h2
  rfl
theorem rise_unique : ∀ (xs ys : List S31), xs.Pairwise (fun x y => key x < key y) → ys.Pairwise (fun x y => key x < key y) → (∀ x, x ∈ xs ↔ x ∈ ys) → xs = ys
  | [], [], _, _, _ => rfl
  | [], y :: ys, _, _, h => by have := (h y).2 List.mem_cons_self; simp at this
  | x :: xs, [], _, _, h => by have := (h x).1 List.mem_cons_self; simp at this
  | x :: xs, y :: ys, hx, hy, h => by
    rw [List.pairwise_cons] at hx hy
    have e : x = y := by
      rcases List.mem_cons.1 ((h x).1 List.mem_cons_self) with e | h1
      · exact e
      · rcases List.mem_cons.1 ((h y).2 List.mem_cons_self) with e | h2
        · exact e.symm
        · exact absurd (List.lt_trans (hy.1 x h1) (hx.1 y h2)) (List.lt_irrefl _)
    subst e
    rw [rise_unique xs ys hx.2 hy.2 fun z => ?_]
    constructor
    · intro hz
      rcases List.mem_cons.1 ((h z).1 (List.mem_cons_of_mem _ hz)) with e | h1
      · subst e; exact absurd (hx.1 z hz) (List.lt_irrefl _)
      · exact h1
    · intro hz
      rcases List.mem_cons.1 ((h z).2 (List.mem_cons_of_mem _ hz)) with e | h1
      · subst e; exact absurd (hy.1 z hz) (List.lt_irrefl _)
      · exact h1
theorem Bal.mem {xs : List S31} (h : Bal D xs) (x : S31) : x ∈ xs ↔ got D (key x) = some x.f1 := by
  rw [h.1]
  constructor
  · intro hx; exact ⟨x, hx, rfl, rfl⟩
  · rintro ⟨y, hy, h1, h2⟩; rw [← s31_ext h1 h2]; exact hy
theorem Bal.unique {xs ys : List S31} (hx : Bal D xs) (hy : Bal D ys) : xs = ys := rise_unique xs ys hx.2.1 hy.2.1 fun x => by rw [hx.mem, hy.mem]
theorem bal_u (h : Book w g mb n D e more t) (hn : Nums D) (hm : n ≤ 1000000) {ys : List S31} (hB : Bal D ys) :
    Calls Tryd.prog 13 #[.pointer (some ⟨g, 0, none⟩)] w fun o w' => ∃ A c, o = .returned (.slice A ys.length c) ∧ ys.length ≤ c ∧ k31.C w' A ys.length ys ∧ Below w.heap.size w w' := by
  refine (bal_t h hn hm).mono ?_
  rintro o w' ⟨A, c, zs, rfl, hc, hC, hB2, hl, hb⟩
  have e := hB.unique hB2
  subst e
  exact ⟨A, c, rfl, hc, hC, hb⟩
end Go.Proofs.YtjljhianehhlgaaDoor.M
namespace Go.Proofs.YtjljhianehhlgaaDoor.K
open Go.RowKit
theorem tabOf {w W : World} (h : TB w) (hb : Below w.heap.size w W) : TB W := Lib.tabBelow_of_tabIs h W hb
end Go.Proofs.YtjljhianehhlgaaDoor.K
