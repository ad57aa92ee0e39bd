import Derived.Test.YtjljhianehhlgaaDoorS0
/-! ### sorted lists of entries -/
namespace Go.Proofs.YtjljhianehhlgaaDoor.M
open Go Go.RowKit Go.Maps Go.Shelf Go.Lib Go.Sort Go.Proofs.YtjljhianehhlgaaDoorW.PrintWords Go.Proofs.YtjljhianehhlgaaDoor.K Go.Proofs.YtjljhianehhlgaaDoor.V
set_option linter.unusedVariables false
variable {w w' W : World} {base g n c : Nat} {ok : Nat → Prop} {xs ys : List S31}
theorem getE (xs : List S31) (i : Nat) : xs.toArray[i]! = xs.getD i z31 := by
  simp only [List.getElem!_toArray, List.getElem!_eq_getElem?_getD, List.getD_eq_getElem?_getD]
  rfl
theorem holds_of_R (h : k31.R 31 W base ok (.slice (some ⟨g, 0, none⟩) n c) xs) (hn : n = xs.length) : HoldsK encE 2 W g 0 xs.toArray := by
  intro j hj
  rw [size_flatK] at hj
  have hj' : j < xs.length * 2 := by simpa using hj
  obtain ⟨cs, hl, hm, hc, hf⟩ := Kd.R_elem h z31 ((j / 2 : Nat) : Int) (by omega) (by omega)
  have e := k31_openM hm
  rw [Int.toNat_natCast] at hc hf
  rw [get_flatK _ _ _ _ hj, getE]
  have hj2 : j = j / 2 * 2 + j % 2 := by omega
  have hc1 := hc (j % 2)
  have hf1 := hf (j % 2)
  rw [show k31.sz = 2 from rfl, ← hj2] at hc1 hf1
  rw [Nat.zero_add]
  refine ⟨?_, hf1⟩
  rw [Int.toNat_natCast] at e
  subst e
  rcases Nat.mod_two_eq_zero_or_one j with q | q
  · rw [q] at hc1 ⊢
    exact hc1 _ rfl
  · rw [q] at hc1 ⊢
    exact hc1 _ rfl
theorem C_of_holds {d : Array S31} (h : HoldsK encE 2 W g 0 d) (hm : d.size ≤ 9223372036854775807) : k31.C W (some ⟨g, 0, none⟩) d.size d.toList := by
  refine ⟨by simp, hm, fun _ => ⟨_, rfl, fun j p hj => ⟨encE p, rfl, k31_mk W p, fun i u hi => ?_⟩⟩⟩
  have hjl : j < d.size := by have := (List.getElem?_eq_some_iff.1 hj).1; simpa using this
  have hi2 : i < 2 := (List.getElem?_eq_some_iff.1 hi).1
  have ht : j * 2 + i < d.size * 2 := by omega
  have h1 := (h (j * 2 + i) (by rw [size_flatK]; exact ht)).1
  rw [get_flatK _ _ _ _ ht, show (j * 2 + i) / 2 = j by omega, show (j * 2 + i) % 2 = i by omega] at h1
  have hp : d[j]! = p := by
    rw [getElem!_pos d j hjl]
    have := (List.getElem?_eq_some_iff.1 hj).2
    simpa using this
  rw [hp] at h1
  have hu : (encE p)[i]! = u := by
    rw [List.getElem!_eq_getElem?_getD, hi]; rfl
  rw [hu] at h1
  rw [show k31.sz = 2 from rfl]
  have e : (⟨g, 0, none⟩ : Addr).add (j * 2 + i) = ⟨g, j * 2 + i, none⟩ := by
    simp only [Addr.add]
    split
    · next q => rw [q]
    · simp
  rw [e]
  simpa using h1
theorem sorted_grown (n : Nat) (dk : Array S31) (os : Array Obj) : w.grownBy (sortWorldK encE 2 w g 0 n dk os) (some g) := by
  refine ⟨rfl, rfl, rfl, by simp [sortWorldK, putRowK, putRow, mapBlock, Sort.ahead, grow], fun k hk hne => ?_⟩
  unfold sortWorldK
  rw [heap_grow_old _ _ (by simpa [putRowK, putRow, mapBlock, Sort.ahead] using hk)]
  have : g ≠ k := fun e => hne (by rw [e])
  simp [putRowK, putRow, mapBlock, Sort.ahead, Array.getElem?_modify, this]
/-- Rising by account, no two alike called less. -/
def Rises (ys : List S31) : Prop := ∀ i j (hi : i < ys.length) (hj : j < ys.length), i < j → ¬ key ys[j] < key ys[i]
theorem sort_R (h : k31.R 31 w base ok (.slice (some ⟨g, 0, none⟩) n c) xs) (hx : 0 < xs.length) (hm : xs.length ≤ 1000000) :
    Calls Tryd.prog 37 #[.slice (some ⟨g, 0, none⟩) n c, .func (.func 38) #[] #[]] w fun e w' => e = .returned (.tuple #[]) ∧ ∃ ys, ys.Perm xs ∧ Rises ys ∧ n = ys.length ∧ k31.C w' (some ⟨g, 0, none⟩) ys.length ys ∧ w.grownBy w' (some g) := by
  obtain ⟨hn, hnc, hC⟩ := Kd.R_reads' h
  subst hn
  have hH := holds_of_R h rfl
  have hb : g < w.heap.size := Kd.R_lt h g rfl
  have hs := sort_t g 0 c xs.toArray w hH hb (by simp; omega)
  rw [List.size_toArray] at hs
  refine hs.mono ?_
  rintro e w' ⟨rfl, d', m, os, hp, hso, rfl⟩
  obtain ⟨hp1, _, hp3⟩ := hp
  have hsz : d'.size = xs.length := by rw [hp1]; simp
  have hperm : d'.toList.Perm xs := by
    have e1 : (d'.extract 0 xs.length) = d' := by rw [← hsz]; simp
    have e2 : (xs.toArray.extract 0 xs.length) = xs.toArray := by simp
    rw [e1, e2] at hp3
    exact hp3
  refine ⟨rfl, d'.toList, hperm, ?_, by simp [hsz], ?_, sorted_grown _ _ _⟩
  · intro i j hi hj hij
    have hi' : i < d'.size := by simpa using hi
    have hj' : j < d'.size := by simpa using hj
    have := hso i j (Nat.zero_le _) hij (by omega)
    rw [lt_E, getElem!_pos d' i hi', getElem!_pos d' j hj'] at this
    simpa using this
  · have := C_of_holds (holdsK_sortWorldK encE 2 w g 0 m xs.toArray d' os hb hH (by rw [hsz]; simp)) (by omega)
    rw [Array.length_toList]
    exact this
end Go.Proofs.YtjljhianehhlgaaDoor.M
