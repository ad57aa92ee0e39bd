import Derived.Test.YtjljhianehhlgaaDoorQ0
import Derived.Test.YtjljhianehhlgaaDoorShelf
import Derived.Shelf.Strconv.Itoa3
/-! ### strconv.FormatUint at base 10 -/
namespace Go.Proofs.YtjljhianehhlgaaDoor.K
open Go Go.RowKit Go.Shelf Go.Sort Go.Lib Go.Proofs.YtjljhianehhlgaaDoorW.PrintWords Go.Proofs.YtjljhianehhlgaaDoorW.PrintLast Go.Proofs.YtjljhianehhlgaaDoorW.PrintMore
set_option linter.unusedVariables false
set_option maxRecDepth 100000
set_option maxHeartbeats 1000000
theorem fu_small (i : Nat) (hi : i < 100) (w : World) : Calls Tryd.prog 99 #[.int .u64 i, .int .i64 10] w fun e w' => e = .returned (.string ⟨(Lib.decDigits i).toArray⟩) ∧ w' = w := by
  have hlt : decide ((i : Int) < 100) = true := decide_eq_true (by omega)
  have hwr : IntKind.i64.wrap (i : Int) = (i : Int) := by rw [IntKind.wrap_i64]; omega
  go_enter Tryd.func99, Tryd.ntmps99
  go_wp2_with (go_at_call 110; refine (Tryd.internal_strconv_small i hi _).mono ?_; rintro e w' ⟨rfl, rfl⟩)
  go_ret
  exact ⟨rfl, rfl⟩
theorem fu_big (u : Nat) (hu1 : 100 ≤ u) (hu64 : u < 18446744073709551616) (w : World) (htab : TB w) : Calls Tryd.prog 99 #[.int .u64 u, .int .i64 10] w fun e w' => e = .returned (.string ⟨(Lib.decDigits u).toArray⟩) ∧ ∃ k os, w' = grow (w.drewN k) os := by
  have hge : decide ((u : Int) < 100) = false := decide_eq_false (by omega)
  have hnd20 : Lib.nDigits u ≤ 20 := by have := Lib.numDigits_eq u (by omega) hu64; split at this <;> omega
  have hal : Tryd.prog.arrayLen 178 = 24 := by simp [Program.arrayLen, Tryd.underlying178]
  have hsl1 : ∀ W, (Instr.sliceAt 178 (.pointer (some ⟨w.heap.size, 0, none⟩)) none (some (.int .i64 (Lib.nDigits u : Int))) none).run Tryd.prog W = .ok (.slice (some ⟨w.heap.size, 0, none⟩) (Lib.nDigits u) 24) W := fun W => by
    rw [run_sliceAt_array_h W 178 ⟨w.heap.size, 0, none⟩ (by simp [Program.arrayLen, Program.elem, Tryd.underlying178]) .i64 (Lib.nDigits u : Int) (by omega) (by rw [hal]; omega)]
    go_simp
    try omega
  have hH0 : Holds (fun (b : UInt8) => Value.int .u8 (b.toNat : Int)) (w.alloc (.cells Lib.zeros24 178)) w.heap.size 0 (Array.replicate (Lib.nDigits u) 0) := Lib.holds_zero0 w 178 _ (by omega)
  have hfmt := Tryd.internal_strconv_formatBase10 w.heap.size 0 24 u (Array.replicate (Lib.nDigits u) 0) (w.alloc (.cells Lib.zeros24 178)) hH0 (by rw [Array.size_replicate]; exact Lib.lt_pow_nDigits u) hu64 (by rw [Array.size_replicate]; omega)
  rw [Array.size_replicate] at hfmt
  have HH0 := Lib.hid hH0
  clear hH0 hal
  go_enter Tryd.func99, Tryd.ntmps99
  go_wp2_with (first
    | (go_at_call 111; refine (Tryd.internal_strconv_numDigits u (by omega) hu64 _ (Lib.tabIs_alloc htab _)).mono ?_; rintro e w' ⟨rfl, rfl⟩))
  go_at_call 112
  refine hfmt.mono ?_
  rintro e w' ⟨rfl, k, v', dk, rfl, hF⟩
  have hcv : (convert 122 9 (.slice (some ⟨w.heap.size, 0, none⟩) (Lib.nDigits u) 24)).run Tryd.prog ((putRow (fun (b : UInt8) => Value.int .u8 (b.toNat : Int)) (w.alloc (.cells Lib.zeros24 178)) w.heap.size 0 dk).drewN k) = .ok (.string ⟨(Lib.decDigits u).toArray⟩) ((putRow (fun (b : UInt8) => Value.int .u8 (b.toNat : Int)) (w.alloc (.cells Lib.zeros24 178)) w.heap.size 0 dk).drewN k) := by
    have h := run_convert_bytes_back (P := Tryd.prog) ((putRow (fun (b : UInt8) => Value.int .u8 (b.toNat : Int)) (w.alloc (.cells Lib.zeros24 178)) w.heap.size 0 dk).drewN k) 122 9 5 ⟨w.heap.size, 0, none⟩ 24 (Lib.decDigits u) Tryd.underlying122 Tryd.underlying5 Tryd.underlying9 (fun j hj => by
      rw [Lib.row_is_numeral hF j hj, Lib.add_plain, World.cell?_drewN]
      exact cell?_putRow (fun (b : UInt8) => Value.int .u8 (b.toNat : Int)) _ w.heap.size 0 _ dk HH0.out (by rw [hF.size, Array.size_replicate]) j (by rw [hF.size]; rw [Lib.decDigits_length] at hj; exact hj))
    rw [Lib.decDigits_length] at h
    exact h
  go_wp2
  go_ret
  obtain ⟨os, eo⟩ := Lib.fin_at w (.cells Lib.zeros24 178) dk k 0
  exact ⟨rfl, k, os, eo⟩
theorem formatUint_t (a : Int) (h0 : 0 ≤ a) (h1 : a ≤ 18446744073709551615) {w : World} (htb : TB w) : Calls Tryd.prog 74 #[.int .u64 a, .int .i64 10] w fun e w' => e = .returned (.string (digs a)) ∧ Below w.heap.size w w' := by
  obtain ⟨u, rfl⟩ : ∃ u : Nat, a = u := ⟨a.toNat, by omega⟩
  have he : (⟨(Lib.decDigits u).toArray⟩ : ByteArray) = digs (u : Int) := by
    unfold digs
    have e21 : (10 : Nat) ^ (20 + 1) = 1000000000000000000000 := by decide
    rw [if_neg (by omega), Int.toNat_natCast, digF_eq 20 u (by rw [e21]; omega)]
  rw [← he]
  by_cases hs : u < 100
  · go_enter Tryd.func74, Tryd.ntmps74
    go_wp2_with (go_at_call 99; refine (fu_small u hs _).mono ?_; rintro e w' ⟨rfl, rfl⟩)
    go_ret
    exact ⟨by rw [he]; rfl, Below.refl _ _⟩
  · go_enter Tryd.func74, Tryd.ntmps74
    go_wp2_with (go_at_call 99; refine (fu_big u (by omega) (by omega) _ htb).mono ?_; rintro e w' ⟨rfl, k, os, rfl⟩)
    go_ret
    exact ⟨by rw [he]; rfl, grown_below _ _ _⟩
end Go.Proofs.YtjljhianehhlgaaDoor.K
