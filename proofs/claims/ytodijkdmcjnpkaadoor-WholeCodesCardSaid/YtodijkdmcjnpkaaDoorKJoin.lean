/- The walk of word.Join over its real code (a strings.Builder): what it computes is word_Join.f. -/
import Derived.Test.YtodijkdmcjnpkaaDoorKx0
import Derived.Test.YtodijkdmcjnpkaaDoorKx12
import Derived.Test.YtodijkdmcjnpkaaDoorKCut
import Derived.Test.YtodijkdmcjnpkaaDoorBld
namespace Go.Proofs.YtodijkdmcjnpkaaDoor.K
open Go.RowKit Go.Proofs.YtodijkdmcjnpkaaDoorW.PrintWords Go.Proofs.YtodijkdmcjnpkaaDoorW.PrintLast Go.Proofs.YtodijkdmcjnpkaaDoorW.PrintMore
attribute [local go_sem] max2_int min2_int max_two min_two max_three min_three max_four min_four   -- for this text's walks alone
set_option linter.unusedVariables false
set_option linter.unusedSimpArgs false
def quoted (s : ByteArray) : ByteArray := ((⟨#[34]⟩ : ByteArray) ++ s) ++ (⟨#[34]⟩ : ByteArray)
def qend (s : ByteArray) (b : Bool) (l : List UInt8) : ByteArray × Int := if l.all shownB = true then (if (b && l.all plainB) = true then (s, 0) else (quoted s, 0)) else (⟨#[]⟩, 5)
def quoteL (s : ByteArray) : ByteArray × Int := qend s (s.toList != ([] : List UInt8)) s.data.toList
theorem wrap_million (x : Int) (h0 : 0 ≤ x) (h1 : x ≤ 1000000) : wrap64 (x + 1) = x + 1 := by unfold wrap64; omega
theorem quote_l0 (s : ByteArray) (hs : s.size ≤ 1000000) : ∀ (d k : Nat) (b : Bool) (x : Int), 0 ≤ x → x ≤ s.size → (s.size : Int) - x = d → d < k → word_Quote.l0 k s b (s.size : Int) x = some (qend s b (s.data.toList.drop x.toNat)) := by
  intro d
  induction d with
  | zero =>
    intro k b x h0 h1 hd hk
    obtain ⟨k, rfl⟩ : ∃ m, k = m + 1 := ⟨k - 1, by omega⟩
    simp only [word_Quote.l0]
    rw [if_neg (by omega), drop_end s x (by omega)]
    cases b with
    | true => rfl
    | false =>
      have e1 : ((⟨#[34]⟩ : ByteArray) ++ s).size = 1 + s.size := by rw [ByteArray.size_append]; rfl
      rw [if_neg (by decide), if_pos (by omega), if_pos (by rw [e1]; omega)]
      rfl
  | succ d ih =>
    intro k b x h0 h1 hd hk
    obtain ⟨k, rfl⟩ : ∃ m, k = m + 1 := ⟨k - 1, by omega⟩
    obtain ⟨c, hdr, hc⟩ := drop_bt s x h0 (by omega)
    simp only [word_Quote.l0]
    rw [if_pos (by omega), if_pos h0, if_pos (by omega), ← hc, shown_f, Option.bind_some, hdr, wrap_million x h0 (by omega)]
    unfold qend
    rw [List.all_cons, List.all_cons]
    cases hsb : shownB c with
    | false => rfl
    | true =>
      rw [if_pos rfl]
      cases b with
      | true =>
        rw [if_pos rfl, plain_f, Option.bind_some, ih k _ (x + 1) (by omega) (by omega) (by omega) (by omega)]
        unfold qend
        simp
      | false =>
        rw [if_neg (by decide), ih k _ (x + 1) (by omega) (by omega) (by omega) (by omega)]
        unfold qend
        simp
theorem quote_f (s : ByteArray) (hs : s.size ≤ 1000000) : word_Quote.f (s.size + 1) s = some (quoteL s) := by
  unfold word_Quote.f quoteL
  rw [quote_l0 s hs s.size (s.size + 1) _ 0 (by omega) (by omega) (by omega) (by omega)]
  rfl
def joinGo : List ByteArray → Bool → List UInt8 → Option (ByteArray × Int)
  | [], _, acc => some (mkb acc, 0)
  | s :: r, fst, acc => if s.size ≤ 1000000 then (if (quoteL s).2 = 0 then (if ((if fst = true then acc else acc ++ [32]) ++ (quoteL s).1.data.toList).length > 512 then some (⟨#[]⟩, 2) else joinGo r false ((if fst = true then acc else acc ++ [32]) ++ (quoteL s).1.data.toList)) else some (⟨#[]⟩, (quoteL s).2)) else none
def word_Join.f (l0 : List ByteArray) : Option (ByteArray × Int) := if (l0.length : Int) > 32 then some (⟨#[]⟩, 2) else joinGo l0 true []
theorem drop_rd (l : List ByteArray) (x : Int) (h0 : 0 ≤ x) (h1 : x < l.length) : l.drop x.toNat = rdOf ByteArray.empty l x :: l.drop (x + 1).toNat := by
  have hlt : x.toNat < l.length := by omega
  rw [List.drop_eq_getElem_cons hlt, show (x + 1).toNat = x.toNat + 1 by omega]
  congr 1
  simp [rdOf, List.getD_eq_getElem?_getD, hlt]
theorem drop_no (l : List ByteArray) (x : Int) (h1 : x = l.length) : l.drop x.toNat = [] := by
  apply List.drop_eq_nil_of_le; omega
theorem qsize (s : ByteArray) (h : s.size ≤ 1000000) : (quoteL s).1.size ≤ 1000002 := by
  unfold quoteL qend quoted
  split
  · split
    · show s.size ≤ _; omega
    · show ((⟨#[34]⟩ ++ s) ++ ⟨#[34]⟩ : ByteArray).size ≤ _
      rw [ByteArray.size_append, ByteArray.size_append]
      show 1 + s.size + 1 ≤ _
      omega
  · decide
theorem blen (s : ByteArray) : s.data.toList.length = s.size := data_length s
theorem write_space (B b : Nat) (l : List UInt8) (w : World) (h : Go.Proofs.YtodijkdmcjnpkaaDoor.B.Bd B b l w) (hlen : l.length + 1 ≤ 140737488355328) (hBw : B ≤ w.heap.size) :
    Calls Tryd.prog 25 #[.pointer (some ⟨b, 0, none⟩), .int .u8 32] w fun e w' => e = .returned .nilIface ∧ Go.Proofs.YtodijkdmcjnpkaaDoor.B.Bd B b (l ++ [32]) w' ∧ Below B w w' :=
  Go.Proofs.YtodijkdmcjnpkaaDoor.B.writeByte_any B b l 32 w h hlen hBw
/-- A builder over draws. -/
theorem bd_drewN {B b : Nat} {l : List UInt8} {w : World} (h : Go.Proofs.YtodijkdmcjnpkaaDoor.B.Bd B b l w) (n : Nat) : Go.Proofs.YtodijkdmcjnpkaaDoor.B.Bd B b l (w.drewN n) := h
set_option maxHeartbeats 4000000 in
set_option maxRecDepth 100000 in
theorem word_Join.calls (A0 : Option Addr) (c0 : Nat) (l0 : List ByteArray) (r1 : ByteArray) (r2 : Int) (w : World) (hr0 : Kd.C Kd.string w A0 l0.length l0) (hc0 : l0.length ≤ c0) (h : word_Join.f l0 = some (r1, r2)) :
    Calls Tryd.prog 13 #[.slice A0 l0.length c0] w fun e w' => e = .returned (.tuple #[.string r1, .int .i64 r2]) ∧ Below w.heap.size w w' := by
  unfold word_Join.f at h
  by_cases d0 : (l0.length : Int) > 32
  · rw [if_pos d0] at h
    obtain ⟨rfl, rfl⟩ : (⟨#[]⟩ : ByteArray) = r1 ∧ (2 : Int) = r2 := by simpa using h
    clear h
    have c0b0 : decide (32 < (l0.length : Int)) = true := decide_eq_true d0
    have c0b1 : decide (32 < l0.length) = true := decide_eq_true (by omega)
    clear d0
    go_enter Tryd.func13, Tryd.ntmps13
    go_wp2
    go_ret2
    exact ⟨rfl, Below.refl _ _⟩
  rw [if_neg d0] at h
  have c0b0 : decide (32 < (l0.length : Int)) = false := decide_eq_false d0
  have c0b1 : decide (32 < l0.length) = false := decide_eq_false (by omega)
  have HLL := Aside0.mk (show l0.length ≤ 32 by omega)
  have HC := Aside0.mk h
  have HR0 := Aside0.mk hr0
  have HC0 := Aside0.mk hc0
  clear h hr0 hc0 d0
  have HB0 := Aside0.mk (Go.Proofs.YtodijkdmcjnpkaaDoor.B.Bd_fresh w)
  go_enter Tryd.func13, Tryd.ntmps13
  go_wp2
  go_loopg [14] (l0.length + 1) (fun kq v14 w' => ∃ (x14 : Int) (acc : List UInt8), v14 = .int .i64 x14 ∧ Aside0 (0 ≤ x14 ∧ x14 ≤ l0.length ∧ x14 + kq = l0.length + 1 ∧ acc.length ≤ 512) ∧ Aside0 (joinGo (l0.drop x14.toNat) (decide (x14 = 0)) acc = some (r1, r2)) ∧ Aside0 (Go.Proofs.YtodijkdmcjnpkaaDoor.B.Bd w.heap.size w.heap.size acc w') ∧ Aside0 (Below w.heap.size w w'))
  case atStart => exact ⟨0, [], rfl, ⟨by omega, by omega, by omega, by simp⟩, HC, HB0, ⟨(Below.refl _ _).alloc (Nat.le_refl _) _⟩⟩
  case round =>
    clear HB0 HC
    obtain ⟨x14, acc, rfl, HI, HJ, HBD, HB⟩ := hrel
    by_cases d1 : x14 < (l0.length : Int)
    · have hI := HI.out
      have hJ := HJ.out
      rw [drop_rd l0 x14 (by omega) d1] at hJ
      simp only [joinGo] at hJ
      by_cases d2 : (rdOf ByteArray.empty l0 x14).size ≤ 1000000
      rotate_left
      · rw [if_neg d2] at hJ; exact absurd hJ (by simp)
      rw [if_pos d2] at hJ
      have AQ := Aside0.mk (quote_f _ d2)
      have HQS := Aside0.mk (qsize _ d2)
      have AQ2 := Aside0.mk (show word_Quote.f ((rdOf ByteArray.empty l0 x14).size + 1) (rdOf ByteArray.empty l0 x14) = some ((quoteL (rdOf ByteArray.empty l0 x14)).1, (quoteL (rdOf ByteArray.empty l0 x14)).2) from AQ.out)
      clear AQ d2
      have c1b0 : decide (x14 < (l0.length : Int)) = true := decide_eq_true d1
      have p9 : 0 ≤ (x14 : Int) := by omega
      have q9 : x14 < (l0.length : Int) := d1
      obtain ⟨ad9, e9, hx9⟩ := Kd.at_string HR0.out x14 p9 q9
      cases e9
      replace hx9 := (HB.out.cell (World.block_lt_of_cell? w _ hx9)).trans hx9
      replace p9 := eq_true p9
      replace q9 := eq_true q9
      have HW := Aside0.mk (wrap_million x14 (by omega) (by have := HLL.out; omega))
      clear d1 hI HJ
      obtain ⟨qs, qe, HQ⟩ : ∃ qs qe, Aside0 (quoteL (rdOf ByteArray.empty l0 x14) = (qs, qe)) := ⟨_, _, ⟨rfl⟩⟩
      rw [HQ.out] at AQ2 hJ HQS
      by_cases d3 : qe = 0
      rotate_left
      · rw [if_neg d3] at hJ
        simp only [Option.some.injEq, Prod.mk.injEq] at hJ
        obtain ⟨rfl, rfl⟩ := hJ
        have c3b1 : (qe != 0) = true := bne_iff_ne.mpr d3
        clear d3
        go_wp2_with (first | (go_at_call 24; (with_reducible refine (word_Quote.calls _ _ qs qe _ AQ2.out).mono ?_); rintro e w' ⟨rfl, ⟨nd, rfl⟩⟩))
        go_ret2
        exact ⟨rfl, (by repeat (first | (with_reducible first | exact HB.out | apply below_alloc | apply pw_below_drewN | apply below_drew1) | exact HB.out))⟩
      rw [if_pos d3] at hJ
      subst d3
      have HJ := Aside0.mk hJ
      clear hJ
      cases gk with
      | zero => exact absurd HI.out (by omega)
      | succ k1 =>
      by_cases dx : x14 = 0
      · have cxb0 : decide (0 < x14) = false := decide_eq_false (by omega)
        have HX := Aside0.mk dx
        rw [show decide (x14 = 0) = true from decide_eq_true dx, if_pos rfl] at HJ
        clear dx
        by_cases dl : (acc ++ qs.data.toList).length > 512
        · have hJ := HJ.out
          rw [if_pos dl] at hJ
          simp only [Option.some.injEq, Prod.mk.injEq] at hJ
          obtain ⟨rfl, rfl⟩ := hJ
          rw [List.length_append, blen] at dl
          have clb0 : decide (512 < (acc.length : Int) + (qs.size : Int)) = true := decide_eq_true (by omega)
          clear dl HJ
          go_wp2_with (first | (go_at_call 24; (with_reducible refine (word_Quote.calls _ _ qs 0 _ AQ2.out).mono ?_); rintro e w' ⟨rfl, ⟨nd, rfl⟩⟩) | (go_at_call 26; (with_reducible refine (Go.Proofs.YtodijkdmcjnpkaaDoor.B.writeString_any w.heap.size w.heap.size acc qs _ (by first | exact HBD.out | exact bd_drewN HBD.out _) ?sl ?sb).mono ?_); (case sl => have := HI.out; have := HQS.out; simp; omega); (case sb => exact HB.out.size); rintro e w1 ⟨rfl, hbd, hbel⟩; have n0_ := Aside0.mk hbd; have n1_ := Aside0.mk (Below.trans (by repeat (first | (with_reducible first | exact HB.out | apply below_alloc | apply pw_below_drewN | apply below_drew1) | exact HB.out)) hbel); clear HBD HB; have HBD := n0_; have HB := n1_; clear n0_ n1_ hbd hbel) | (go_at_call 27; (with_reducible refine (Go.Proofs.YtodijkdmcjnpkaaDoor.B.len_any w.heap.size w.heap.size _ _ HBD.out).mono ?_); rintro e w' ⟨rfl, rfl⟩))
          go_ret2
          exact ⟨rfl, (by repeat (first | (with_reducible first | exact HB.out | apply below_alloc | apply pw_below_drewN | apply below_drew1) | exact HB.out))⟩
        · have hJ := HJ.out
          rw [if_neg dl] at hJ
          clear HJ
          have HJ := Aside0.mk hJ
          have HD := Aside0.mk dl
          rw [List.length_append, blen] at dl
          have clb0 : decide (512 < (acc.length : Int) + (qs.size : Int)) = false := decide_eq_false (by omega)
          clear dl hJ
          go_wp2_with (first | (go_at_call 24; (with_reducible refine (word_Quote.calls _ _ qs 0 _ AQ2.out).mono ?_); rintro e w' ⟨rfl, ⟨nd, rfl⟩⟩) | (go_at_call 26; (with_reducible refine (Go.Proofs.YtodijkdmcjnpkaaDoor.B.writeString_any w.heap.size w.heap.size acc qs _ (by first | exact HBD.out | exact bd_drewN HBD.out _) ?sl ?sb).mono ?_); (case sl => have := HI.out; have := HQS.out; simp; omega); (case sb => exact HB.out.size); rintro e w1 ⟨rfl, hbd, hbel⟩; have n0_ := Aside0.mk hbd; have n1_ := Aside0.mk (Below.trans (by repeat (first | (with_reducible first | exact HB.out | apply below_alloc | apply pw_below_drewN | apply below_drew1) | exact HB.out)) hbel); clear HBD HB; have HBD := n0_; have HB := n1_; clear n0_ n1_ hbd hbel) | (go_at_call 27; (with_reducible refine (Go.Proofs.YtodijkdmcjnpkaaDoor.B.len_any w.heap.size w.heap.size _ _ HBD.out).mono ?_); rintro e w' ⟨rfl, rfl⟩))
          go_roundg k1
          case measure => omega
          case rel => exact ⟨wrap64 (x14 + 1), acc ++ qs.data.toList, (by first | rfl | (simp; done)), ⟨by rw [HW.out]; have := HI.out; have := of_eq_true q9; have := HD.out; omega⟩, ⟨by rw [HW.out, show decide (x14 + 1 = 0) = false from decide_eq_false (by have := HI.out; omega)]; exact HJ.out⟩, HBD, ⟨(by repeat (first | (with_reducible first | exact HB.out | apply below_alloc | apply pw_below_drewN | apply below_drew1) | exact HB.out))⟩⟩
      · have cxb0 : decide (0 < x14) = true := decide_eq_true (by have := HI.out; omega)
        rw [show decide (x14 = 0) = false from decide_eq_false dx, show (if false = true then acc else acc ++ [32]) = acc ++ [32] from rfl] at HJ
        clear dx
        by_cases dl : ((acc ++ [32]) ++ qs.data.toList).length > 512
        · have hJ := HJ.out
          rw [if_pos dl] at hJ
          simp only [Option.some.injEq, Prod.mk.injEq] at hJ
          obtain ⟨rfl, rfl⟩ := hJ
          rw [List.length_append, List.length_append, blen] at dl
          have clb0 : decide (512 < (acc.length : Int) + ((qs.size : Int) + 1)) = true := decide_eq_true (by simp at dl; omega)
          clear dl HJ
          go_wp2_with (first | (go_at_call 24; (with_reducible refine (word_Quote.calls _ _ qs 0 _ AQ2.out).mono ?_); rintro e w' ⟨rfl, ⟨nd, rfl⟩⟩) | (go_at_call 25; (with_reducible refine (write_space w.heap.size w.heap.size acc _ (by first | exact HBD.out | exact bd_drewN HBD.out _) ?sl ?sb).mono ?_); (case sl => have := HI.out; omega); (case sb => exact HB.out.size); rintro e w1 ⟨rfl, hbd, hbel⟩; have n0_ := Aside0.mk hbd; have n1_ := Aside0.mk (Below.trans (by repeat (first | (with_reducible first | exact HB.out | apply below_alloc | apply pw_below_drewN | apply below_drew1) | exact HB.out)) hbel); clear HBD HB; have HBD := n0_; have HB := n1_; clear n0_ n1_ hbd hbel) | (go_at_call 26; (with_reducible refine (Go.Proofs.YtodijkdmcjnpkaaDoor.B.writeString_any w.heap.size w.heap.size (acc ++ [32]) qs _ (by first | exact HBD.out | exact bd_drewN HBD.out _) ?sl ?sb).mono ?_); (case sl => have := HI.out; have := HQS.out; simp; omega); (case sb => exact HB.out.size); rintro e w1 ⟨rfl, hbd, hbel⟩; have n0_ := Aside0.mk hbd; have n1_ := Aside0.mk (Below.trans (by repeat (first | (with_reducible first | exact HB.out | apply below_alloc | apply pw_below_drewN | apply below_drew1) | exact HB.out)) hbel); clear HBD HB; have HBD := n0_; have HB := n1_; clear n0_ n1_ hbd hbel) | (go_at_call 27; (with_reducible refine (Go.Proofs.YtodijkdmcjnpkaaDoor.B.len_any w.heap.size w.heap.size _ _ HBD.out).mono ?_); rintro e w' ⟨rfl, rfl⟩))
          go_ret2
          exact ⟨rfl, (by repeat (first | (with_reducible first | exact HB.out | apply below_alloc | apply pw_below_drewN | apply below_drew1) | exact HB.out))⟩
        · have hJ := HJ.out
          rw [if_neg dl] at hJ
          clear HJ
          have HJ := Aside0.mk hJ
          have HD := Aside0.mk dl
          rw [List.length_append, List.length_append, blen] at dl
          have clb0 : decide (512 < (acc.length : Int) + ((qs.size : Int) + 1)) = false := decide_eq_false (by simp at dl; omega)
          clear dl hJ
          go_wp2_with (first | (go_at_call 24; (with_reducible refine (word_Quote.calls _ _ qs 0 _ AQ2.out).mono ?_); rintro e w' ⟨rfl, ⟨nd, rfl⟩⟩) | (go_at_call 25; (with_reducible refine (write_space w.heap.size w.heap.size acc _ (by first | exact HBD.out | exact bd_drewN HBD.out _) ?sl ?sb).mono ?_); (case sl => have := HI.out; omega); (case sb => exact HB.out.size); rintro e w1 ⟨rfl, hbd, hbel⟩; have n0_ := Aside0.mk hbd; have n1_ := Aside0.mk (Below.trans (by repeat (first | (with_reducible first | exact HB.out | apply below_alloc | apply pw_below_drewN | apply below_drew1) | exact HB.out)) hbel); clear HBD HB; have HBD := n0_; have HB := n1_; clear n0_ n1_ hbd hbel) | (go_at_call 26; (with_reducible refine (Go.Proofs.YtodijkdmcjnpkaaDoor.B.writeString_any w.heap.size w.heap.size (acc ++ [32]) qs _ (by first | exact HBD.out | exact bd_drewN HBD.out _) ?sl ?sb).mono ?_); (case sl => have := HI.out; have := HQS.out; simp; omega); (case sb => exact HB.out.size); rintro e w1 ⟨rfl, hbd, hbel⟩; have n0_ := Aside0.mk hbd; have n1_ := Aside0.mk (Below.trans (by repeat (first | (with_reducible first | exact HB.out | apply below_alloc | apply pw_below_drewN | apply below_drew1) | exact HB.out)) hbel); clear HBD HB; have HBD := n0_; have HB := n1_; clear n0_ n1_ hbd hbel) | (go_at_call 27; (with_reducible refine (Go.Proofs.YtodijkdmcjnpkaaDoor.B.len_any w.heap.size w.heap.size _ _ HBD.out).mono ?_); rintro e w' ⟨rfl, rfl⟩))
          go_roundg k1
          case measure => omega
          case rel => exact ⟨wrap64 (x14 + 1), (acc ++ [32]) ++ qs.data.toList, (by first | rfl | (simp; done)), ⟨by rw [HW.out]; have := HI.out; have := of_eq_true q9; have := HD.out; omega⟩, ⟨by rw [HW.out, show decide (x14 + 1 = 0) = false from decide_eq_false (by have := HI.out; omega)]; exact HJ.out⟩, HBD, ⟨(by repeat (first | (with_reducible first | exact HB.out | apply below_alloc | apply pw_below_drewN | apply below_drew1) | exact HB.out))⟩⟩
    · have hI := HI.out
      have e : x14 = (l0.length : Int) := by omega
      have hJ := HJ.out
      rw [drop_no l0 x14 e] at hJ
      simp only [joinGo, Option.some.injEq, Prod.mk.injEq] at hJ
      obtain ⟨rfl, rfl⟩ := hJ
      have c1b0 : decide (x14 < (l0.length : Int)) = false := decide_eq_false d1
      clear d1 e hI HJ
      go_wp2_with (first | (go_at_call 28; (with_reducible refine (Go.Proofs.YtodijkdmcjnpkaaDoor.B.string_any w.heap.size w.heap.size acc _ HBD.out HB.out.size).mono ?_); rintro e w1 ⟨rfl, hbel⟩; have n1_ := Aside0.mk (Below.trans (by repeat (first | (with_reducible first | exact HB.out | apply below_alloc | apply pw_below_drewN | apply below_drew1) | exact HB.out)) hbel); clear HB; have HB := n1_; clear n1_ hbel))
      go_ret2
      exact ⟨rfl, (by repeat (first | (with_reducible first | exact HB.out | apply below_alloc | apply pw_below_drewN | apply below_drew1) | exact HB.out))⟩
end Go.Proofs.YtodijkdmcjnpkaaDoor.K
