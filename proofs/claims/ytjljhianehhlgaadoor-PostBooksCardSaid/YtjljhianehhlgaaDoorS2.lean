import Derived.Test.YtjljhianehhlgaaDoorS1
import Derived.Test.YtjljhianehhlgaaDoorB1
/-! ### Book.Balances -/
namespace Go.Proofs.YtjljhianehhlgaaDoor.M
open Go Go.RowKit Go.Maps Go.Shelf Go.Lib Go.Proofs.YtjljhianehhlgaaDoorW.PrintWords Go.Proofs.YtjljhianehhlgaaDoorW.PrintLast Go.Proofs.YtjljhianehhlgaaDoorW.PrintMore Go.Proofs.YtjljhianehhlgaaDoor.K Go.Proofs.YtjljhianehhlgaaDoor.V
set_option linter.unusedVariables false
set_option maxRecDepth 100000
theorem ins_nil (f : Value) (w : World) : Calls Tryd.prog 89 #[.slice none 0 0, .int .i64 0, .int .i64 0, f] w fun e w' => e = .returned (.tuple #[]) ∧ w' = w := by
  go_enter Tryd.func89, Tryd.ntmps89
  go_wp2
  refine wp_loop_rounds 1 ?_
  rw [rounds_succ]
  go_wp2
  go_end0
  exact ⟨rfl, rfl⟩
theorem len_zero (w : World) : Calls Tryd.prog 70 #[.int .u64 0] w fun e w' => e = .returned (.int .i64 0) ∧ w' = w := by
  have h := Any.bits_Len (P := Tryd.prog) (SlLaysF0.n15.bits { Tryd.sortE with }) 0 w (by decide) (by decide)
  refine Calls.mono h ?_
  rintro e w' ⟨rfl, rfl⟩
  exact ⟨rfl, rfl⟩
theorem pdq_nil (f : Value) (w : World) : Calls Tryd.prog 69 #[.slice none 0 0, .int .i64 0, .int .i64 0, .int .i64 0, f] w fun e w' => e = .returned (.tuple #[]) ∧ w' = w := by
  go_enter Tryd.func69, Tryd.ntmps69
  go_wp2
  refine wp_loop_rounds 1 ?_
  rw [rounds_succ]
  go_wp2_with (go_at_call 89; (with_reducible refine (ins_nil _ _).mono ?_); rintro e w' ⟨rfl, rfl⟩)
  (try simp only [Exit.inBlock, Exit.then]); refine bodyPost_ret (results_none rfl _ _ _) rfl ?_
  exact ⟨rfl, rfl⟩
theorem sort_nil (f : Value) (w : World) : Calls Tryd.prog 37 #[.slice none 0 0, f] w fun e w' => e = .returned (.tuple #[]) ∧ w' = w := by
  go_enter Tryd.func37, Tryd.ntmps37
  go_wp2_with (first
    | (go_at_call 70; (with_reducible refine (len_zero _).mono ?_); rintro e w' ⟨rfl, rfl⟩)
    | (go_at_call 69; (with_reducible refine (pdq_nil _ _).mono ?_); rintro e w' ⟨rfl, rfl⟩))
  go_end0
  exact ⟨rfl, rfl⟩
variable {w w' : World} {g mb n : Nat} {D : DM} {e : Int} {more : List Value} {t : TypeId}
/-- What of a map has been listed. -/
def Ls (D : DM) (left : Lit → Bool) (ys : List S31) : Prop := (∀ x ∈ ys, got D (key x) = some x.f1 ∧ left (.string (key x)) = false ∧ x.f0.size ≤ maxLen) ∧ (∀ s, has D (.string s) = true → left (.string s) = false → ∃ x ∈ ys, key x = s) ∧ (ys.map key).Nodup
theorem Ls.start (D : DM) : Ls D (has D) [] := ⟨fun x h => by simp at h, fun s h1 h2 => (by rw [h1] at h2; cases h2), List.nodup_nil⟩
theorem Ls.step {left : Lit → Bool} {ys : List S31} (h : Ls D left ys) {x : ByteArray} {c : Int} (hx : x.size ≤ maxLen) (hl : left (kk x) = true) (hat : ∀ z, D.atKey (kk x) z = .lit (.int .i64 c)) : Ls D (fun z => left z && !z.sameKey (kk x)) (ys ++ [⟨x, c⟩]) := by
  have hl' : left (.string x.data.toList) = true := hl
  have hxk : key (⟨x, c⟩ : S31) = x.data.toList := rfl
  refine ⟨fun y hy => ?_, fun s h1 h2 => ?_, ?_⟩
  · rcases List.mem_append.1 hy with hy | hy
    · obtain ⟨h1, h2, h3⟩ := h.1 y hy
      exact ⟨h1, left_next.2 (.inl h2), h3⟩
    · rw [List.mem_singleton] at hy
      subst hy
      exact ⟨got_some hat, left_next.2 (.inr rfl), hx⟩
  · rcases left_next.1 h2 with h2 | h2
    · obtain ⟨y, hy, e⟩ := h.2.1 s h1 h2
      exact ⟨y, List.mem_append_left _ hy, e⟩
    · exact ⟨⟨x, c⟩, List.mem_append_right _ (List.mem_singleton.2 rfl), h2.symm⟩
  · rw [List.map_append, List.nodup_append]
    refine ⟨h.2.2, by simp, fun a ha b hb e => ?_⟩
    simp only [List.map_cons, List.map_nil, List.mem_singleton] at hb
    obtain ⟨y, hy, rfl⟩ := List.mem_map.1 ha
    have := (h.1 y hy).2.1
    rw [e, hb, hxk, hl'] at this
    cases this
/-- The balances: each account that the map holds, by its name. -/
def Bal (D : DM) (ys : List S31) : Prop := (∀ s c, got D s = some c ↔ ∃ x ∈ ys, key x = s ∧ x.f1 = c) ∧ ys.Pairwise (fun x y => key x < key y) ∧ ∀ x ∈ ys, x.f0.size ≤ maxLen
theorem Ls.done {left : Lit → Bool} {ys zs : List S31} (hn : Nums D) (h : Ls D left ys) (hl : ∀ z, left z = false) (hp : zs.Perm ys) (hr : Rises zs) : Bal D zs := by
  refine ⟨fun s c => ⟨fun hg => ?_, ?_⟩, ?_, fun x hx => (h.1 x (hp.mem_iff.1 hx)).2.2⟩
  · obtain ⟨x, hx, e⟩ := h.2.1 s (has_of_got hg) (hl _)
    have h1 := (h.1 x hx).1
    rw [e, hg] at h1
    exact ⟨x, hp.mem_iff.2 hx, e, (Option.some.inj h1).symm⟩
  · rintro ⟨x, hx, rfl, rfl⟩
    exact (h.1 x (hp.mem_iff.1 hx)).1
  · have hnd : (zs.map key).Nodup := (hp.map key).nodup_iff.2 h.2.2
    rw [List.pairwise_iff_getElem]
    intro i j hi hj hij
    have h1 := hr i j hi hj hij
    have h2 : key zs[i] ≠ key zs[j] := by
      rw [List.nodup_iff_pairwise_ne, List.pairwise_map, List.pairwise_iff_getElem] at hnd
      exact hnd i j hi hj hij
    rcases Classical.em (key zs[i] < key zs[j]) with q | q
    · exact q
    · exact absurd (List.le_antisymm (List.not_lt.1 h1) (List.not_lt.1 q)) h2
set_option maxHeartbeats 1000000 in
theorem bal_t (h : Book w g mb n D e more t) (hn : Nums D) (hm : n ≤ 1000000) :
    Calls Tryd.prog 13 #[.pointer (some ⟨g, 0, none⟩)] w fun o w' => ∃ A c ys, o = .returned (.slice A ys.length c) ∧ ys.length ≤ c ∧ k31.C w' A ys.length ys ∧ Bal D ys ∧ ys.length ≤ n ∧ Below w.heap.size w w' := by
  have HBK := AM h
  have HN := AM hn
  have HM := AM hm
  have hc0 := h.c0
  have hgl := h.lt
  have hml := h.map.lt
  clear h hn hm
  go_enter Tryd.func13, Tryd.ntmps13
  go_wp2_with (first
    | (at_range; refine wp_range rfl _ rfl rfl HBK.out.map ?_; intro w2 hrg hgr hsz2; have HRG := AM hrg; have HB2 := AM (Touch.below (Touch.of_grown hgr) (fun k hk q => by cases q) (Nat.le_refl _)); have hs2 := hsz2; clear hrg hgr hsz2; go_frame))
  go_loopw [3] (fun v wr => ∃ (left : Lit → Bool) (cnt : Nat) (ys : List S31), Aside0 (RG wr mb w.heap.size n D left cnt) ∧ Aside0 (k31.R 31 wr w.heap.size (fun k => k ≠ w.heap.size) v ys) ∧ Aside0 (ys = [] → v = .slice none 0 0) ∧ Aside0 (ys.length + cnt ≤ n) ∧ Aside0 (Ls D left ys) ∧ Aside0 (Below w.heap.size w wr)) (fun _ wr => wr.rangeLeft mb w.heap.size)
  case atStart => exact ⟨_, _, [], HRG, ⟨Kd.R_nil _ _ _ _ _⟩, ⟨fun _ => rfl⟩, ⟨by have := World.ownsMap.size_le HBK.out.map; simpa using this⟩, ⟨Ls.start D⟩, HB2⟩
  case round =>
    obtain ⟨left, cnt, ys, HR, HO, HZ, HC, HL, HB⟩ := hrel
    go_wp2_with (first
      | (at_next; refine wp_next rfl _ rfl left cnt rfl HR.out ?_ ?_))
    · intro hz hl
      have HL0 := AM hl
      clear hz hl
      by_cases q : ys = []
      · have hv := HZ.out q
        subst hv
        go_wp2_with (go_at_call 37; (with_reducible refine (sort_nil _ _).mono ?_); rintro e w3 ⟨rfl, rfl⟩)
        go_ret
        refine ⟨none, 0, [], rfl, Nat.le_refl _, Kd.C_nil _ _, ?_, Nat.zero_le _, HB.out⟩
        exact Ls.done HN.out HL.out HL0.out (by rw [q]) (fun i j hi hj hij => absurd hi (Nat.not_lt_zero _))
      · have hp : 0 < ys.length := List.length_pos_iff.2 q
        obtain ⟨g2, cap, hv, hb2, _⟩ := Kd.R_form HO.out hp
        subst hv
        go_wp2_with (go_at_call 37; (with_reducible refine (sort_R HO.out hp (by have := HC.out; have := HM.out; omega)).mono ?_); rintro e w3 ⟨rfl, hso⟩; have HSO := AM hso; clear hso)
        go_ret
        obtain ⟨zs, hperm, hri, hlen, hC, hgr⟩ := HSO.out
        have hcap := (Kd.R_reads' HO.out).2.1
        exact ⟨some ⟨g2, 0, none⟩, cap, zs, by rw [← hlen]; rfl, by rw [← hlen]; exact hcap, hC, Ls.done HN.out HL.out HL0.out hperm hri, by have := HC.out; omega, Touch.below_after HB.out (Touch.of_grown hgr) (fun k q => by injection q with q; omega)⟩
    · intro x cc w4 cnt' hsx hwf hlx hat hrg hlt4 hgr4 hsz4 hen
      have HL4 := AM (HL.out.step hsx hlx hat)
      have HLT := AM hlt4
      have HR4 := AM hrg
      have HO4 := AM (Kd.R_grown HO.out hgr4 (fun k hk q => hk (by injection q)))
      have HB4 := AM (Touch.below_after HB.out (Touch.of_grown hgr4) (fun k q => by injection q with q; omega))
      have hr4 := World.ranges.lt hrg
      clear hlx hat hlt4 hrg hgr4 hsz4
      go_wp2_with (first
        | ((with_reducible refine gate_builtin (b := .append) (xs := #[.tmp 16, .tmp 20]) rfl ?_); at_builtin; refine Kd.R_append k31 (w0 := w) w.heap.size rfl (.tmp 16) (.tmp 20) 27 31 (.agg #[(.string ⟨#[]⟩), (.int .i64 0)]) 24 rfl Tryd.underlying27 info31 rfl (by decide) (by omega) u3 ys (⟨x, cc⟩ : S31) [.string x, .int .i64 cc] (fun k_ => k_ ≠ w.heap.size) (fun _ => False) rfl (by first | (go_simp; done) | (go_simp; rfl)) ?aP (fun _ hk => hk.elim) ?aF ?aO ?aB ?aS ?aL ?_; (case aP => exact k31_mkM _ _ _ (⟨x, cc⟩ : S31)); (case aB => exact HB4.out); (case aF => exact fun k_ hk q => by omega); (case aO => exact HO4.out); (case aS => exact HB4.out.size); (case aL => have := HC.out; have := HM.out; omega); intro v5 w5 ho hb hg ha; have HO5 := AM ho; have HB5 := AM hb; have HR5 := AM (RG.kept HR4.out (Touch.of_grown hg) (fun q => by have := Kd.R_base HO4.out mb q.symm; omega) (fun q => (HO4.out.1 _ q.symm) rfl)); clear ho hb hg ha; go_frame))
      go_roundw
      case rel => exact ⟨_, cnt', ys ++ [⟨x, cc⟩], HR5, HO5, ⟨fun q => absurd q (by simp)⟩, ⟨by rw [List.length_append]; have := HC.out; have := HLT.out; simp only [List.length_cons, List.length_nil]; omega⟩, HL4, HB5⟩
      case measure => rw [World.ranges.left_eq HR5.out, World.ranges.left_eq HR.out]; exact HLT.out
end Go.Proofs.YtjljhianehhlgaaDoor.M
