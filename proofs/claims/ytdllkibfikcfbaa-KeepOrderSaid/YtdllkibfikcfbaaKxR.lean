import Derived.Test.YtdllkibfikcfbaaKx0
import Derived.Shelf.SlicesQ.Reverse
import Derived.Shelf.SlicesE.Reverse
import Derived.Lib.OwnBridge
/-! ### slices.Reverse at a row of what is held by N: functions 18 and 19, by the shelf's contracts -/
namespace Go.Proofs.Ytdllkibfikcfbaa.K
open Go.RowKit Go.Proofs.YtdllkibfikcfbaaW.PrintWords Go.Proofs.YtdllkibfikcfbaaW.PrintLast Go.Proofs.YtdllkibfikcfbaaW.PrintMore
theorem k41_heap : Kd.Heap k41 := Kd.heap_iso _ (Kd.heap_pair (Kd.heap_int .i64) (Kd.heap_pair (Kd.heap_int .i64) (Kd.heap_int .i64)))
theorem k43_heap : Kd.Heap k43 := Kd.heap_iso _ (Kd.heap_pair Kd.heap_string (Kd.heap_pair (Kd.heap_int .i64) (Kd.heap_pair (Kd.heap_slice 41 k41_heap) (Kd.heap_pair (Kd.heap_int .i64) (Kd.heap_pair (Kd.heap_int .i64) (Kd.heap_int .i64))))))
theorem k58_heap : Kd.Heap k58 := Kd.heap_iso _ (Kd.heap_pair Kd.heap_string (Kd.heap_pair (Kd.heap_int .i64) (Kd.heap_pair (Kd.heap_int .i64) (Kd.heap_int .i64))))
end Go.Proofs.Ytdllkibfikcfbaa.K
namespace Go.Proofs.Ytdllkibfikcfbaa.Rev
open Go.Shelf Go.RowKit Go.Sort Go.Lib Go.Proofs.YtdllkibfikcfbaaW.PrintWords

theorem fresh_wp {P : Program} {c : Code} {Q : Exit → Act → World → Prop} {a : Act} {w : World} (h : ∀ w', Below w.heap.size w w' → c.wp P Q a w') : c.wp P Q a w := h w (Below.refl _ _)
def Good (k : Nat) (c : List Value) : Prop := c.length = k ∧ ∀ u ∈ c, u.oneCell' = true
def Is (k : Nat) (p c : List Value) : Prop := c = p ∧ c.length = k ∧ ∀ u ∈ c, u.oneCell' = true

theorem flat_of_reps {k : Nat} : ∀ (rows : List (List Value)) (inner : List Value), Reps (Is k) k rows inner → inner = rows.flatten ∧ ∀ r ∈ rows, Good k r
  | [], inner, h => ⟨List.eq_nil_of_length_eq_zero (by simpa using h.1), by simp⟩
  | r :: rs, inner, h => by
    have h0 := h.2 0 r rfl
    have hr : inner.take k = r := by simpa using h0.1
    have hg : Good k r := by rw [← h0.1]; exact h0.2
    have ht : Reps (Is k) k rs (inner.drop k) := by
      refine ⟨by rw [List.length_drop, h.1, List.length_cons, Nat.add_mul, Nat.one_mul]; omega, fun j p hj => ?_⟩
      have := h.2 (j + 1) p (by simpa using hj)
      rw [List.drop_drop]
      rwa [show k + j * k = (j + 1) * k by rw [Nat.add_mul, Nat.one_mul, Nat.add_comm]]
    obtain ⟨e, ha⟩ := flat_of_reps rs _ ht
    refine ⟨?_, fun x hx => ?_⟩
    · rw [List.flatten_cons, ← e, ← hr, List.take_append_drop]
    · rcases List.mem_cons.1 hx with rfl | hx
      · exact hg
      · exact ha x hx

theorem reps_flat {k : Nat} : ∀ (rows : List (List Value)), (∀ r ∈ rows, Good k r) → Reps (Is k) k rows rows.flatten
  | [], _ => ⟨by simp, fun j p hj => by simp at hj⟩
  | r :: rs, h => by
    have hr := h r (List.mem_cons_self ..)
    have ih := reps_flat rs (fun x hx => h x (List.mem_cons_of_mem _ hx))
    refine ⟨by rw [List.flatten_cons, List.length_append, hr.1, ih.1, List.length_cons, Nat.add_mul, Nat.one_mul, Nat.add_comm], fun j p hj => ?_⟩
    match j, hj with
    | 0, hj =>
      have e : r = p := by simpa using hj
      subst e
      have : (((r :: rs).flatten).drop (0 * k)).take k = r := by
        rw [Nat.zero_mul, List.drop_zero, List.flatten_cons]
        exact List.take_left' hr.1
      rw [this]
      exact ⟨rfl, hr⟩
    | j + 1, hj =>
      have h2 := ih.2 j p (by simpa using hj)
      have : (((r :: rs).flatten).drop ((j + 1) * k)) = (rs.flatten).drop (j * k) := by
        rw [show (j + 1) * k = k + j * k by rw [Nat.add_mul, Nat.one_mul, Nat.add_comm], ← List.drop_drop, List.flatten_cons]
        congr 1
        exact List.drop_left' hr.1
      rw [this]
      exact h2

theorem flatK_flat {k : Nat} (hk : 0 < k) (enc : List Value → List Value) (henc : ∀ c, Good k c → enc c = c) (rows : List (List Value)) (h : ∀ r ∈ rows, Good k r) : flatK enc k rows.toArray = rows.flatten.toArray := by
  have hR := reps_flat rows h
  apply Array.ext
  · simp [hR.1]
  · intro i h1 h2
    have h1' : i < rows.length * k := by simpa using h1
    have hj : i / k < rows.length := (Nat.div_lt_iff_lt_mul hk).2 h1'
    have hm : i % k < k := Nat.mod_lt _ hk
    have hg := h _ (List.getElem_mem hj)
    have hz := (hR.2 (i / k) _ (List.getElem?_eq_getElem hj)).1
    have e : rows.flatten[i]? = (rows[i / k])[i % k]? := by
      rw [← hz, List.getElem?_take, if_pos hm, List.getElem?_drop, Nat.div_add_mod']
    have hl2 : i % k < (rows[i / k]).length := by rw [hg.1]; exact hm
    have : (flatK enc k rows.toArray)[i]! = (enc rows.toArray[i / k]!)[i % k]! := get_flatK enc k _ i (by simpa using h1')
    rw [getElem!_pos _ i h1] at this
    rw [this, getElem!_pos rows.toArray (i / k) (by simpa using hj), List.getElem_toArray, henc _ hg, getElem!_pos (rows[i / k]) (i % k) hl2]
    rw [List.getElem?_eq_getElem hl2, List.getElem?_eq_getElem (by simpa using h2)] at e
    simpa using (Option.some.inj e).symm

section
variable {W : World} {base n cap g k : Nat} {e : TypeId} {inner : List Value}
theorem own_cell (h : W.ownsRow base e k (.slice (some ⟨g, 0, none⟩) n cap) n inner) : Holds id W g 0 inner.toArray := by
  rcases h.2 with ⟨e0, _⟩ | ⟨g', cap', cur, e0, hb, hg, hn, hm, hs, ht⟩
  · cases e0
  · injection e0 with e1 _ e3
    injection e1 with e1
    injection e1 with e1
    subst e1; subst e3
    intro j hj
    have hj' : j < inner.length := by simpa using hj
    refine ⟨?_, by simp [World.frozen?, hg]⟩
    have e1 : (cur.toList.take (n * k))[j]? = inner[j]? := by rw [ht]
    rw [List.getElem?_take, if_pos (by rw [← h.1]; exact hj'), Array.getElem?_toList, List.getElem?_eq_getElem hj'] at e1
    simp only [World.cell?, hg, Nat.zero_add]
    simp only [Option.isSome_none, Bool.false_eq_true, if_false]
    rw [e1]
    simp [getElem!_pos, hj']

theorem own_put (q : Nat) (F : List Value) (hF : F.length = n * k) (h : W.ownsRow base e k (.slice (some ⟨g, 0, none⟩) n cap) n inner) :
    (putRow id (Sort.ahead W q) g 0 F.toArray).ownsRow base e k (.slice (some ⟨g, 0, none⟩) n cap) n F := by
  rcases h.2 with ⟨e0, _⟩ | ⟨g', cap', cur, e0, hb, hg, hn, hm, hs, ht⟩
  · cases e0
  · injection e0 with e1 _ e3
    injection e1 with e1
    injection e1 with e1
    subst e1; subst e3
    have hle : n * k ≤ cap * k := Nat.mul_le_mul_right k hn
    refine ⟨hF, .inr ⟨g, cap, putCells id 0 F.toArray cur, rfl, hb, ?_, hn, hm, by simpa [putCells] using hs, ?_⟩⟩
    · simp [putRow, mapBlock, Sort.ahead, Array.getElem?_modify, hg, onCells]
    · apply List.ext_getElem?
      intro j
      rw [List.getElem?_take, Array.getElem?_toList]
      by_cases hj : j < n * k
      · have hjc : j < cur.size := by omega
        simp only [if_pos hj, putCells, Array.getElem?_mapIdx, Array.getElem?_eq_getElem hjc, Option.map_some]
        rw [if_pos (by simp; omega), List.getElem?_eq_getElem (by omega)]
        simp [getElem!_pos, show j < F.length by omega]
      · rw [if_neg hj, List.getElem?_eq_none (by omega)]

theorem put_grown (q : Nat) (F : Array Value) : W.grownBy (putRow id (Sort.ahead W q) g 0 F) (some g) := by
  refine ⟨rfl, rfl, rfl, by simp [putRow, mapBlock, Sort.ahead], fun k hk hne => ?_⟩
  simp [putRow, mapBlock, Sort.ahead, Array.getElem?_modify, show g ≠ k from fun he => hne (by rw [he])]
end

theorem N_rev {α : Type} {d : Kd α} {e : TypeId} {W : World} {base g n cap : Nat} {ok : Nat → Prop} {xs : List α} (h : Kd.N d e W base ok (.slice (some ⟨g, 0, none⟩) n cap) xs) :
    ∃ rows : List (List Value), rows.length = n ∧ n ≤ 9223372036854775807 ∧ (∀ r ∈ rows, Good d.sz r) ∧ Holds id W g 0 rows.flatten.toArray ∧
      ∀ q, Kd.N d e (putRow id (Sort.ahead W q) g 0 rows.reverse.flatten.toArray) base ok (.slice (some ⟨g, 0, none⟩) n cap) xs.reverse ∧ W.grownBy (putRow id (Sort.ahead W q) g 0 rows.reverse.flatten.toArray) (some g) := by
  have hn : n = xs.length ∧ xs.length ≤ 9223372036854775807 := by
    obtain ⟨A, c, e1, _, hr⟩ := Kd.N_reads h
    injection e1 with _ e2 _
    exact ⟨e2, hr.2.1⟩
  obtain ⟨h0, rows, hl, ⟨hR0, inner, hown, hreps⟩, hf⟩ := h
  have hreps' : Reps (Is d.sz) d.sz rows inner := hreps
  obtain ⟨rfl, hgood⟩ := flat_of_reps rows inner hreps'
  have hrn : rows.length = n := by rw [hl, hn.1]
  rw [hrn] at hown
  have hgr : ∀ r ∈ rows.reverse, Good d.sz r := fun r hr => hgood r (List.mem_reverse.1 hr)
  refine ⟨rows, hrn, by rw [hn.1]; exact hn.2, hgood, own_cell hown, fun q => ?_⟩
  have hrl := reps_flat rows.reverse hgr
  have hG := put_grown (W := W) (g := g) q rows.reverse.flatten.toArray
  refine ⟨⟨h0, rows.reverse, by simp [hl], ⟨hR0, rows.reverse.flatten, ?_, hrl⟩, fun j x c hx hc => ?_⟩, hG⟩
  · rw [List.length_reverse, hrn]
    exact own_put q _ (by rw [hrl.1, List.length_reverse, hrn]; rfl) hown
  · have hjl : j < xs.length := by have := (List.getElem?_eq_some_iff.1 hx).1; rwa [List.length_reverse] at this
    rw [List.getElem?_reverse hjl] at hx
    rw [List.getElem?_reverse (by omega), hl] at hc
    exact Kd.FK_step (hf _ x c hx hc) (fun k hk hlt => hG.block k hlt (fun he => hk.2 he))

def ren18 : Ren := ⟨fun | 35 => 18 | n => n, fun | 0 => 0 | 3 => 3 | 4 => 4 | 22 => 23 | 23 => 43 | n => n, fun n => n⟩
theorem lays18 : SlLaysE0.n35 Try.prog ren18 := {
  mixed := by kernel_rfl
  f35 := ⟨
    "slices.Reverse[[]stipend/api.Contrib,stipend/api.Contrib]", by decide, Try.func18.trans (congrArg some (by kernel_rfl))⟩
  t0 := Try.underlying0
  a0 := Try.isAgg0
  z0 := Try.sizeOf0
  v0 := Try.zeroValue0
  t3 := Try.underlying3
  a3 := Try.isAgg3
  z3 := Try.sizeOf3
  v3 := Try.zeroValue3
  t4 := Try.underlying4
  a4 := Try.isAgg4
  z4 := Try.sizeOf4
  v4 := Try.zeroValue4
  t22 := Try.underlying23
  a22 := Try.isAgg23
  z22 := Try.sizeOf23
  v22 := Try.zeroValue23 }
def ren19 : Ren := ⟨fun | 35 => 19 | n => n, fun | 0 => 0 | 3 => 3 | 4 => 4 | 22 => 22 | 23 => 39 | n => n, fun n => n⟩
theorem lays19 : SlLaysE.n35 Try.prog ren19 := {
  mixed := by kernel_rfl
  f35 := ⟨
    "slices.Reverse[[][]stipend/api.Band,[]stipend/api.Band]", by decide, Try.func19.trans (congrArg some (by kernel_rfl))⟩
  t0 := Try.underlying0
  a0 := Try.isAgg0
  z0 := Try.sizeOf0
  v0 := Try.zeroValue0
  t3 := Try.underlying3
  a3 := Try.isAgg3
  z3 := Try.sizeOf3
  v3 := Try.zeroValue3
  t4 := Try.underlying4
  a4 := Try.isAgg4
  z4 := Try.sizeOf4
  v4 := Try.zeroValue4
  t22 := Try.underlying22
  a22 := Try.isAgg22
  z22 := Try.sizeOf22
  v22 := Try.zeroValue22
  a23 := Try.isAgg39
  z23 := Try.sizeOf39 }

/-- A row's cells, where they are what they should be. -/
def encR (k : Nat) (c : List Value) : List Value := if c.length = k ∧ (c.all fun u => u.oneCell') = true then c else List.replicate k (.int .i64 0)
theorem encR_good {k : Nat} {c : List Value} (h : Good k c) : encR k c = c := if_pos ⟨h.1, List.all_eq_true.2 h.2⟩
theorem encR_len {k : Nat} (c : List Value) : (encR k c).length = k := by
  unfold encR
  split
  · exact (by assumption : _ ∧ _).1
  · simp
theorem encR_one {k : Nat} (c : List Value) : ∀ v ∈ encR k c, v.oneCell' = true := by
  unfold encR
  split
  · exact List.all_eq_true.1 (by assumption : _ ∧ _).2
  · intro v hv
    rw [(List.mem_replicate.1 hv).2]
    rfl

/-- slices.Reverse over the contributions. -/
theorem rev18 {e : TypeId} {ok : Nat → Prop} {w : World} {base : Nat} {v : Value} {xs : List K.S43} (h : Kd.N K.k43 e w base ok v xs) :
    Calls Try.prog 18 #[v] w fun o w' => o = .returned (.tuple #[]) ∧ Kd.N K.k43 e w' base ok v xs.reverse ∧ w.grownBy w' v.ownBlock := by
  rcases Nat.eq_zero_or_pos xs.length with h0 | h0
  · obtain ⟨A, c, rfl⟩ := Kd.N_slice h
    have hx : xs = [] := List.eq_nil_of_length_eq_zero h0
    rw [h0]
    refine (AnyQ.slices_Reverse_empty lays18 A c w).mono ?_
    rintro o w' ⟨rfl, rfl⟩
    rw [h0] at h
    refine ⟨rfl, by rw [hx] at h ⊢; exact h, ⟨rfl, rfl, rfl, Nat.le_refl _, fun _ _ _ => rfl⟩⟩
  · obtain ⟨g, cap, rfl, _⟩ := Kd.N_form h h0
    obtain ⟨rows, hn, hm, hgood, hH, hput⟩ := N_rev h
    have hgr : ∀ r ∈ rows.reverse, Good K.k43.sz r := fun r hr => hgood r (List.mem_reverse.1 hr)
    have hf := flatK_flat (k := 6) (by decide) (encR 6) (fun c hc => encR_good hc) rows hgood
    have hfr := flatK_flat (k := 6) (by decide) (encR 6) (fun c hc => encR_good hc) rows.reverse hgr
    have hc := AnyQ.slices_Reverse lays18 6 Try.isAgg43 Try.sizeOf43 (encR 6) encR_len encR_one g 0 cap rows.toArray w (by unfold HoldsK; rw [hf]; exact hH) (by simpa [hn] using hm)
    rw [show rows.toArray.size = xs.length by simpa using hn] at hc
    refine hc.mono ?_
    rintro o w' ⟨rfl, q, rfl⟩
    rw [List.reverse_toArray]
    unfold putRowK
    rw [hfr]
    exact ⟨rfl, (hput q).1, (hput q).2⟩

def encS (v : Value) : Value := if v.oneCell' = true then v else .int .i64 0
theorem encS_one : OneCell encS := fun v => by
  unfold encS
  split
  · assumption
  · rfl

theorem putRow_map (enc : Value → Value) (w : World) (g : Nat) (l : List Value) (hl : ∀ u ∈ l, enc u = u) : putRow enc w g 0 l.toArray = putRow id w g 0 l.toArray := by
  unfold putRow
  congr 1
  funext c
  unfold putCells
  apply Array.ext
  · simp
  · intro i h1 h2
    simp only [Array.getElem_mapIdx]
    split
    · next hi =>
      have hil : i - 0 < l.length := by have := hi.2; simp at this; omega
      rw [getElem!_pos l.toArray (i - 0) (by simpa using hil)]
      exact hl _ (by simp)
    · rfl

/-- Rows of one cell, end to end. -/
theorem flat_rev : ∀ (rows : List (List Value)), (∀ r ∈ rows, Good 1 r) → rows.reverse.flatten = rows.flatten.reverse
  | [], _ => rfl
  | r :: rs, h => by
    have ih := flat_rev rs (fun x hx => h x (List.mem_cons_of_mem _ hx))
    have hr := (h r (List.mem_cons_self ..)).1
    obtain ⟨u, rfl⟩ : ∃ u, r = [u] := List.length_eq_one_iff.1 hr
    simp [ih]

/-- slices.Reverse over the free bands. -/
theorem rev19 {e : TypeId} {ok : Nat → Prop} {w : World} {base : Nat} {v : Value} {xs : List (List K.S41)} (h : Kd.N (Kd.slice 41 K.k41) e w base ok v xs) :
    Calls Try.prog 19 #[v] w fun o w' => o = .returned (.tuple #[]) ∧ Kd.N (Kd.slice 41 K.k41) e w' base ok v xs.reverse ∧ w.grownBy w' v.ownBlock := by
  rcases Nat.eq_zero_or_pos xs.length with h0 | h0
  · obtain ⟨A, c, rfl⟩ := Kd.N_slice h
    have hx : xs = [] := List.eq_nil_of_length_eq_zero h0
    rw [h0]
    refine (AnyE.slices_Reverse_empty lays19 A c w).mono ?_
    rintro o w' ⟨rfl, rfl⟩
    rw [h0] at h
    refine ⟨rfl, by rw [hx] at h ⊢; exact h, ⟨rfl, rfl, rfl, Nat.le_refl _, fun _ _ _ => rfl⟩⟩
  · obtain ⟨g, cap, rfl, _⟩ := Kd.N_form h h0
    obtain ⟨rows, hn, hm, hgood, hH, hput⟩ := N_rev h
    have hg1 : ∀ r ∈ rows, Good 1 r := hgood
    have hlen : rows.flatten.length = xs.length := by rw [(reps_flat rows hg1).1, hn, Nat.mul_one]
    have hone : ∀ u ∈ rows.flatten, encS u = u := fun u hu => by
      obtain ⟨r, hr, hur⟩ := List.mem_flatten.1 hu
      exact if_pos ((hg1 r hr).2 u hur)
    have hH' : Holds encS w g 0 rows.flatten.toArray := fun j hj => by
      obtain ⟨h1, h2⟩ := hH j hj
      refine ⟨?_, h2⟩
      rw [h1, getElem!_pos _ j hj]
      rw [hone _ (by simp)]
      rfl
    have hc := AnyE.slices_Reverse lays19 encS encS_one g 0 cap rows.flatten w hH' (by rw [hlen]; exact hm)
    rw [hlen] at hc
    refine hc.mono ?_
    rintro o w' ⟨rfl, q, rfl⟩
    rw [putRow_map encS _ g _ (fun u hu => hone u (List.mem_reverse.1 hu)), ← flat_rev rows hg1]
    exact ⟨rfl, (hput q).1, (hput q).2⟩

end Go.Proofs.Ytdllkibfikcfbaa.Rev
