/- Has: what it computes. -/
import Derived.Test.YtfejjfbhlmjkeaaDoorW5
set_option linter.unusedVariables false
set_option linter.unusedSimpArgs false
namespace Go.Proofs.YtfejjfbhlmjkeaaDoor.W
open Go.RowKit Go.Shelf Go.Proofs.YtfejjfbhlmjkeaaDoorW.PrintWords Go.Proofs.YtfejjfbhlmjkeaaDoorW.PrintLast Go.Proofs.YtfejjfbhlmjkeaaDoor.B Go.Proofs.YtfejjfbhlmjkeaaDoor.It
attribute [local go_sem] Oper.semAt_some

/-- A caller that writes one box. -/
theorem told_box (r : Nat) (t : TypeId) : Told (fun W => ∃ v, Boxed W r t v) (fun _ k => k = r) :=
  ⟨fun A B row hg h hr => ⟨by
    obtain ⟨v, hv⟩ := hg
    exact ⟨v, hv.kept h (fun e => by obtain ⟨o, ho, hc⟩ := hr r e.symm; rw [show A.heap[r]? = _ from hv] at ho; cases ho; cases hc)⟩, fun k h => h⟩,
   fun A k hg h => by obtain ⟨v, hv⟩ := hg; subst h; exact ⟨_, hv, rfl⟩⟩
theorem text_iff (a b : ByteArray) : (a.toList == b.toList) = true ↔ a = b := by
  rw [beq_iff_eq, ByteArray.toList_eq, ByteArray.toList_eq]
  exact ⟨fun h => ByteArray.ext (Array.toList_inj.mp h), fun h => by rw [h]⟩
theorem text_not {a b : ByteArray} (h : (a.toList == b.toList) = false) : a ≠ b := fun e => by rw [(text_iff a b).2 e] at h; cases h
/-- Whether a text has a word. -/
def hasB (s x : ByteArray) : Bool := (words s).any fun y => y.toList == x.toList
theorem any_true {l : List ByteArray} {x : ByteArray} (h : x ∈ l) : (l.any fun y => y.toList == x.toList) = true := List.any_eq_true.2 ⟨x, h, (text_iff x x).2 rfl⟩
theorem any_false {l : List ByteArray} {x : ByteArray} (h : x ∉ l) : (l.any fun y => y.toList == x.toList) = false := by
  rw [List.any_eq_false]
  intro y hy e
  exact h ((text_iff y x).1 e ▸ hy)
theorem KpM.refl {G : World → Prop} {M : World → Nat → Prop} (hM : Told G M) {n₀ : Nat} (A : World) : KpM G M n₀ A A := KpM.still hM (grown_refl A none)
set_option maxRecDepth 20000 in
set_option maxHeartbeats 4000000 in
theorem has_any (s x0 : ByteArray) (w : World) (hs : s.size ≤ 4611686018427) : Calls Tryd.prog 19 #[.string s, .string x0] w fun e w' => e = .returned (.bool (hasB s x0)) ∧ Below w.heap.size w w' := by
  refine (callsIn_wide (n := 9)).1 ?_
  refine callsIn_of_wp_marks Tryd.func19 rfl trivial ?_ rfl
  simp only [Tryd.ntmps19, List.size_toArray, List.length_cons, List.length_nil, Nat.reduceAdd, Nat.reduceSub, Array.replicate_succ, Array.replicate_zero, List.push_toArray, List.append_toArray, List.nil_append, List.cons_append]
  gi_wp2_with (refine ⟨trivial, ?_⟩; gi_at_call 17; refine (callsIn_wide.2 (words_any s _)).mono ?_; rintro e w' ⟨rfl, rfl⟩)
  obtain ⟨W0, hW0⟩ : ∃ W0, W0 = (((w.alloc (.cells #[.string x0] 9)).alloc (.cells #[.bool false] 4)).alloc (.cells #[.string s] 9)) := ⟨_, rfl⟩
  have hz0 : W0.heap.size = w.heap.size + 3 := by rw [hW0]; simp
  have hb0 : Boxed W0 w.heap.size 9 (.string x0) := by rw [hW0]; exact ((Boxed.new w _ _).alloc _).alloc _
  have hb1 : Boxed W0 (w.heap.size + 1) 4 (.bool false) := by
    rw [hW0]
    have h := Boxed.new (w.alloc (.cells #[.string x0] 9)) 4 (.bool false)
    rw [World.size_alloc] at h
    exact h.alloc _
  have hb2 : Boxed W0 (w.heap.size + 1 + 1) 9 (.string s) := by
    rw [hW0]
    have h := Boxed.new ((w.alloc (.cells #[.string x0] 9)).alloc (.cells #[.bool false] 4)) 9 (.string s)
    rw [World.size_alloc, World.size_alloc] at h
    exact h
  have hB0 : Below w.heap.size w W0 := by
    rw [hW0]
    exact (((Below.refl _ w).alloc (Nat.le_refl _) _).alloc (by simp) _).alloc (by simp; omega) _
  rw [← hW0]
  clear hW0
  have hM := told_box (w.heap.size + 1) 4
  refine range_law (F := Fence.wide) rfl (by omega) (gf := 44) (lb := #[.pointer (some ⟨w.heap.size + 1 + 1, 0, none⟩)]) rfl trivial (enters_of Tryd.func44 (by kernel_rfl) rfl)
    (words_seq (9 - 1) (by omega) (w.heap.size + 1 + 1) s _ _ hM W0 hb2 hs _) KpM.trans (fun V l o o' _ hlt h hc hw => KpM.book hM V l o o' hlt h hc hw) (Below.refl _ _) (fun _ => rfl)
    (fun pre W => Boxed W w.heap.size 9 (.string x0) ∧ Boxed W (w.heap.size + 1) 4 (.bool false) ∧ x0 ∉ pre ∧ Below w.heap.size w W ∧ W0.heap.size ≤ W.heap.size)
    (fun c pre W => c = .ret ∧ x0 ∈ pre ∧ Boxed W (w.heap.size + 1) 4 (.bool true) ∧ Below w.heap.size w W)
    (fun pre A B row hs hg hr => ⟨hs.1.kept hg (fun e => by have := (hr _ e.symm).1; omega), hs.2.1.kept hg (fun e => by have := (hr _ e.symm).1; omega), hs.2.2.1, hs.2.2.2.1.grown hg hs.2.2.2.1.size (fun k e => by have := (hr k e).1; omega), Nat.le_trans hs.2.2.2.2 hg.size⟩)
    (fun c pre A B row hs hg hr => ⟨hs.1, hs.2.1, hs.2.2.1.kept hg (fun e => by have := (hr _ e.symm).1; omega), hs.2.2.2.grown hg hs.2.2.2.size (fun k e => by have := (hr k e).1; omega)⟩)
    (fun pre V h => ⟨⟨_, h.2.1⟩, by omega⟩) ⟨hb0, hb1, by simp, hB0, Nat.le_refl _⟩
    (fun x a' W => a' = { tmps := #[.string s, .string x0, undef, .pointer (some ⟨w.heap.size, 0, none⟩), .pointer (some ⟨w.heap.size + 1, 0, none⟩), .string x, .string s, .func (.func 44) #[] #[.pointer (some ⟨w.heap.size + 1 + 1, 0, none⟩)], .string x, undef, undef, undef], defers := [] })
    (fun x a' u A B row hs hg hr => hs) ?assign ?body ?done ?stop
  case assign =>
    rintro l pre x W K ⟨h1, h2, h3, h4, h5⟩ hK
    gi_wp2
    exact hK _ _ (KeepsFrom.refl _ _) (KpM.refl hM _) ⟨h1, h2, h3, h4, h5⟩ rfl
  case body =>
    rintro l pre x a' W hl ⟨r, hr⟩ ⟨h1, h2, h3, h4, h5⟩ rfl hlen
    have k0 := h1.cell
    have k1 := h2.cell
    have f1 := h2.frozen
    cases hx0 : (x.toList == x0.toList) with
    | true =>
      have he := (text_iff x x0).1 hx0
      gi_wp2
      exact ⟨(KeepsOthers.setCell _ _ _).from _, rfl, by rw [he]; simp, h2.set (.bool true), h4.setCell (p := ⟨w.heap.size + 1, 0, none⟩) (by simp) _⟩
    | false =>
      have he := text_not hx0
      gi_wp2
      exact ⟨KeepsFrom.refl _ _, KpM.refl hM _, h1, h2, fun hm => (List.mem_append.1 hm).elim h3 (fun hm => he (List.mem_singleton.1 hm).symm), h4, h5⟩
  case done =>
    rintro D xs W hD hxs ⟨h1, h2, h3, h4, h5⟩ hK
    have k1 := h2.cell
    have f1 := h2.frozen
    have hK2 := (KeepsOthers.setCell W ⟨w.heap.size + 1, 0, none⟩ (.bool false)).same D _ hK rfl
    have hn : hasB s x0 = false := by unfold hasB; rw [← hxs]; exact any_false h3
    gi_wp2
    rw [hn]
    refine ⟨by simp, .inl ⟨_, _, rfl, run_takeDeferred hK2, ?_⟩⟩
    have hc5 := cell_kept (h2.set (.bool false)).cell (grownBy_putObj' _ D (.deferred none)) (fun r e => by cases e; exact ⟨_, hK2, rfl⟩)
    refine ⟨.bool false, ?_, rfl, (h4.setCell (p := ⟨w.heap.size + 1, 0, none⟩) (by simp) _).trans (belowK_b (w := w) (Nat.le_refl _) _ D _ _ (by omega) hK2 rfl rfl)⟩
    simp [results, Tryd.f19, go_sem, hc5]
  case stop =>
    rintro D c pre W hD hpre ⟨rfl, hx, h2, h4⟩ hK
    have hn : hasB s x0 = true := by
      obtain ⟨t, ht⟩ := hpre
      unfold hasB
      rw [← ht]
      exact any_true (List.mem_append_left _ hx)
    gi_wp2
    rw [hn]
    refine ⟨by simp, .inl ⟨_, _, rfl, run_takeDeferred hK, ?_⟩⟩
    have hc5 := cell_kept h2.cell (grownBy_putObj' _ D (.deferred none)) (fun r e => by cases e; exact ⟨_, hK, rfl⟩)
    refine ⟨_, ?_, rfl, h4.trans (belowK_b (w := w) (Nat.le_refl _) _ D _ _ (by omega) hK rfl rfl)⟩
    simp [results, Tryd.f19, go_sem, hc5]
end Go.Proofs.YtfejjfbhlmjkeaaDoor.W
