/- Is: what it computes. -/
import Derived.Test.YtfejjfbhlmjkeaaW2
set_option linter.unusedVariables false
set_option linter.unusedSimpArgs false
namespace Go.Proofs.Ytfejjfbhlmjkeaa.W
open Go.RowKit Go.Shelf Go.Proofs.YtfejjfbhlmjkeaaW.PrintWords Go.Proofs.YtfejjfbhlmjkeaaW.PrintLast Go.Proofs.Ytfejjfbhlmjkeaa.B Go.Proofs.Ytfejjfbhlmjkeaa.It
attribute [local go_sem] Oper.semAt_some

theorem spans_any (s : ByteArray) (w : World) : Calls Try.prog 47 #[.string s] w fun e w' => e = .returned (.func (.func 76) #[] #[.pointer (some ⟨w.heap.size, 0, none⟩)]) ∧ w' = w.alloc (.cells #[.string s] 9) := by
  go_enter Try.func47, Try.ntmps47
  go_wp2
  go_ret
  exact ⟨rfl, rfl⟩
/-- What a round keeps: walks, and the box of the text. -/
structure KpS (bs : Nat) (s : ByteArray) (A B : World) : Prop where
  walks : KeepsWalks A B
  box : A.cell? ⟨bs, 0, none⟩ = some (.string s) → B.cell? ⟨bs, 0, none⟩ = some (.string s)
theorem KpS.trans {bs : Nat} {s : ByteArray} {A B C : World} (h : KpS bs s A B) (k : KpS bs s B C) : KpS bs s A C := ⟨h.walks.trans k.walks, fun x => k.box (h.box x)⟩
theorem KpS.book {bs : Nat} {s : ByteArray} (W : World) (l : Nat) (o o' : Obj) (h : W.heap[l]? = some o) (hc : o.isCells = false) (hw : o.isWalk = false) : KpS bs s W (W.putObj l o') :=
  ⟨KeepsWalks.putObj o' h hw, fun x => cell_kept x (grownBy_putObj' W l o') (fun r e => by cases e; exact ⟨o, h, hc⟩)⟩
/-- Whether all of a text is one word. -/
def isWord (s : ByteArray) : Bool := match spansFrom s 0 none with
  | [] => false
  | x :: _ => ((x.1 : Int) == 0 && (x.2 : Int) == (s.size : Int))
set_option maxRecDepth 20000 in
set_option maxHeartbeats 4000000 in
theorem is_any (s : ByteArray) (w : World) (hs : s.size ≤ 4611686018427) : Calls Try.prog 15 #[.string s] w fun e w' => e = .returned (.bool (isWord s)) ∧ Below w.heap.size w w' := by
  refine (callsIn_wide (n := 9)).1 ?_
  refine callsIn_of_wp_marks Try.func15 rfl trivial ?_ rfl
  simp only [Try.ntmps15, List.size_toArray, List.length_cons, List.length_nil, Nat.reduceAdd, Nat.reduceSub, Array.replicate_succ, Array.replicate_zero, List.push_toArray, List.append_toArray, List.nil_append, List.cons_append]
  gi_wp2_with (refine ⟨trivial, ?_⟩; gi_at_call 47; refine (callsIn_wide.2 (spans_any s _)).mono ?_; rintro e w' ⟨rfl, rfl⟩)
  obtain ⟨W0, hW0⟩ : ∃ W0, W0 = (((w.alloc (.cells #[.string s] 9)).alloc (.cells #[.bool false] 4)).alloc (.cells #[.string s] 9)) := ⟨_, rfl⟩
  have hz0 : W0.heap.size = w.heap.size + 3 := by rw [hW0]; simp
  have hb0 : Boxed W0 w.heap.size 9 (.string s) := by rw [hW0]; exact ((Boxed.new w _ _).alloc _).alloc _
  have hb1 : Boxed W0 (w.heap.size + 1) 4 (.bool false) := by
    rw [hW0]
    have h := Boxed.new (w.alloc (.cells #[.string s] 9)) 4 (.bool false)
    rw [World.size_alloc] at h
    exact h.alloc _
  have hb2 : Boxed W0 (w.heap.size + 1 + 1) 9 (.string s) := by
    rw [hW0]
    have h := Boxed.new ((w.alloc (.cells #[.string s] 9)).alloc (.cells #[.bool false] 4)) 9 (.string s)
    rw [World.size_alloc, World.size_alloc] at h
    exact h
  have hB0 : Below w.heap.size w W0 := by
    rw [hW0]
    exact (((Below.refl _ w).alloc (Nat.le_refl _) _).alloc (by simp) _).alloc (by simp; omega) _
  rw [← hW0]
  clear hW0
  obtain ⟨b0, e0⟩ : ∃ b0, b0 = w.heap.size := ⟨_, rfl⟩
  refine range_law (F := Fence.wide) rfl (by omega) (gf := 76) (lb := #[.pointer (some ⟨w.heap.size + 1 + 1, 0, none⟩)]) rfl trivial (enters_of Try.func76 (by kernel_rfl) rfl)
    (spans_seq (9 - 1) (by omega) (w.heap.size + 1 + 1) s (KpS (w.heap.size + 1 + 1) s) (fun _ => True) (fun _ _ _ h => h.walks) (fun _ _ _ h => h.box) W0 hb2.cell (by omega) hs _) KpS.trans (fun W l o o' _ _ h hc hw => KpS.book W l o o' h hc hw) (Below.refl _ _) (fun _ => rfl)
    (fun pre W => Boxed W w.heap.size 9 (.string s) ∧ Boxed W (w.heap.size + 1) 4 (.bool false) ∧ pre = [] ∧ Below w.heap.size w W ∧ W0.heap.size ≤ W.heap.size)
    (fun c pre W => c = .ret ∧ (∃ x, pre = [x] ∧ Boxed W (w.heap.size + 1) 4 (.bool ((x.1.1 : Int) == 0 && (x.1.2 : Int) == (s.size : Int)))) ∧ Below w.heap.size w W)
    (fun pre A B row hs hg hr => ⟨hs.1.kept hg (fun e => by have := (hr _ e.symm).1; omega), hs.2.1.kept hg (fun e => by have := (hr _ e.symm).1; omega), hs.2.2.1, hs.2.2.2.1.grown hg hs.2.2.2.1.size (fun k e => by have := (hr k e).1; omega), Nat.le_trans hs.2.2.2.2 hg.size⟩)
    (fun c pre A B row hs hg hr => ⟨hs.1, by obtain ⟨x, h1, h2⟩ := hs.2.1; exact ⟨x, h1, h2.kept hg (fun e => by have := (hr _ e.symm).1; omega)⟩, hs.2.2.grown hg hs.2.2.size (fun k e => by have := (hr k e).1; omega)⟩)
    (fun _ _ _ => trivial) ⟨hb0, hb1, rfl, hB0, Nat.le_refl _⟩
    (fun x a' W => ∃ Bx, W0.heap.size ≤ Bx ∧ W.heap[Bx]? = some (.cells #[.int .i64 (x.1.1 : Int), .int .i64 (x.1.2 : Int)] 68 (0, 0)) ∧ a' = { tmps := #[.string s, .pointer (some ⟨w.heap.size, 0, none⟩), .pointer (some ⟨w.heap.size + 1, 0, none⟩), .pointer (some ⟨Bx, 0, none⟩), .string s, .func (.func 76) #[] #[.pointer (some ⟨w.heap.size + 1 + 1, 0, none⟩)], sp x.1, undef, undef, undef, undef, undef, undef, undef, undef, undef, undef], defers := [] })
    (fun x a' u A B row hs hg hr => by
      obtain ⟨Bx, h1, h2, h3⟩ := hs
      exact ⟨Bx, h1, blk_grown h2 hg (fun e => by obtain ⟨_, o, ho, hc⟩ := hr _ e.symm; rw [h2] at ho; cases ho; cases hc), h3⟩) ?assign ?body ?done ?stop
  case assign =>
    rintro l pre x W K ⟨h1, h2, h3, h4, h5⟩ hK
    simp only [sp]
    gi_wp2
    exact hK _ _ ((KeepsOthers.alloc W _).from _) ⟨KeepsWalks.alloc W _, fun x => pw_cell_below (below_alloc (Below.refl _ W) _) x⟩ ⟨h1.alloc _, h2.alloc _, h3, below_alloc h4 _, Nat.le_trans h5 (by simp)⟩ ⟨W.heap.size, h5, World.alloc_heap_new W _, rfl⟩
  case body =>
    rintro l pre x a' W hl ⟨r, hr⟩ ⟨h1, h2, h3, h4, h5⟩ ⟨Bx, hBx, bX, rfl⟩ hlen
    simp only [sp]
    have k0 := h1.cell
    have k1 := h2.cell
    have f1 := h2.frozen
    have x0 : W.cell? ⟨Bx, 0, none⟩ = some (.int .i64 (x.1.1 : Int)) := by rw [blk_cell bX]; rfl
    have x1 : W.cell? ⟨Bx, 1, none⟩ = some (.int .i64 (x.1.2 : Int)) := by rw [blk_cell bX]; rfl
    subst h3
    cases hx0 : ((x.1.1 : Int) == 0) with
    | true =>
      gi_wp2
      exact ⟨(KeepsOthers.setCell _ _ _).from _, rfl, ⟨x, rfl, by have h := h2.set (.bool ((x.1.2 : Int) == (s.size : Int))); rw [hx0, Bool.true_and]; exact h⟩, h4.setCell (p := ⟨w.heap.size + 1, 0, none⟩) (by simp) _⟩
    | false =>
      gi_wp2
      exact ⟨(KeepsOthers.setCell _ _ _).from _, rfl, ⟨x, rfl, by have h := h2.set (.bool false); rw [hx0, Bool.false_and]; exact h⟩, h4.setCell (p := ⟨w.heap.size + 1, 0, none⟩) (by simp) _⟩
  case done =>
    rintro D xs W hD hxs ⟨h1, h2, h3, h4, h5⟩ hK
    have k1 := h2.cell
    have f1 := h2.frozen
    have hK2 := (KeepsOthers.setCell W ⟨w.heap.size + 1, 0, none⟩ (.bool false)).same D _ hK rfl
    have hn : isWord s = false := by unfold isWord; rw [← hxs, h3]; rfl
    gi_wp2
    rw [hn]
    refine ⟨by simp, .inl ⟨_, _, rfl, run_takeDeferred hK2, ?_⟩⟩
    have hc5 := cell_kept (h2.set (.bool false)).cell (grownBy_putObj' _ D (.deferred none)) (fun r e => by cases e; exact ⟨_, hK2, rfl⟩)
    refine ⟨.bool false, ?_, rfl, (h4.setCell (p := ⟨w.heap.size + 1, 0, none⟩) (by simp) _).trans (belowK_b (w := w) (Nat.le_refl _) _ D _ _ (by omega) hK2 rfl rfl)⟩
    simp [results, Try.f15, go_sem, hc5]
  case stop =>
    rintro D c pre W hD hpre ⟨rfl, ⟨x, rfl, hx⟩, h4⟩ hK
    have hn : isWord s = ((x.1.1 : Int) == 0 && (x.1.2 : Int) == (s.size : Int)) := by
      obtain ⟨t, ht⟩ := hpre
      unfold isWord
      rw [← ht]
      rfl
    gi_wp2
    rw [hn]
    refine ⟨by simp, .inl ⟨_, _, rfl, run_takeDeferred hK, ?_⟩⟩
    have hc5 := cell_kept hx.cell (grownBy_putObj' _ D (.deferred none)) (fun r e => by cases e; exact ⟨_, hK, rfl⟩)
    refine ⟨_, ?_, rfl, h4.trans (belowK_b (w := w) (Nat.le_refl _) _ D _ _ (by omega) hK rfl rfl)⟩
    simp [results, Try.f15, go_sem, hc5]
end Go.Proofs.Ytfejjfbhlmjkeaa.W
