/- The iterator over the inner words of a text: its contract. -/
import Derived.Test.YtfejjfbhlmjkeaaDoorW7
set_option linter.unusedVariables false
set_option linter.unusedSimpArgs false
namespace Go.Proofs.YtfejjfbhlmjkeaaDoor.W
open Go.RowKit Go.Shelf Go.Proofs.YtfejjfbhlmjkeaaDoor.Hi Go.Proofs.YtfejjfbhlmjkeaaDoorW.PrintWords Go.Proofs.YtfejjfbhlmjkeaaDoorW.PrintLast Go.Proofs.YtfejjfbhlmjkeaaDoor.B Go.Proofs.YtfejjfbhlmjkeaaDoor.It
attribute [local go_sem] Oper.semAt_some

/-- The inner words of where words stand. -/
def fil (s : ByteArray) (pre : List (Sp s)) : List ByteArray := ((pre.map (·.1)).filter fun x => decide (0 < x.1) && decide (x.2 < s.size)).map (word s)
theorem fil_all {s : ByteArray} {xs : List (Sp s)} (h : xs.map (·.1) = spansFrom s 0 none) : fil s xs = inner s := by unfold fil inner; rw [h]
theorem fil_pre {s : ByteArray} {xs : List (Sp s)} (h : xs.map (·.1) <+: spansFrom s 0 none) : fil s xs <+: inner s := (h.filter _).map _
theorem fil_yes {s : ByteArray} {pre : List (Sp s)} {x : Sp s} (h : (decide (0 < x.1.1) && decide (x.1.2 < s.size)) = true) : fil s (pre ++ [x]) = fil s pre ++ [word s x.1] := by
  unfold fil; rw [List.map_append, List.filter_append, List.map_append, List.map_cons, List.map_nil, List.filter_cons, if_pos h]; rfl
theorem fil_no {s : ByteArray} {pre : List (Sp s)} {x : Sp s} (h : (decide (0 < x.1.1) && decide (x.1.2 < s.size)) = false) : fil s (pre ++ [x]) = fil s pre := by
  unfold fil; rw [List.map_append, List.filter_append, List.map_append, List.map_cons, List.map_nil, List.filter_cons, if_neg (by rw [h]; exact Bool.false_ne_true)]; simp
theorem inner_any (s : ByteArray) (w : World) : Calls Tryd.prog 18 #[.string s] w fun e w' => e = .returned (.func (.func 46) #[] #[.pointer (some ⟨w.heap.size, 0, none⟩)]) ∧ w' = w.alloc (.cells #[.string s] 9) := by
  go_enter Tryd.func18, Tryd.ntmps18
  go_wp2
  go_ret
  exact ⟨rfl, rfl⟩
set_option maxRecDepth 20000 in
set_option maxHeartbeats 4000000 in
theorem inner_seq (n : Nat) (hn : 5 ≤ n) (bs : Nat) (s : ByteArray) (G : World → Prop) (M : World → Nat → Prop) (hM : Told G M) (w : World) (hbox : Boxed w bs 9 (.string s)) (hs : s.size ≤ 4611686018427) (n₀ : Nat) :
    Seq Fence.wide n Tryd.prog 46 #[.pointer (some ⟨bs, 0, none⟩)] (fun x => #[.string x]) (KpM G M n₀) (fun W => G W ∧ ¬ M W bs) (fun xs => xs = inner s) (fun xs => xs <+: inner s) w n₀ := by
  intro l J Jx W hB hn0 hJ hJx hΦ hY h0
  have hbW : Boxed W bs 9 (.string s) := (hB.block bs hbox.lt).trans hbox
  refine callsIn_of_wp_marks Tryd.func46 rfl trivial ?_ rfl
  simp only [Tryd.ntmps46, List.size_toArray, List.length_cons, List.length_nil, Nat.reduceAdd, Nat.reduceSub, Array.replicate_succ, Array.replicate_zero, List.push_toArray, List.append_toArray, List.nil_append, List.cons_append]
  have k0 := fun o => (hbW.alloc o).cell
  have hn1 : 1 ≤ n := by omega
  gi_wp2_with (refine ⟨trivial, ?_⟩; gi_at_call 45; refine (callsIn_wide.2 (spans_any s _)).mono ?_; rintro e w' ⟨rfl, rfl⟩)
  obtain ⟨W0, hW0⟩ : ∃ W0, W0 = (W.alloc (.cells #[.func (.yield l) #[] #[]] 31)).alloc (.cells #[.string s] 9) := ⟨_, rfl⟩
  have hz0 : W0.heap.size = W.heap.size + 2 := by rw [hW0]; simp
  have hy0 : Boxed W0 W.heap.size 31 (.func (.yield l) #[] #[]) := by rw [hW0]; exact (Boxed.new W _ _).alloc _
  have hb2 : Boxed W0 (W.heap.size + 1) 9 (.string s) := by
    rw [hW0]
    have h := Boxed.new (W.alloc (.cells #[.func (.yield l) #[] #[]] 31)) 9 (.string s)
    rw [World.size_alloc] at h
    exact h
  have hbs0 : Boxed W0 bs 9 (.string s) := by rw [hW0]; exact (hbW.alloc _).alloc _
  have hJ0 : J [] W0 := by rw [hW0]; exact hJ.alloc _ (hJ.alloc _ h0)
  have hg0 := (hΦ _ _ h0).1
  have hm0 : G W0 ∧ ∀ k, M W0 k → M W k := by
    rw [hW0]
    exact ⟨(hM.alloc _ (hM.alloc _ hg0).1).1, fun k h => (hM.alloc _ hg0).2 k ((hM.alloc _ (hM.alloc _ hg0).1).2 k h)⟩
  have hmk : ∀ k, W.heap.size ≤ k → ¬ M W0 k := fun k hk h => by have := hM.lt hg0 (hm0.2 k h); omega
  rw [← hW0]
  refine range_law (F := Fence.wide) rfl (by omega) (gf := 67) (lb := #[.pointer (some ⟨W.heap.size + 1, 0, none⟩)]) rfl trivial (enters_of Tryd.func67 (by kernel_rfl) rfl)
    (spans_seq (n - 1) (by omega) (W.heap.size + 1) s (KpM G M (W0.heap.size + 2)) (fun V => G V ∧ ¬ M V (W.heap.size + 1) ∧ Boxed V (W.heap.size + 1) 9 (.string s)) (fun A B hm h => (h hm.1).2.walks hM hm.1) (fun A B hm h _ => ((h hm.1).2.box hm.2.2 hm.2.1).cell) W0 hb2.cell (by omega) hs _) KpM.trans (fun V l' o o' _ hlt h hc hw => KpM.book hM V l' o o' hlt h hc hw) (Below.refl _ _) (fun _ => rfl)
    (fun pre V => J (fil s pre) V ∧ Boxed V W.heap.size 31 (.func (.yield l) #[] #[]) ∧ ¬ M V W.heap.size ∧ Boxed V (W.heap.size + 1) 9 (.string s) ∧ ¬ M V (W.heap.size + 1) ∧ Boxed V bs 9 (.string s) ∧ W0.heap.size ≤ V.heap.size)
    (fun c pre V => c = .ret ∧ Jx (fil s pre) V)
    (fun pre A B row hs hg hr => by
      have hr2 : ∀ r, row = some r → W.heap.size ≤ r ∧ ∃ o : Obj, A.heap[r]? = some o ∧ o.isCells = false := fun r e => ⟨by have := (hr r e).1; omega, (hr r e).2⟩
      have hr3 : ∀ b, b < W0.heap.size → some b ≠ row := fun b hb e => by have := (hr _ e.symm).1; omega
      exact ⟨hJ _ A B row hs.1 hg hr2, hs.2.1.kept hg (hr3 _ (by omega)), fun h => hs.2.2.1 ((hM.own A B row (hΦ _ _ hs.1).1 hg (fun r e => (hr r e).2)).2 _ h), hs.2.2.2.1.kept hg (hr3 _ (by omega)), fun h => hs.2.2.2.2.1 ((hM.own A B row (hΦ _ _ hs.1).1 hg (fun r e => (hr r e).2)).2 _ h), hs.2.2.2.2.2.1.kept hg (hr3 _ hbs0.lt), Nat.le_trans hs.2.2.2.2.2.2 hg.size⟩)
    (fun c pre A B row hs hg hr => ⟨hs.1, hJx _ A B row hs.2 hg (fun r e => ⟨by have := (hr r e).1; omega, (hr r e).2⟩)⟩)
    (fun pre V h => ⟨(hΦ _ _ h.1).1, h.2.2.2.2.1, h.2.2.2.1⟩) ⟨hJ0, hy0, hmk _ (Nat.le_refl _), hb2, hmk _ (by omega), hbs0, Nat.le_refl _⟩
    (fun x a' V => ∃ Bx, W0.heap.size ≤ Bx ∧ V.heap[Bx]? = some (.cells #[.int .i64 (x.1.1 : Int), .int .i64 (x.1.2 : Int)] 69 (0, 0)) ∧ a' = { tmps := #[.func (.yield l) #[] #[], .pointer (some ⟨bs, 0, none⟩), .pointer (some ⟨W.heap.size, 0, none⟩), .pointer (some ⟨Bx, 0, none⟩), .string s, .func (.func 67) #[] #[.pointer (some ⟨W.heap.size + 1, 0, none⟩)], sp x.1, undef, undef, undef, undef, undef, undef, undef, undef, undef, undef, undef, undef, undef, undef, undef, undef, undef, undef, undef, undef, undef], defers := [] })
    (fun x a' u A B row hs hg hr => by
      obtain ⟨Bx, h1, h2, h3⟩ := hs
      exact ⟨Bx, h1, blk_grown h2 hg (fun e => by obtain ⟨_, o, ho, hc⟩ := hr _ e.symm; rw [h2] at ho; cases ho; cases hc), h3⟩) ?assign ?body ?done ?stop
  case assign =>
    rintro l' pre x V K ⟨h1, h2, h3, h4, h5, h6, h7⟩ hK
    simp only [sp]
    gi_wp2
    exact hK _ _ ((KeepsOthers.alloc V _).from _) (KpM.alloc hM V _) ⟨hJ.alloc _ h1, h2.alloc _, fun h => h3 ((hM.alloc _ (hΦ _ _ h1).1).2 _ h), h4.alloc _, fun h => h5 ((hM.alloc _ (hΦ _ _ h1).1).2 _ h), h6.alloc _, Nat.le_trans h7 (by simp)⟩ ⟨V.heap.size, h7, World.alloc_heap_new V _, rfl⟩
  case body =>
    rintro l' pre x a' V hl ⟨r, hr⟩ ⟨h1, h2, h3, h4, h5, h6, h7⟩ ⟨Bx, hBx, bX, rfl⟩ hlen
    have k1 := h2.cell
    have k2 := h6.cell
    have x0 : V.cell? ⟨Bx, 0, none⟩ = some (.int .i64 (x.1.1 : Int)) := by rw [blk_cell bX]; rfl
    have x1 : V.cell? ⟨Bx, 1, none⟩ = some (.int .i64 (x.1.2 : Int)) := by rw [blk_cell bX]; rfl
    have hsl : ∀ V, (Instr.slice 9 (.string s) (some (.int .i64 (x.1.1 : Int))) (some (.int .i64 (x.1.2 : Int))) none).run Tryd.prog V = .ok (.string (word s x.1)) V := fun V => by
      have h := run_slice_string (P := Tryd.prog) V 9 s .i64 .i64 (x.1.1 : Int) (x.1.2 : Int) Tryd.underlying9 (by omega) (by have := x.2.1; omega) (by have := x.2.2; omega)
      simpa [word] using h
    have hy0 := fun l1 l2 => hY (fil s pre) (word s x.1) V.drew (hJ _ V V.drew none h1 l1 l2)
    have hG0 := (hΦ _ _ h1).1
    have Hbk := Aside0.mk (And.intro h1 (And.intro h2 (And.intro h3 (And.intro h4 (And.intro h5 (And.intro h6 h7))))))
    have Hgrow : Aside0 (World.grownBy V V.drew none) := ⟨grown_drewN (grown_refl V none) 1⟩
    have HJd := Aside0.mk (hJ _ V V.drew none h1 Hgrow.out (fun r e => by cases e))
    have HY := Aside0.mk hY
    have Hlen := Aside0.mk hlen
    have HΦ := Aside0.mk hΦ
    have Hn0 := Aside0.mk hn0
    have Hz0 := Aside0.mk hz0
    have Hlt := Aside0.mk hbs0.lt
    clear hy0 hG0 h1 h2 h3 h4 h5 h6 h7 hJ hJx hΦ hn0 hz0 hbs0 hY h0 hB hs hlen hr hbox hbW k0 hW0 hb2 hJ0 hg0 hm0 hmk bX
    have hfo : (Tryd.prog).follows .mixedOrders = true := by kernel_rfl
    have none_ : (decide (0 < x.1.1) && decide (x.1.2 < s.size)) = false → Aside0 (KeepsFrom W0.heap.size V V.drew ∧ KpM G M (W0.heap.size + 2) V V.drew ∧ (J (fil s (pre ++ [x])) V.drew ∧ Boxed V.drew W.heap.size 31 (.func (.yield l) #[] #[]) ∧ ¬ M V.drew W.heap.size ∧ Boxed V.drew (W.heap.size + 1) 9 (.string s) ∧ ¬ M V.drew (W.heap.size + 1) ∧ Boxed V.drew bs 9 (.string s) ∧ W0.heap.size ≤ V.drew.heap.size)) := fun hno => by
      obtain ⟨h1, h2, h3, h4, h5, h6, h7⟩ := Hbk.out
      have hg := (HΦ.out _ _ h1).1
      exact ⟨⟨Nat.le_refl _, fun k o _ h _ => h⟩, KpM.drew hM V, by rw [fil_no hno]; exact HJd.out, h2, fun h => h3 ((hM.drew hg).2 _ h), h4, fun h => h5 ((hM.drew hg).2 _ h), h6, h7⟩
    by_cases hf : 0 < x.1.1
    · have d1 : decide (0 < x.1.1) = true := decide_eq_true hf
      by_cases ht : x.1.2 < s.size
      · have d2 : decide (x.1.2 < s.size) = true := decide_eq_true ht
        have hyes : (decide (0 < x.1.1) && decide (x.1.2 < s.size)) = true := by simp; omega
        have hYd := HY.out _ (word s x.1) V.drew HJd.out (by rw [← fil_yes hyes]; exact fil_pre Hlen.out)
        obtain ⟨RB, hRB⟩ : ∃ RB : Bool → World → Prop, RB = fun bb W' => ((bb = true ∧ J (fil s pre ++ [word s x.1]) W' ∧ KpM G M n₀ V.drew W') ∨ (bb = false ∧ Jx (fil s pre ++ [word s x.1]) W' ∧ KeepsFrom n₀ V.drew W')) := ⟨_, rfl⟩
        have hYc : YieldAt Fence.wide (n - 1) Tryd.prog l #[.string (word s x.1)] V.drew (fun e W' => ∃ bb, e = .returned (.bool bb) ∧ Aside0 (RB bb W')) := YieldAt.mono hYd (fun e W' h => by
          rcases h with ⟨rfl, h1, h2⟩ | ⟨rfl, h1, h2⟩
          · exact ⟨true, rfl, ⟨by rw [hRB]; exact .inl ⟨rfl, h1, h2⟩⟩⟩
          · exact ⟨false, rfl, ⟨by rw [hRB]; exact .inr ⟨rfl, h1, h2⟩⟩⟩)
        have HRB := Aside0.mk hRB
        have Hyes := Aside0.mk hyes
        obtain ⟨fn, tmps, assign, body, hy, hR⟩ := roundIn_any (F := Fence.wide) rfl (n - 1 - 1 - 1) l' hYc
        have HR := Aside0.mk hR
        clear hR hYd hRB hYc hyes none_ hf ht
        simp only [sp]
        gi_wp2
        refine hi_start 18 (fun W_ => W_ = V.drew) hfo ?_
        refine hi_take 0 (some 7) (v := ?_) (L' := #[true, false, false, false, false, false, false, false, false, false, false, false, false, false, false, false, false, false, false, false, false]) (a' := ?_) rfl rfl rfl (by kernel_rfl) (fun _ _ _ h => h) (fun _ => rfl) rfl (Or.inl ⟨by rfl, ?_⟩) ?_ ?_
        rotate_left 2
        · rintro w_ rfl
          go_simp
          try with_reducible rfl
        · simp only [Act.put, List.setIfInBounds_toArray, List.set_cons_zero, List.set_cons_succ, i64_w, i32_w]
          rfl
        refine hi_take 1 (some 8) (v := ?_) (L' := #[true, true, false, false, false, false, false, false, false, false, false, false, false, false, false, false, false, false, false, false, false]) (a' := ?_) rfl rfl rfl (by kernel_rfl) (fun _ _ _ h => h) (fun _ => rfl) rfl (Or.inl ⟨by rfl, ?_⟩) ?_ ?_
        rotate_left 2
        · rintro w_ rfl
          go_simp
          try with_reducible rfl
        · simp only [Act.put, List.setIfInBounds_toArray, List.set_cons_zero, List.set_cons_succ, i64_w, i32_w]
          rfl
        refine hi_take 2 (some 9) (v := ?_) (L' := #[true, true, true, false, false, false, false, false, false, false, false, false, false, false, false, false, false, false, false, false, false]) (a' := ?_) rfl rfl rfl (by kernel_rfl) (fun _ _ _ h => h) (fun _ => rfl) rfl (Or.inl ⟨by rfl, ?_⟩) ?_ ?_
        rotate_left 2
        · rintro w_ rfl
          go_simp
          try with_reducible rfl
        · simp only [Act.put, List.setIfInBounds_toArray, List.set_cons_zero, List.set_cons_succ, i64_w, i32_w]
          rfl
        refine hi_take 3 (some 10) (v := ?_) (L' := #[true, true, true, true, false, false, false, false, false, false, false, false, false, false, false, false, false, false, false, false, false]) (a' := ?_) rfl rfl rfl (by kernel_rfl) (fun _ _ _ h => h) (fun _ => rfl) rfl (Or.inl ⟨by rfl, ?_⟩) ?_ ?_
        rotate_left 2
        · rintro w_ rfl
          go_simp
          try with_reducible rfl
        · simp only [Act.put, List.setIfInBounds_toArray, List.set_cons_zero, List.set_cons_succ, i64_w, i32_w]
          rfl
        refine hi_take 4 (some 11) (v := ?_) (L' := #[true, true, true, true, true, false, false, false, false, false, false, false, false, false, false, false, false, false, false, false, false]) (a' := ?_) rfl rfl rfl (by kernel_rfl) (fun _ _ _ h => h) (fun _ => rfl) rfl (Or.inl ⟨by rfl, ?_⟩) ?_ ?_
        rotate_left 2
        · rintro w_ rfl
          go_simp
          try with_reducible rfl
        · simp only [Act.put, List.setIfInBounds_toArray, List.set_cons_zero, List.set_cons_succ, i64_w, i32_w]
          rfl
        refine hi_take 5 (some 12) (v := ?_) (L' := #[true, true, true, true, true, true, false, false, false, false, false, false, false, false, false, false, false, false, false, false, false]) (a' := ?_) rfl rfl rfl (by kernel_rfl) (fun _ _ _ h => h) (fun _ => rfl) rfl (Or.inl ⟨by rfl, ?_⟩) ?_ ?_
        rotate_left 2
        · rintro w_ rfl
          go_simp
          try with_reducible rfl
        · simp only [Act.put, List.setIfInBounds_toArray, List.set_cons_zero, List.set_cons_succ, i64_w, i32_w]
          rfl
        refine hi_take 6 (some 13) (v := ?_) (L' := #[true, true, true, true, true, true, true, false, false, false, false, false, false, false, false, false, false, false, false, false, false]) (a' := ?_) rfl rfl rfl (by kernel_rfl) (fun _ _ _ h => h) (fun _ => rfl) rfl (Or.inl ⟨by rfl, ?_⟩) ?_ ?_
        rotate_left 2
        · rintro w_ rfl
          go_simp
          try with_reducible rfl
        · simp only [Act.put, List.setIfInBounds_toArray, List.set_cons_zero, List.set_cons_succ, i64_w, i32_w]
          rfl
        refine hi_take 7 (some 14) (v := ?_) (L' := #[true, true, true, true, true, true, true, true, false, false, false, false, false, false, false, false, false, false, false, false, false]) (a' := ?_) rfl rfl rfl (by kernel_rfl) (fun _ _ _ h => h) (fun _ => rfl) rfl (Or.inl ⟨by rfl, ?_⟩) ?_ ?_
        rotate_left 2
        · rintro w_ rfl
          go_simp
          try with_reducible rfl
        · simp only [Act.put, List.setIfInBounds_toArray, List.set_cons_zero, List.set_cons_succ, i64_w, i32_w]
          rfl
        refine hi_take 8 (some 15) (v := ?_) (L' := #[true, true, true, true, true, true, true, true, true, false, false, false, false, false, false, false, false, false, false, false, false]) (a' := ?_) rfl rfl rfl (by kernel_rfl) (fun _ _ _ h => h) (fun _ => rfl) rfl (Or.inl ⟨by rfl, ?_⟩) ?_ ?_
        rotate_left 2
        · rintro w_ rfl
          go_simp
          try with_reducible rfl
        · simp only [Act.put, List.setIfInBounds_toArray, List.set_cons_zero, List.set_cons_succ, i64_w, i32_w]
          rfl
        refine hi_take 9 (some 16) (v := ?_) (L' := #[true, true, true, true, true, true, true, true, true, true, false, false, false, false, false, false, false, false, false, false, false]) (a' := ?_) rfl rfl rfl (by kernel_rfl) (fun _ _ _ h => h) (fun _ => rfl) rfl (Or.inl ⟨by rfl, ?_⟩) ?_ ?_
        rotate_left 2
        · rintro w_ rfl
          go_simp
          try with_reducible rfl
        · simp only [Act.put, List.setIfInBounds_toArray, List.set_cons_zero, List.set_cons_succ, i64_w, i32_w]
          rfl
        refine hi_take 10 (some 17) (v := ?_) (L' := #[true, true, true, true, true, true, true, true, true, true, true, false, false, false, false, false, false, false, false, false, false]) (a' := ?_) rfl rfl rfl (by kernel_rfl) (fun _ _ _ h => h) (fun _ => rfl) rfl (Or.inl ⟨by rfl, ?_⟩) ?_ ?_
        rotate_left 2
        · rintro w_ rfl
          go_simp
          try with_reducible rfl
        · simp only [Act.put, List.setIfInBounds_toArray, List.set_cons_zero, List.set_cons_succ, i64_w, i32_w]
          rfl
        refine hi_take 11 (some 18) (v := ?_) (L' := #[true, true, true, true, true, true, true, true, true, true, true, true, false, false, false, false, false, false, false, false, false]) (a' := ?_) rfl rfl rfl (by kernel_rfl) (fun _ _ _ h => h) (fun _ => rfl) rfl (Or.inl ⟨by rfl, ?_⟩) ?_ ?_
        rotate_left 2
        · rintro w_ rfl
          go_simp
          try with_reducible rfl
        · simp only [Act.put, List.setIfInBounds_toArray, List.set_cons_zero, List.set_cons_succ, i64_w, i32_w]
          rfl
        refine hi_take 12 (some 19) (v := ?_) (L' := #[true, true, true, true, true, true, true, true, true, true, true, true, true, false, false, false, false, false, false, false, false]) (a' := ?_) rfl rfl rfl (by kernel_rfl) (fun _ _ _ h => h) (fun _ => rfl) rfl (Or.inl ⟨by rfl, ?_⟩) ?_ ?_
        rotate_left 2
        · rintro w_ rfl
          go_simp
          try with_reducible rfl
        · simp only [Act.put, List.setIfInBounds_toArray, List.set_cons_zero, List.set_cons_succ, i64_w, i32_w]
          rfl
        refine hi_take 13 (some 20) (v := ?_) (L' := #[true, true, true, true, true, true, true, true, true, true, true, true, true, true, false, false, false, false, false, false, false]) (a' := ?_) rfl rfl rfl (by kernel_rfl) (fun _ _ _ h => h) (fun _ => rfl) rfl (Or.inl ⟨by rfl, ?_⟩) ?_ ?_
        rotate_left 2
        · rintro w_ rfl
          go_simp
          try with_reducible rfl
        · simp only [Act.put, List.setIfInBounds_toArray, List.set_cons_zero, List.set_cons_succ, i64_w, i32_w]
          rfl
        refine hi_take 14 (some 21) (v := ?_) (L' := #[true, true, true, true, true, true, true, true, true, true, true, true, true, true, true, false, false, false, false, false, false]) (a' := ?_) rfl rfl rfl (by kernel_rfl) (fun _ _ _ h => h) (fun _ => rfl) rfl (Or.inl ⟨by rfl, ?_⟩) ?_ ?_
        rotate_left 2
        · rintro w_ rfl
          go_simp
          try with_reducible rfl
        · simp only [Act.put, List.setIfInBounds_toArray, List.set_cons_zero, List.set_cons_succ, i64_w, i32_w]
          rfl
        refine hi_take 15 (some 22) (v := ?_) (L' := #[true, true, true, true, true, true, true, true, true, true, true, true, true, true, true, true, false, false, false, false, false]) (a' := ?_) rfl rfl rfl (by kernel_rfl) (fun _ _ _ h => h) (fun _ => rfl) rfl (Or.inl ⟨by rfl, ?_⟩) ?_ ?_
        rotate_left 2
        · rintro w_ rfl
          go_simp
          try with_reducible rfl
        · simp only [Act.put, List.setIfInBounds_toArray, List.set_cons_zero, List.set_cons_succ, i64_w, i32_w]
          rfl
        refine hi_take 16 (some 23) (v := ?_) (L' := #[true, true, true, true, true, true, true, true, true, true, true, true, true, true, true, true, true, false, false, false, false]) (a' := ?_) rfl rfl rfl (by kernel_rfl) (fun _ _ _ h => h) (fun _ => rfl) rfl (Or.inl ⟨by rfl, ?_⟩) ?_ ?_
        rotate_left 2
        · rintro w_ rfl
          go_simp
          try with_reducible rfl
        · simp only [Act.put, List.setIfInBounds_toArray, List.set_cons_zero, List.set_cons_succ, i64_w, i32_w]
          rfl
        refine hi_take 17 (some 24) (v := ?_) (L' := #[true, true, true, true, true, true, true, true, true, true, true, true, true, true, true, true, true, true, false, false, false]) (a' := ?_) rfl rfl rfl (by kernel_rfl) (fun _ _ _ h => h) (fun _ => rfl) rfl (Or.inl ⟨by rfl, ?_⟩) ?_ ?_
        rotate_left 2
        · rintro w_ rfl
          go_simp
          try with_reducible rfl
        · simp only [Act.put, List.setIfInBounds_toArray, List.set_cons_zero, List.set_cons_succ, i64_w, i32_w]
          rfl
        refine hi_one 18 (L' := #[true, true, true, true, true, true, true, true, true, true, true, true, true, true, true, true, true, true, true, false, false]) rfl (by kernel_rfl) rfl (fun K hK => ?_)
        go_simp
        refine ⟨fun _ => (by omega), HR.out.mono ?_⟩
        clear HR hfo
        rintro e W3 ⟨bb, rfl, hor⟩
        refine hK.out _ _ (fun h => by cases h) ?_
        clear hK K
        refine hi_one 19 (L' := #[true, true, true, true, true, true, true, true, true, true, true, true, true, true, true, true, true, true, true, true, false]) rfl (by kernel_rfl) rfl (fun K hK => ?_)
        go_simp
        refine hK.out _ _ (fun h => by cases h) ?_
        clear hK K
        refine hi_one 20 (L' := #[true, true, true, true, true, true, true, true, true, true, true, true, true, true, true, true, true, true, true, true, true]) rfl (by kernel_rfl) rfl (fun K hK => ?_)
        go_simp
        refine hK.out _ _ (fun h => by cases h) (hi_done (by kernel_rfl) ?_ _)
        clear hK K
        have hor2 := hor.out
        rw [HRB.out] at hor2
        clear hor HRB
        obtain ⟨h1, h2, h3, h4, h5, h6, h7⟩ := Hbk.out
        have hΦ := HΦ.out
        have hz0 := Hz0.out
        have hn0 := Hn0.out
        have hg := (hΦ _ _ h1).1
        have hfy := fil_yes (pre := pre) Hyes.out
        rcases hor2 with ⟨rfl, hJ3, hk⟩ | ⟨rfl, hJ3, hk⟩
        · have hkV := (KpM.drew hM V).trans hk
          have hb := hkV hg
          have hfin : KeepsFrom W0.heap.size V W3 ∧ KpM G M (W0.heap.size + 2) V W3 ∧ (J (fil s (pre ++ [x])) W3 ∧ Boxed W3 W.heap.size 31 (.func (.yield l) #[] #[]) ∧ ¬ M W3 W.heap.size ∧ Boxed W3 (W.heap.size + 1) 9 (.string s) ∧ ¬ M W3 (W.heap.size + 1) ∧ Boxed W3 bs 9 (.string s) ∧ W0.heap.size ≤ W3.heap.size) :=
            ⟨hb.2.from hM hg (by omega), hkV.later (by omega), by rw [hfy]; exact hJ3, hb.2.box h2 h3, hb.2.not h2.lt h3, hb.2.box h4 h5, hb.2.not h4.lt h5, hb.2.box h6 (hΦ _ _ h1).2, Nat.le_trans h7 hb.2.size⟩
          have Hfin := Aside0.mk hfin
          clear hfin hb hkV hJ3 hk h1 h2 h3 h4 h5 h6 h7 hΦ hz0 hn0 hg hfy
          gi_wp2
          exact Hfin.out
        · have Hfin := Aside0.mk (And.intro (KeepsFrom.trans (B := W0.heap.size) (X := V) (Y := V.drew) ⟨Nat.le_refl _, fun k o _ h _ => h⟩ (keepsFrom_later (B := n₀) hk (by omega))) (hfy.symm ▸ hJ3 : Jx (fil s (pre ++ [x])) W3))
          clear hJ3 hk h1 h2 h3 h4 h5 h6 h7 hΦ hz0 hn0 hg hfy
          gi_wp2
          exact ⟨Hfin.out.1, rfl, Hfin.out.2⟩
      · have d2 : decide (x.1.2 < s.size) = false := decide_eq_false ht
        have Hfin := none_ (by simp; omega)
        clear none_ hf ht
        simp only [sp]
        gi_wp2
        refine hi_start 21 (fun W_ => W_ = V.drew) hfo ?_
        refine hi_take 0 (some 7) (v := ?_) (L' := #[true, false, false, false, false, false, false, false, false, false, false, false, false, false, false, false, false, false, false, false, false]) (a' := ?_) rfl rfl rfl (by kernel_rfl) (fun _ _ _ h => h) (fun _ => rfl) rfl (Or.inl ⟨by rfl, ?_⟩) ?_ ?_
        rotate_left 2
        · rintro w_ rfl
          go_simp
          try with_reducible rfl
        · simp only [Act.put, List.setIfInBounds_toArray, List.set_cons_zero, List.set_cons_succ, i64_w, i32_w]
          rfl
        refine hi_take 1 (some 8) (v := ?_) (L' := #[true, true, false, false, false, false, false, false, false, false, false, false, false, false, false, false, false, false, false, false, false]) (a' := ?_) rfl rfl rfl (by kernel_rfl) (fun _ _ _ h => h) (fun _ => rfl) rfl (Or.inl ⟨by rfl, ?_⟩) ?_ ?_
        rotate_left 2
        · rintro w_ rfl
          go_simp
          try with_reducible rfl
        · simp only [Act.put, List.setIfInBounds_toArray, List.set_cons_zero, List.set_cons_succ, i64_w, i32_w]
          rfl
        refine hi_take 2 (some 9) (v := ?_) (L' := #[true, true, true, false, false, false, false, false, false, false, false, false, false, false, false, false, false, false, false, false, false]) (a' := ?_) rfl rfl rfl (by kernel_rfl) (fun _ _ _ h => h) (fun _ => rfl) rfl (Or.inl ⟨by rfl, ?_⟩) ?_ ?_
        rotate_left 2
        · rintro w_ rfl
          go_simp
          try with_reducible rfl
        · simp only [Act.put, List.setIfInBounds_toArray, List.set_cons_zero, List.set_cons_succ, i64_w, i32_w]
          rfl
        refine hi_take 3 (some 10) (v := ?_) (L' := #[true, true, true, true, false, false, false, false, false, false, false, false, false, false, false, false, false, false, false, false, false]) (a' := ?_) rfl rfl rfl (by kernel_rfl) (fun _ _ _ h => h) (fun _ => rfl) rfl (Or.inl ⟨by rfl, ?_⟩) ?_ ?_
        rotate_left 2
        · rintro w_ rfl
          go_simp
          try with_reducible rfl
        · simp only [Act.put, List.setIfInBounds_toArray, List.set_cons_zero, List.set_cons_succ, i64_w, i32_w]
          rfl
        refine hi_take 4 (some 11) (v := ?_) (L' := #[true, true, true, true, true, false, false, false, false, false, false, false, false, false, false, false, false, false, false, false, false]) (a' := ?_) rfl rfl rfl (by kernel_rfl) (fun _ _ _ h => h) (fun _ => rfl) rfl (Or.inl ⟨by rfl, ?_⟩) ?_ ?_
        rotate_left 2
        · rintro w_ rfl
          go_simp
          try with_reducible rfl
        · simp only [Act.put, List.setIfInBounds_toArray, List.set_cons_zero, List.set_cons_succ, i64_w, i32_w]
          rfl
        refine hi_take 5 (some 12) (v := ?_) (L' := #[true, true, true, true, true, true, false, false, false, false, false, false, false, false, false, false, false, false, false, false, false]) (a' := ?_) rfl rfl rfl (by kernel_rfl) (fun _ _ _ h => h) (fun _ => rfl) rfl (Or.inl ⟨by rfl, ?_⟩) ?_ ?_
        rotate_left 2
        · rintro w_ rfl
          go_simp
          try with_reducible rfl
        · simp only [Act.put, List.setIfInBounds_toArray, List.set_cons_zero, List.set_cons_succ, i64_w, i32_w]
          rfl
        refine hi_take 6 (some 13) (v := ?_) (L' := #[true, true, true, true, true, true, true, false, false, false, false, false, false, false, false, false, false, false, false, false, false]) (a' := ?_) rfl rfl rfl (by kernel_rfl) (fun _ _ _ h => h) (fun _ => rfl) rfl (Or.inl ⟨by rfl, ?_⟩) ?_ ?_
        rotate_left 2
        · rintro w_ rfl
          go_simp
          try with_reducible rfl
        · simp only [Act.put, List.setIfInBounds_toArray, List.set_cons_zero, List.set_cons_succ, i64_w, i32_w]
          rfl
        refine hi_take 7 (some 14) (v := ?_) (L' := #[true, true, true, true, true, true, true, true, false, false, false, false, false, false, false, false, false, false, false, false, false]) (a' := ?_) rfl rfl rfl (by kernel_rfl) (fun _ _ _ h => h) (fun _ => rfl) rfl (Or.inl ⟨by rfl, ?_⟩) ?_ ?_
        rotate_left 2
        · rintro w_ rfl
          go_simp
          try with_reducible rfl
        · simp only [Act.put, List.setIfInBounds_toArray, List.set_cons_zero, List.set_cons_succ, i64_w, i32_w]
          rfl
        refine hi_take 8 (some 15) (v := ?_) (L' := #[true, true, true, true, true, true, true, true, true, false, false, false, false, false, false, false, false, false, false, false, false]) (a' := ?_) rfl rfl rfl (by kernel_rfl) (fun _ _ _ h => h) (fun _ => rfl) rfl (Or.inl ⟨by rfl, ?_⟩) ?_ ?_
        rotate_left 2
        · rintro w_ rfl
          go_simp
          try with_reducible rfl
        · simp only [Act.put, List.setIfInBounds_toArray, List.set_cons_zero, List.set_cons_succ, i64_w, i32_w]
          rfl
        refine hi_take 9 (some 16) (v := ?_) (L' := #[true, true, true, true, true, true, true, true, true, true, false, false, false, false, false, false, false, false, false, false, false]) (a' := ?_) rfl rfl rfl (by kernel_rfl) (fun _ _ _ h => h) (fun _ => rfl) rfl (Or.inl ⟨by rfl, ?_⟩) ?_ ?_
        rotate_left 2
        · rintro w_ rfl
          go_simp
          try with_reducible rfl
        · simp only [Act.put, List.setIfInBounds_toArray, List.set_cons_zero, List.set_cons_succ, i64_w, i32_w]
          rfl
        refine hi_take 10 (some 17) (v := ?_) (L' := #[true, true, true, true, true, true, true, true, true, true, true, false, false, false, false, false, false, false, false, false, false]) (a' := ?_) rfl rfl rfl (by kernel_rfl) (fun _ _ _ h => h) (fun _ => rfl) rfl (Or.inl ⟨by rfl, ?_⟩) ?_ ?_
        rotate_left 2
        · rintro w_ rfl
          go_simp
          try with_reducible rfl
        · simp only [Act.put, List.setIfInBounds_toArray, List.set_cons_zero, List.set_cons_succ, i64_w, i32_w]
          rfl
        refine hi_take 11 (some 18) (v := undef) (L' := #[true, true, true, true, true, true, true, true, true, true, true, true, false, false, false, false, false, false, false, false, false]) (a' := ?_) rfl rfl rfl (by kernel_rfl) (fun _ _ _ h => h) (fun _ => rfl) rfl (Or.inr ⟨by rfl, rfl⟩) ?_ ?_
        rotate_left
        · simp only [Act.put, List.setIfInBounds_toArray, List.set_cons_zero, List.set_cons_succ, i64_w, i32_w]
          rfl
        refine hi_take 12 (some 19) (v := undef) (L' := #[true, true, true, true, true, true, true, true, true, true, true, true, true, false, false, false, false, false, false, false, false]) (a' := ?_) rfl rfl rfl (by kernel_rfl) (fun _ _ _ h => h) (fun _ => rfl) rfl (Or.inr ⟨by rfl, rfl⟩) ?_ ?_
        rotate_left
        · simp only [Act.put, List.setIfInBounds_toArray, List.set_cons_zero, List.set_cons_succ, i64_w, i32_w]
          rfl
        refine hi_take 13 (some 20) (v := undef) (L' := #[true, true, true, true, true, true, true, true, true, true, true, true, true, true, false, false, false, false, false, false, false]) (a' := ?_) rfl rfl rfl (by kernel_rfl) (fun _ _ _ h => h) (fun _ => rfl) rfl (Or.inr ⟨by rfl, rfl⟩) ?_ ?_
        rotate_left
        · simp only [Act.put, List.setIfInBounds_toArray, List.set_cons_zero, List.set_cons_succ, i64_w, i32_w]
          rfl
        refine hi_take 14 (some 21) (v := undef) (L' := #[true, true, true, true, true, true, true, true, true, true, true, true, true, true, true, false, false, false, false, false, false]) (a' := ?_) rfl rfl rfl (by kernel_rfl) (fun _ _ _ h => h) (fun _ => rfl) rfl (Or.inr ⟨by rfl, rfl⟩) ?_ ?_
        rotate_left
        · simp only [Act.put, List.setIfInBounds_toArray, List.set_cons_zero, List.set_cons_succ, i64_w, i32_w]
          rfl
        refine hi_take 15 (some 22) (v := undef) (L' := #[true, true, true, true, true, true, true, true, true, true, true, true, true, true, true, true, false, false, false, false, false]) (a' := ?_) rfl rfl rfl (by kernel_rfl) (fun _ _ _ h => h) (fun _ => rfl) rfl (Or.inr ⟨by rfl, rfl⟩) ?_ ?_
        rotate_left
        · simp only [Act.put, List.setIfInBounds_toArray, List.set_cons_zero, List.set_cons_succ, i64_w, i32_w]
          rfl
        refine hi_take 16 (some 23) (v := undef) (L' := #[true, true, true, true, true, true, true, true, true, true, true, true, true, true, true, true, true, false, false, false, false]) (a' := ?_) rfl rfl rfl (by kernel_rfl) (fun _ _ _ h => h) (fun _ => rfl) rfl (Or.inr ⟨by rfl, rfl⟩) ?_ ?_
        rotate_left
        · simp only [Act.put, List.setIfInBounds_toArray, List.set_cons_zero, List.set_cons_succ, i64_w, i32_w]
          rfl
        refine hi_take 17 (some 24) (v := undef) (L' := #[true, true, true, true, true, true, true, true, true, true, true, true, true, true, true, true, true, true, false, false, false]) (a' := ?_) rfl rfl rfl (by kernel_rfl) (fun _ _ _ h => h) (fun _ => rfl) rfl (Or.inr ⟨by rfl, rfl⟩) ?_ ?_
        rotate_left
        · simp only [Act.put, List.setIfInBounds_toArray, List.set_cons_zero, List.set_cons_succ, i64_w, i32_w]
          rfl
        refine hi_take 18 (some 25) (v := undef) (L' := #[true, true, true, true, true, true, true, true, true, true, true, true, true, true, true, true, true, true, true, false, false]) (a' := ?_) rfl rfl rfl (by kernel_rfl) (fun _ _ _ h => h) (fun _ => rfl) rfl (Or.inr ⟨by rfl, rfl⟩) ?_ ?_
        rotate_left
        · simp only [Act.put, List.setIfInBounds_toArray, List.set_cons_zero, List.set_cons_succ, i64_w, i32_w]
          rfl
        refine hi_take 19 (some 26) (v := undef) (L' := #[true, true, true, true, true, true, true, true, true, true, true, true, true, true, true, true, true, true, true, true, false]) (a' := ?_) rfl rfl rfl (by kernel_rfl) (fun _ _ _ h => h) (fun _ => rfl) rfl (Or.inr ⟨by rfl, rfl⟩) ?_ ?_
        rotate_left
        · simp only [Act.put, List.setIfInBounds_toArray, List.set_cons_zero, List.set_cons_succ, i64_w, i32_w]
          rfl
        refine hi_take 20 (some 27) (v := ?_) (L' := #[true, true, true, true, true, true, true, true, true, true, true, true, true, true, true, true, true, true, true, true, true]) (a' := ?_) rfl rfl rfl (by kernel_rfl) (fun _ _ _ h => h) (fun _ => rfl) rfl (Or.inl ⟨by rfl, ?_⟩) ?_ ?_
        rotate_left 2
        · rintro w_ rfl
          go_simp
          try with_reducible rfl
        · simp only [Act.put, List.setIfInBounds_toArray, List.set_cons_zero, List.set_cons_succ, i64_w, i32_w]
          rfl
        refine hi_done (by kernel_rfl) ?_ _
        clear hfo
        gi_wp2
        exact Hfin.out
    · have d1 : decide (0 < x.1.1) = false := decide_eq_false hf
      have Hfin := none_ (by simp; omega)
      clear none_ hf
      simp only [sp]
      gi_wp2
      refine hi_start 21 (fun W_ => W_ = V.drew) hfo ?_
      refine hi_take 0 (some 7) (v := ?_) (L' := #[true, false, false, false, false, false, false, false, false, false, false, false, false, false, false, false, false, false, false, false, false]) (a' := ?_) rfl rfl rfl (by kernel_rfl) (fun _ _ _ h => h) (fun _ => rfl) rfl (Or.inl ⟨by rfl, ?_⟩) ?_ ?_
      rotate_left 2
      · rintro w_ rfl
        go_simp
        try with_reducible rfl
      · simp only [Act.put, List.setIfInBounds_toArray, List.set_cons_zero, List.set_cons_succ, i64_w, i32_w]
        rfl
      refine hi_take 1 (some 8) (v := ?_) (L' := #[true, true, false, false, false, false, false, false, false, false, false, false, false, false, false, false, false, false, false, false, false]) (a' := ?_) rfl rfl rfl (by kernel_rfl) (fun _ _ _ h => h) (fun _ => rfl) rfl (Or.inl ⟨by rfl, ?_⟩) ?_ ?_
      rotate_left 2
      · rintro w_ rfl
        go_simp
        try with_reducible rfl
      · simp only [Act.put, List.setIfInBounds_toArray, List.set_cons_zero, List.set_cons_succ, i64_w, i32_w]
        rfl
      refine hi_take 2 (some 9) (v := ?_) (L' := #[true, true, true, false, false, false, false, false, false, false, false, false, false, false, false, false, false, false, false, false, false]) (a' := ?_) rfl rfl rfl (by kernel_rfl) (fun _ _ _ h => h) (fun _ => rfl) rfl (Or.inl ⟨by rfl, ?_⟩) ?_ ?_
      rotate_left 2
      · rintro w_ rfl
        go_simp
        try with_reducible rfl
      · simp only [Act.put, List.setIfInBounds_toArray, List.set_cons_zero, List.set_cons_succ, i64_w, i32_w]
        rfl
      refine hi_take 3 (some 10) (v := ?_) (L' := #[true, true, true, true, false, false, false, false, false, false, false, false, false, false, false, false, false, false, false, false, false]) (a' := ?_) rfl rfl rfl (by kernel_rfl) (fun _ _ _ h => h) (fun _ => rfl) rfl (Or.inl ⟨by rfl, ?_⟩) ?_ ?_
      rotate_left 2
      · rintro w_ rfl
        go_simp
        try with_reducible rfl
      · simp only [Act.put, List.setIfInBounds_toArray, List.set_cons_zero, List.set_cons_succ, i64_w, i32_w]
        rfl
      refine hi_take 4 (some 11) (v := undef) (L' := #[true, true, true, true, true, false, false, false, false, false, false, false, false, false, false, false, false, false, false, false, false]) (a' := ?_) rfl rfl rfl (by kernel_rfl) (fun _ _ _ h => h) (fun _ => rfl) rfl (Or.inr ⟨by rfl, rfl⟩) ?_ ?_
      rotate_left
      · simp only [Act.put, List.setIfInBounds_toArray, List.set_cons_zero, List.set_cons_succ, i64_w, i32_w]
        rfl
      refine hi_take 5 (some 12) (v := undef) (L' := #[true, true, true, true, true, true, false, false, false, false, false, false, false, false, false, false, false, false, false, false, false]) (a' := ?_) rfl rfl rfl (by kernel_rfl) (fun _ _ _ h => h) (fun _ => rfl) rfl (Or.inr ⟨by rfl, rfl⟩) ?_ ?_
      rotate_left
      · simp only [Act.put, List.setIfInBounds_toArray, List.set_cons_zero, List.set_cons_succ, i64_w, i32_w]
        rfl
      refine hi_take 6 (some 13) (v := undef) (L' := #[true, true, true, true, true, true, true, false, false, false, false, false, false, false, false, false, false, false, false, false, false]) (a' := ?_) rfl rfl rfl (by kernel_rfl) (fun _ _ _ h => h) (fun _ => rfl) rfl (Or.inr ⟨by rfl, rfl⟩) ?_ ?_
      rotate_left
      · simp only [Act.put, List.setIfInBounds_toArray, List.set_cons_zero, List.set_cons_succ, i64_w, i32_w]
        rfl
      refine hi_take 7 (some 14) (v := undef) (L' := #[true, true, true, true, true, true, true, true, false, false, false, false, false, false, false, false, false, false, false, false, false]) (a' := ?_) rfl rfl rfl (by kernel_rfl) (fun _ _ _ h => h) (fun _ => rfl) rfl (Or.inr ⟨by rfl, rfl⟩) ?_ ?_
      rotate_left
      · simp only [Act.put, List.setIfInBounds_toArray, List.set_cons_zero, List.set_cons_succ, i64_w, i32_w]
        rfl
      refine hi_take 8 (some 15) (v := undef) (L' := #[true, true, true, true, true, true, true, true, true, false, false, false, false, false, false, false, false, false, false, false, false]) (a' := ?_) rfl rfl rfl (by kernel_rfl) (fun _ _ _ h => h) (fun _ => rfl) rfl (Or.inr ⟨by rfl, rfl⟩) ?_ ?_
      rotate_left
      · simp only [Act.put, List.setIfInBounds_toArray, List.set_cons_zero, List.set_cons_succ, i64_w, i32_w]
        rfl
      refine hi_take 9 (some 16) (v := ?_) (L' := #[true, true, true, true, true, true, true, true, true, true, false, false, false, false, false, false, false, false, false, false, false]) (a' := ?_) rfl rfl rfl (by kernel_rfl) (fun _ _ _ h => h) (fun _ => rfl) rfl (Or.inl ⟨by rfl, ?_⟩) ?_ ?_
      rotate_left 2
      · rintro w_ rfl
        go_simp
        try with_reducible rfl
      · simp only [Act.put, List.setIfInBounds_toArray, List.set_cons_zero, List.set_cons_succ, i64_w, i32_w]
        rfl
      refine hi_take 10 (some 17) (v := ?_) (L' := #[true, true, true, true, true, true, true, true, true, true, true, false, false, false, false, false, false, false, false, false, false]) (a' := ?_) rfl rfl rfl (by kernel_rfl) (fun _ _ _ h => h) (fun _ => rfl) rfl (Or.inl ⟨by rfl, ?_⟩) ?_ ?_
      rotate_left 2
      · rintro w_ rfl
        go_simp
        try with_reducible rfl
      · simp only [Act.put, List.setIfInBounds_toArray, List.set_cons_zero, List.set_cons_succ, i64_w, i32_w]
        rfl
      refine hi_take 11 (some 18) (v := undef) (L' := #[true, true, true, true, true, true, true, true, true, true, true, true, false, false, false, false, false, false, false, false, false]) (a' := ?_) rfl rfl rfl (by kernel_rfl) (fun _ _ _ h => h) (fun _ => rfl) rfl (Or.inr ⟨by rfl, rfl⟩) ?_ ?_
      rotate_left
      · simp only [Act.put, List.setIfInBounds_toArray, List.set_cons_zero, List.set_cons_succ, i64_w, i32_w]
        rfl
      refine hi_take 12 (some 19) (v := undef) (L' := #[true, true, true, true, true, true, true, true, true, true, true, true, true, false, false, false, false, false, false, false, false]) (a' := ?_) rfl rfl rfl (by kernel_rfl) (fun _ _ _ h => h) (fun _ => rfl) rfl (Or.inr ⟨by rfl, rfl⟩) ?_ ?_
      rotate_left
      · simp only [Act.put, List.setIfInBounds_toArray, List.set_cons_zero, List.set_cons_succ, i64_w, i32_w]
        rfl
      refine hi_take 13 (some 20) (v := undef) (L' := #[true, true, true, true, true, true, true, true, true, true, true, true, true, true, false, false, false, false, false, false, false]) (a' := ?_) rfl rfl rfl (by kernel_rfl) (fun _ _ _ h => h) (fun _ => rfl) rfl (Or.inr ⟨by rfl, rfl⟩) ?_ ?_
      rotate_left
      · simp only [Act.put, List.setIfInBounds_toArray, List.set_cons_zero, List.set_cons_succ, i64_w, i32_w]
        rfl
      refine hi_take 14 (some 21) (v := undef) (L' := #[true, true, true, true, true, true, true, true, true, true, true, true, true, true, true, false, false, false, false, false, false]) (a' := ?_) rfl rfl rfl (by kernel_rfl) (fun _ _ _ h => h) (fun _ => rfl) rfl (Or.inr ⟨by rfl, rfl⟩) ?_ ?_
      rotate_left
      · simp only [Act.put, List.setIfInBounds_toArray, List.set_cons_zero, List.set_cons_succ, i64_w, i32_w]
        rfl
      refine hi_take 15 (some 22) (v := undef) (L' := #[true, true, true, true, true, true, true, true, true, true, true, true, true, true, true, true, false, false, false, false, false]) (a' := ?_) rfl rfl rfl (by kernel_rfl) (fun _ _ _ h => h) (fun _ => rfl) rfl (Or.inr ⟨by rfl, rfl⟩) ?_ ?_
      rotate_left
      · simp only [Act.put, List.setIfInBounds_toArray, List.set_cons_zero, List.set_cons_succ, i64_w, i32_w]
        rfl
      refine hi_take 16 (some 23) (v := undef) (L' := #[true, true, true, true, true, true, true, true, true, true, true, true, true, true, true, true, true, false, false, false, false]) (a' := ?_) rfl rfl rfl (by kernel_rfl) (fun _ _ _ h => h) (fun _ => rfl) rfl (Or.inr ⟨by rfl, rfl⟩) ?_ ?_
      rotate_left
      · simp only [Act.put, List.setIfInBounds_toArray, List.set_cons_zero, List.set_cons_succ, i64_w, i32_w]
        rfl
      refine hi_take 17 (some 24) (v := undef) (L' := #[true, true, true, true, true, true, true, true, true, true, true, true, true, true, true, true, true, true, false, false, false]) (a' := ?_) rfl rfl rfl (by kernel_rfl) (fun _ _ _ h => h) (fun _ => rfl) rfl (Or.inr ⟨by rfl, rfl⟩) ?_ ?_
      rotate_left
      · simp only [Act.put, List.setIfInBounds_toArray, List.set_cons_zero, List.set_cons_succ, i64_w, i32_w]
        rfl
      refine hi_take 18 (some 25) (v := undef) (L' := #[true, true, true, true, true, true, true, true, true, true, true, true, true, true, true, true, true, true, true, false, false]) (a' := ?_) rfl rfl rfl (by kernel_rfl) (fun _ _ _ h => h) (fun _ => rfl) rfl (Or.inr ⟨by rfl, rfl⟩) ?_ ?_
      rotate_left
      · simp only [Act.put, List.setIfInBounds_toArray, List.set_cons_zero, List.set_cons_succ, i64_w, i32_w]
        rfl
      refine hi_take 19 (some 26) (v := undef) (L' := #[true, true, true, true, true, true, true, true, true, true, true, true, true, true, true, true, true, true, true, true, false]) (a' := ?_) rfl rfl rfl (by kernel_rfl) (fun _ _ _ h => h) (fun _ => rfl) rfl (Or.inr ⟨by rfl, rfl⟩) ?_ ?_
      rotate_left
      · simp only [Act.put, List.setIfInBounds_toArray, List.set_cons_zero, List.set_cons_succ, i64_w, i32_w]
        rfl
      refine hi_take 20 (some 27) (v := ?_) (L' := #[true, true, true, true, true, true, true, true, true, true, true, true, true, true, true, true, true, true, true, true, true]) (a' := ?_) rfl rfl rfl (by kernel_rfl) (fun _ _ _ h => h) (fun _ => rfl) rfl (Or.inl ⟨by rfl, ?_⟩) ?_ ?_
      rotate_left 2
      · rintro w_ rfl
        go_simp
        try with_reducible rfl
      · simp only [Act.put, List.setIfInBounds_toArray, List.set_cons_zero, List.set_cons_succ, i64_w, i32_w]
        rfl
      refine hi_done (by kernel_rfl) ?_ _
      clear hfo
      gi_wp2
      exact Hfin.out
  case done =>
    rintro D xs V hD hxs ⟨h1, h2, h3, h4, h5, h6, h7⟩ hK
    gi_wp2
    refine ⟨by simp, .inl ⟨_, _, rfl, run_takeDeferred hK, ?_⟩⟩
    refine ⟨_, results_none rfl _ _ _, ⟨_, rfl⟩, .inl ⟨_, ?_, hJ.putObj _ h1 (by omega) hK rfl⟩⟩
    rw [← fil_all hxs]
  case stop =>
    rintro D c pre V hD hpre ⟨rfl, hx⟩ hK
    gi_wp2
    refine ⟨by simp, .inl ⟨_, _, rfl, run_takeDeferred hK, ?_⟩⟩
    refine ⟨_, results_none rfl _ _ _, ⟨_, rfl⟩, .inr ⟨_, ?_, hJx.putObj _ hx (by omega) hK rfl⟩⟩
    exact fil_pre hpre
end Go.Proofs.YtfejjfbhlmjkeaaDoor.W
