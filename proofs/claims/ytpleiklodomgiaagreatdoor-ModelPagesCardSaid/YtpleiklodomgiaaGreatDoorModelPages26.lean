import Derived.Test.YtpleiklodomgiaaGreatDoorModelPages24
import Derived.Test.YtpleiklodomgiaaGreatDoorModelPages25
set_option linter.unusedVariables false
set_option linter.unusedSimpArgs false
section
namespace Go.Proofs.YtpleiklodomgiaaGreatDoor.B
end Go.Proofs.YtpleiklodomgiaaGreatDoor.B
namespace Go.Proofs.YtpleiklodomgiaaGreatDoor.Hi
end Go.Proofs.YtpleiklodomgiaaGreatDoor.Hi
namespace Go.Proofs.YtpleiklodomgiaaGreatDoor.It
end Go.Proofs.YtpleiklodomgiaaGreatDoor.It
namespace Go.Proofs.YtpleiklodomgiaaGreatDoor.W
open Go.RowKit Go.Shelf Go.Proofs.YtpleiklodomgiaaGreatDoor.Hi Go.Proofs.YtpleiklodomgiaaGreatDoorW.PrintWords Go.Proofs.YtpleiklodomgiaaGreatDoorW.PrintLast Go.Proofs.YtpleiklodomgiaaGreatDoor.B Go.Proofs.YtpleiklodomgiaaGreatDoor.It
attribute [local go_sem] Oper.semAt_some
set_option maxRecDepth 20000 in
set_option maxHeartbeats 4000000 in
theorem words_seq (n : Nat) (hn : 5 ≤ n) (bs : Nat) (s : ByteArray) (G : World → Prop) (M : World → Nat → Prop) (hM : Told G M) (w : World) (hbox : Boxed w bs 9 (.string s)) (hs : s.size ≤ 4611686018427) (n₀ : Nat) :
  Seq Fence.wide n Tryz.prog 83 #[.pointer (some ⟨bs, 0, none⟩)] (fun x => #[.string x]) (KpM G M n₀) (fun W => G W ∧ ¬ M W bs) (fun xs => xs = words s) (fun xs => xs <+: words s) w n₀ := by
 intro l J Jx W hB hn0 hJ hJx hΦ hY h0
 have hbW : Boxed W bs 9 (.string s) := (hB.block bs hbox.lt).trans hbox
 refine callsIn_of_wp_marks Tryz.func83 rfl trivial ?_ rfl
 simp only [Tryz.ntmps83, List.size_toArray, List.length_cons, List.length_nil, Nat.reduceAdd, Nat.reduceSub, Array.replicate_succ, Array.replicate_zero, List.push_toArray, List.append_toArray, List.nil_append, List.cons_append]
 have k0 := fun o => (hbW.alloc o).cell
 have hn1 : 1 ≤ n := by omega
 gi_wp2_with (refine ⟨trivial, ?_⟩; gi_at_call 84; refine (callsIn_wide.2 (spans_any s _)).mono ?_; rintro e w' ⟨rfl, rfl⟩)
 obtain ⟨W0, hW0⟩ : ∃ W0, W0 = (W.alloc (.cells #[.func (.yield l) #[] #[]] 115)).alloc (.cells #[.string s] 9) := ⟨_, rfl⟩
 have hz0 : W0.heap.size = W.heap.size + 2 := by rw [hW0]; simp
 have hy0 : Boxed W0 W.heap.size 115 (.func (.yield l) #[] #[]) := by rw [hW0]; exact (Boxed.new W _ _).alloc _
 have hb2 : Boxed W0 (W.heap.size + 1) 9 (.string s) := by
  rw [hW0]
  have h := Boxed.new (W.alloc (.cells #[.func (.yield l) #[] #[]] 115)) 9 (.string s)
  rw [World.size_alloc] at h
  exact h
 have hbs0 : Boxed W0 bs 9 (.string s) := by rw [hW0]; exact (hbW.alloc _).alloc _
 have hJ0 : J [] W0 := by rw [hW0]; exact hJ.alloc _ (hJ.alloc _ h0)
 have hg0 := (hΦ _ _ h0).1
 have hm0 : G W0 ∧ ∀ k, M W0 k → M W k := by
  rw [hW0]
  exact ⟨(hM.alloc _ (hM.alloc _ hg0).1).1, fun k h => (hM.alloc _ hg0).2 k ((hM.alloc _ (hM.alloc _ hg0).1).2 k h)⟩
 have hmk : ∀ k, W.heap.size ≤ k → ¬ M W0 k := fun k hk h => by have := hM.lt hg0 (hm0.2 k h); omega
 rw [← hW0]
 refine range_law (F := Fence.wide) rfl (by omega) (gf := 95) (lb := #[.pointer (some ⟨W.heap.size + 1, 0, none⟩)]) rfl trivial (enters_of Tryz.func95 (by kernel_rfl) rfl)
  (spans_seq (n - 1) (by omega) (W.heap.size + 1) s (KpM G M (W0.heap.size + 2)) (fun V => G V ∧ ¬ M V (W.heap.size + 1) ∧ Boxed V (W.heap.size + 1) 9 (.string s)) (fun A B hm h => (h hm.1).2.walks hM hm.1) (fun A B hm h _ => ((h hm.1).2.box hm.2.2 hm.2.1).cell) W0 hb2.cell (by omega) hs _) KpM.trans (fun V l' o o' _ hlt h hc hw => KpM.book hM V l' o o' hlt h hc hw) (Below.refl _ _) (fun _ => rfl)
  (fun pre V => J (pre.map fun x : Sp s => word s x.1) V ∧ Boxed V W.heap.size 115 (.func (.yield l) #[] #[]) ∧ ¬ M V W.heap.size ∧ Boxed V (W.heap.size + 1) 9 (.string s) ∧ ¬ M V (W.heap.size + 1) ∧ Boxed V bs 9 (.string s) ∧ W0.heap.size ≤ V.heap.size)
  (fun c pre V => c = .ret ∧ Jx (pre.map fun x : Sp s => word s x.1) V)
  (fun pre A B row hs hg hr => by
   have hr2 : ∀ r, row = some r → W.heap.size ≤ r ∧ ∃ o : Obj, A.heap[r]? = some o ∧ o.isCells = false := fun r e => ⟨by have := (hr r e).1; omega, (hr r e).2⟩
   have hr3 : ∀ b, b < W0.heap.size → some b ≠ row := fun b hb e => by have := (hr _ e.symm).1; omega
   exact ⟨hJ _ A B row hs.1 hg hr2, hs.2.1.kept hg (hr3 _ (by omega)), fun h => hs.2.2.1 ((hM.own A B row (hΦ _ _ hs.1).1 hg (fun r e => (hr r e).2)).2 _ h), hs.2.2.2.1.kept hg (hr3 _ (by omega)), fun h => hs.2.2.2.2.1 ((hM.own A B row (hΦ _ _ hs.1).1 hg (fun r e => (hr r e).2)).2 _ h), hs.2.2.2.2.2.1.kept hg (hr3 _ hbs0.lt), Nat.le_trans hs.2.2.2.2.2.2 hg.size⟩)
  (fun c pre A B row hs hg hr => ⟨hs.1, hJx _ A B row hs.2 hg (fun r e => ⟨by have := (hr r e).1; omega, (hr r e).2⟩)⟩)
  (fun pre V h => ⟨(hΦ _ _ h.1).1, h.2.2.2.2.1, h.2.2.2.1⟩) ⟨hJ0, hy0, hmk _ (Nat.le_refl _), hb2, hmk _ (by omega), hbs0, Nat.le_refl _⟩
  (fun x a' V => ∃ Bx, W0.heap.size ≤ Bx ∧ V.heap[Bx]? = some (.cells #[.int .i64 (x.1.1 : Int), .int .i64 (x.1.2 : Int)] 121 (0, 0)) ∧ a' = { tmps := #[.func (.yield l) #[] #[], .pointer (some ⟨bs, 0, none⟩), .pointer (some ⟨W.heap.size, 0, none⟩), .pointer (some ⟨Bx, 0, none⟩), .string s, .func (.func 95) #[] #[.pointer (some ⟨W.heap.size + 1, 0, none⟩)], sp x.1, undef, undef, undef, undef, undef, undef, undef, undef, undef], defers := [] })
  (fun x a' u A B row hs hg hr => by
   obtain ⟨Bx, h1, h2, h3⟩ := hs
   exact ⟨Bx, h1, blk_grown h2 hg (fun e => by obtain ⟨_, o, ho, hc⟩ := hr _ e.symm; rw [h2] at ho; cases ho; cases hc), h3⟩) ?assign ?body ?done ?stop
 case assign =>
  rintro l' pre x V K ⟨h1, h2, h3, h4, h5, h6, h7⟩ hK
  simp only [sp]
  gi_wp2
  exact hK _ _ ((KeepsOthers.alloc V _).from _) (KpM.alloc hM V _) ⟨hJ.alloc _ h1, h2.alloc _, fun h => h3 ((hM.alloc _ (hΦ _ _ h1).1).2 _ h), h4.alloc _, fun h => h5 ((hM.alloc _ (hΦ _ _ h1).1).2 _ h), h6.alloc _, Nat.le_trans h7 (by simp)⟩ ⟨V.heap.size, h7, World.alloc_heap_new V _, rfl⟩
 case body =>
  rintro l' pre x a' V hl ⟨r, hr⟩ ⟨h1, h2, h3, h4, h5, h6, h7⟩ ⟨Bx, hBx, bX, rfl⟩ hlen
  have k1 := h2.cell
  have k2 := h6.cell
  have x0 : V.cell? ⟨Bx, 0, none⟩ = some (.int .i64 (x.1.1 : Int)) := by rw [blk_cell bX]; rfl
  have x1 : V.cell? ⟨Bx, 1, none⟩ = some (.int .i64 (x.1.2 : Int)) := by rw [blk_cell bX]; rfl
  have hsl : ∀ V, (Instr.slice 9 (.string s) (some (.int .i64 (x.1.1 : Int))) (some (.int .i64 (x.1.2 : Int))) none).run Tryz.prog V = .ok (.string (word s x.1)) V := fun V => by
   have h := run_slice_string (P := Tryz.prog) V 9 s .i64 .i64 (x.1.1 : Int) (x.1.2 : Int) Tryz.underlying9 (by omega) (by have := x.2.1; omega) (by have := x.2.2; omega)
   simpa [word] using h
  have hYd := hY _ (word s x.1) V.drew (hJ _ V V.drew none h1 (grown_drewN (grown_refl V none) 1) (fun r e => by cases e)) (by obtain ⟨t, ht⟩ := hlen; refine ⟨t.map (word s), ?_⟩; unfold words; rw [← ht]; simp)
  have hYb := YieldAt.mono (R' := fun e W' => ∃ bb, e = .returned (.bool bb) ∧ ((bb = true ∧ J (pre.map (fun x : Sp s => word s x.1) ++ [word s x.1]) W' ∧ KpM G M n₀ V.drew W') ∨ (bb = false ∧ Jx (pre.map (fun x : Sp s => word s x.1) ++ [word s x.1]) W' ∧ KeepsFrom n₀ V.drew W'))) hYd (fun e W' h => by
   rcases h with ⟨rfl, h1, h2⟩ | ⟨rfl, h1, h2⟩
   ·exact ⟨true, rfl, .inl ⟨rfl, h1, h2⟩⟩
   ·exact ⟨false, rfl, .inr ⟨rfl, h1, h2⟩⟩)
  clear hYd
  obtain ⟨RB, hRB⟩ : ∃ RB : Bool → World → Prop, RB = fun bb W' => ((bb = true ∧ J (pre.map (fun x : Sp s => word s x.1) ++ [word s x.1]) W' ∧ KpM G M n₀ V.drew W') ∨ (bb = false ∧ Jx (pre.map (fun x : Sp s => word s x.1) ++ [word s x.1]) W' ∧ KeepsFrom n₀ V.drew W')) := ⟨_, rfl⟩
  have hYc : YieldAt Fence.wide (n - 1) Tryz.prog l #[.string (word s x.1)] V.drew (fun e W' => ∃ bb, e = .returned (.bool bb) ∧ Aside0 (RB bb W')) := YieldAt.mono hYb (fun e W' h => by obtain ⟨bb, h1, h2⟩ := h; exact ⟨bb, h1, ⟨by rw [hRB]; exact h2⟩⟩)
  clear hYb
  have HRB := Aside0.mk hRB
  clear hRB
  obtain ⟨fn, tmps, assign, body, hy, hR⟩ := roundIn_any (F := Fence.wide) rfl (n - 1 - 1 - 1) l' hYc
  have HR := Aside0.mk hR
  clear hR
  have Hbk := Aside0.mk (And.intro h1 (And.intro h2 (And.intro h3 (And.intro h4 (And.intro h5 (And.intro h6 h7))))))
  have HJs := Aside0.mk (And.intro hJ hJx)
  have HΦ := Aside0.mk hΦ
  have Hn0 := Aside0.mk hn0
  have Hz0 := Aside0.mk hz0
  have Hlt := Aside0.mk hbs0.lt
  clear h1 h2 h3 h4 h5 h6 h7 hJ hJx hΦ hn0 hz0 hbs0 hY h0 hB hs hlen hr hbox hbW k0 hW0 hy0 hb2 hJ0 hg0 hm0 hmk bX
  have hfo : (Tryz.prog).follows .mixedOrders = true := by kernel_rfl
  simp only [sp]
  gi_wp2
  refine hi_start 7 (fun W_ => W_ = V.drew) hfo ?_
  refine hi_take 0 (some 7) (v := ?_) (L' := #[true, false, false, false, false, false, false, false, false]) (a' := ?_) rfl rfl rfl (by kernel_rfl) (fun _ _ _ h => h) (fun _ => rfl) rfl (Or.inl ⟨by rfl, ?_⟩) ?_ ?_
  rotate_left 2
  ·rintro w_ rfl
   go_simp
   try with_reducible rfl
  ·simp only [Act.put, List.setIfInBounds_toArray, List.set_cons_zero, List.set_cons_succ, i64_w, i32_w]
   rfl
  refine hi_take 1 (some 8) (v := ?_) (L' := #[true, true, false, false, false, false, false, false, false]) (a' := ?_) rfl rfl rfl (by kernel_rfl) (fun _ _ _ h => h) (fun _ => rfl) rfl (Or.inl ⟨by rfl, ?_⟩) ?_ ?_
  rotate_left 2
  ·rintro w_ rfl
   go_simp
   try with_reducible rfl
  ·simp only [Act.put, List.setIfInBounds_toArray, List.set_cons_zero, List.set_cons_succ, i64_w, i32_w]
   rfl
  refine hi_take 2 (some 9) (v := ?_) (L' := #[true, true, true, false, false, false, false, false, false]) (a' := ?_) rfl rfl rfl (by kernel_rfl) (fun _ _ _ h => h) (fun _ => rfl) rfl (Or.inl ⟨by rfl, ?_⟩) ?_ ?_
  rotate_left 2
  ·rintro w_ rfl
   go_simp
   try with_reducible rfl
  ·simp only [Act.put, List.setIfInBounds_toArray, List.set_cons_zero, List.set_cons_succ, i64_w, i32_w]
   rfl
  refine hi_take 3 (some 10) (v := ?_) (L' := #[true, true, true, true, false, false, false, false, false]) (a' := ?_) rfl rfl rfl (by kernel_rfl) (fun _ _ _ h => h) (fun _ => rfl) rfl (Or.inl ⟨by rfl, ?_⟩) ?_ ?_
  rotate_left 2
  ·rintro w_ rfl
   go_simp
   try with_reducible rfl
  ·simp only [Act.put, List.setIfInBounds_toArray, List.set_cons_zero, List.set_cons_succ, i64_w, i32_w]
   rfl
  refine hi_take 4 (some 11) (v := ?_) (L' := #[true, true, true, true, true, false, false, false, false]) (a' := ?_) rfl rfl rfl (by kernel_rfl) (fun _ _ _ h => h) (fun _ => rfl) rfl (Or.inl ⟨by rfl, ?_⟩) ?_ ?_
  rotate_left 2
  ·rintro w_ rfl
   go_simp
   try with_reducible rfl
  ·simp only [Act.put, List.setIfInBounds_toArray, List.set_cons_zero, List.set_cons_succ, i64_w, i32_w]
   rfl
  refine hi_take 5 (some 12) (v := ?_) (L' := #[true, true, true, true, true, true, false, false, false]) (a' := ?_) rfl rfl rfl (by kernel_rfl) (fun _ _ _ h => h) (fun _ => rfl) rfl (Or.inl ⟨by rfl, ?_⟩) ?_ ?_
  rotate_left 2
  ·rintro w_ rfl
   go_simp
   try with_reducible rfl
  ·simp only [Act.put, List.setIfInBounds_toArray, List.set_cons_zero, List.set_cons_succ, i64_w, i32_w]
   rfl
  refine hi_take 6 (some 13) (v := ?_) (L' := #[true, true, true, true, true, true, true, false, false]) (a' := ?_) rfl rfl rfl (by kernel_rfl) (fun _ _ _ h => h) (fun _ => rfl) rfl (Or.inl ⟨by rfl, ?_⟩) ?_ ?_
  rotate_left 2
  ·rintro w_ rfl
   go_simp
   try with_reducible rfl
  ·simp only [Act.put, List.setIfInBounds_toArray, List.set_cons_zero, List.set_cons_succ, i64_w, i32_w]
   rfl
  refine hi_one 7 (L' := #[true, true, true, true, true, true, true, true, false]) rfl (by kernel_rfl) rfl (fun K hK => ?_)
  go_simp
  refine ⟨fun _ => (by omega), HR.out.mono ?_⟩
  clear HR hfo
  rintro e W3 ⟨bb, rfl, hor⟩
  refine hK.out _ _ (fun h => by cases h) ?_
  clear hK K
  refine hi_one 8 (L' := #[true, true, true, true, true, true, true, true, true]) rfl (by kernel_rfl) rfl (fun K hK => ?_)
  go_simp
  refine hK.out _ _ (fun h => by cases h) (hi_done (by kernel_rfl) ?_ _)
  clear hK K
  have hor2 := hor.out
  rw [HRB.out] at hor2
  clear hor HRB
  obtain ⟨h1, h2, h3, h4, h5, h6, h7⟩ := Hbk.out
  have hΦ := HΦ.out
  have hz0 := Hz0.out
  have hn0 := Hn0.out
  have hg := (hΦ _ _ h1).1
  rcases hor2 with ⟨rfl, hJ3, hk⟩ | ⟨rfl, hJ3, hk⟩
  ·have hkV := (KpM.drew hM V).trans hk
   have hb := hkV hg
   have hfin : KeepsFrom W0.heap.size V W3 ∧ KpM G M (W0.heap.size + 2) V W3 ∧ (J ((pre ++ [x]).map fun x : Sp s => word s x.1) W3 ∧ Boxed W3 W.heap.size 115 (.func (.yield l) #[] #[]) ∧ ¬ M W3 W.heap.size ∧ Boxed W3 (W.heap.size + 1) 9 (.string s) ∧ ¬ M W3 (W.heap.size + 1) ∧ Boxed W3 bs 9 (.string s) ∧ W0.heap.size ≤ W3.heap.size) :=
    ⟨hb.2.from hM hg (by omega), hkV.later (by omega), by simpa using hJ3, hb.2.box h2 h3, hb.2.not h2.lt h3, hb.2.box h4 h5, hb.2.not h4.lt h5, hb.2.box h6 (hΦ _ _ h1).2, Nat.le_trans h7 hb.2.size⟩
   have Hfin := Aside0.mk hfin
   clear hfin hb hkV hJ3 hk h1 h2 h3 h4 h5 h6 h7 hΦ hz0 hn0 hg
   gi_wp2
   exact Hfin.out
  ·have hfin : KeepsFrom W0.heap.size V W3 ∧ (Code.ret = .ret ∧ Jx ((pre ++ [x]).map fun x : Sp s => word s x.1) W3) := ⟨(KeepsFrom.trans (B := W0.heap.size) (Y := V.drew) ⟨Nat.le_refl _, fun k o _ h _ => h⟩ (keepsFrom_later (B := n₀) hk (by omega))), rfl, by simpa using hJ3⟩
   have Hfin := Aside0.mk hfin
   clear hfin hJ3 hk h1 h2 h3 h4 h5 h6 h7 hΦ hz0 hn0 hg
   gi_wp2
   exact ⟨Hfin.out.1, rfl, by simpa using Hfin.out.2.2⟩
 case done =>
  rintro D xs V hD hxs ⟨h1, h2, h3, h4, h5, h6, h7⟩ hK
  gi_wp2
  refine ⟨by simp, .inl ⟨_, _, rfl, run_takeDeferred hK, ?_⟩⟩
  refine ⟨_, results_none rfl _ _ _, ⟨_, rfl⟩, .inl ⟨_, ?_, hJ.putObj _ h1 (by omega) hK rfl⟩⟩
  unfold words
  rw [← hxs, List.map_map]
  rfl
 case stop =>
  rintro D c pre V hD hpre ⟨rfl, hx⟩ hK
  gi_wp2
  refine ⟨by simp, .inl ⟨_, _, rfl, run_takeDeferred hK, ?_⟩⟩
  refine ⟨_, results_none rfl _ _ _, ⟨_, rfl⟩, .inr ⟨_, ?_, hJx.putObj _ hx (by omega) hK rfl⟩⟩
  obtain ⟨t, ht⟩ := hpre
  refine ⟨t.map (word s), ?_⟩
  unfold words
  rw [← ht, List.map_append, List.map_map]
  rfl
end Go.Proofs.YtpleiklodomgiaaGreatDoor.W
end
section
namespace Go.Proofs.YtpleiklodomgiaaGreatDoor.W
open Go.RowKit Go.Shelf Go.Proofs.YtpleiklodomgiaaGreatDoorW.PrintWords Go.Proofs.YtpleiklodomgiaaGreatDoorW.PrintLast Go.Proofs.YtpleiklodomgiaaGreatDoor.B Go.Proofs.YtpleiklodomgiaaGreatDoor.It
attribute [local go_sem] Oper.semAt_some
theorem told_box (r : Nat) (t : TypeId) : Told (fun W => ∃ v, Boxed W r t v) (fun _ k => k = r) :=
 ⟨fun A B row hg h hr => ⟨by
  obtain ⟨v, hv⟩ := hg
  exact ⟨v, hv.kept h (fun e => by obtain ⟨o, ho, hc⟩ := hr r e.symm; rw [show A.heap[r]? = _ from hv] at ho; cases ho; cases hc)⟩, fun k h => h⟩,
  fun A k hg h => by obtain ⟨v, hv⟩ := hg; subst h; exact ⟨_, hv, rfl⟩⟩
theorem text_iff (a b : ByteArray) : (a.toList == b.toList) = true ↔ a = b := by
 rw [beq_iff_eq, ByteArray.toList_eq, ByteArray.toList_eq]
 exact ⟨fun h => ByteArray.ext (Array.toList_inj.mp h), fun h => by rw [h]⟩
theorem text_not {a b : ByteArray} (h : (a.toList == b.toList) = false) : a ≠ b := fun e => by rw [(text_iff a b).2 e] at h; cases h
def hasB (s x : ByteArray) : Bool := (words s).any fun y => y.toList == x.toList
theorem any_true {l : List ByteArray} {x : ByteArray} (h : x ∈ l) : (l.any fun y => y.toList == x.toList) = true := List.any_eq_true.2 ⟨x, h, (text_iff x x).2 rfl⟩
theorem any_false {l : List ByteArray} {x : ByteArray} (h : x ∉ l) : (l.any fun y => y.toList == x.toList) = false := by
 rw [List.any_eq_false]
 intro y hy e
 exact h ((text_iff y x).1 e ▸ hy)
theorem KpM.refl {G : World → Prop} {M : World → Nat → Prop} (hM : Told G M) {n₀ : Nat} (A : World) : KpM G M n₀ A A := KpM.still hM (grown_refl A none)
set_option maxRecDepth 20000 in
set_option maxHeartbeats 4000000 in
theorem has_any (s x0 : ByteArray) (w : World) (hs : s.size ≤ 4611686018427) : Calls Tryz.prog 50 #[.string s, .string x0] w fun e w' => e = .returned (.bool (hasB s x0)) ∧ Below w.heap.size w w' := by
 refine (callsIn_wide (n := 9)).1 ?_
 refine callsIn_of_wp_marks Tryz.func50 rfl trivial ?_ rfl
 simp only [Tryz.ntmps50, List.size_toArray, List.length_cons, List.length_nil, Nat.reduceAdd, Nat.reduceSub, Array.replicate_succ, Array.replicate_zero, List.push_toArray, List.append_toArray, List.nil_append, List.cons_append]
 gi_wp2_with (refine ⟨trivial, ?_⟩; gi_at_call 65; refine (callsIn_wide.2 (words_any s _)).mono ?_; rintro e w' ⟨rfl, rfl⟩)
 obtain ⟨W0, hW0⟩ : ∃ W0, W0 = (((w.alloc (.cells #[.string x0] 9)).alloc (.cells #[.bool false] 4)).alloc (.cells #[.string s] 9)) := ⟨_, rfl⟩
 have hz0 : W0.heap.size = w.heap.size + 3 := by rw [hW0]; simp
 have hb0 : Boxed W0 w.heap.size 9 (.string x0) := by rw [hW0]; exact ((Boxed.new w _ _).alloc _).alloc _
 have hb1 : Boxed W0 (w.heap.size + 1) 4 (.bool false) := by
  rw [hW0]
  have h := Boxed.new (w.alloc (.cells #[.string x0] 9)) 4 (.bool false)
  rw [World.size_alloc] at h
  exact h.alloc _
 have hb2 : Boxed W0 (w.heap.size + 1 + 1) 9 (.string s) := by
  rw [hW0]
  have h := Boxed.new ((w.alloc (.cells #[.string x0] 9)).alloc (.cells #[.bool false] 4)) 9 (.string s)
  rw [World.size_alloc, World.size_alloc] at h
  exact h
 have hB0 : Below w.heap.size w W0 := by
  rw [hW0]
  exact (((Below.refl _ w).alloc (Nat.le_refl _) _).alloc (by simp) _).alloc (by simp; omega) _
 rw [← hW0]
 clear hW0
 have hM := told_box (w.heap.size + 1) 4
 refine range_law (F := Fence.wide) rfl (by omega) (gf := 83) (lb := #[.pointer (some ⟨w.heap.size + 1 + 1, 0, none⟩)]) rfl trivial (enters_of Tryz.func83 (by kernel_rfl) rfl)
  (words_seq (9 - 1) (by omega) (w.heap.size + 1 + 1) s _ _ hM W0 hb2 hs _) KpM.trans (fun V l o o' _ hlt h hc hw => KpM.book hM V l o o' hlt h hc hw) (Below.refl _ _) (fun _ => rfl)
  (fun pre W => Boxed W w.heap.size 9 (.string x0) ∧ Boxed W (w.heap.size + 1) 4 (.bool false) ∧ x0 ∉ pre ∧ Below w.heap.size w W ∧ W0.heap.size ≤ W.heap.size)
  (fun c pre W => c = .ret ∧ x0 ∈ pre ∧ Boxed W (w.heap.size + 1) 4 (.bool true) ∧ Below w.heap.size w W)
  (fun pre A B row hs hg hr => ⟨hs.1.kept hg (fun e => by have := (hr _ e.symm).1; omega), hs.2.1.kept hg (fun e => by have := (hr _ e.symm).1; omega), hs.2.2.1, hs.2.2.2.1.grown hg hs.2.2.2.1.size (fun k e => by have := (hr k e).1; omega), Nat.le_trans hs.2.2.2.2 hg.size⟩)
  (fun c pre A B row hs hg hr => ⟨hs.1, hs.2.1, hs.2.2.1.kept hg (fun e => by have := (hr _ e.symm).1; omega), hs.2.2.2.grown hg hs.2.2.2.size (fun k e => by have := (hr k e).1; omega)⟩)
  (fun pre V h => ⟨⟨_, h.2.1⟩, by omega⟩) ⟨hb0, hb1, by simp, hB0, Nat.le_refl _⟩
  (fun x a' W => a' = { tmps := #[.string s, .string x0, undef, .pointer (some ⟨w.heap.size, 0, none⟩), .pointer (some ⟨w.heap.size + 1, 0, none⟩), .string x, .string s, .func (.func 83) #[] #[.pointer (some ⟨w.heap.size + 1 + 1, 0, none⟩)], .string x, undef, undef, undef], defers := [] })
  (fun x a' u A B row hs hg hr => hs) ?assign ?body ?done ?stop
 case assign =>
  rintro l pre x W K ⟨h1, h2, h3, h4, h5⟩ hK
  gi_wp2
  exact hK _ _ (KeepsFrom.refl _ _) (KpM.refl hM _) ⟨h1, h2, h3, h4, h5⟩ rfl
 case body =>
  rintro l pre x a' W hl ⟨r, hr⟩ ⟨h1, h2, h3, h4, h5⟩ rfl hlen
  have k0 := h1.cell
  have k1 := h2.cell
  have f1 := h2.frozen
  cases hx0 : (x.toList == x0.toList) with
  | true =>
   have he := (text_iff x x0).1 hx0
   gi_wp2
   exact ⟨(KeepsOthers.setCell _ _ _).from _, rfl, by rw [he]; simp, h2.set (.bool true), h4.setCell (p := ⟨w.heap.size + 1, 0, none⟩) (by simp) _⟩
  | false =>
   have he := text_not hx0
   gi_wp2
   exact ⟨KeepsFrom.refl _ _, KpM.refl hM _, h1, h2, fun hm => (List.mem_append.1 hm).elim h3 (fun hm => he (List.mem_singleton.1 hm).symm), h4, h5⟩
 case done =>
  rintro D xs W hD hxs ⟨h1, h2, h3, h4, h5⟩ hK
  have k1 := h2.cell
  have f1 := h2.frozen
  have hK2 := (KeepsOthers.setCell W ⟨w.heap.size + 1, 0, none⟩ (.bool false)).same D _ hK rfl
  have hn : hasB s x0 = false := by unfold hasB; rw [← hxs]; exact any_false h3
  gi_wp2
  rw [hn]
  refine ⟨by simp, .inl ⟨_, _, rfl, run_takeDeferred hK2, ?_⟩⟩
  have hc5 := cell_kept (h2.set (.bool false)).cell (grownBy_putObj' _ D (.deferred none)) (fun r e => by cases e; exact ⟨_, hK2, rfl⟩)
  refine ⟨.bool false, ?_, rfl, (h4.setCell (p := ⟨w.heap.size + 1, 0, none⟩) (by simp) _).trans (belowK_b (w := w) (Nat.le_refl _) _ D _ _ (by omega) hK2 rfl rfl)⟩
  simp [results, Tryz.f50, go_sem, hc5]
 case stop =>
  rintro D c pre W hD hpre ⟨rfl, hx, h2, h4⟩ hK
  have hn : hasB s x0 = true := by
   obtain ⟨t, ht⟩ := hpre
   unfold hasB
   rw [← ht]
   exact any_true (List.mem_append_left _ hx)
  gi_wp2
  rw [hn]
  refine ⟨by simp, .inl ⟨_, _, rfl, run_takeDeferred hK, ?_⟩⟩
  have hc5 := cell_kept h2.cell (grownBy_putObj' _ D (.deferred none)) (fun r e => by cases e; exact ⟨_, hK, rfl⟩)
  refine ⟨_, ?_, rfl, h4.trans (belowK_b (w := w) (Nat.le_refl _) _ D _ _ (by omega) hK rfl rfl)⟩
  simp [results, Tryz.f50, go_sem, hc5]
end Go.Proofs.YtpleiklodomgiaaGreatDoor.W
end
section
namespace Go.Proofs.YtpleiklodomgiaaGreatDoor.W
open Go.RowKit Go.Shelf Go.Proofs.YtpleiklodomgiaaGreatDoorW.PrintWords Go.Proofs.YtpleiklodomgiaaGreatDoorW.PrintLast Go.Proofs.YtpleiklodomgiaaGreatDoor.B Go.Proofs.YtpleiklodomgiaaGreatDoor.It
attribute [local go_sem] Oper.semAt_some
section
variable {F : Fence} {n : Nat} {P : Program} {w : World} {ops : Array Oper} {rest : List Oper} {o : Oper} {a : Act} {Q : Exit → Act → World → Prop}
theorem wpListIn_append_b (base : Nat) (hgd : o.guard = none) (s x : Operand) (t e : TypeId) (z : Value) (bytes : Nat)
  (ho : o.op = Op.call { callee := Callee.builtin Builtin.append, args := #[s, x], argTypes := #[t, t] })
  (ht : P.underlying t = some (.slice e)) (hinfo : (P.info? e).map (fun i => (i.zero, i.size, i.bytes)) = some (some z, 1, bytes)) (hz : z.cells.size = 1) (hb0 : 0 < bytes)
  (v : Value) (xs : List Value) (hs : a.eval s = v) (hown : B.Own w base e v xs)
  (A : Option Addr) (m c : Nat) (news : List Value) (hx : a.eval x = .slice A m c) (hm : news.length = m) (hnews : ∀ ad, A = some ad → ∀ j u, news[j]? = some u → w.cell? (ad.add j) = some u) (hnil : A = none → news = []) (h1 : ∀ u ∈ news, u.oneCell' = true)
  (hbytes : (xs.length + m) * bytes ≤ 140737488355328) (hbase : base ≤ w.heap.size)
  (h : ∀ v' w', B.Own w' base e v' (xs ++ news) → w.grownBy w' v.ownBlock → (v'.ownBlock = v.ownBlock ∨ v'.ownBlock = some w.heap.size) → wpListIn F n P ops Q rest (a.put o.dst v') w') : wpListIn F n P ops Q (o :: rest) a w := by
 obtain ⟨i0, hi, hzz⟩ := Option.map_eq_some_iff.1 hinfo
 simp only [Prod.mk.injEq] at hzz
 obtain ⟨hz0, hz1, hz2⟩ := hzz
 subst hm
 refine wpListIn_plain hgd fun K hK => ?_
 obtain ⟨v', w', hr, h2, h3, h4⟩ := run_append_b (P := P) w base t o.type e i0 z bytes ht hi hz0 hz1 hz2 hz hb0 v xs hown A c news hnews hnil h1 hbytes hbase
 unfold Oper.wpIn
 refine ⟨?_, ?_⟩
 ·simp [Oper.about, ho, resolve, Target.leads, Sem.run_pure]
 ·rw [Oper.semAt_plain F _ _ (by rw [ho]; intro c hc'; cases hc')]
  simp [execOp, ho, resolve, invoke, builtin, hs, hx, hr, Result.andThen]
  exact hK _ _ (h v' w' h2 h3 h4)
end
theorem eql_func_nil {P : Program} (W : World) {t : TypeId} {ps rs : Array TypeId} {vd : Bool} (h : P.underlying t = some (.func ps rs vd)) (f : Fn) (fi ca : Array Value) : (binOp .eql t (.func f fi ca) .nilFunc).run P W = .ok (.bool false) W := by
 have h1 : ∀ d, (Op.equalIn (d + 1) t (.func f fi ca) .nilFunc).run P W = .ok false W := fun d => by simp [Op.equalIn, run_underlying h]
 have h2 : (Op.equal t (.func f fi ca) .nilFunc).run P W = .ok false W := h1 9999
 simp only [binOp]
 simp [h2]
theorem own_block {w : World} {base : Nat} {e : TypeId} {v : Value} {xs : List Value} (h : B.Own w base e v xs) : ∀ k, v.ownBlock = some k → ∃ o : Obj, w.heap[k]? = some o ∧ o.isCells = true := by
 intro k hk
 rcases h with ⟨rfl, _⟩ | ⟨g, cap, cur, fz, rfl, hb, hg, _⟩
 ·simp [Value.ownBlock] at hk
 ·simp [Value.ownBlock] at hk
  subst hk
  exact ⟨_, hg, rfl⟩
theorem own_apart {w : World} {base : Nat} {e : TypeId} {v : Value} {xs : List Value} (h : B.Own w base e v xs) {D : Nat} {o : Obj} (hD : w.heap[D]? = some o) (hc : o.isCells = false) : v.ownBlock ≠ some D := fun e => by
 obtain ⟨o', h7, h8⟩ := own_block h D e
 rw [hD] at h7
 cases h7
 rw [hc] at h8
 cases h8
theorem own_putObj {w : World} {base : Nat} {e : TypeId} {v : Value} {xs : List Value} (h : B.Own w base e v xs) {D : Nat} {o : Obj} (o' : Obj) (hD : w.heap[D]? = some o) (hc : o.isCells = false) : B.Own (w.putObj D o') base e v xs :=
 h.kept (grownBy_putObj' w D o') (.inr (own_apart h hD hc))
theorem boxed_inj {W : World} {b : Nat} {t : TypeId} {u v : Value} (h : Boxed W b t u) (k : Boxed W b t v) : u = v := by
 have := (show W.heap[b]? = _ from h).symm.trans (show W.heap[b]? = _ from k)
 simpa using this
theorem told_row (b : Nat) (t e : TypeId) : Told (fun W => ∃ v xs, Boxed W b t v ∧ B.Own W (b + 1) e v xs) (fun W k => k = b ∨ ∃ v, Boxed W b t v ∧ v.ownBlock = some k) := by
 refine ⟨?_, ?_⟩
 ·rintro A B row ⟨v, xs, hv, ho⟩ hgr hr
  have hv' := hv.kept hgr (fun e => by obtain ⟨o, h1, h2⟩ := hr b e.symm; rw [show A.heap[b]? = _ from hv] at h1; cases h1; cases h2)
  have ho' := ho.kept hgr (by
   cases hvb : v.ownBlock with
   | none => exact .inl rfl
   | some k =>
    refine .inr fun e => ?_
    obtain ⟨o, h1, h2⟩ := hr k e.symm
    obtain ⟨o', h3, h4⟩ := own_block ho k hvb
    rw [h1] at h3
    cases h3
    rw [h2] at h4
    cases h4)
  refine ⟨⟨v, xs, hv', ho'⟩, fun k h => h.imp id ?_⟩
  rintro ⟨u, hu, hk⟩
  exact ⟨v, hv, by rw [← boxed_inj hu hv']; exact hk⟩
 ·rintro A k ⟨v, xs, hv, ho⟩ (rfl | ⟨u, hu, hk⟩)
  ·exact ⟨_, hv, rfl⟩
  ·exact own_block ho k (by rw [← boxed_inj hu hv]; exact hk)
theorem collected {W w1 : World} {b : Nat} {t e : TypeId} {v v' : Value} {xs ys : List Value} {tmp : Obj} (hv : Boxed W b t v) (ho : B.Own W (b + 1) e v xs) (ho' : B.Own w1 (b + 1) e v' ys) (hgr : (W.alloc tmp).grownBy w1 v.ownBlock) (hn : v'.ownBlock = v.ownBlock ∨ v'.ownBlock = some (W.alloc tmp).heap.size) :
  Boxed w1 b t v ∧ Boxed (w1.setCell ⟨b, 0, none⟩ v') b t v' ∧ B.Own (w1.setCell ⟨b, 0, none⟩ v') (b + 1) e v' ys ∧ (∀ k o, W.heap[k]? = some o → k ≠ b → v.ownBlock ≠ some k → (w1.setCell ⟨b, 0, none⟩ v').heap[k]? = some o) ∧ W.heap.size ≤ (w1.setCell ⟨b, 0, none⟩ v').heap.size ∧ (∀ k, v'.ownBlock = some k → v.ownBlock = some k ∨ W.heap.size ≤ k) := by
 have hv1 : Boxed w1 b t v := (hv.alloc tmp).kept hgr (fun e => by have := (ho.lt b e.symm).1; omega)
 have hs := hgr.size
 rw [World.size_alloc] at hs
 refine ⟨hv1, hv1.set v', ho'.kept (grownBy_setCell' w1 b v') (.inr fun e => by have := (ho'.lt b e).1; omega), ?_, ?_, ?_⟩
 ·intro k o hk hb hne
  have hlt := (Array.getElem?_eq_some_iff.1 hk).1
  have h1 : w1.heap[k]? = some o := (hgr.block k (by rw [World.size_alloc]; omega) (fun e => hne e.symm)).trans ((Below.heap_alloc W tmp k hlt).trans hk)
  exact ((grownBy_setCell' w1 b v').block k (Array.getElem?_eq_some_iff.1 h1).1 (fun e => hb (by cases e; rfl))).trans h1
 ·have := (grownBy_setCell' w1 b v').size
  omega
 ·intro k hk
  rcases hn with hn | hn
  ·exact .inl (by rw [← hn]; exact hk)
  ·rw [hn, World.size_alloc] at hk
   cases hk
   exact .inr (by omega)
end Go.Proofs.YtpleiklodomgiaaGreatDoor.W
end
