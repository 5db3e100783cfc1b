/- MatchNot: the closure, and the walk of the law. -/
import Derived.Test.YtfejjfbhlmjkeaaDoorFZ
import Derived.Test.YtfejjfbhlmjkeaaDoorH2
import Derived.Shelf.AbstractIn
set_option linter.unusedVariables false
set_option linter.unusedSimpArgs false
namespace Go.Proofs.YtfejjfbhlmjkeaaDoor.F
open Go.RowKit Go.Shelf Go.Proofs.YtfejjfbhlmjkeaaDoor.Hi Go.Proofs.YtfejjfbhlmjkeaaDoorW.PrintWords Go.Proofs.YtfejjfbhlmjkeaaDoorW.PrintLast Go.Proofs.YtfejjfbhlmjkeaaDoorW.PrintMore Go.Proofs.YtfejjfbhlmjkeaaDoor.B Go.Proofs.YtfejjfbhlmjkeaaDoor.W Go.Proofs.YtfejjfbhlmjkeaaDoor.M Go.Proofs.YtfejjfbhlmjkeaaDoor.PMatchNot

/-- A row of filters in a block. -/
theorem rows_of {w : World} {g : Nat} {cells : Array Value} {t : TypeId} (h : w.heap[g]? = some (.cells cells t (0, 0))) (xs : List S36) (hm : xs.length ≤ 100)
    (hc : ∀ (j : Nat) (x : S36), xs[j]? = some x → ∃ A c, x.f3.length ≤ c ∧ Kd.C k36 w A x.f3.length x.f3 ∧ cells[j * 4]? = some (.int .i64 x.f0) ∧ cells[j * 4 + 1]? = some (.string x.f1) ∧ cells[j * 4 + 2]? = some (.string x.f2) ∧ cells[j * 4 + 3]? = some (.slice A x.f3.length c)) :
    Kd.C k36 w (some ⟨g, 0, none⟩) xs.length xs := by
  refine ⟨rfl, by omega, fun _ => ⟨_, rfl, fun j x hx => ?_⟩⟩
  obtain ⟨A, c, hl, hC, h0, h1, h2, h3⟩ := hc j x hx
  refine ⟨_, rfl, k36_mk w x hl hC, fun i u hu => ?_⟩
  have e : (⟨g, 0, none⟩ : Addr).add (j * k36.sz + i) = ⟨g, j * 4 + i, none⟩ := by
    show (⟨g, 0, none⟩ : Addr).add (j * 4 + i) = _
    rw [add_at, Nat.zero_add]
  rw [e, blk_cell h]
  match i, hu with
  | 0, hu => rw [← hu]; exact h0
  | 1, hu => rw [← hu]; exact h1
  | 2, hu => rw [← hu]; exact h2
  | 3, hu => rw [← hu]; exact h3
theorem heap1 (w : World) (o1 o2 : Obj) : ((w.alloc o1).alloc o2).heap[w.heap.size + 1]? = some o2 := by
  have h := World.alloc_heap_new (w.alloc o1) o2
  rwa [show (w.alloc o1).heap.size = w.heap.size + 1 by simp] at h
theorem heap2 (w : World) (o1 o2 o3 : Obj) : (((w.alloc o1).alloc o2).alloc o3).heap[w.heap.size + 1 + 1]? = some o3 := by
  have h := World.alloc_heap_new ((w.alloc o1).alloc o2) o3
  rwa [show ((w.alloc o1).alloc o2).heap.size = w.heap.size + 1 + 1 by simp] at h
/-- Not of a filter. -/
def notT (T : S36) : S36 := ⟨6, ⟨#[]⟩, ⟨#[]⟩, [T]⟩
theorem not_any {d : Nat} {ok : Nat → Prop} (T : S36) (A : Option Addr) (c : Nat) (w : World) (hT : IsF d w ok T A c) :
    Calls Tryd.prog 26 #[.agg #[.int .i64 T.f0, .string T.f1, .string T.f2, .slice A T.f3.length c]] w fun e w' => ∃ A', e = .returned (.agg #[.int .i64 6, .string ⟨#[]⟩, .string ⟨#[]⟩, .slice A' 1 1]) ∧ IsF (d + 1) w' (fun k => ok k ∨ w.heap.size ≤ k) (notT T) A' 1 ∧ Below w.heap.size w w' := by
  have HT := Aside0.mk hT
  clear hT
  go_enter Tryd.func26, Tryd.ntmps26
  go_wp2
  refine bodyPost_ret (results_cell_row rfl _ _ (w.heap.size + 1) 36 #[.int .i64 6, .string ⟨#[]⟩, .string ⟨#[]⟩, .slice (some ⟨w.heap.size + 1 + 1, 0, none⟩) 1 1] (0, 0) _ rfl (blk_alloc (heap1 w _ _) _) Tryd.underlying36 rfl (by kernel_rfl)) rfl ?_
  have hb := below_alloc (below_alloc (below_alloc (Below.refl _ w) (.cells #[.int .i64 T.f0, .string T.f1, .string T.f2, .slice A T.f3.length c] 36)) (.cells #[.int .i64 6, .string ⟨#[]⟩, .string ⟨#[]⟩, .slice (some ⟨w.heap.size + 1 + 1, 0, none⟩) 1 1] 36)) (.cells #[.int .i64 T.f0, .string T.f1, .string T.f2, .slice A T.f3.length c] 36)
  refine ⟨some ⟨w.heap.size + 1 + 1, 0, none⟩, rfl, ⟨⟨Nat.zero_le _, Nat.zero_le _, by simp [notT], fun k hk => by rw [List.mem_singleton.1 hk]; exact HT.out.1⟩, fun W' hW => ?_, Nat.le_refl _⟩, hb⟩
  have h2 := heap2 w (.cells #[.int .i64 T.f0, .string T.f1, .string T.f2, .slice A T.f3.length c] 36) (.cells #[.int .i64 6, .string ⟨#[]⟩, .string ⟨#[]⟩, .slice (some ⟨w.heap.size + 1 + 1, 0, none⟩) 1 1] 36) (.cells #[.int .i64 T.f0, .string T.f1, .string T.f2, .slice A T.f3.length c] 36)
  refine rows_of ((hW _ (.inr (by omega)) (blk_lt h2)).trans h2) [T] (by simp) fun j x hx => ?_
  have hF := HT.out.2.1 W' (fun k hk hlt => (hW k (.inl hk) (Nat.lt_of_lt_of_le hlt hb.size)).trans (hb.block k hlt))
  match j, hx with
  | 0, hx => cases hx; exact ⟨A, c, HT.out.2.2, hF, rfl, rfl, rfl, rfl⟩
  | j + 1, hx => cases hx
theorem heap3 (w : World) (o1 o2 o3 o4 : Obj) : ((((w.alloc o1).alloc o2).alloc o3).alloc o4).heap[w.heap.size + 1 + 1 + 1]? = some o4 := by
  have h := World.alloc_heap_new (((w.alloc o1).alloc o2).alloc o3) o4
  rwa [show (((w.alloc o1).alloc o2).alloc o3).heap.size = w.heap.size + 1 + 1 + 1 by simp] at h
theorem set4_far {w : World} {z b : Nat} {o : Obj} (h : w.heap[b]? = some o) (hz : b ≠ z) (u0 u1 u2 u3 : Value) : ((((w.setCell ⟨z, 0, none⟩ u0).setCell ⟨z, 1, none⟩ u1).setCell ⟨z, 2, none⟩ u2).setCell ⟨z, 3, none⟩ u3).heap[b]? = some o := by
  rw [Below.heap_setCell _ _ _ _ (by exact hz), Below.heap_setCell _ _ _ _ (by exact hz), Below.heap_setCell _ _ _ _ (by exact hz), Below.heap_setCell _ _ _ _ (by exact hz)]
  exact h
/-- What a law of layer 9 asks for at the beginning. -/
theorem cat2 {w : World} {g g' : Nat} {x y : S36} {A B : Option Addr} {c c' : Nat} {t : TypeId} {d : Nat} (hx : IsT d w x A c) (hy : IsT d w y B c')
    (h : w.heap[g]? = some (.cells #[.int .i64 x.f0, .string x.f1, .string x.f2, .slice A x.f3.length c, .int .i64 y.f0, .string y.f1, .string y.f2, .slice B y.f3.length c'] t (0, 0))) : Kd.C k36 w (some ⟨g, 0, none⟩) [x, y].length [x, y] := by
  refine rows_of h [x, y] (by simp) fun j z hz => ?_
  match j, hz with
  | 0, hz => cases hz; exact ⟨A, c, hx.2.2, hx.2.1, rfl, rfl, rfl, rfl⟩
  | 1, hz => cases hz; exact ⟨B, c', hy.2.2, hy.2.1, rfl, rfl, rfl, rfl⟩
  | j + 2, hz => cases hz
theorem isT_two {w : World} {g : Nat} {x y : S36} {A B : Option Addr} {c c' : Nat} {t : TypeId} {d : Nat} (hx : IsT d w x A c) (hy : IsT d w y B c') (op : Int)
    (h : w.heap[g]? = some (.cells #[.int .i64 x.f0, .string x.f1, .string x.f2, .slice A x.f3.length c, .int .i64 y.f0, .string y.f1, .string y.f2, .slice B y.f3.length c'] t (0, 0))) : IsT (d + 1) w ⟨op, ⟨#[]⟩, ⟨#[]⟩, [x, y]⟩ (some ⟨g, 0, none⟩) 2 :=
  ⟨⟨Nat.zero_le _, Nat.zero_le _, by simp, fun k hk => by
    rcases List.mem_cons.1 hk with rfl | hk
    · exact hx.1
    · rw [List.mem_singleton.1 hk]; exact hy.1⟩, cat2 (g' := 0) hx hy h, Nat.le_refl _⟩
theorem isF_two {ok : Nat → Prop} {w : World} {g : Nat} {x y : S36} {A B : Option Addr} {c c' : Nat} {t : TypeId} {d : Nat} (hx : IsF d w ok x A c) (hy : IsF d w ok y B c') (op : Int)
    (h : w.heap[g]? = some (.cells #[.int .i64 x.f0, .string x.f1, .string x.f2, .slice A x.f3.length c, .int .i64 y.f0, .string y.f1, .string y.f2, .slice B y.f3.length c'] t (0, 0))) : IsF (d + 1) w (fun k => k < w.heap.size) ⟨op, ⟨#[]⟩, ⟨#[]⟩, [x, y]⟩ (some ⟨g, 0, none⟩) 2 :=
  ⟨(isT_two hx.now hy.now op h).1, fun W' hW => by
    have hx' := hx.bound.2.1 W' (fun k hk hlt => hW k hk hlt)
    have hy' := hy.bound.2.1 W' (fun k hk hlt => hW k hk hlt)
    exact cat2 (g' := 0) (d := d) ⟨hx.1, hx', hx.2.2⟩ ⟨hy.1, hy', hy.2.2⟩ ((hW g (blk_lt h) (blk_lt h)).trans h), Nat.le_refl _⟩
theorem lineV_not (line : ByteArray) (d : Nat) (T : S36) : lineV line (d + 1) (notT T) = !lineV line d T := by
  show ((([T] : List S36).any fun k => !lineV line d k) == ((6 : Int) == 6)) = _
  cases h : lineV line d T <;> simp [h]
theorem lineV_and (line : ByteArray) (d : Nat) (x y : S36) (n t : ByteArray) : lineV line (d + 1) ⟨7, n, t, [x, y]⟩ = (lineV line d x && lineV line d y) := by
  show ((([x, y] : List S36).any fun k => !lineV line d k) == ((7 : Int) == 6)) = _
  cases h : lineV line d x <;> cases h' : lineV line d y <;> simp [h, h']
theorem lineV_or (line : ByteArray) (d : Nat) (x y : S36) (n t : ByteArray) : lineV line (d + 1) ⟨8, n, t, [x, y]⟩ = (lineV line d x || lineV line d y) := by
  show (([x, y] : List S36).any (lineV line d)) = _
  simp
theorem isT_up {w : World} {x : S36} {A : Option Addr} {c d : Nat} (h : IsT d w x A c) : IsT (d + 1) w x A c := ⟨h.1.up, h.2⟩
set_option maxRecDepth 20000 in
set_option maxHeartbeats 4000000 in
theorem matchNot_all (a b : List Int) (line : ByteArray) (Aa Ab : Option Addr) (ca cb : Nat) (W : World) (hC : Con W) (hS : Spl W) (ha : Kd.C (Kd.int .i64) W Aa a.length a) (hb : Kd.C (Kd.int .i64) W Ab b.length b) :
    Calls Tryd.prog 5 #[.slice Aa a.length ca, .slice Ab b.length cb, .string line] W fun e w' => e = .returned (.bool true) ∧ Below W.heap.size W w' := by
  refine (callsIn_wide (n := 9)).1 ?_
  refine callsIn_of_wp Tryd.func5 rfl trivial ?_ rfl
  simp only [Tryd.ntmps5, List.size_toArray, List.length_cons, List.length_nil, Nat.reduceAdd, Nat.reduceSub, Array.replicate_succ, Array.replicate_zero, List.push_toArray, List.append_toArray, List.nil_append, List.cons_append]
  have HA0 := fun w => Aside0.mk (alive9 w)
  by_cases h1 : (300 : Int) < (a.length : Int)
  · have d1 : decide ((300 : Int) < (a.length : Int)) = true := decide_eq_true h1
    clear h1 hC hS ha hb
    gi_wp2_with (refine ⟨trivial, ?_⟩; gi_at_call 24; refine (callsIn_wide.2 (HA0 _).out).mono ?_; rintro e W1 ⟨rfl, hb1⟩; have HB1 := Aside0.mk hb1; clear hb1)
    refine bodyPost_ret (results_tmp rfl _ _ _) rfl ?_
    exact ⟨rfl, HB1.out⟩
  have d1 : decide ((300 : Int) < (a.length : Int)) = false := decide_eq_false h1
  by_cases h2 : (300 : Int) < (b.length : Int)
  · have d2 : decide ((300 : Int) < (b.length : Int)) = true := decide_eq_true h2
    clear h1 h2 hC hS ha hb
    gi_wp2_with (refine ⟨trivial, ?_⟩; gi_at_call 24; refine (callsIn_wide.2 (HA0 _).out).mono ?_; rintro e W1 ⟨rfl, hb1⟩; have HB1 := Aside0.mk hb1; clear hb1)
    refine bodyPost_ret (results_tmp rfl _ _ _) rfl ?_
    exact ⟨rfl, HB1.out⟩
  have d2 : decide ((300 : Int) < (b.length : Int)) = false := decide_eq_false h2
  by_cases h3 : (1000 : Int) < (line.size : Int)
  · have d3 : decide ((1000 : Int) < (line.size : Int)) = true := decide_eq_true h3
    clear h1 h2 h3 hC hS ha hb
    gi_wp2_with (refine ⟨trivial, ?_⟩; gi_at_call 24; refine (callsIn_wide.2 (HA0 _).out).mono ?_; rintro e W1 ⟨rfl, hb1⟩; have HB1 := Aside0.mk hb1; clear hb1)
    refine bodyPost_ret (results_tmp rfl _ _ _) rfl ?_
    exact ⟨rfl, HB1.out⟩
  have d3 : decide ((1000 : Int) < (line.size : Int)) = false := decide_eq_false h3
  have HF := Aside0.mk (fun w (h : Below W.heap.size W w) => filter_any a (by omega) Aa ca w (Kd.C_below ha h))
  have HG := Aside0.mk (fun w (h : Below W.heap.size W w) => filter_any b (by omega) Ab cb w (Kd.C_below hb h))
  have HL := Aside0.mk (line_all (line := line) hC hS (by omega))
  clear h1 h2 h3 hC hS ha hb
  obtain ⟨na, hna⟩ : ∃ na, na = a.length := ⟨_, rfl⟩
  obtain ⟨nb, hnb⟩ : ∃ nb, nb = b.length := ⟨_, rfl⟩
  rw [← hna] at d1 HF ⊢
  rw [← hnb] at d2 HG ⊢
  clear hna hnb
  gi_wp2_with (first
    | (refine ⟨trivial, ?_⟩; gi_at_call 24; refine (callsIn_wide.2 (HA0 _).out).mono ?_; rintro e W1 ⟨rfl, hb1⟩; have HB1 := Aside0.mk hb1; clear hb1)
    | (refine ⟨trivial, ?_⟩; gi_at_call 25; refine (callsIn_wide.2 (HF.out _ HB1.out)).mono ?_; rintro e W2 ⟨F, AF, cF, rfl, hF, hb2⟩; unfold fv; have HB2 := Aside0.mk (below_step HB1.out hb2); have HIF := Aside0.mk hF; clear hb2 hF)
    | (refine ⟨trivial, ?_⟩; gi_at_call 25; refine (callsIn_wide.2 (HG.out _ HB2.out)).mono ?_; rintro e W3 ⟨G, AG, cG, rfl, hG, hb3⟩; unfold fv; have HB3 := Aside0.mk (below_step HB2.out hb3); have HIG := Aside0.mk hG; have HIF2 := Aside0.mk (HIF.out.below hb3); clear hb3 hG HIF))
-- HERE
  have hbb := below_alloc (below_alloc (below_alloc (below_alloc (Below.refl _ W3) (.cells #[.int .i64 F.f0, .string F.f1, .string F.f2, .slice AF F.f3.length cF] 36)) (.cells #[.int .i64 G.f0, .string G.f1, .string G.f2, .slice AG G.f3.length cG] 36)) (.cells #[.int .i64 F.f0, .string F.f1, .string F.f2, .slice AF F.f3.length cF, .int .i64 G.f0, .string G.f1, .string G.f2, .slice AG G.f3.length cG] 36)) (.cells #[.int .i64 7, .string ⟨#[]⟩, .string ⟨#[]⟩, .slice (some ⟨W3.heap.size + 1 + 1, 0, none⟩) 2 2] 36)
  have HB0 := Aside0.mk (below_step HB3.out hbb)
  have HF0 := Aside0.mk (HIF2.out.below hbb).bound
  have HG0 := Aside0.mk (HIG.out.below hbb).bound
  have HbF : Aside0 (((((W3.alloc (.cells #[.int .i64 F.f0, .string F.f1, .string F.f2, .slice AF F.f3.length cF] 36)).alloc (.cells #[.int .i64 G.f0, .string G.f1, .string G.f2, .slice AG G.f3.length cG] 36)).alloc (.cells #[.int .i64 F.f0, .string F.f1, .string F.f2, .slice AF F.f3.length cF, .int .i64 G.f0, .string G.f1, .string G.f2, .slice AG G.f3.length cG] 36)).alloc (.cells #[.int .i64 7, .string ⟨#[]⟩, .string ⟨#[]⟩, .slice (some ⟨W3.heap.size + 1 + 1, 0, none⟩) 2 2] 36)).heap[W3.heap.size]? = some (.cells #[.int .i64 F.f0, .string F.f1, .string F.f2, .slice AF F.f3.length cF] 36)) := ⟨blk_alloc (blk_alloc (blk_alloc (World.alloc_heap_new W3 _) _) _) _⟩
  have HbG : Aside0 (((((W3.alloc (.cells #[.int .i64 F.f0, .string F.f1, .string F.f2, .slice AF F.f3.length cF] 36)).alloc (.cells #[.int .i64 G.f0, .string G.f1, .string G.f2, .slice AG G.f3.length cG] 36)).alloc (.cells #[.int .i64 F.f0, .string F.f1, .string F.f2, .slice AF F.f3.length cF, .int .i64 G.f0, .string G.f1, .string G.f2, .slice AG G.f3.length cG] 36)).alloc (.cells #[.int .i64 7, .string ⟨#[]⟩, .string ⟨#[]⟩, .slice (some ⟨W3.heap.size + 1 + 1, 0, none⟩) 2 2] 36)).heap[W3.heap.size + 1]? = some (.cells #[.int .i64 G.f0, .string G.f1, .string G.f2, .slice AG G.f3.length cG] 36)) := ⟨blk_alloc (blk_alloc (heap1 W3 _ _) _) _⟩
  have Hb8 : Aside0 (((((W3.alloc (.cells #[.int .i64 F.f0, .string F.f1, .string F.f2, .slice AF F.f3.length cF] 36)).alloc (.cells #[.int .i64 G.f0, .string G.f1, .string G.f2, .slice AG G.f3.length cG] 36)).alloc (.cells #[.int .i64 F.f0, .string F.f1, .string F.f2, .slice AF F.f3.length cF, .int .i64 G.f0, .string G.f1, .string G.f2, .slice AG G.f3.length cG] 36)).alloc (.cells #[.int .i64 7, .string ⟨#[]⟩, .string ⟨#[]⟩, .slice (some ⟨W3.heap.size + 1 + 1, 0, none⟩) 2 2] 36)).heap[W3.heap.size + 1 + 1]? = some (.cells #[.int .i64 F.f0, .string F.f1, .string F.f2, .slice AF F.f3.length cF, .int .i64 G.f0, .string G.f1, .string G.f2, .slice AG G.f3.length cG] 36)) := ⟨blk_alloc (heap2 W3 _ _ _) _⟩
  have HbA : Aside0 (((((W3.alloc (.cells #[.int .i64 F.f0, .string F.f1, .string F.f2, .slice AF F.f3.length cF] 36)).alloc (.cells #[.int .i64 G.f0, .string G.f1, .string G.f2, .slice AG G.f3.length cG] 36)).alloc (.cells #[.int .i64 F.f0, .string F.f1, .string F.f2, .slice AF F.f3.length cF, .int .i64 G.f0, .string G.f1, .string G.f2, .slice AG G.f3.length cG] 36)).alloc (.cells #[.int .i64 7, .string ⟨#[]⟩, .string ⟨#[]⟩, .slice (some ⟨W3.heap.size + 1 + 1, 0, none⟩) 2 2] 36)).heap[W3.heap.size + 1 + 1 + 1]? = some (.cells #[.int .i64 7, .string ⟨#[]⟩, .string ⟨#[]⟩, .slice (some ⟨W3.heap.size + 1 + 1, 0, none⟩) 2 2] 36)) := ⟨heap3 W3 _ _ _ _⟩
  clear hbb HB2 HB3 HIF2 HIG HF HG HA0 HB1
  obtain ⟨V0, hV0⟩ : ∃ V0, V0 = ((((W3.alloc (.cells #[.int .i64 F.f0, .string F.f1, .string F.f2, .slice AF F.f3.length cF] 36)).alloc (.cells #[.int .i64 G.f0, .string G.f1, .string G.f2, .slice AG G.f3.length cG] 36)).alloc (.cells #[.int .i64 F.f0, .string F.f1, .string F.f2, .slice AF F.f3.length cF, .int .i64 G.f0, .string G.f1, .string G.f2, .slice AG G.f3.length cG] 36)).alloc (.cells #[.int .i64 7, .string ⟨#[]⟩, .string ⟨#[]⟩, .slice (some ⟨W3.heap.size + 1 + 1, 0, none⟩) 2 2] 36)) := ⟨_, rfl⟩
  rw [← hV0] at HB0 HF0 HG0 HbF HbG Hb8 HbA ⊢
  obtain ⟨bA, hbA⟩ : ∃ b, b = W3.heap.size + 1 + 1 + 1 := ⟨_, rfl⟩
  obtain ⟨b8, hb8⟩ : ∃ b, b = W3.heap.size + 1 + 1 := ⟨_, rfl⟩
  obtain ⟨bG, hbG⟩ : ∃ b, b = W3.heap.size + 1 := ⟨_, rfl⟩
  obtain ⟨bF, hbF⟩ : ∃ b, b = W3.heap.size := ⟨_, rfl⟩
  rw [← hbA] at HbA ⊢
  rw [← hb8] at HbA Hb8 ⊢
  rw [← hbG] at HbG ⊢
  rw [← hbF] at HbF ⊢
  clear hV0 hbA hb8 hbG hbF
  have HTA : Aside0 (IsT 6 V0 ⟨7, ⟨#[]⟩, ⟨#[]⟩, [F, G]⟩ (some ⟨b8, 0, none⟩) 2) := ⟨isT_two HF0.out.now HG0.out.now 7 Hb8.out⟩
  have HSof : Aside0 (∀ V, Below V0.heap.size V0 V → V.heap[bF]? = some (.cells #[.int .i64 F.f0, .string F.f1, .string F.f2, .slice AF F.f3.length cF] 36) ∧ V.heap[bG]? = some (.cells #[.int .i64 G.f0, .string G.f1, .string G.f2, .slice AG G.f3.length cG] 36)) := ⟨fun V h => ⟨blk_below HbF.out h, blk_below HbG.out h⟩⟩
  have hfo : (Tryd.prog).follows .mixedOrders = true := by kernel_rfl
  have egn : ∀ args w, (callFunc 26 args).run Tryd.prog w = .ok (.enter 26 args) w := enters_of Tryd.func26 (by kernel_rfl) rfl
  have HN1 : Aside0 (∀ V, Below V0.heap.size V0 V → Calls Tryd.prog 26 #[.agg #[.int .i64 F.f0, .string F.f1, .string F.f2, .slice AF F.f3.length cF]] V fun e w' => ∃ A', e = .returned (.agg #[.int .i64 6, .string ⟨#[]⟩, .string ⟨#[]⟩, .slice A' 1 1]) ∧ IsF 6 w' (fun k => k < V0.heap.size ∨ V.heap.size ≤ k) (notT F) A' 1 ∧ Below V.heap.size V w') := ⟨fun V h => not_any F AF cF V (HF0.out.below h)⟩
  have HN2 : Aside0 (∀ V, Below V0.heap.size V0 V → Calls Tryd.prog 26 #[.agg #[.int .i64 G.f0, .string G.f1, .string G.f2, .slice AG G.f3.length cG]] V fun e w' => ∃ A', e = .returned (.agg #[.int .i64 6, .string ⟨#[]⟩, .string ⟨#[]⟩, .slice A' 1 1]) ∧ IsF 6 w' (fun k => k < V0.heap.size ∨ V.heap.size ≤ k) (notT G) A' 1 ∧ Below V.heap.size V w') := ⟨fun V h => not_any G AG cG V (HG0.out.below h)⟩
  refine Code.wpIn_mono (Q := fun e a w => match e with
    | .normal => ∃ (b11 g : Nat) (A1 A2 : Option Addr), Below V0.heap.size V0 w ∧ w.heap[b11]? = some (.cells #[.int .i64 8, .string ⟨#[]⟩, .string ⟨#[]⟩, .slice (some ⟨g, 0, none⟩) 2 2] 36 (0, 0)) ∧ IsT 7 w ⟨8, ⟨#[]⟩, ⟨#[]⟩, [notT F, notT G]⟩ (some ⟨g, 0, none⟩) 2 ∧
      a = ⟨#[.slice Aa na ca, .slice Ab nb cb, .string line, undef, undef, undef, .bool false, .pointer (some ⟨bF, 0, none⟩), .pointer (some ⟨bG, 0, none⟩), .func (.func 26) #[] #[], .pointer (some ⟨bA, 0, none⟩), .pointer (some ⟨b11, 0, none⟩), .bool true, .bool false, .slice Aa na ca, .int .i64 na, .bool false, .bool false, .slice Ab nb cb, .int .i64 nb, .bool false, .bool false, .bool false, .string line, .int .i64 line.size, .bool false, .bool false, .slice Aa na ca, .agg #[.int .i64 F.f0, .string F.f1, .string F.f2, .slice AF F.f3.length cF], .slice Ab nb cb, .agg #[.int .i64 G.f0, .string G.f1, .string G.f2, .slice AG G.f3.length cG], .agg #[.int .i64 F.f0, .string F.f1, .string F.f2, .slice AF F.f3.length cF], .agg #[.int .i64 G.f0, .string G.f1, .string G.f2, .slice AG G.f3.length cG], .slice (some ⟨b8, 0, none⟩) 2 2, .agg #[.int .i64 7, .string ⟨#[]⟩, .string ⟨#[]⟩, .slice (some ⟨b8, 0, none⟩) 2 2],
        .func (.func 26) #[] #[], .agg #[.int .i64 F.f0, .string F.f1, .string F.f2, .slice AF F.f3.length cF], .agg #[.int .i64 6, .string ⟨#[]⟩, .string ⟨#[]⟩, .slice A1 1 1], .func (.func 26) #[] #[], .agg #[.int .i64 G.f0, .string G.f1, .string G.f2, .slice AG G.f3.length cG], .agg #[.int .i64 6, .string ⟨#[]⟩, .string ⟨#[]⟩, .slice A2 1 1], .slice (some ⟨g, 0, none⟩) 2 2, .agg #[.int .i64 8, .string ⟨#[]⟩, .string ⟨#[]⟩, .slice (some ⟨g, 0, none⟩) 2 2], undef, undef, undef, undef, undef, undef, undef, undef, undef, undef, undef, undef, undef, undef, undef, undef, undef, undef, undef, undef, undef, undef, undef, undef, undef, undef, undef, undef, undef, undef, undef, undef, undef, undef, undef], []⟩
    | _ => False) ?_ ?_
  rotate_left
  · have HBd : Aside0 (Below V0.heap.size V0 V0.drew) := ⟨pw_below_drewN (Below.refl _ V0) 1⟩
    have HSd := Aside0.mk (HSof.out _ HBd.out)
    have Hg8 : Aside0 (V0.heap.size ≤ V0.drew.heap.size) := ⟨Nat.le_refl _⟩
    refine hi_start 10 (fun W_ => W_.heap[bF]? = some (.cells #[.int .i64 F.f0, .string F.f1, .string F.f2, .slice AF F.f3.length cF] 36) ∧ W_.heap[bG]? = some (.cells #[.int .i64 G.f0, .string G.f1, .string G.f2, .slice AG G.f3.length cG] 36)) hfo ?_
    obtain ⟨Vd, hVd⟩ : ∃ V, V = V0.drew := ⟨_, rfl⟩
    rw [← hVd] at HBd HSd ⊢
    clear Hg8 hVd
    refine hi_pure 0 (some 35) (v := ?_) (L' := #[true, false, false, false, false, false, false, false, false, false]) (a' := ?_) rfl rfl rfl (by kernel_rfl) (fun _ _ _ h => h) (fun _ => rfl) (fun _ => HSd.out) (Or.inl ⟨by rfl, ?_⟩) ?_ ?_
    rotate_left 2
    · intro w_
      go_simp
      try with_reducible rfl
    · simp only [Act.put, List.setIfInBounds_toArray, List.set_cons_zero, List.set_cons_succ, i64_w, i32_w]
      rfl
    refine hi_take 1 (some 36) (v := ?_) (L' := #[true, true, false, false, false, false, false, false, false, false]) (a' := ?_) rfl rfl rfl (by kernel_rfl) (fun _ _ _ h => h) (fun _ => rfl) HSd.out (Or.inl ⟨by rfl, ?_⟩) ?_ ?_
    rotate_left 2
    · intro w_ hw_
      obtain ⟨k0, k1, k2, k3⟩ := cells4 (hw_.1)
      go_simp
      try with_reducible rfl
    · simp only [Act.put, List.setIfInBounds_toArray, List.set_cons_zero, List.set_cons_succ, i64_w, i32_w]
      rfl
    refine hi_pure 3 (some 38) (v := ?_) (L' := #[true, true, false, true, false, false, false, false, false, false]) (a' := ?_) rfl rfl rfl (by kernel_rfl) (fun _ _ _ h => h) (fun _ => rfl) (fun _ => HSd.out) (Or.inl ⟨by rfl, ?_⟩) ?_ ?_
    rotate_left 2
    · intro w_
      go_simp
      try with_reducible rfl
    · simp only [Act.put, List.setIfInBounds_toArray, List.set_cons_zero, List.set_cons_succ, i64_w, i32_w]
      rfl
    refine hi_take 4 (some 39) (v := ?_) (L' := #[true, true, false, true, true, false, false, false, false, false]) (a' := ?_) rfl rfl rfl (by kernel_rfl) (fun _ _ _ h => h) (fun _ => rfl) HSd.out (Or.inl ⟨by rfl, ?_⟩) ?_ ?_
    rotate_left 2
    · intro w_ hw_
      obtain ⟨k0, k1, k2, k3⟩ := cells4 (hw_.2)
      go_simp
      try with_reducible rfl
    · simp only [Act.put, List.setIfInBounds_toArray, List.set_cons_zero, List.set_cons_succ, i64_w, i32_w]
      rfl

    refine hi_two 2 8 (L1 := #[true, true, true, true, true, false, false, false, false, false]) (L2 := #[true, true, false, true, true, false, false, false, true, false]) rfl rfl (by kernel_rfl) rfl rfl (fun K hK => ?_) (fun K hK => ?_)
    · go_simp
      gi_wp2_with (refine ⟨trivial, ?_⟩; gi_at_fn 26; refine (callsIn_wide.2 (HN1.out _ HBd.out)).mono ?_; rintro e V1 ⟨A1, rfl, hN, hb_⟩)
      have HB_1 := Aside0.mk (below_step HBd.out hb_)
      have HX1 := Aside0.mk hN.bound
      clear hN hb_
      refine hK.out _ _ (fun _ => HSof.out _ HB_1.out) ?_
      clear hK K
      refine hi_two 5 8 (L1 := #[true, true, true, true, true, true, false, false, false, false]) (L2 := #[true, true, true, true, true, false, false, false, true, false]) rfl rfl (by kernel_rfl) rfl rfl (fun K hK => ?_) (fun K hK => ?_)
      · go_simp
        gi_wp2_with (refine ⟨trivial, ?_⟩; gi_at_fn 26; refine (callsIn_wide.2 (HN2.out _ HB_1.out)).mono ?_; rintro e V2 ⟨A2, rfl, hN, hb_⟩)
        have HB_2 := Aside0.mk (below_step HB_1.out hb_)
        have HX2 := Aside0.mk hN.bound
        replace HX1 := Aside0.mk (HX1.out.below hb_).bound
        clear hN hb_
        refine hK.out _ _ (fun _ => HSof.out _ HB_2.out) ?_
        clear hK K
        refine hi_two 6 8 (L1 := #[true, true, true, true, true, true, true, false, false, false]) (L2 := #[true, true, true, true, true, true, false, false, true, false]) rfl rfl (by kernel_rfl) rfl rfl (fun K hK => ?_) (fun K hK => ?_)
        · go_simp
          gi_wp2
          have hb_ := below_alloc (Below.refl _ V2) (.cells #[.int .i64 6, .string ⟨#[]⟩, .string ⟨#[]⟩, .slice A1 1 1, .int .i64 6, .string ⟨#[]⟩, .string ⟨#[]⟩, .slice A2 1 1] 36)
          have HB_3 := Aside0.mk (below_step HB_2.out hb_)
          have Hg : Aside0 (V0.heap.size ≤ V2.heap.size) := ⟨HB_2.out.size⟩
          replace HX1 := Aside0.mk (HX1.out.below hb_).bound
          replace HX2 := Aside0.mk (HX2.out.below hb_).bound
          have HE := Aside0.mk (World.alloc_heap_new V2 (.cells #[.int .i64 6, .string ⟨#[]⟩, .string ⟨#[]⟩, .slice A1 1 1, .int .i64 6, .string ⟨#[]⟩, .string ⟨#[]⟩, .slice A2 1 1] 36))
          clear hb_
          refine hK.out _ _ (fun _ => HSof.out _ HB_3.out) ?_
          clear hK K
          obtain ⟨V3, hV_⟩ : ∃ V, V = V2.alloc (.cells #[.int .i64 6, .string ⟨#[]⟩, .string ⟨#[]⟩, .slice A1 1 1, .int .i64 6, .string ⟨#[]⟩, .string ⟨#[]⟩, .slice A2 1 1] 36) := ⟨_, rfl⟩
          rw [← hV_] at HB_3 HE HX1 HX2 ⊢
          obtain ⟨g, hg_⟩ : ∃ b, b = V2.heap.size := ⟨_, rfl⟩
          rw [← hg_] at HE Hg  ⊢
          clear hV_ hg_
          refine hi_pure 7 (some 42) (v := ?_) (L' := #[true, true, true, true, true, true, true, true, false, false]) (a' := ?_) rfl rfl rfl (by kernel_rfl) (fun _ _ _ h => h) (fun _ => rfl) (fun _ => (HSof.out _ HB_3.out)) (Or.inl ⟨by rfl, ?_⟩) ?_ ?_
          rotate_left 2
          · intro w_
            go_simp
            try with_reducible rfl
          · simp only [Act.put, List.setIfInBounds_toArray, List.set_cons_zero, List.set_cons_succ, i64_w, i32_w]
            rfl
          refine hi_one 8 (L' := #[true, true, true, true, true, true, true, true, true, false]) rfl (by kernel_rfl) rfl (fun K hK => ?_)
          go_simp
          gi_wp2
          have hb_ := below_alloc (Below.refl _ V3) (.cells #[.int .i64 0, .string ⟨#[]⟩, .string ⟨#[]⟩, .slice none 0 0] 36)
          have HB_4 := Aside0.mk (below_step HB_3.out hb_)
          have Hz8 : Aside0 (V0.heap.size ≤ V3.heap.size) := ⟨HB_3.out.size⟩
          replace HX1 := Aside0.mk ((HX1.out.mono (ok' := fun k => k ≠ V3.heap.size) (fun k hk => by omega)).below hb_)
          replace HX2 := Aside0.mk ((HX2.out.mono (ok' := fun k => k ≠ V3.heap.size) (fun k hk => by omega)).below hb_)
          have Hne : Aside0 (g ≠ V3.heap.size) := ⟨by have := blk_lt HE.out; omega⟩
          replace HE := Aside0.mk (blk_below HE.out hb_)
          have HZ := Aside0.mk (World.alloc_heap_new V3 (.cells #[.int .i64 0, .string ⟨#[]⟩, .string ⟨#[]⟩, .slice none 0 0] 36))
          clear hb_
          refine hK.out _ _ (fun _ => HSof.out _ HB_4.out) ?_
          clear hK K
          obtain ⟨V4, hV_⟩ : ∃ V, V = V3.alloc (.cells #[.int .i64 0, .string ⟨#[]⟩, .string ⟨#[]⟩, .slice none 0 0] 36) := ⟨_, rfl⟩
          rw [← hV_] at HB_4 HZ HX1 HX2 HE ⊢
          obtain ⟨z8, hz8_⟩ : ∃ b, b = V3.heap.size := ⟨_, rfl⟩
          rw [← hz8_] at HZ Hz8 Hne HX1 HX2 ⊢
          clear hV_ hz8_
          refine hi_one 9 (L' := #[true, true, true, true, true, true, true, true, true, true]) rfl (by kernel_rfl) rfl (fun K hK => ?_)
          obtain ⟨k0, k1, k2, k3⟩ := cells4 HZ.out
          have f0 := blk_frozen HZ.out 0
          have f1 := fun u => blk_frozen (blk_set HZ.out 0 u) 1
          have f2 := fun u v => blk_frozen (blk_set (blk_set HZ.out 0 u) 1 v) 2
          have f3 := fun u v x => blk_frozen (blk_set (blk_set (blk_set HZ.out 0 u) 1 v) 2 x) 3
          go_simp
          gi_wp2
          have HBz : Aside0 (Below V0.heap.size V0 ((((V4.setCell ⟨z8, 0, none⟩ (.int .i64 8)).setCell ⟨z8, 1, none⟩ (.string ⟨#[]⟩)).setCell ⟨z8, 2, none⟩ (.string ⟨#[]⟩)).setCell ⟨z8, 3, none⟩ (.slice (some ⟨g, 0, none⟩) 2 2))) := ⟨below_set (below_set (below_set (below_set HB_4.out Hz8.out) Hz8.out) Hz8.out) Hz8.out⟩
          refine hK.out _ _ (fun _ => HSof.out _ HBz.out) ?_
          clear hK K
          refine hi_done (by kernel_rfl) ?_ _
          exact ⟨z8, g, A1, A2, HBz.out, set4 HZ.out _ _ _ _, isT_two (HX1.out.far4 _ _ _ _).now (HX2.out.far4 _ _ _ _).now 8 (set4_far HE.out Hne.out _ _ _ _), rfl⟩
        · go_simp
          gi_wp2
          have hb_ := below_alloc (Below.refl _ V2) (.cells #[.int .i64 0, .string ⟨#[]⟩, .string ⟨#[]⟩, .slice none 0 0] 36)
          have HB_3 := Aside0.mk (below_step HB_2.out hb_)
          have Hz8 : Aside0 (V0.heap.size ≤ V2.heap.size) := ⟨HB_2.out.size⟩
          replace HX1 := Aside0.mk ((HX1.out.mono (ok' := fun k => k ≠ V2.heap.size) (fun k hk => by omega)).below hb_)
          replace HX2 := Aside0.mk ((HX2.out.mono (ok' := fun k => k ≠ V2.heap.size) (fun k hk => by omega)).below hb_)
          have HZ := Aside0.mk (World.alloc_heap_new V2 (.cells #[.int .i64 0, .string ⟨#[]⟩, .string ⟨#[]⟩, .slice none 0 0] 36))
          clear hb_
          refine hK.out _ _ (fun _ => HSof.out _ HB_3.out) ?_
          clear hK K
          obtain ⟨V3, hV_⟩ : ∃ V, V = V2.alloc (.cells #[.int .i64 0, .string ⟨#[]⟩, .string ⟨#[]⟩, .slice none 0 0] 36) := ⟨_, rfl⟩
          rw [← hV_] at HB_3 HZ HX1 HX2 ⊢
          obtain ⟨z8, hz8_⟩ : ∃ b, b = V2.heap.size := ⟨_, rfl⟩
          rw [← hz8_] at HZ Hz8 HX1 HX2 ⊢
          clear hV_ hz8_
          refine hi_one 6 (L' := #[true, true, true, true, true, true, true, false, true, false]) rfl (by kernel_rfl) rfl (fun K hK => ?_)
          go_simp
          gi_wp2
          have hb_ := below_alloc (Below.refl _ V3) (.cells #[.int .i64 6, .string ⟨#[]⟩, .string ⟨#[]⟩, .slice A1 1 1, .int .i64 6, .string ⟨#[]⟩, .string ⟨#[]⟩, .slice A2 1 1] 36)
          have HB_4 := Aside0.mk (below_step HB_3.out hb_)
          have Hg : Aside0 (V0.heap.size ≤ V3.heap.size) := ⟨HB_3.out.size⟩
          have Hne : Aside0 (V3.heap.size ≠ z8) := ⟨by have := blk_lt HZ.out; omega⟩
          replace HX1 := Aside0.mk (HX1.out.below hb_)
          replace HX2 := Aside0.mk (HX2.out.below hb_)
          replace HZ := Aside0.mk (blk_below HZ.out hb_)
          have HE := Aside0.mk (World.alloc_heap_new V3 (.cells #[.int .i64 6, .string ⟨#[]⟩, .string ⟨#[]⟩, .slice A1 1 1, .int .i64 6, .string ⟨#[]⟩, .string ⟨#[]⟩, .slice A2 1 1] 36))
          clear hb_
          refine hK.out _ _ (fun _ => HSof.out _ HB_4.out) ?_
          clear hK K
          obtain ⟨V4, hV_⟩ : ∃ V, V = V3.alloc (.cells #[.int .i64 6, .string ⟨#[]⟩, .string ⟨#[]⟩, .slice A1 1 1, .int .i64 6, .string ⟨#[]⟩, .string ⟨#[]⟩, .slice A2 1 1] 36) := ⟨_, rfl⟩
          rw [← hV_] at HB_4 HE HX1 HX2 HZ ⊢
          obtain ⟨g, hg_⟩ : ∃ b, b = V3.heap.size := ⟨_, rfl⟩
          rw [← hg_] at HE Hg Hne ⊢
          clear hV_ hg_
          refine hi_pure 7 (some 42) (v := ?_) (L' := #[true, true, true, true, true, true, true, true, true, false]) (a' := ?_) rfl rfl rfl (by kernel_rfl) (fun _ _ _ h => h) (fun _ => rfl) (fun _ => (HSof.out _ HB_4.out)) (Or.inl ⟨by rfl, ?_⟩) ?_ ?_
          rotate_left 2
          · intro w_
            go_simp
            try with_reducible rfl
          · simp only [Act.put, List.setIfInBounds_toArray, List.set_cons_zero, List.set_cons_succ, i64_w, i32_w]
            rfl
          refine hi_one 9 (L' := #[true, true, true, true, true, true, true, true, true, true]) rfl (by kernel_rfl) rfl (fun K hK => ?_)
          obtain ⟨k0, k1, k2, k3⟩ := cells4 HZ.out
          have f0 := blk_frozen HZ.out 0
          have f1 := fun u => blk_frozen (blk_set HZ.out 0 u) 1
          have f2 := fun u v => blk_frozen (blk_set (blk_set HZ.out 0 u) 1 v) 2
          have f3 := fun u v x => blk_frozen (blk_set (blk_set (blk_set HZ.out 0 u) 1 v) 2 x) 3
          go_simp
          gi_wp2
          have HBz : Aside0 (Below V0.heap.size V0 ((((V4.setCell ⟨z8, 0, none⟩ (.int .i64 8)).setCell ⟨z8, 1, none⟩ (.string ⟨#[]⟩)).setCell ⟨z8, 2, none⟩ (.string ⟨#[]⟩)).setCell ⟨z8, 3, none⟩ (.slice (some ⟨g, 0, none⟩) 2 2))) := ⟨below_set (below_set (below_set (below_set HB_4.out Hz8.out) Hz8.out) Hz8.out) Hz8.out⟩
          refine hK.out _ _ (fun _ => HSof.out _ HBz.out) ?_
          clear hK K
          refine hi_done (by kernel_rfl) ?_ _
          exact ⟨z8, g, A1, A2, HBz.out, set4 HZ.out _ _ _ _, isT_two (HX1.out.far4 _ _ _ _).now (HX2.out.far4 _ _ _ _).now 8 (set4_far HE.out Hne.out _ _ _ _), rfl⟩
      · go_simp
        gi_wp2
        have hb_ := below_alloc (Below.refl _ V1) (.cells #[.int .i64 0, .string ⟨#[]⟩, .string ⟨#[]⟩, .slice none 0 0] 36)
        have HB_2 := Aside0.mk (below_step HB_1.out hb_)
        have Hz8 : Aside0 (V0.heap.size ≤ V1.heap.size) := ⟨HB_1.out.size⟩
        replace HX1 := Aside0.mk ((HX1.out.mono (ok' := fun k => k ≠ V1.heap.size) (fun k hk => by omega)).below hb_)
        have HZ := Aside0.mk (World.alloc_heap_new V1 (.cells #[.int .i64 0, .string ⟨#[]⟩, .string ⟨#[]⟩, .slice none 0 0] 36))
        clear hb_
        refine hK.out _ _ (fun _ => HSof.out _ HB_2.out) ?_
        clear hK K
        obtain ⟨V2, hV_⟩ : ∃ V, V = V1.alloc (.cells #[.int .i64 0, .string ⟨#[]⟩, .string ⟨#[]⟩, .slice none 0 0] 36) := ⟨_, rfl⟩
        rw [← hV_] at HB_2 HZ HX1 ⊢
        obtain ⟨z8, hz8_⟩ : ∃ b, b = V1.heap.size := ⟨_, rfl⟩
        rw [← hz8_] at HZ Hz8 HX1 ⊢
        clear hV_ hz8_
        refine hi_one 5 (L' := #[true, true, true, true, true, true, false, false, true, false]) rfl (by kernel_rfl) rfl (fun K hK => ?_)
        go_simp
        gi_wp2_with (refine ⟨trivial, ?_⟩; gi_at_fn 26; refine (callsIn_wide.2 (HN2.out _ HB_2.out)).mono ?_; rintro e V3 ⟨A2, rfl, hN, hb_⟩)
        have HB_3 := Aside0.mk (below_step HB_2.out hb_)
        have HX2 := Aside0.mk (hN.mono (ok' := fun k => k ≠ z8) (fun k hk => by have := Hz8.out; have := blk_lt HZ.out; omega))
        replace HX1 := Aside0.mk (HX1.out.below hb_)
        replace HZ := Aside0.mk (blk_below HZ.out hb_)
        clear hN hb_
        refine hK.out _ _ (fun _ => HSof.out _ HB_3.out) ?_
        clear hK K
        refine hi_one 6 (L' := #[true, true, true, true, true, true, true, false, true, false]) rfl (by kernel_rfl) rfl (fun K hK => ?_)
        go_simp
        gi_wp2
        have hb_ := below_alloc (Below.refl _ V3) (.cells #[.int .i64 6, .string ⟨#[]⟩, .string ⟨#[]⟩, .slice A1 1 1, .int .i64 6, .string ⟨#[]⟩, .string ⟨#[]⟩, .slice A2 1 1] 36)
        have HB_4 := Aside0.mk (below_step HB_3.out hb_)
        have Hg : Aside0 (V0.heap.size ≤ V3.heap.size) := ⟨HB_3.out.size⟩
        have Hne : Aside0 (V3.heap.size ≠ z8) := ⟨by have := blk_lt HZ.out; omega⟩
        replace HX1 := Aside0.mk (HX1.out.below hb_)
        replace HX2 := Aside0.mk (HX2.out.below hb_)
        replace HZ := Aside0.mk (blk_below HZ.out hb_)
        have HE := Aside0.mk (World.alloc_heap_new V3 (.cells #[.int .i64 6, .string ⟨#[]⟩, .string ⟨#[]⟩, .slice A1 1 1, .int .i64 6, .string ⟨#[]⟩, .string ⟨#[]⟩, .slice A2 1 1] 36))
        clear hb_
        refine hK.out _ _ (fun _ => HSof.out _ HB_4.out) ?_
        clear hK K
        obtain ⟨V4, hV_⟩ : ∃ V, V = V3.alloc (.cells #[.int .i64 6, .string ⟨#[]⟩, .string ⟨#[]⟩, .slice A1 1 1, .int .i64 6, .string ⟨#[]⟩, .string ⟨#[]⟩, .slice A2 1 1] 36) := ⟨_, rfl⟩
        rw [← hV_] at HB_4 HE HX1 HX2 HZ ⊢
        obtain ⟨g, hg_⟩ : ∃ b, b = V3.heap.size := ⟨_, rfl⟩
        rw [← hg_] at HE Hg Hne ⊢
        clear hV_ hg_
        refine hi_pure 7 (some 42) (v := ?_) (L' := #[true, true, true, true, true, true, true, true, true, false]) (a' := ?_) rfl rfl rfl (by kernel_rfl) (fun _ _ _ h => h) (fun _ => rfl) (fun _ => (HSof.out _ HB_4.out)) (Or.inl ⟨by rfl, ?_⟩) ?_ ?_
        rotate_left 2
        · intro w_
          go_simp
          try with_reducible rfl
        · simp only [Act.put, List.setIfInBounds_toArray, List.set_cons_zero, List.set_cons_succ, i64_w, i32_w]
          rfl
        refine hi_one 9 (L' := #[true, true, true, true, true, true, true, true, true, true]) rfl (by kernel_rfl) rfl (fun K hK => ?_)
        obtain ⟨k0, k1, k2, k3⟩ := cells4 HZ.out
        have f0 := blk_frozen HZ.out 0
        have f1 := fun u => blk_frozen (blk_set HZ.out 0 u) 1
        have f2 := fun u v => blk_frozen (blk_set (blk_set HZ.out 0 u) 1 v) 2
        have f3 := fun u v x => blk_frozen (blk_set (blk_set (blk_set HZ.out 0 u) 1 v) 2 x) 3
        go_simp
        gi_wp2
        have HBz : Aside0 (Below V0.heap.size V0 ((((V4.setCell ⟨z8, 0, none⟩ (.int .i64 8)).setCell ⟨z8, 1, none⟩ (.string ⟨#[]⟩)).setCell ⟨z8, 2, none⟩ (.string ⟨#[]⟩)).setCell ⟨z8, 3, none⟩ (.slice (some ⟨g, 0, none⟩) 2 2))) := ⟨below_set (below_set (below_set (below_set HB_4.out Hz8.out) Hz8.out) Hz8.out) Hz8.out⟩
        refine hK.out _ _ (fun _ => HSof.out _ HBz.out) ?_
        clear hK K
        refine hi_done (by kernel_rfl) ?_ _
        exact ⟨z8, g, A1, A2, HBz.out, set4 HZ.out _ _ _ _, isT_two (HX1.out.far4 _ _ _ _).now (HX2.out.far4 _ _ _ _).now 8 (set4_far HE.out Hne.out _ _ _ _), rfl⟩
    · go_simp
      gi_wp2
      have hb_ := below_alloc (Below.refl _ Vd) (.cells #[.int .i64 0, .string ⟨#[]⟩, .string ⟨#[]⟩, .slice none 0 0] 36)
      have HB_1 := Aside0.mk (below_step HBd.out hb_)
      have Hz8 : Aside0 (V0.heap.size ≤ Vd.heap.size) := ⟨HBd.out.size⟩
      have HZ := Aside0.mk (World.alloc_heap_new Vd (.cells #[.int .i64 0, .string ⟨#[]⟩, .string ⟨#[]⟩, .slice none 0 0] 36))
      clear hb_
      refine hK.out _ _ (fun _ => HSof.out _ HB_1.out) ?_
      clear hK K
      obtain ⟨V1, hV_⟩ : ∃ V, V = Vd.alloc (.cells #[.int .i64 0, .string ⟨#[]⟩, .string ⟨#[]⟩, .slice none 0 0] 36) := ⟨_, rfl⟩
      rw [← hV_] at HB_1 HZ ⊢
      obtain ⟨z8, hz8_⟩ : ∃ b, b = Vd.heap.size := ⟨_, rfl⟩
      rw [← hz8_] at HZ Hz8  ⊢
      clear hV_ hz8_
      refine hi_one 2 (L' := #[true, true, true, true, true, false, false, false, true, false]) rfl (by kernel_rfl) rfl (fun K hK => ?_)
      go_simp
      gi_wp2_with (refine ⟨trivial, ?_⟩; gi_at_fn 26; refine (callsIn_wide.2 (HN1.out _ HB_1.out)).mono ?_; rintro e V2 ⟨A1, rfl, hN, hb_⟩)
      have HB_2 := Aside0.mk (below_step HB_1.out hb_)
      have HX1 := Aside0.mk (hN.mono (ok' := fun k => k ≠ z8) (fun k hk => by have := Hz8.out; have := blk_lt HZ.out; omega))
      replace HZ := Aside0.mk (blk_below HZ.out hb_)
      clear hN hb_
      refine hK.out _ _ (fun _ => HSof.out _ HB_2.out) ?_
      clear hK K
      refine hi_one 5 (L' := #[true, true, true, true, true, true, false, false, true, false]) rfl (by kernel_rfl) rfl (fun K hK => ?_)
      go_simp
      gi_wp2_with (refine ⟨trivial, ?_⟩; gi_at_fn 26; refine (callsIn_wide.2 (HN2.out _ HB_2.out)).mono ?_; rintro e V3 ⟨A2, rfl, hN, hb_⟩)
      have HB_3 := Aside0.mk (below_step HB_2.out hb_)
      have HX2 := Aside0.mk (hN.mono (ok' := fun k => k ≠ z8) (fun k hk => by have := Hz8.out; have := blk_lt HZ.out; omega))
      replace HX1 := Aside0.mk (HX1.out.below hb_)
      replace HZ := Aside0.mk (blk_below HZ.out hb_)
      clear hN hb_
      refine hK.out _ _ (fun _ => HSof.out _ HB_3.out) ?_
      clear hK K
      refine hi_one 6 (L' := #[true, true, true, true, true, true, true, false, true, false]) rfl (by kernel_rfl) rfl (fun K hK => ?_)
      go_simp
      gi_wp2
      have hb_ := below_alloc (Below.refl _ V3) (.cells #[.int .i64 6, .string ⟨#[]⟩, .string ⟨#[]⟩, .slice A1 1 1, .int .i64 6, .string ⟨#[]⟩, .string ⟨#[]⟩, .slice A2 1 1] 36)
      have HB_4 := Aside0.mk (below_step HB_3.out hb_)
      have Hg : Aside0 (V0.heap.size ≤ V3.heap.size) := ⟨HB_3.out.size⟩
      have Hne : Aside0 (V3.heap.size ≠ z8) := ⟨by have := blk_lt HZ.out; omega⟩
      replace HX1 := Aside0.mk (HX1.out.below hb_)
      replace HX2 := Aside0.mk (HX2.out.below hb_)
      replace HZ := Aside0.mk (blk_below HZ.out hb_)
      have HE := Aside0.mk (World.alloc_heap_new V3 (.cells #[.int .i64 6, .string ⟨#[]⟩, .string ⟨#[]⟩, .slice A1 1 1, .int .i64 6, .string ⟨#[]⟩, .string ⟨#[]⟩, .slice A2 1 1] 36))
      clear hb_
      refine hK.out _ _ (fun _ => HSof.out _ HB_4.out) ?_
      clear hK K
      obtain ⟨V4, hV_⟩ : ∃ V, V = V3.alloc (.cells #[.int .i64 6, .string ⟨#[]⟩, .string ⟨#[]⟩, .slice A1 1 1, .int .i64 6, .string ⟨#[]⟩, .string ⟨#[]⟩, .slice A2 1 1] 36) := ⟨_, rfl⟩
      rw [← hV_] at HB_4 HE HX1 HX2 HZ ⊢
      obtain ⟨g, hg_⟩ : ∃ b, b = V3.heap.size := ⟨_, rfl⟩
      rw [← hg_] at HE Hg Hne ⊢
      clear hV_ hg_
      refine hi_pure 7 (some 42) (v := ?_) (L' := #[true, true, true, true, true, true, true, true, true, false]) (a' := ?_) rfl rfl rfl (by kernel_rfl) (fun _ _ _ h => h) (fun _ => rfl) (fun _ => (HSof.out _ HB_4.out)) (Or.inl ⟨by rfl, ?_⟩) ?_ ?_
      rotate_left 2
      · intro w_
        go_simp
        try with_reducible rfl
      · simp only [Act.put, List.setIfInBounds_toArray, List.set_cons_zero, List.set_cons_succ, i64_w, i32_w]
        rfl
      refine hi_one 9 (L' := #[true, true, true, true, true, true, true, true, true, true]) rfl (by kernel_rfl) rfl (fun K hK => ?_)
      obtain ⟨k0, k1, k2, k3⟩ := cells4 HZ.out
      have f0 := blk_frozen HZ.out 0
      have f1 := fun u => blk_frozen (blk_set HZ.out 0 u) 1
      have f2 := fun u v => blk_frozen (blk_set (blk_set HZ.out 0 u) 1 v) 2
      have f3 := fun u v x => blk_frozen (blk_set (blk_set (blk_set HZ.out 0 u) 1 v) 2 x) 3
      go_simp
      gi_wp2
      have HBz : Aside0 (Below V0.heap.size V0 ((((V4.setCell ⟨z8, 0, none⟩ (.int .i64 8)).setCell ⟨z8, 1, none⟩ (.string ⟨#[]⟩)).setCell ⟨z8, 2, none⟩ (.string ⟨#[]⟩)).setCell ⟨z8, 3, none⟩ (.slice (some ⟨g, 0, none⟩) 2 2))) := ⟨below_set (below_set (below_set (below_set HB_4.out Hz8.out) Hz8.out) Hz8.out) Hz8.out⟩
      refine hK.out _ _ (fun _ => HSof.out _ HBz.out) ?_
      clear hK K
      refine hi_done (by kernel_rfl) ?_ _
      exact ⟨z8, g, A1, A2, HBz.out, set4 HZ.out _ _ _ _, isT_two (HX1.out.far4 _ _ _ _).now (HX2.out.far4 _ _ _ _).now 8 (set4_far HE.out Hne.out _ _ _ _), rfl⟩
  intro e a8 V h8
  cases e with
  | normal => ?_
  | _ => exact h8.elim
  obtain ⟨b11, g, A1, A2, hB, h11, hO, rfl⟩ := h8
  have HBV := Aside0.mk (below_step HB0.out hB)
  have HF9 := Aside0.mk (HF0.out.below hB)
  have HG9 := Aside0.mk (HG0.out.below hB)
  have HA9 := Aside0.mk (HTA.out.below hB)
  have HFA9 : Aside0 (IsF 6 V (fun k => k < V.heap.size) ⟨7, ⟨#[]⟩, ⟨#[]⟩, [F, G]⟩ (some ⟨b8, 0, none⟩) 2) := ⟨isF_two HF9.out HG9.out 7 (blk_below Hb8.out hB)⟩
  have HO9 := Aside0.mk hO
  have HSof9 : Aside0 (∀ V1, Below V.heap.size V V1 → V1.heap[bF]? = some (.cells #[.int .i64 F.f0, .string F.f1, .string F.f2, .slice AF F.f3.length cF] 36) ∧ V1.heap[bG]? = some (.cells #[.int .i64 G.f0, .string G.f1, .string G.f2, .slice AG G.f3.length cG] 36) ∧ V1.heap[bA]? = some (.cells #[.int .i64 7, .string ⟨#[]⟩, .string ⟨#[]⟩, .slice (some ⟨b8, 0, none⟩) 2 2] 36) ∧ V1.heap[b11]? = some (.cells #[.int .i64 8, .string ⟨#[]⟩, .string ⟨#[]⟩, .slice (some ⟨g, 0, none⟩) 2 2] 36)) := ⟨fun V1 h => ⟨blk_below (blk_below HbF.out hB) h, blk_below (blk_below HbG.out hB) h, blk_below (blk_below HbA.out hB) h, blk_below h11 h⟩⟩
  obtain ⟨p, hp⟩ : ∃ p, p = lineV line 5 F := ⟨_, rfl⟩
  obtain ⟨q, hq⟩ : ∃ q, q = lineV line 5 G := ⟨_, rfl⟩
  have HLF : Aside0 (∀ V1, Below V.heap.size V V1 → Calls Tryd.prog 27 #[.agg #[.int .i64 F.f0, .string F.f1, .string F.f2, .slice AF F.f3.length cF], .string line] V1 fun e w' => e = .returned (.bool (p)) ∧ Below V1.heap.size V1 w') := ⟨fun V1 h => hp ▸ HL.out 5 F AF cF V1 HF9.out.1 (below_step HBV.out h) (HF9.out.now.below h).2.1 HF9.out.2.2⟩
  have HLG : Aside0 (∀ V1, Below V.heap.size V V1 → Calls Tryd.prog 27 #[.agg #[.int .i64 G.f0, .string G.f1, .string G.f2, .slice AG G.f3.length cG], .string line] V1 fun e w' => e = .returned (.bool (q)) ∧ Below V1.heap.size V1 w') := ⟨fun V1 h => hq ▸ HL.out 5 G AG cG V1 HG9.out.1 (below_step HBV.out h) (HG9.out.now.below h).2.1 HG9.out.2.2⟩
  have HLN : Aside0 (∀ V1 A, Below V.heap.size V V1 → IsT 6 V1 (notT F) A 1 → Calls Tryd.prog 27 #[.agg #[.int .i64 6, .string ⟨#[]⟩, .string ⟨#[]⟩, .slice A 1 1], .string line] V1 fun e w' => e = .returned (.bool (!p)) ∧ Below V1.heap.size V1 w') := ⟨fun V1 A h hT => by
    have h1 := HL.out 6 (notT F) A 1 V1 hT.1 (below_step HBV.out h) hT.2.1 hT.2.2
    rw [lineV_not, ← hp] at h1
    exact h1⟩
  have HLA : Aside0 (∀ V1, Below V.heap.size V V1 → Calls Tryd.prog 27 #[.agg #[.int .i64 7, .string ⟨#[]⟩, .string ⟨#[]⟩, .slice (some ⟨b8, 0, none⟩) 2 2], .string line] V1 fun e w' => e = .returned (.bool (p && q)) ∧ Below V1.heap.size V1 w') := ⟨fun V1 h => by
    have h1 := HL.out 6 ⟨7, ⟨#[]⟩, ⟨#[]⟩, [F, G]⟩ (some ⟨b8, 0, none⟩) 2 V1 HA9.out.1 (below_step HBV.out h) (HA9.out.below h).2.1 HA9.out.2.2
    rw [lineV_and, ← hp, ← hq] at h1
    exact h1⟩
  have HLO : Aside0 (∀ V1, Below V.heap.size V V1 → Calls Tryd.prog 27 #[.agg #[.int .i64 8, .string ⟨#[]⟩, .string ⟨#[]⟩, .slice (some ⟨g, 0, none⟩) 2 2], .string line] V1 fun e w' => e = .returned (.bool (!p || !q)) ∧ Below V1.heap.size V1 w') := ⟨fun V1 h => by
    have h1 := HL.out 7 ⟨8, ⟨#[]⟩, ⟨#[]⟩, [notT F, notT G]⟩ (some ⟨g, 0, none⟩) 2 V1 HO9.out.1 (below_step HBV.out h) (HO9.out.below h).2.1 HO9.out.2.2
    rw [lineV_or, lineV_not, lineV_not, ← hp, ← hq] at h1
    exact h1⟩
  have HLM : Aside0 (∀ V1 A, Below V.heap.size V V1 → IsT 7 V1 (notT ⟨7, ⟨#[]⟩, ⟨#[]⟩, [F, G]⟩) A 1 → Calls Tryd.prog 27 #[.agg #[.int .i64 6, .string ⟨#[]⟩, .string ⟨#[]⟩, .slice A 1 1], .string line] V1 fun e w' => e = .returned (.bool (!(p && q))) ∧ Below V1.heap.size V1 w') := ⟨fun V1 A h hT => by
    have h1 := HL.out 7 (notT ⟨7, ⟨#[]⟩, ⟨#[]⟩, [F, G]⟩) A 1 V1 hT.1 (below_step HBV.out h) hT.2.1 hT.2.2
    rw [lineV_not, lineV_and, ← hp, ← hq] at h1
    exact h1⟩
  have HC1 : Aside0 (∀ V1, Below V.heap.size V V1 → Calls Tryd.prog 26 #[.agg #[.int .i64 F.f0, .string F.f1, .string F.f2, .slice AF F.f3.length cF]] V1 fun e w' => ∃ A', e = .returned (.agg #[.int .i64 6, .string ⟨#[]⟩, .string ⟨#[]⟩, .slice A' 1 1]) ∧ IsT 6 w' (notT F) A' 1 ∧ Below V1.heap.size V1 w') := ⟨fun V1 h => (not_any F AF cF V1 (HF9.out.below h)).mono fun _ _ ⟨A', h1, h2, h3⟩ => ⟨A', h1, h2.now, h3⟩⟩
  have HC2 : Aside0 (∀ V1, Below V.heap.size V V1 → Calls Tryd.prog 26 #[.agg #[.int .i64 7, .string ⟨#[]⟩, .string ⟨#[]⟩, .slice (some ⟨b8, 0, none⟩) 2 2]] V1 fun e w' => ∃ A', e = .returned (.agg #[.int .i64 6, .string ⟨#[]⟩, .string ⟨#[]⟩, .slice A' 1 1]) ∧ IsT 7 w' (notT ⟨7, ⟨#[]⟩, ⟨#[]⟩, [F, G]⟩) A' 1 ∧ Below V1.heap.size V1 w') := ⟨fun V1 h => (not_any ⟨7, ⟨#[]⟩, ⟨#[]⟩, [F, G]⟩ (some ⟨b8, 0, none⟩) 2 V1 (HFA9.out.below h)).mono fun _ _ ⟨A', h1, h2, h3⟩ => ⟨A', h1, h2.now, h3⟩⟩
  clear hp hq hO h11 hB HL HN1 HN2 HSof HTA HF0 HG0 HbF HbG Hb8 HbA HB0 HFA9 HF9 HG9 HA9 HO9
  gi_wp2_with fail
  have HBd : Aside0 (Below V.heap.size V V.drew) := ⟨pw_below_drewN (Below.refl _ V) 1⟩
  have HSd := Aside0.mk (HSof9.out _ HBd.out)
  refine hi_start 36 (fun W_ => W_.heap[bF]? = some (.cells #[.int .i64 F.f0, .string F.f1, .string F.f2, .slice AF F.f3.length cF] 36) ∧ W_.heap[bG]? = some (.cells #[.int .i64 G.f0, .string G.f1, .string G.f2, .slice AG G.f3.length cG] 36) ∧ W_.heap[bA]? = some (.cells #[.int .i64 7, .string ⟨#[]⟩, .string ⟨#[]⟩, .slice (some ⟨b8, 0, none⟩) 2 2] 36) ∧ W_.heap[b11]? = some (.cells #[.int .i64 8, .string ⟨#[]⟩, .string ⟨#[]⟩, .slice (some ⟨g, 0, none⟩) 2 2] 36)) hfo ?_
  obtain ⟨Vd, hVd⟩ : ∃ V1, V1 = V.drew := ⟨_, rfl⟩
  rw [← hVd] at HBd HSd ⊢
  clear hVd
  cases p <;> cases q
  · skip
    refine hi_pure 0 (some 43) (v := ?_) (L' := #[true, false, false, false, false, false, false, false, false, false, false, false, false, false, false, false, false, false, false, false, false, false, false, false, false, false, false, false, false, false, false, false, false, false, false, false]) (a' := ?_) rfl rfl rfl (by kernel_rfl) (fun _ _ _ h => h) (fun _ => rfl) (fun _ => (HSof9.out _ HBd.out)) (Or.inl ⟨by rfl, ?_⟩) ?_ ?_
    rotate_left 2
    · intro w_
      go_simp
      try with_reducible rfl
    · simp only [Act.put, List.setIfInBounds_toArray, List.set_cons_zero, List.set_cons_succ, i64_w, i32_w]
      rfl
    refine hi_take 1 (some 44) (v := ?_) (L' := #[true, true, false, false, false, false, false, false, false, false, false, false, false, false, false, false, false, false, false, false, false, false, false, false, false, false, false, false, false, false, false, false, false, false, false, false]) (a' := ?_) rfl rfl rfl (by kernel_rfl) (fun _ _ _ h => h) (fun _ => rfl) (HSof9.out _ HBd.out) (Or.inl ⟨by rfl, ?_⟩) ?_ ?_
    rotate_left 2
    · intro w_ hw_
      obtain ⟨k0, k1, k2, k3⟩ := cells4 (hw_.1)
      go_simp
      try with_reducible rfl
    · simp only [Act.put, List.setIfInBounds_toArray, List.set_cons_zero, List.set_cons_succ, i64_w, i32_w]
      rfl
    refine hi_pure 3 (some 46) (v := ?_) (L' := #[true, true, false, true, false, false, false, false, false, false, false, false, false, false, false, false, false, false, false, false, false, false, false, false, false, false, false, false, false, false, false, false, false, false, false, false]) (a' := ?_) rfl rfl rfl (by kernel_rfl) (fun _ _ _ h => h) (fun _ => rfl) (fun _ => (HSof9.out _ HBd.out)) (Or.inl ⟨by rfl, ?_⟩) ?_ ?_
    rotate_left 2
    · intro w_
      go_simp
      try with_reducible rfl
    · simp only [Act.put, List.setIfInBounds_toArray, List.set_cons_zero, List.set_cons_succ, i64_w, i32_w]
      rfl
    refine hi_take 5 (some 48) (v := ?_) (L' := #[true, true, false, true, false, true, false, false, false, false, false, false, false, false, false, false, false, false, false, false, false, false, false, false, false, false, false, false, false, false, false, false, false, false, false, false]) (a' := ?_) rfl rfl rfl (by kernel_rfl) (fun _ _ _ h => h) (fun _ => rfl) (HSof9.out _ HBd.out) (Or.inl ⟨by rfl, ?_⟩) ?_ ?_
    rotate_left 2
    · intro w_ hw_
      obtain ⟨k0, k1, k2, k3⟩ := cells4 (hw_.1)
      go_simp
      try with_reducible rfl
    · simp only [Act.put, List.setIfInBounds_toArray, List.set_cons_zero, List.set_cons_succ, i64_w, i32_w]
      rfl
    refine hi_pure 6 (some 49) (v := ?_) (L' := #[true, true, false, true, false, true, true, false, false, false, false, false, false, false, false, false, false, false, false, false, false, false, false, false, false, false, false, false, false, false, false, false, false, false, false, false]) (a' := ?_) rfl rfl rfl (by kernel_rfl) (fun _ _ _ h => h) (fun _ => rfl) (fun _ => (HSof9.out _ HBd.out)) (Or.inl ⟨by rfl, ?_⟩) ?_ ?_
    rotate_left 2
    · intro w_
      go_simp
      try with_reducible rfl
    · simp only [Act.put, List.setIfInBounds_toArray, List.set_cons_zero, List.set_cons_succ, i64_w, i32_w]
      rfl
    refine hi_one 2 (L' := #[true, true, true, true, false, true, true, false, false, false, false, false, false, false, false, false, false, false, false, false, false, false, false, false, false, false, false, false, false, false, false, false, false, false, false, false]) rfl (by kernel_rfl) rfl (fun K hK => ?_)
    go_simp
    gi_wp2_with (refine ⟨trivial, ?_⟩; gi_at_fn 26; refine (callsIn_wide.2 (HC1.out _ HBd.out)).mono ?_; rintro e U0 ⟨B1, rfl, hN, hb_⟩)
    have HU0 := Aside0.mk (below_step HBd.out hb_)
    have HB1 := Aside0.mk hN
    clear hN
    clear hb_
    refine hK.out _ _ (fun _ => HSof9.out _ HU0.out) ?_
    clear hK K
    refine hi_one 4 (L' := #[true, true, true, true, true, true, true, false, false, false, false, false, false, false, false, false, false, false, false, false, false, false, false, false, false, false, false, false, false, false, false, false, false, false, false, false]) rfl (by kernel_rfl) rfl (fun K hK => ?_)
    go_simp
    gi_wp2_with (refine ⟨trivial, ?_⟩; gi_at_call 27; refine (callsIn_wide.2 (HLN.out _ B1 HU0.out (HB1.out))).mono ?_; rintro e U1 ⟨rfl, hb_⟩)
    have HU1 := Aside0.mk (below_step HU0.out hb_)
    clear hb_
    refine hK.out _ _ (fun _ => HSof9.out _ HU1.out) ?_
    clear hK K
    refine hi_one 7 (L' := #[true, true, true, true, true, true, true, true, false, false, false, false, false, false, false, false, false, false, false, false, false, false, false, false, false, false, false, false, false, false, false, false, false, false, false, false]) rfl (by kernel_rfl) rfl (fun K hK => ?_)
    go_simp
    gi_wp2_with (refine ⟨trivial, ?_⟩; gi_at_call 27; refine (callsIn_wide.2 (HLF.out _ HU1.out)).mono ?_; rintro e U2 ⟨rfl, hb_⟩)
    have HU2 := Aside0.mk (below_step HU1.out hb_)
    clear hb_
    refine hK.out _ _ (fun _ => HSof9.out _ HU2.out) ?_
    clear hK K
    refine hi_pure 8 (some 51) (v := ?_) (L' := #[true, true, true, true, true, true, true, true, true, false, false, false, false, false, false, false, false, false, false, false, false, false, false, false, false, false, false, false, false, false, false, false, false, false, false, false]) (a' := ?_) rfl rfl rfl (by kernel_rfl) (fun _ _ _ h => h) (fun _ => rfl) (fun _ => (HSof9.out _ HU2.out)) (Or.inl ⟨by rfl, ?_⟩) ?_ ?_
    rotate_left 2
    · intro w_
      go_simp
      try with_reducible rfl
    · simp only [Act.put, List.setIfInBounds_toArray, List.set_cons_zero, List.set_cons_succ, i64_w, i32_w]
      rfl
    refine hi_pure 9 (some 52) (v := ?_) (L' := #[true, true, true, true, true, true, true, true, true, true, false, false, false, false, false, false, false, false, false, false, false, false, false, false, false, false, false, false, false, false, false, false, false, false, false, false]) (a' := ?_) rfl rfl rfl (by kernel_rfl) (fun _ _ _ h => h) (fun _ => rfl) (fun _ => (HSof9.out _ HU2.out)) (Or.inl ⟨by rfl, ?_⟩) ?_ ?_
    rotate_left 2
    · intro w_
      go_simp
      try with_reducible rfl
    · simp only [Act.put, List.setIfInBounds_toArray, List.set_cons_zero, List.set_cons_succ, i64_w, i32_w]
      rfl
    refine hi_pure 10 (some 53) (v := ?_) (L' := #[true, true, true, true, true, true, true, true, true, true, true, false, false, false, false, false, false, false, false, false, false, false, false, false, false, false, false, false, false, false, false, false, false, false, false, false]) (a' := ?_) rfl rfl rfl (by kernel_rfl) (fun _ _ _ h => h) (fun _ => rfl) (fun _ => (HSof9.out _ HU2.out)) (Or.inl ⟨by rfl, ?_⟩) ?_ ?_
    rotate_left 2
    · intro w_
      go_simp
      try with_reducible rfl
    · simp only [Act.put, List.setIfInBounds_toArray, List.set_cons_zero, List.set_cons_succ, i64_w, i32_w]
      rfl
    refine hi_pure 11 (some 54) (v := ?_) (L' := #[true, true, true, true, true, true, true, true, true, true, true, true, false, false, false, false, false, false, false, false, false, false, false, false, false, false, false, false, false, false, false, false, false, false, false, false]) (a' := ?_) rfl rfl rfl (by kernel_rfl) (fun _ _ _ h => h) (fun _ => rfl) (fun _ => (HSof9.out _ HU2.out)) (Or.inl ⟨by rfl, ?_⟩) ?_ ?_
    rotate_left 2
    · intro w_
      go_simp
      try with_reducible rfl
    · simp only [Act.put, List.setIfInBounds_toArray, List.set_cons_zero, List.set_cons_succ, i64_w, i32_w]
      rfl
    refine hi_take 12 (some 55) (v := ?_) (L' := #[true, true, true, true, true, true, true, true, true, true, true, true, true, false, false, false, false, false, false, false, false, false, false, false, false, false, false, false, false, false, false, false, false, false, false, false]) (a' := ?_) rfl rfl rfl (by kernel_rfl) (fun _ _ _ h => h) (fun _ => rfl) (HSof9.out _ HU2.out) (Or.inl ⟨by rfl, ?_⟩) ?_ ?_
    rotate_left 2
    · intro w_ hw_
      obtain ⟨k0, k1, k2, k3⟩ := cells4 (hw_.2.2.1)
      go_simp
      try with_reducible rfl
    · simp only [Act.put, List.setIfInBounds_toArray, List.set_cons_zero, List.set_cons_succ, i64_w, i32_w]
      rfl
    refine hi_pure 14 (some 57) (v := ?_) (L' := #[true, true, true, true, true, true, true, true, true, true, true, true, true, false, true, false, false, false, false, false, false, false, false, false, false, false, false, false, false, false, false, false, false, false, false, false]) (a' := ?_) rfl rfl rfl (by kernel_rfl) (fun _ _ _ h => h) (fun _ => rfl) (fun _ => (HSof9.out _ HU2.out)) (Or.inl ⟨by rfl, ?_⟩) ?_ ?_
    rotate_left 2
    · intro w_
      go_simp
      try with_reducible rfl
    · simp only [Act.put, List.setIfInBounds_toArray, List.set_cons_zero, List.set_cons_succ, i64_w, i32_w]
      rfl
    refine hi_take 16 (some 59) (v := ?_) (L' := #[true, true, true, true, true, true, true, true, true, true, true, true, true, false, true, false, true, false, false, false, false, false, false, false, false, false, false, false, false, false, false, false, false, false, false, false]) (a' := ?_) rfl rfl rfl (by kernel_rfl) (fun _ _ _ h => h) (fun _ => rfl) (HSof9.out _ HU2.out) (Or.inl ⟨by rfl, ?_⟩) ?_ ?_
    rotate_left 2
    · intro w_ hw_
      obtain ⟨k0, k1, k2, k3⟩ := cells4 (hw_.2.2.2)
      go_simp
      try with_reducible rfl
    · simp only [Act.put, List.setIfInBounds_toArray, List.set_cons_zero, List.set_cons_succ, i64_w, i32_w]
      rfl
    refine hi_pure 17 (some 60) (v := ?_) (L' := #[true, true, true, true, true, true, true, true, true, true, true, true, true, false, true, false, true, true, false, false, false, false, false, false, false, false, false, false, false, false, false, false, false, false, false, false]) (a' := ?_) rfl rfl rfl (by kernel_rfl) (fun _ _ _ h => h) (fun _ => rfl) (fun _ => (HSof9.out _ HU2.out)) (Or.inl ⟨by rfl, ?_⟩) ?_ ?_
    rotate_left 2
    · intro w_
      go_simp
      try with_reducible rfl
    · simp only [Act.put, List.setIfInBounds_toArray, List.set_cons_zero, List.set_cons_succ, i64_w, i32_w]
      rfl
    refine hi_one 13 (L' := #[true, true, true, true, true, true, true, true, true, true, true, true, true, true, true, false, true, true, false, false, false, false, false, false, false, false, false, false, false, false, false, false, false, false, false, false]) rfl (by kernel_rfl) rfl (fun K hK => ?_)
    go_simp
    gi_wp2_with (refine ⟨trivial, ?_⟩; gi_at_fn 26; refine (callsIn_wide.2 (HC2.out _ HU2.out)).mono ?_; rintro e U3 ⟨B2, rfl, hN, hb_⟩)
    have HU3 := Aside0.mk (below_step HU2.out hb_)
    have HB2 := Aside0.mk hN
    clear hN
    clear hb_
    refine hK.out _ _ (fun _ => HSof9.out _ HU3.out) ?_
    clear hK K
    refine hi_one 15 (L' := #[true, true, true, true, true, true, true, true, true, true, true, true, true, true, true, true, true, true, false, false, false, false, false, false, false, false, false, false, false, false, false, false, false, false, false, false]) rfl (by kernel_rfl) rfl (fun K hK => ?_)
    go_simp
    gi_wp2_with (refine ⟨trivial, ?_⟩; gi_at_call 27; refine (callsIn_wide.2 (HLM.out _ B2 HU3.out (HB2.out))).mono ?_; rintro e U4 ⟨rfl, hb_⟩)
    have HU4 := Aside0.mk (below_step HU3.out hb_)
    clear hb_
    refine hK.out _ _ (fun _ => HSof9.out _ HU4.out) ?_
    clear hK K
    refine hi_one 18 (L' := #[true, true, true, true, true, true, true, true, true, true, true, true, true, true, true, true, true, true, true, false, false, false, false, false, false, false, false, false, false, false, false, false, false, false, false, false]) rfl (by kernel_rfl) rfl (fun K hK => ?_)
    go_simp
    gi_wp2_with (refine ⟨trivial, ?_⟩; gi_at_call 27; refine (callsIn_wide.2 (HLO.out _ HU4.out)).mono ?_; rintro e U5 ⟨rfl, hb_⟩)
    have HU5 := Aside0.mk (below_step HU4.out hb_)
    clear hb_
    refine hK.out _ _ (fun _ => HSof9.out _ HU5.out) ?_
    clear hK K
    refine hi_pure 19 (some 62) (v := ?_) (L' := #[true, true, true, true, true, true, true, true, true, true, true, true, true, true, true, true, true, true, true, true, false, false, false, false, false, false, false, false, false, false, false, false, false, false, false, false]) (a' := ?_) rfl rfl rfl (by kernel_rfl) (fun _ _ _ h => h) (fun _ => rfl) (fun _ => (HSof9.out _ HU5.out)) (Or.inl ⟨by rfl, ?_⟩) ?_ ?_
    rotate_left 2
    · intro w_
      go_simp
      try with_reducible rfl
    · simp only [Act.put, List.setIfInBounds_toArray, List.set_cons_zero, List.set_cons_succ, i64_w, i32_w]
      rfl
    refine hi_pure 20 (some 63) (v := ?_) (L' := #[true, true, true, true, true, true, true, true, true, true, true, true, true, true, true, true, true, true, true, true, true, false, false, false, false, false, false, false, false, false, false, false, false, false, false, false]) (a' := ?_) rfl rfl rfl (by kernel_rfl) (fun _ _ _ h => h) (fun _ => rfl) (fun _ => (HSof9.out _ HU5.out)) (Or.inl ⟨by rfl, ?_⟩) ?_ ?_
    rotate_left 2
    · intro w_
      go_simp
      try with_reducible rfl
    · simp only [Act.put, List.setIfInBounds_toArray, List.set_cons_zero, List.set_cons_succ, i64_w, i32_w]
      rfl
    refine hi_pure 21 (some 64) (v := ?_) (L' := #[true, true, true, true, true, true, true, true, true, true, true, true, true, true, true, true, true, true, true, true, true, true, false, false, false, false, false, false, false, false, false, false, false, false, false, false]) (a' := ?_) rfl rfl rfl (by kernel_rfl) (fun _ _ _ h => h) (fun _ => rfl) (fun _ => (HSof9.out _ HU5.out)) (Or.inl ⟨by rfl, ?_⟩) ?_ ?_
    rotate_left 2
    · intro w_
      go_simp
      try with_reducible rfl
    · simp only [Act.put, List.setIfInBounds_toArray, List.set_cons_zero, List.set_cons_succ, i64_w, i32_w]
      rfl
    refine hi_take 22 (some 65) (v := ?_) (L' := #[true, true, true, true, true, true, true, true, true, true, true, true, true, true, true, true, true, true, true, true, true, true, true, false, false, false, false, false, false, false, false, false, false, false, false, false]) (a' := ?_) rfl rfl rfl (by kernel_rfl) (fun _ _ _ h => h) (fun _ => rfl) (HSof9.out _ HU5.out) (Or.inl ⟨by rfl, ?_⟩) ?_ ?_
    rotate_left 2
    · intro w_ hw_
      obtain ⟨k0, k1, k2, k3⟩ := cells4 (hw_.2.2.1)
      go_simp
      try with_reducible rfl
    · simp only [Act.put, List.setIfInBounds_toArray, List.set_cons_zero, List.set_cons_succ, i64_w, i32_w]
      rfl
    refine hi_pure 23 (some 66) (v := ?_) (L' := #[true, true, true, true, true, true, true, true, true, true, true, true, true, true, true, true, true, true, true, true, true, true, true, true, false, false, false, false, false, false, false, false, false, false, false, false]) (a' := ?_) rfl rfl rfl (by kernel_rfl) (fun _ _ _ h => h) (fun _ => rfl) (fun _ => (HSof9.out _ HU5.out)) (Or.inl ⟨by rfl, ?_⟩) ?_ ?_
    rotate_left 2
    · intro w_
      go_simp
      try with_reducible rfl
    · simp only [Act.put, List.setIfInBounds_toArray, List.set_cons_zero, List.set_cons_succ, i64_w, i32_w]
      rfl
    refine hi_take 25 (some 68) (v := ?_) (L' := #[true, true, true, true, true, true, true, true, true, true, true, true, true, true, true, true, true, true, true, true, true, true, true, true, false, true, false, false, false, false, false, false, false, false, false, false]) (a' := ?_) rfl rfl rfl (by kernel_rfl) (fun _ _ _ h => h) (fun _ => rfl) (HSof9.out _ HU5.out) (Or.inl ⟨by rfl, ?_⟩) ?_ ?_
    rotate_left 2
    · intro w_ hw_
      obtain ⟨k0, k1, k2, k3⟩ := cells4 (hw_.1)
      go_simp
      try with_reducible rfl
    · simp only [Act.put, List.setIfInBounds_toArray, List.set_cons_zero, List.set_cons_succ, i64_w, i32_w]
      rfl
    refine hi_pure 26 (some 69) (v := ?_) (L' := #[true, true, true, true, true, true, true, true, true, true, true, true, true, true, true, true, true, true, true, true, true, true, true, true, false, true, true, false, false, false, false, false, false, false, false, false]) (a' := ?_) rfl rfl rfl (by kernel_rfl) (fun _ _ _ h => h) (fun _ => rfl) (fun _ => (HSof9.out _ HU5.out)) (Or.inl ⟨by rfl, ?_⟩) ?_ ?_
    rotate_left 2
    · intro w_
      go_simp
      try with_reducible rfl
    · simp only [Act.put, List.setIfInBounds_toArray, List.set_cons_zero, List.set_cons_succ, i64_w, i32_w]
      rfl
    refine hi_one 24 (L' := #[true, true, true, true, true, true, true, true, true, true, true, true, true, true, true, true, true, true, true, true, true, true, true, true, true, true, true, false, false, false, false, false, false, false, false, false]) rfl (by kernel_rfl) rfl (fun K hK => ?_)
    go_simp
    gi_wp2_with (refine ⟨trivial, ?_⟩; gi_at_call 27; refine (callsIn_wide.2 (HLA.out _ HU5.out)).mono ?_; rintro e U6 ⟨rfl, hb_⟩)
    have HU6 := Aside0.mk (below_step HU5.out hb_)
    clear hb_
    refine hK.out _ _ (fun _ => HSof9.out _ HU6.out) ?_
    clear hK K
    refine hi_one 27 (L' := #[true, true, true, true, true, true, true, true, true, true, true, true, true, true, true, true, true, true, true, true, true, true, true, true, true, true, true, true, false, false, false, false, false, false, false, false]) rfl (by kernel_rfl) rfl (fun K hK => ?_)
    go_simp
    gi_wp2_with (refine ⟨trivial, ?_⟩; gi_at_call 27; refine (callsIn_wide.2 (HLF.out _ HU6.out)).mono ?_; rintro e U7 ⟨rfl, hb_⟩)
    have HU7 := Aside0.mk (below_step HU6.out hb_)
    clear hb_
    refine hK.out _ _ (fun _ => HSof9.out _ HU7.out) ?_
    clear hK K
    refine hi_pure 28 (some 71) (v := ?_) (L' := #[true, true, true, true, true, true, true, true, true, true, true, true, true, true, true, true, true, true, true, true, true, true, true, true, true, true, true, true, true, false, false, false, false, false, false, false]) (a' := ?_) rfl rfl rfl (by kernel_rfl) (fun _ _ _ h => h) (fun _ => rfl) (fun _ => (HSof9.out _ HU7.out)) (Or.inl ⟨by rfl, ?_⟩) ?_ ?_
    rotate_left 2
    · intro w_
      go_simp
      try with_reducible rfl
    · simp only [Act.put, List.setIfInBounds_toArray, List.set_cons_zero, List.set_cons_succ, i64_w, i32_w]
      rfl
    refine hi_take 29 (some 72) (v := undef) (L' := #[true, true, true, true, true, true, true, true, true, true, true, true, true, true, true, true, true, true, true, true, true, true, true, true, true, true, true, true, true, true, false, false, false, false, false, false]) (a' := ?_) rfl rfl rfl (by kernel_rfl) (fun _ _ _ h => h) (fun _ => rfl) (HSof9.out _ HU7.out) (Or.inr ⟨by rfl, rfl⟩) ?_ ?_
    rotate_left
    · simp only [Act.put, List.setIfInBounds_toArray, List.set_cons_zero, List.set_cons_succ, i64_w, i32_w]
      rfl
    refine hi_take 30 (some 73) (v := undef) (L' := #[true, true, true, true, true, true, true, true, true, true, true, true, true, true, true, true, true, true, true, true, true, true, true, true, true, true, true, true, true, true, true, false, false, false, false, false]) (a' := ?_) rfl rfl rfl (by kernel_rfl) (fun _ _ _ h => h) (fun _ => rfl) (HSof9.out _ HU7.out) (Or.inr ⟨by rfl, rfl⟩) ?_ ?_
    rotate_left
    · simp only [Act.put, List.setIfInBounds_toArray, List.set_cons_zero, List.set_cons_succ, i64_w, i32_w]
      rfl
    refine hi_one 31 (L' := #[true, true, true, true, true, true, true, true, true, true, true, true, true, true, true, true, true, true, true, true, true, true, true, true, true, true, true, true, true, true, true, true, false, false, false, false]) rfl (by kernel_rfl) rfl (fun K hK => ?_)
    go_simp
    refine ⟨trivial, ?_⟩
    refine hK.out _ _ (fun _ => HSof9.out _ HU7.out) ?_
    clear hK K
    refine hi_pure 32 (some 75) (v := ?_) (L' := #[true, true, true, true, true, true, true, true, true, true, true, true, true, true, true, true, true, true, true, true, true, true, true, true, true, true, true, true, true, true, true, true, true, false, false, false]) (a' := ?_) rfl rfl rfl (by kernel_rfl) (fun _ _ _ h => h) (fun _ => rfl) (fun _ => (HSof9.out _ HU7.out)) (Or.inl ⟨by rfl, ?_⟩) ?_ ?_
    rotate_left 2
    · intro w_
      go_simp
      try with_reducible rfl
    · simp only [Act.put, List.setIfInBounds_toArray, List.set_cons_zero, List.set_cons_succ, i64_w, i32_w]
      rfl
    refine hi_pure 33 (some 76) (v := ?_) (L' := #[true, true, true, true, true, true, true, true, true, true, true, true, true, true, true, true, true, true, true, true, true, true, true, true, true, true, true, true, true, true, true, true, true, true, false, false]) (a' := ?_) rfl rfl rfl (by kernel_rfl) (fun _ _ _ h => h) (fun _ => rfl) (fun _ => (HSof9.out _ HU7.out)) (Or.inl ⟨by rfl, ?_⟩) ?_ ?_
    rotate_left 2
    · intro w_
      go_simp
      try with_reducible rfl
    · simp only [Act.put, List.setIfInBounds_toArray, List.set_cons_zero, List.set_cons_succ, i64_w, i32_w]
      rfl
    refine hi_pure 34 (some 77) (v := ?_) (L' := #[true, true, true, true, true, true, true, true, true, true, true, true, true, true, true, true, true, true, true, true, true, true, true, true, true, true, true, true, true, true, true, true, true, true, true, false]) (a' := ?_) rfl rfl rfl (by kernel_rfl) (fun _ _ _ h => h) (fun _ => rfl) (fun _ => (HSof9.out _ HU7.out)) (Or.inl ⟨by rfl, ?_⟩) ?_ ?_
    rotate_left 2
    · intro w_
      go_simp
      try with_reducible rfl
    · simp only [Act.put, List.setIfInBounds_toArray, List.set_cons_zero, List.set_cons_succ, i64_w, i32_w]
      rfl
    refine hi_pure 35 (some 6) (v := ?_) (L' := #[true, true, true, true, true, true, true, true, true, true, true, true, true, true, true, true, true, true, true, true, true, true, true, true, true, true, true, true, true, true, true, true, true, true, true, true]) (a' := ?_) rfl rfl rfl (by kernel_rfl) (fun _ _ _ h => h) (fun _ => rfl) (fun _ => (HSof9.out _ HU7.out)) (Or.inl ⟨by rfl, ?_⟩) ?_ ?_
    rotate_left 2
    · intro w_
      go_simp
      try with_reducible rfl
    · simp only [Act.put, List.setIfInBounds_toArray, List.set_cons_zero, List.set_cons_succ, i64_w, i32_w]
      rfl
    refine hi_done (by kernel_rfl) ?_ _
    gi_wp2
    refine bodyPost_ret (results_tmp rfl _ _ _) rfl ?_
    exact ⟨rfl, below_step HBV.out HU7.out⟩
  · skip
    refine hi_pure 0 (some 43) (v := ?_) (L' := #[true, false, false, false, false, false, false, false, false, false, false, false, false, false, false, false, false, false, false, false, false, false, false, false, false, false, false, false, false, false, false, false, false, false, false, false]) (a' := ?_) rfl rfl rfl (by kernel_rfl) (fun _ _ _ h => h) (fun _ => rfl) (fun _ => (HSof9.out _ HBd.out)) (Or.inl ⟨by rfl, ?_⟩) ?_ ?_
    rotate_left 2
    · intro w_
      go_simp
      try with_reducible rfl
    · simp only [Act.put, List.setIfInBounds_toArray, List.set_cons_zero, List.set_cons_succ, i64_w, i32_w]
      rfl
    refine hi_take 1 (some 44) (v := ?_) (L' := #[true, true, false, false, false, false, false, false, false, false, false, false, false, false, false, false, false, false, false, false, false, false, false, false, false, false, false, false, false, false, false, false, false, false, false, false]) (a' := ?_) rfl rfl rfl (by kernel_rfl) (fun _ _ _ h => h) (fun _ => rfl) (HSof9.out _ HBd.out) (Or.inl ⟨by rfl, ?_⟩) ?_ ?_
    rotate_left 2
    · intro w_ hw_
      obtain ⟨k0, k1, k2, k3⟩ := cells4 (hw_.1)
      go_simp
      try with_reducible rfl
    · simp only [Act.put, List.setIfInBounds_toArray, List.set_cons_zero, List.set_cons_succ, i64_w, i32_w]
      rfl
    refine hi_pure 3 (some 46) (v := ?_) (L' := #[true, true, false, true, false, false, false, false, false, false, false, false, false, false, false, false, false, false, false, false, false, false, false, false, false, false, false, false, false, false, false, false, false, false, false, false]) (a' := ?_) rfl rfl rfl (by kernel_rfl) (fun _ _ _ h => h) (fun _ => rfl) (fun _ => (HSof9.out _ HBd.out)) (Or.inl ⟨by rfl, ?_⟩) ?_ ?_
    rotate_left 2
    · intro w_
      go_simp
      try with_reducible rfl
    · simp only [Act.put, List.setIfInBounds_toArray, List.set_cons_zero, List.set_cons_succ, i64_w, i32_w]
      rfl
    refine hi_take 5 (some 48) (v := ?_) (L' := #[true, true, false, true, false, true, false, false, false, false, false, false, false, false, false, false, false, false, false, false, false, false, false, false, false, false, false, false, false, false, false, false, false, false, false, false]) (a' := ?_) rfl rfl rfl (by kernel_rfl) (fun _ _ _ h => h) (fun _ => rfl) (HSof9.out _ HBd.out) (Or.inl ⟨by rfl, ?_⟩) ?_ ?_
    rotate_left 2
    · intro w_ hw_
      obtain ⟨k0, k1, k2, k3⟩ := cells4 (hw_.1)
      go_simp
      try with_reducible rfl
    · simp only [Act.put, List.setIfInBounds_toArray, List.set_cons_zero, List.set_cons_succ, i64_w, i32_w]
      rfl
    refine hi_pure 6 (some 49) (v := ?_) (L' := #[true, true, false, true, false, true, true, false, false, false, false, false, false, false, false, false, false, false, false, false, false, false, false, false, false, false, false, false, false, false, false, false, false, false, false, false]) (a' := ?_) rfl rfl rfl (by kernel_rfl) (fun _ _ _ h => h) (fun _ => rfl) (fun _ => (HSof9.out _ HBd.out)) (Or.inl ⟨by rfl, ?_⟩) ?_ ?_
    rotate_left 2
    · intro w_
      go_simp
      try with_reducible rfl
    · simp only [Act.put, List.setIfInBounds_toArray, List.set_cons_zero, List.set_cons_succ, i64_w, i32_w]
      rfl
    refine hi_one 2 (L' := #[true, true, true, true, false, true, true, false, false, false, false, false, false, false, false, false, false, false, false, false, false, false, false, false, false, false, false, false, false, false, false, false, false, false, false, false]) rfl (by kernel_rfl) rfl (fun K hK => ?_)
    go_simp
    gi_wp2_with (refine ⟨trivial, ?_⟩; gi_at_fn 26; refine (callsIn_wide.2 (HC1.out _ HBd.out)).mono ?_; rintro e U0 ⟨B1, rfl, hN, hb_⟩)
    have HU0 := Aside0.mk (below_step HBd.out hb_)
    have HB1 := Aside0.mk hN
    clear hN
    clear hb_
    refine hK.out _ _ (fun _ => HSof9.out _ HU0.out) ?_
    clear hK K
    refine hi_one 4 (L' := #[true, true, true, true, true, true, true, false, false, false, false, false, false, false, false, false, false, false, false, false, false, false, false, false, false, false, false, false, false, false, false, false, false, false, false, false]) rfl (by kernel_rfl) rfl (fun K hK => ?_)
    go_simp
    gi_wp2_with (refine ⟨trivial, ?_⟩; gi_at_call 27; refine (callsIn_wide.2 (HLN.out _ B1 HU0.out (HB1.out))).mono ?_; rintro e U1 ⟨rfl, hb_⟩)
    have HU1 := Aside0.mk (below_step HU0.out hb_)
    clear hb_
    refine hK.out _ _ (fun _ => HSof9.out _ HU1.out) ?_
    clear hK K
    refine hi_one 7 (L' := #[true, true, true, true, true, true, true, true, false, false, false, false, false, false, false, false, false, false, false, false, false, false, false, false, false, false, false, false, false, false, false, false, false, false, false, false]) rfl (by kernel_rfl) rfl (fun K hK => ?_)
    go_simp
    gi_wp2_with (refine ⟨trivial, ?_⟩; gi_at_call 27; refine (callsIn_wide.2 (HLF.out _ HU1.out)).mono ?_; rintro e U2 ⟨rfl, hb_⟩)
    have HU2 := Aside0.mk (below_step HU1.out hb_)
    clear hb_
    refine hK.out _ _ (fun _ => HSof9.out _ HU2.out) ?_
    clear hK K
    refine hi_pure 8 (some 51) (v := ?_) (L' := #[true, true, true, true, true, true, true, true, true, false, false, false, false, false, false, false, false, false, false, false, false, false, false, false, false, false, false, false, false, false, false, false, false, false, false, false]) (a' := ?_) rfl rfl rfl (by kernel_rfl) (fun _ _ _ h => h) (fun _ => rfl) (fun _ => (HSof9.out _ HU2.out)) (Or.inl ⟨by rfl, ?_⟩) ?_ ?_
    rotate_left 2
    · intro w_
      go_simp
      try with_reducible rfl
    · simp only [Act.put, List.setIfInBounds_toArray, List.set_cons_zero, List.set_cons_succ, i64_w, i32_w]
      rfl
    refine hi_pure 9 (some 52) (v := ?_) (L' := #[true, true, true, true, true, true, true, true, true, true, false, false, false, false, false, false, false, false, false, false, false, false, false, false, false, false, false, false, false, false, false, false, false, false, false, false]) (a' := ?_) rfl rfl rfl (by kernel_rfl) (fun _ _ _ h => h) (fun _ => rfl) (fun _ => (HSof9.out _ HU2.out)) (Or.inl ⟨by rfl, ?_⟩) ?_ ?_
    rotate_left 2
    · intro w_
      go_simp
      try with_reducible rfl
    · simp only [Act.put, List.setIfInBounds_toArray, List.set_cons_zero, List.set_cons_succ, i64_w, i32_w]
      rfl
    refine hi_pure 10 (some 53) (v := ?_) (L' := #[true, true, true, true, true, true, true, true, true, true, true, false, false, false, false, false, false, false, false, false, false, false, false, false, false, false, false, false, false, false, false, false, false, false, false, false]) (a' := ?_) rfl rfl rfl (by kernel_rfl) (fun _ _ _ h => h) (fun _ => rfl) (fun _ => (HSof9.out _ HU2.out)) (Or.inl ⟨by rfl, ?_⟩) ?_ ?_
    rotate_left 2
    · intro w_
      go_simp
      try with_reducible rfl
    · simp only [Act.put, List.setIfInBounds_toArray, List.set_cons_zero, List.set_cons_succ, i64_w, i32_w]
      rfl
    refine hi_pure 11 (some 54) (v := ?_) (L' := #[true, true, true, true, true, true, true, true, true, true, true, true, false, false, false, false, false, false, false, false, false, false, false, false, false, false, false, false, false, false, false, false, false, false, false, false]) (a' := ?_) rfl rfl rfl (by kernel_rfl) (fun _ _ _ h => h) (fun _ => rfl) (fun _ => (HSof9.out _ HU2.out)) (Or.inl ⟨by rfl, ?_⟩) ?_ ?_
    rotate_left 2
    · intro w_
      go_simp
      try with_reducible rfl
    · simp only [Act.put, List.setIfInBounds_toArray, List.set_cons_zero, List.set_cons_succ, i64_w, i32_w]
      rfl
    refine hi_take 12 (some 55) (v := ?_) (L' := #[true, true, true, true, true, true, true, true, true, true, true, true, true, false, false, false, false, false, false, false, false, false, false, false, false, false, false, false, false, false, false, false, false, false, false, false]) (a' := ?_) rfl rfl rfl (by kernel_rfl) (fun _ _ _ h => h) (fun _ => rfl) (HSof9.out _ HU2.out) (Or.inl ⟨by rfl, ?_⟩) ?_ ?_
    rotate_left 2
    · intro w_ hw_
      obtain ⟨k0, k1, k2, k3⟩ := cells4 (hw_.2.2.1)
      go_simp
      try with_reducible rfl
    · simp only [Act.put, List.setIfInBounds_toArray, List.set_cons_zero, List.set_cons_succ, i64_w, i32_w]
      rfl
    refine hi_pure 14 (some 57) (v := ?_) (L' := #[true, true, true, true, true, true, true, true, true, true, true, true, true, false, true, false, false, false, false, false, false, false, false, false, false, false, false, false, false, false, false, false, false, false, false, false]) (a' := ?_) rfl rfl rfl (by kernel_rfl) (fun _ _ _ h => h) (fun _ => rfl) (fun _ => (HSof9.out _ HU2.out)) (Or.inl ⟨by rfl, ?_⟩) ?_ ?_
    rotate_left 2
    · intro w_
      go_simp
      try with_reducible rfl
    · simp only [Act.put, List.setIfInBounds_toArray, List.set_cons_zero, List.set_cons_succ, i64_w, i32_w]
      rfl
    refine hi_take 16 (some 59) (v := ?_) (L' := #[true, true, true, true, true, true, true, true, true, true, true, true, true, false, true, false, true, false, false, false, false, false, false, false, false, false, false, false, false, false, false, false, false, false, false, false]) (a' := ?_) rfl rfl rfl (by kernel_rfl) (fun _ _ _ h => h) (fun _ => rfl) (HSof9.out _ HU2.out) (Or.inl ⟨by rfl, ?_⟩) ?_ ?_
    rotate_left 2
    · intro w_ hw_
      obtain ⟨k0, k1, k2, k3⟩ := cells4 (hw_.2.2.2)
      go_simp
      try with_reducible rfl
    · simp only [Act.put, List.setIfInBounds_toArray, List.set_cons_zero, List.set_cons_succ, i64_w, i32_w]
      rfl
    refine hi_pure 17 (some 60) (v := ?_) (L' := #[true, true, true, true, true, true, true, true, true, true, true, true, true, false, true, false, true, true, false, false, false, false, false, false, false, false, false, false, false, false, false, false, false, false, false, false]) (a' := ?_) rfl rfl rfl (by kernel_rfl) (fun _ _ _ h => h) (fun _ => rfl) (fun _ => (HSof9.out _ HU2.out)) (Or.inl ⟨by rfl, ?_⟩) ?_ ?_
    rotate_left 2
    · intro w_
      go_simp
      try with_reducible rfl
    · simp only [Act.put, List.setIfInBounds_toArray, List.set_cons_zero, List.set_cons_succ, i64_w, i32_w]
      rfl
    refine hi_one 13 (L' := #[true, true, true, true, true, true, true, true, true, true, true, true, true, true, true, false, true, true, false, false, false, false, false, false, false, false, false, false, false, false, false, false, false, false, false, false]) rfl (by kernel_rfl) rfl (fun K hK => ?_)
    go_simp
    gi_wp2_with (refine ⟨trivial, ?_⟩; gi_at_fn 26; refine (callsIn_wide.2 (HC2.out _ HU2.out)).mono ?_; rintro e U3 ⟨B2, rfl, hN, hb_⟩)
    have HU3 := Aside0.mk (below_step HU2.out hb_)
    have HB2 := Aside0.mk hN
    clear hN
    clear hb_
    refine hK.out _ _ (fun _ => HSof9.out _ HU3.out) ?_
    clear hK K
    refine hi_one 15 (L' := #[true, true, true, true, true, true, true, true, true, true, true, true, true, true, true, true, true, true, false, false, false, false, false, false, false, false, false, false, false, false, false, false, false, false, false, false]) rfl (by kernel_rfl) rfl (fun K hK => ?_)
    go_simp
    gi_wp2_with (refine ⟨trivial, ?_⟩; gi_at_call 27; refine (callsIn_wide.2 (HLM.out _ B2 HU3.out (HB2.out))).mono ?_; rintro e U4 ⟨rfl, hb_⟩)
    have HU4 := Aside0.mk (below_step HU3.out hb_)
    clear hb_
    refine hK.out _ _ (fun _ => HSof9.out _ HU4.out) ?_
    clear hK K
    refine hi_one 18 (L' := #[true, true, true, true, true, true, true, true, true, true, true, true, true, true, true, true, true, true, true, false, false, false, false, false, false, false, false, false, false, false, false, false, false, false, false, false]) rfl (by kernel_rfl) rfl (fun K hK => ?_)
    go_simp
    gi_wp2_with (refine ⟨trivial, ?_⟩; gi_at_call 27; refine (callsIn_wide.2 (HLO.out _ HU4.out)).mono ?_; rintro e U5 ⟨rfl, hb_⟩)
    have HU5 := Aside0.mk (below_step HU4.out hb_)
    clear hb_
    refine hK.out _ _ (fun _ => HSof9.out _ HU5.out) ?_
    clear hK K
    refine hi_pure 19 (some 62) (v := ?_) (L' := #[true, true, true, true, true, true, true, true, true, true, true, true, true, true, true, true, true, true, true, true, false, false, false, false, false, false, false, false, false, false, false, false, false, false, false, false]) (a' := ?_) rfl rfl rfl (by kernel_rfl) (fun _ _ _ h => h) (fun _ => rfl) (fun _ => (HSof9.out _ HU5.out)) (Or.inl ⟨by rfl, ?_⟩) ?_ ?_
    rotate_left 2
    · intro w_
      go_simp
      try with_reducible rfl
    · simp only [Act.put, List.setIfInBounds_toArray, List.set_cons_zero, List.set_cons_succ, i64_w, i32_w]
      rfl
    refine hi_pure 20 (some 63) (v := ?_) (L' := #[true, true, true, true, true, true, true, true, true, true, true, true, true, true, true, true, true, true, true, true, true, false, false, false, false, false, false, false, false, false, false, false, false, false, false, false]) (a' := ?_) rfl rfl rfl (by kernel_rfl) (fun _ _ _ h => h) (fun _ => rfl) (fun _ => (HSof9.out _ HU5.out)) (Or.inl ⟨by rfl, ?_⟩) ?_ ?_
    rotate_left 2
    · intro w_
      go_simp
      try with_reducible rfl
    · simp only [Act.put, List.setIfInBounds_toArray, List.set_cons_zero, List.set_cons_succ, i64_w, i32_w]
      rfl
    refine hi_pure 21 (some 64) (v := ?_) (L' := #[true, true, true, true, true, true, true, true, true, true, true, true, true, true, true, true, true, true, true, true, true, true, false, false, false, false, false, false, false, false, false, false, false, false, false, false]) (a' := ?_) rfl rfl rfl (by kernel_rfl) (fun _ _ _ h => h) (fun _ => rfl) (fun _ => (HSof9.out _ HU5.out)) (Or.inl ⟨by rfl, ?_⟩) ?_ ?_
    rotate_left 2
    · intro w_
      go_simp
      try with_reducible rfl
    · simp only [Act.put, List.setIfInBounds_toArray, List.set_cons_zero, List.set_cons_succ, i64_w, i32_w]
      rfl
    refine hi_take 22 (some 65) (v := ?_) (L' := #[true, true, true, true, true, true, true, true, true, true, true, true, true, true, true, true, true, true, true, true, true, true, true, false, false, false, false, false, false, false, false, false, false, false, false, false]) (a' := ?_) rfl rfl rfl (by kernel_rfl) (fun _ _ _ h => h) (fun _ => rfl) (HSof9.out _ HU5.out) (Or.inl ⟨by rfl, ?_⟩) ?_ ?_
    rotate_left 2
    · intro w_ hw_
      obtain ⟨k0, k1, k2, k3⟩ := cells4 (hw_.2.2.1)
      go_simp
      try with_reducible rfl
    · simp only [Act.put, List.setIfInBounds_toArray, List.set_cons_zero, List.set_cons_succ, i64_w, i32_w]
      rfl
    refine hi_pure 23 (some 66) (v := ?_) (L' := #[true, true, true, true, true, true, true, true, true, true, true, true, true, true, true, true, true, true, true, true, true, true, true, true, false, false, false, false, false, false, false, false, false, false, false, false]) (a' := ?_) rfl rfl rfl (by kernel_rfl) (fun _ _ _ h => h) (fun _ => rfl) (fun _ => (HSof9.out _ HU5.out)) (Or.inl ⟨by rfl, ?_⟩) ?_ ?_
    rotate_left 2
    · intro w_
      go_simp
      try with_reducible rfl
    · simp only [Act.put, List.setIfInBounds_toArray, List.set_cons_zero, List.set_cons_succ, i64_w, i32_w]
      rfl
    refine hi_take 25 (some 68) (v := ?_) (L' := #[true, true, true, true, true, true, true, true, true, true, true, true, true, true, true, true, true, true, true, true, true, true, true, true, false, true, false, false, false, false, false, false, false, false, false, false]) (a' := ?_) rfl rfl rfl (by kernel_rfl) (fun _ _ _ h => h) (fun _ => rfl) (HSof9.out _ HU5.out) (Or.inl ⟨by rfl, ?_⟩) ?_ ?_
    rotate_left 2
    · intro w_ hw_
      obtain ⟨k0, k1, k2, k3⟩ := cells4 (hw_.1)
      go_simp
      try with_reducible rfl
    · simp only [Act.put, List.setIfInBounds_toArray, List.set_cons_zero, List.set_cons_succ, i64_w, i32_w]
      rfl
    refine hi_pure 26 (some 69) (v := ?_) (L' := #[true, true, true, true, true, true, true, true, true, true, true, true, true, true, true, true, true, true, true, true, true, true, true, true, false, true, true, false, false, false, false, false, false, false, false, false]) (a' := ?_) rfl rfl rfl (by kernel_rfl) (fun _ _ _ h => h) (fun _ => rfl) (fun _ => (HSof9.out _ HU5.out)) (Or.inl ⟨by rfl, ?_⟩) ?_ ?_
    rotate_left 2
    · intro w_
      go_simp
      try with_reducible rfl
    · simp only [Act.put, List.setIfInBounds_toArray, List.set_cons_zero, List.set_cons_succ, i64_w, i32_w]
      rfl
    refine hi_one 24 (L' := #[true, true, true, true, true, true, true, true, true, true, true, true, true, true, true, true, true, true, true, true, true, true, true, true, true, true, true, false, false, false, false, false, false, false, false, false]) rfl (by kernel_rfl) rfl (fun K hK => ?_)
    go_simp
    gi_wp2_with (refine ⟨trivial, ?_⟩; gi_at_call 27; refine (callsIn_wide.2 (HLA.out _ HU5.out)).mono ?_; rintro e U6 ⟨rfl, hb_⟩)
    have HU6 := Aside0.mk (below_step HU5.out hb_)
    clear hb_
    refine hK.out _ _ (fun _ => HSof9.out _ HU6.out) ?_
    clear hK K
    refine hi_one 27 (L' := #[true, true, true, true, true, true, true, true, true, true, true, true, true, true, true, true, true, true, true, true, true, true, true, true, true, true, true, true, false, false, false, false, false, false, false, false]) rfl (by kernel_rfl) rfl (fun K hK => ?_)
    go_simp
    gi_wp2_with (refine ⟨trivial, ?_⟩; gi_at_call 27; refine (callsIn_wide.2 (HLF.out _ HU6.out)).mono ?_; rintro e U7 ⟨rfl, hb_⟩)
    have HU7 := Aside0.mk (below_step HU6.out hb_)
    clear hb_
    refine hK.out _ _ (fun _ => HSof9.out _ HU7.out) ?_
    clear hK K
    refine hi_pure 28 (some 71) (v := ?_) (L' := #[true, true, true, true, true, true, true, true, true, true, true, true, true, true, true, true, true, true, true, true, true, true, true, true, true, true, true, true, true, false, false, false, false, false, false, false]) (a' := ?_) rfl rfl rfl (by kernel_rfl) (fun _ _ _ h => h) (fun _ => rfl) (fun _ => (HSof9.out _ HU7.out)) (Or.inl ⟨by rfl, ?_⟩) ?_ ?_
    rotate_left 2
    · intro w_
      go_simp
      try with_reducible rfl
    · simp only [Act.put, List.setIfInBounds_toArray, List.set_cons_zero, List.set_cons_succ, i64_w, i32_w]
      rfl
    refine hi_take 29 (some 72) (v := undef) (L' := #[true, true, true, true, true, true, true, true, true, true, true, true, true, true, true, true, true, true, true, true, true, true, true, true, true, true, true, true, true, true, false, false, false, false, false, false]) (a' := ?_) rfl rfl rfl (by kernel_rfl) (fun _ _ _ h => h) (fun _ => rfl) (HSof9.out _ HU7.out) (Or.inr ⟨by rfl, rfl⟩) ?_ ?_
    rotate_left
    · simp only [Act.put, List.setIfInBounds_toArray, List.set_cons_zero, List.set_cons_succ, i64_w, i32_w]
      rfl
    refine hi_take 30 (some 73) (v := undef) (L' := #[true, true, true, true, true, true, true, true, true, true, true, true, true, true, true, true, true, true, true, true, true, true, true, true, true, true, true, true, true, true, true, false, false, false, false, false]) (a' := ?_) rfl rfl rfl (by kernel_rfl) (fun _ _ _ h => h) (fun _ => rfl) (HSof9.out _ HU7.out) (Or.inr ⟨by rfl, rfl⟩) ?_ ?_
    rotate_left
    · simp only [Act.put, List.setIfInBounds_toArray, List.set_cons_zero, List.set_cons_succ, i64_w, i32_w]
      rfl
    refine hi_one 31 (L' := #[true, true, true, true, true, true, true, true, true, true, true, true, true, true, true, true, true, true, true, true, true, true, true, true, true, true, true, true, true, true, true, true, false, false, false, false]) rfl (by kernel_rfl) rfl (fun K hK => ?_)
    go_simp
    refine ⟨trivial, ?_⟩
    refine hK.out _ _ (fun _ => HSof9.out _ HU7.out) ?_
    clear hK K
    refine hi_pure 32 (some 75) (v := ?_) (L' := #[true, true, true, true, true, true, true, true, true, true, true, true, true, true, true, true, true, true, true, true, true, true, true, true, true, true, true, true, true, true, true, true, true, false, false, false]) (a' := ?_) rfl rfl rfl (by kernel_rfl) (fun _ _ _ h => h) (fun _ => rfl) (fun _ => (HSof9.out _ HU7.out)) (Or.inl ⟨by rfl, ?_⟩) ?_ ?_
    rotate_left 2
    · intro w_
      go_simp
      try with_reducible rfl
    · simp only [Act.put, List.setIfInBounds_toArray, List.set_cons_zero, List.set_cons_succ, i64_w, i32_w]
      rfl
    refine hi_pure 33 (some 76) (v := ?_) (L' := #[true, true, true, true, true, true, true, true, true, true, true, true, true, true, true, true, true, true, true, true, true, true, true, true, true, true, true, true, true, true, true, true, true, true, false, false]) (a' := ?_) rfl rfl rfl (by kernel_rfl) (fun _ _ _ h => h) (fun _ => rfl) (fun _ => (HSof9.out _ HU7.out)) (Or.inl ⟨by rfl, ?_⟩) ?_ ?_
    rotate_left 2
    · intro w_
      go_simp
      try with_reducible rfl
    · simp only [Act.put, List.setIfInBounds_toArray, List.set_cons_zero, List.set_cons_succ, i64_w, i32_w]
      rfl
    refine hi_pure 34 (some 77) (v := ?_) (L' := #[true, true, true, true, true, true, true, true, true, true, true, true, true, true, true, true, true, true, true, true, true, true, true, true, true, true, true, true, true, true, true, true, true, true, true, false]) (a' := ?_) rfl rfl rfl (by kernel_rfl) (fun _ _ _ h => h) (fun _ => rfl) (fun _ => (HSof9.out _ HU7.out)) (Or.inl ⟨by rfl, ?_⟩) ?_ ?_
    rotate_left 2
    · intro w_
      go_simp
      try with_reducible rfl
    · simp only [Act.put, List.setIfInBounds_toArray, List.set_cons_zero, List.set_cons_succ, i64_w, i32_w]
      rfl
    refine hi_pure 35 (some 6) (v := ?_) (L' := #[true, true, true, true, true, true, true, true, true, true, true, true, true, true, true, true, true, true, true, true, true, true, true, true, true, true, true, true, true, true, true, true, true, true, true, true]) (a' := ?_) rfl rfl rfl (by kernel_rfl) (fun _ _ _ h => h) (fun _ => rfl) (fun _ => (HSof9.out _ HU7.out)) (Or.inl ⟨by rfl, ?_⟩) ?_ ?_
    rotate_left 2
    · intro w_
      go_simp
      try with_reducible rfl
    · simp only [Act.put, List.setIfInBounds_toArray, List.set_cons_zero, List.set_cons_succ, i64_w, i32_w]
      rfl
    refine hi_done (by kernel_rfl) ?_ _
    gi_wp2
    refine bodyPost_ret (results_tmp rfl _ _ _) rfl ?_
    exact ⟨rfl, below_step HBV.out HU7.out⟩
  · skip
    refine hi_pure 0 (some 43) (v := ?_) (L' := #[true, false, false, false, false, false, false, false, false, false, false, false, false, false, false, false, false, false, false, false, false, false, false, false, false, false, false, false, false, false, false, false, false, false, false, false]) (a' := ?_) rfl rfl rfl (by kernel_rfl) (fun _ _ _ h => h) (fun _ => rfl) (fun _ => (HSof9.out _ HBd.out)) (Or.inl ⟨by rfl, ?_⟩) ?_ ?_
    rotate_left 2
    · intro w_
      go_simp
      try with_reducible rfl
    · simp only [Act.put, List.setIfInBounds_toArray, List.set_cons_zero, List.set_cons_succ, i64_w, i32_w]
      rfl
    refine hi_take 1 (some 44) (v := ?_) (L' := #[true, true, false, false, false, false, false, false, false, false, false, false, false, false, false, false, false, false, false, false, false, false, false, false, false, false, false, false, false, false, false, false, false, false, false, false]) (a' := ?_) rfl rfl rfl (by kernel_rfl) (fun _ _ _ h => h) (fun _ => rfl) (HSof9.out _ HBd.out) (Or.inl ⟨by rfl, ?_⟩) ?_ ?_
    rotate_left 2
    · intro w_ hw_
      obtain ⟨k0, k1, k2, k3⟩ := cells4 (hw_.1)
      go_simp
      try with_reducible rfl
    · simp only [Act.put, List.setIfInBounds_toArray, List.set_cons_zero, List.set_cons_succ, i64_w, i32_w]
      rfl
    refine hi_pure 3 (some 46) (v := ?_) (L' := #[true, true, false, true, false, false, false, false, false, false, false, false, false, false, false, false, false, false, false, false, false, false, false, false, false, false, false, false, false, false, false, false, false, false, false, false]) (a' := ?_) rfl rfl rfl (by kernel_rfl) (fun _ _ _ h => h) (fun _ => rfl) (fun _ => (HSof9.out _ HBd.out)) (Or.inl ⟨by rfl, ?_⟩) ?_ ?_
    rotate_left 2
    · intro w_
      go_simp
      try with_reducible rfl
    · simp only [Act.put, List.setIfInBounds_toArray, List.set_cons_zero, List.set_cons_succ, i64_w, i32_w]
      rfl
    refine hi_take 5 (some 48) (v := ?_) (L' := #[true, true, false, true, false, true, false, false, false, false, false, false, false, false, false, false, false, false, false, false, false, false, false, false, false, false, false, false, false, false, false, false, false, false, false, false]) (a' := ?_) rfl rfl rfl (by kernel_rfl) (fun _ _ _ h => h) (fun _ => rfl) (HSof9.out _ HBd.out) (Or.inl ⟨by rfl, ?_⟩) ?_ ?_
    rotate_left 2
    · intro w_ hw_
      obtain ⟨k0, k1, k2, k3⟩ := cells4 (hw_.1)
      go_simp
      try with_reducible rfl
    · simp only [Act.put, List.setIfInBounds_toArray, List.set_cons_zero, List.set_cons_succ, i64_w, i32_w]
      rfl
    refine hi_pure 6 (some 49) (v := ?_) (L' := #[true, true, false, true, false, true, true, false, false, false, false, false, false, false, false, false, false, false, false, false, false, false, false, false, false, false, false, false, false, false, false, false, false, false, false, false]) (a' := ?_) rfl rfl rfl (by kernel_rfl) (fun _ _ _ h => h) (fun _ => rfl) (fun _ => (HSof9.out _ HBd.out)) (Or.inl ⟨by rfl, ?_⟩) ?_ ?_
    rotate_left 2
    · intro w_
      go_simp
      try with_reducible rfl
    · simp only [Act.put, List.setIfInBounds_toArray, List.set_cons_zero, List.set_cons_succ, i64_w, i32_w]
      rfl
    refine hi_one 2 (L' := #[true, true, true, true, false, true, true, false, false, false, false, false, false, false, false, false, false, false, false, false, false, false, false, false, false, false, false, false, false, false, false, false, false, false, false, false]) rfl (by kernel_rfl) rfl (fun K hK => ?_)
    go_simp
    gi_wp2_with (refine ⟨trivial, ?_⟩; gi_at_fn 26; refine (callsIn_wide.2 (HC1.out _ HBd.out)).mono ?_; rintro e U0 ⟨B1, rfl, hN, hb_⟩)
    have HU0 := Aside0.mk (below_step HBd.out hb_)
    have HB1 := Aside0.mk hN
    clear hN
    clear hb_
    refine hK.out _ _ (fun _ => HSof9.out _ HU0.out) ?_
    clear hK K
    refine hi_one 4 (L' := #[true, true, true, true, true, true, true, false, false, false, false, false, false, false, false, false, false, false, false, false, false, false, false, false, false, false, false, false, false, false, false, false, false, false, false, false]) rfl (by kernel_rfl) rfl (fun K hK => ?_)
    go_simp
    gi_wp2_with (refine ⟨trivial, ?_⟩; gi_at_call 27; refine (callsIn_wide.2 (HLN.out _ B1 HU0.out (HB1.out))).mono ?_; rintro e U1 ⟨rfl, hb_⟩)
    have HU1 := Aside0.mk (below_step HU0.out hb_)
    clear hb_
    refine hK.out _ _ (fun _ => HSof9.out _ HU1.out) ?_
    clear hK K
    refine hi_one 7 (L' := #[true, true, true, true, true, true, true, true, false, false, false, false, false, false, false, false, false, false, false, false, false, false, false, false, false, false, false, false, false, false, false, false, false, false, false, false]) rfl (by kernel_rfl) rfl (fun K hK => ?_)
    go_simp
    gi_wp2_with (refine ⟨trivial, ?_⟩; gi_at_call 27; refine (callsIn_wide.2 (HLF.out _ HU1.out)).mono ?_; rintro e U2 ⟨rfl, hb_⟩)
    have HU2 := Aside0.mk (below_step HU1.out hb_)
    clear hb_
    refine hK.out _ _ (fun _ => HSof9.out _ HU2.out) ?_
    clear hK K
    refine hi_pure 8 (some 51) (v := ?_) (L' := #[true, true, true, true, true, true, true, true, true, false, false, false, false, false, false, false, false, false, false, false, false, false, false, false, false, false, false, false, false, false, false, false, false, false, false, false]) (a' := ?_) rfl rfl rfl (by kernel_rfl) (fun _ _ _ h => h) (fun _ => rfl) (fun _ => (HSof9.out _ HU2.out)) (Or.inl ⟨by rfl, ?_⟩) ?_ ?_
    rotate_left 2
    · intro w_
      go_simp
      try with_reducible rfl
    · simp only [Act.put, List.setIfInBounds_toArray, List.set_cons_zero, List.set_cons_succ, i64_w, i32_w]
      rfl
    refine hi_pure 9 (some 52) (v := ?_) (L' := #[true, true, true, true, true, true, true, true, true, true, false, false, false, false, false, false, false, false, false, false, false, false, false, false, false, false, false, false, false, false, false, false, false, false, false, false]) (a' := ?_) rfl rfl rfl (by kernel_rfl) (fun _ _ _ h => h) (fun _ => rfl) (fun _ => (HSof9.out _ HU2.out)) (Or.inl ⟨by rfl, ?_⟩) ?_ ?_
    rotate_left 2
    · intro w_
      go_simp
      try with_reducible rfl
    · simp only [Act.put, List.setIfInBounds_toArray, List.set_cons_zero, List.set_cons_succ, i64_w, i32_w]
      rfl
    refine hi_pure 10 (some 53) (v := ?_) (L' := #[true, true, true, true, true, true, true, true, true, true, true, false, false, false, false, false, false, false, false, false, false, false, false, false, false, false, false, false, false, false, false, false, false, false, false, false]) (a' := ?_) rfl rfl rfl (by kernel_rfl) (fun _ _ _ h => h) (fun _ => rfl) (fun _ => (HSof9.out _ HU2.out)) (Or.inl ⟨by rfl, ?_⟩) ?_ ?_
    rotate_left 2
    · intro w_
      go_simp
      try with_reducible rfl
    · simp only [Act.put, List.setIfInBounds_toArray, List.set_cons_zero, List.set_cons_succ, i64_w, i32_w]
      rfl
    refine hi_pure 11 (some 54) (v := ?_) (L' := #[true, true, true, true, true, true, true, true, true, true, true, true, false, false, false, false, false, false, false, false, false, false, false, false, false, false, false, false, false, false, false, false, false, false, false, false]) (a' := ?_) rfl rfl rfl (by kernel_rfl) (fun _ _ _ h => h) (fun _ => rfl) (fun _ => (HSof9.out _ HU2.out)) (Or.inl ⟨by rfl, ?_⟩) ?_ ?_
    rotate_left 2
    · intro w_
      go_simp
      try with_reducible rfl
    · simp only [Act.put, List.setIfInBounds_toArray, List.set_cons_zero, List.set_cons_succ, i64_w, i32_w]
      rfl
    refine hi_take 12 (some 55) (v := ?_) (L' := #[true, true, true, true, true, true, true, true, true, true, true, true, true, false, false, false, false, false, false, false, false, false, false, false, false, false, false, false, false, false, false, false, false, false, false, false]) (a' := ?_) rfl rfl rfl (by kernel_rfl) (fun _ _ _ h => h) (fun _ => rfl) (HSof9.out _ HU2.out) (Or.inl ⟨by rfl, ?_⟩) ?_ ?_
    rotate_left 2
    · intro w_ hw_
      obtain ⟨k0, k1, k2, k3⟩ := cells4 (hw_.2.2.1)
      go_simp
      try with_reducible rfl
    · simp only [Act.put, List.setIfInBounds_toArray, List.set_cons_zero, List.set_cons_succ, i64_w, i32_w]
      rfl
    refine hi_pure 14 (some 57) (v := ?_) (L' := #[true, true, true, true, true, true, true, true, true, true, true, true, true, false, true, false, false, false, false, false, false, false, false, false, false, false, false, false, false, false, false, false, false, false, false, false]) (a' := ?_) rfl rfl rfl (by kernel_rfl) (fun _ _ _ h => h) (fun _ => rfl) (fun _ => (HSof9.out _ HU2.out)) (Or.inl ⟨by rfl, ?_⟩) ?_ ?_
    rotate_left 2
    · intro w_
      go_simp
      try with_reducible rfl
    · simp only [Act.put, List.setIfInBounds_toArray, List.set_cons_zero, List.set_cons_succ, i64_w, i32_w]
      rfl
    refine hi_take 16 (some 59) (v := ?_) (L' := #[true, true, true, true, true, true, true, true, true, true, true, true, true, false, true, false, true, false, false, false, false, false, false, false, false, false, false, false, false, false, false, false, false, false, false, false]) (a' := ?_) rfl rfl rfl (by kernel_rfl) (fun _ _ _ h => h) (fun _ => rfl) (HSof9.out _ HU2.out) (Or.inl ⟨by rfl, ?_⟩) ?_ ?_
    rotate_left 2
    · intro w_ hw_
      obtain ⟨k0, k1, k2, k3⟩ := cells4 (hw_.2.2.2)
      go_simp
      try with_reducible rfl
    · simp only [Act.put, List.setIfInBounds_toArray, List.set_cons_zero, List.set_cons_succ, i64_w, i32_w]
      rfl
    refine hi_pure 17 (some 60) (v := ?_) (L' := #[true, true, true, true, true, true, true, true, true, true, true, true, true, false, true, false, true, true, false, false, false, false, false, false, false, false, false, false, false, false, false, false, false, false, false, false]) (a' := ?_) rfl rfl rfl (by kernel_rfl) (fun _ _ _ h => h) (fun _ => rfl) (fun _ => (HSof9.out _ HU2.out)) (Or.inl ⟨by rfl, ?_⟩) ?_ ?_
    rotate_left 2
    · intro w_
      go_simp
      try with_reducible rfl
    · simp only [Act.put, List.setIfInBounds_toArray, List.set_cons_zero, List.set_cons_succ, i64_w, i32_w]
      rfl
    refine hi_one 13 (L' := #[true, true, true, true, true, true, true, true, true, true, true, true, true, true, true, false, true, true, false, false, false, false, false, false, false, false, false, false, false, false, false, false, false, false, false, false]) rfl (by kernel_rfl) rfl (fun K hK => ?_)
    go_simp
    gi_wp2_with (refine ⟨trivial, ?_⟩; gi_at_fn 26; refine (callsIn_wide.2 (HC2.out _ HU2.out)).mono ?_; rintro e U3 ⟨B2, rfl, hN, hb_⟩)
    have HU3 := Aside0.mk (below_step HU2.out hb_)
    have HB2 := Aside0.mk hN
    clear hN
    clear hb_
    refine hK.out _ _ (fun _ => HSof9.out _ HU3.out) ?_
    clear hK K
    refine hi_one 15 (L' := #[true, true, true, true, true, true, true, true, true, true, true, true, true, true, true, true, true, true, false, false, false, false, false, false, false, false, false, false, false, false, false, false, false, false, false, false]) rfl (by kernel_rfl) rfl (fun K hK => ?_)
    go_simp
    gi_wp2_with (refine ⟨trivial, ?_⟩; gi_at_call 27; refine (callsIn_wide.2 (HLM.out _ B2 HU3.out (HB2.out))).mono ?_; rintro e U4 ⟨rfl, hb_⟩)
    have HU4 := Aside0.mk (below_step HU3.out hb_)
    clear hb_
    refine hK.out _ _ (fun _ => HSof9.out _ HU4.out) ?_
    clear hK K
    refine hi_one 18 (L' := #[true, true, true, true, true, true, true, true, true, true, true, true, true, true, true, true, true, true, true, false, false, false, false, false, false, false, false, false, false, false, false, false, false, false, false, false]) rfl (by kernel_rfl) rfl (fun K hK => ?_)
    go_simp
    gi_wp2_with (refine ⟨trivial, ?_⟩; gi_at_call 27; refine (callsIn_wide.2 (HLO.out _ HU4.out)).mono ?_; rintro e U5 ⟨rfl, hb_⟩)
    have HU5 := Aside0.mk (below_step HU4.out hb_)
    clear hb_
    refine hK.out _ _ (fun _ => HSof9.out _ HU5.out) ?_
    clear hK K
    refine hi_pure 19 (some 62) (v := ?_) (L' := #[true, true, true, true, true, true, true, true, true, true, true, true, true, true, true, true, true, true, true, true, false, false, false, false, false, false, false, false, false, false, false, false, false, false, false, false]) (a' := ?_) rfl rfl rfl (by kernel_rfl) (fun _ _ _ h => h) (fun _ => rfl) (fun _ => (HSof9.out _ HU5.out)) (Or.inl ⟨by rfl, ?_⟩) ?_ ?_
    rotate_left 2
    · intro w_
      go_simp
      try with_reducible rfl
    · simp only [Act.put, List.setIfInBounds_toArray, List.set_cons_zero, List.set_cons_succ, i64_w, i32_w]
      rfl
    refine hi_pure 20 (some 63) (v := ?_) (L' := #[true, true, true, true, true, true, true, true, true, true, true, true, true, true, true, true, true, true, true, true, true, false, false, false, false, false, false, false, false, false, false, false, false, false, false, false]) (a' := ?_) rfl rfl rfl (by kernel_rfl) (fun _ _ _ h => h) (fun _ => rfl) (fun _ => (HSof9.out _ HU5.out)) (Or.inl ⟨by rfl, ?_⟩) ?_ ?_
    rotate_left 2
    · intro w_
      go_simp
      try with_reducible rfl
    · simp only [Act.put, List.setIfInBounds_toArray, List.set_cons_zero, List.set_cons_succ, i64_w, i32_w]
      rfl
    refine hi_pure 21 (some 64) (v := ?_) (L' := #[true, true, true, true, true, true, true, true, true, true, true, true, true, true, true, true, true, true, true, true, true, true, false, false, false, false, false, false, false, false, false, false, false, false, false, false]) (a' := ?_) rfl rfl rfl (by kernel_rfl) (fun _ _ _ h => h) (fun _ => rfl) (fun _ => (HSof9.out _ HU5.out)) (Or.inl ⟨by rfl, ?_⟩) ?_ ?_
    rotate_left 2
    · intro w_
      go_simp
      try with_reducible rfl
    · simp only [Act.put, List.setIfInBounds_toArray, List.set_cons_zero, List.set_cons_succ, i64_w, i32_w]
      rfl
    refine hi_take 22 (some 65) (v := ?_) (L' := #[true, true, true, true, true, true, true, true, true, true, true, true, true, true, true, true, true, true, true, true, true, true, true, false, false, false, false, false, false, false, false, false, false, false, false, false]) (a' := ?_) rfl rfl rfl (by kernel_rfl) (fun _ _ _ h => h) (fun _ => rfl) (HSof9.out _ HU5.out) (Or.inl ⟨by rfl, ?_⟩) ?_ ?_
    rotate_left 2
    · intro w_ hw_
      obtain ⟨k0, k1, k2, k3⟩ := cells4 (hw_.2.2.1)
      go_simp
      try with_reducible rfl
    · simp only [Act.put, List.setIfInBounds_toArray, List.set_cons_zero, List.set_cons_succ, i64_w, i32_w]
      rfl
    refine hi_pure 23 (some 66) (v := ?_) (L' := #[true, true, true, true, true, true, true, true, true, true, true, true, true, true, true, true, true, true, true, true, true, true, true, true, false, false, false, false, false, false, false, false, false, false, false, false]) (a' := ?_) rfl rfl rfl (by kernel_rfl) (fun _ _ _ h => h) (fun _ => rfl) (fun _ => (HSof9.out _ HU5.out)) (Or.inl ⟨by rfl, ?_⟩) ?_ ?_
    rotate_left 2
    · intro w_
      go_simp
      try with_reducible rfl
    · simp only [Act.put, List.setIfInBounds_toArray, List.set_cons_zero, List.set_cons_succ, i64_w, i32_w]
      rfl
    refine hi_take 25 (some 68) (v := ?_) (L' := #[true, true, true, true, true, true, true, true, true, true, true, true, true, true, true, true, true, true, true, true, true, true, true, true, false, true, false, false, false, false, false, false, false, false, false, false]) (a' := ?_) rfl rfl rfl (by kernel_rfl) (fun _ _ _ h => h) (fun _ => rfl) (HSof9.out _ HU5.out) (Or.inl ⟨by rfl, ?_⟩) ?_ ?_
    rotate_left 2
    · intro w_ hw_
      obtain ⟨k0, k1, k2, k3⟩ := cells4 (hw_.1)
      go_simp
      try with_reducible rfl
    · simp only [Act.put, List.setIfInBounds_toArray, List.set_cons_zero, List.set_cons_succ, i64_w, i32_w]
      rfl
    refine hi_pure 26 (some 69) (v := ?_) (L' := #[true, true, true, true, true, true, true, true, true, true, true, true, true, true, true, true, true, true, true, true, true, true, true, true, false, true, true, false, false, false, false, false, false, false, false, false]) (a' := ?_) rfl rfl rfl (by kernel_rfl) (fun _ _ _ h => h) (fun _ => rfl) (fun _ => (HSof9.out _ HU5.out)) (Or.inl ⟨by rfl, ?_⟩) ?_ ?_
    rotate_left 2
    · intro w_
      go_simp
      try with_reducible rfl
    · simp only [Act.put, List.setIfInBounds_toArray, List.set_cons_zero, List.set_cons_succ, i64_w, i32_w]
      rfl
    refine hi_one 24 (L' := #[true, true, true, true, true, true, true, true, true, true, true, true, true, true, true, true, true, true, true, true, true, true, true, true, true, true, true, false, false, false, false, false, false, false, false, false]) rfl (by kernel_rfl) rfl (fun K hK => ?_)
    go_simp
    gi_wp2_with (refine ⟨trivial, ?_⟩; gi_at_call 27; refine (callsIn_wide.2 (HLA.out _ HU5.out)).mono ?_; rintro e U6 ⟨rfl, hb_⟩)
    have HU6 := Aside0.mk (below_step HU5.out hb_)
    clear hb_
    refine hK.out _ _ (fun _ => HSof9.out _ HU6.out) ?_
    clear hK K
    refine hi_one 27 (L' := #[true, true, true, true, true, true, true, true, true, true, true, true, true, true, true, true, true, true, true, true, true, true, true, true, true, true, true, true, false, false, false, false, false, false, false, false]) rfl (by kernel_rfl) rfl (fun K hK => ?_)
    go_simp
    gi_wp2_with (refine ⟨trivial, ?_⟩; gi_at_call 27; refine (callsIn_wide.2 (HLF.out _ HU6.out)).mono ?_; rintro e U7 ⟨rfl, hb_⟩)
    have HU7 := Aside0.mk (below_step HU6.out hb_)
    clear hb_
    refine hK.out _ _ (fun _ => HSof9.out _ HU7.out) ?_
    clear hK K
    refine hi_pure 28 (some 71) (v := ?_) (L' := #[true, true, true, true, true, true, true, true, true, true, true, true, true, true, true, true, true, true, true, true, true, true, true, true, true, true, true, true, true, false, false, false, false, false, false, false]) (a' := ?_) rfl rfl rfl (by kernel_rfl) (fun _ _ _ h => h) (fun _ => rfl) (fun _ => (HSof9.out _ HU7.out)) (Or.inl ⟨by rfl, ?_⟩) ?_ ?_
    rotate_left 2
    · intro w_
      go_simp
      try with_reducible rfl
    · simp only [Act.put, List.setIfInBounds_toArray, List.set_cons_zero, List.set_cons_succ, i64_w, i32_w]
      rfl
    refine hi_take 29 (some 72) (v := ?_) (L' := #[true, true, true, true, true, true, true, true, true, true, true, true, true, true, true, true, true, true, true, true, true, true, true, true, true, true, true, true, true, true, false, false, false, false, false, false]) (a' := ?_) rfl rfl rfl (by kernel_rfl) (fun _ _ _ h => h) (fun _ => rfl) (HSof9.out _ HU7.out) (Or.inl ⟨by rfl, ?_⟩) ?_ ?_
    rotate_left 2
    · intro w_ hw_
      obtain ⟨k0, k1, k2, k3⟩ := cells4 (hw_.2.1)
      go_simp
      try with_reducible rfl
    · simp only [Act.put, List.setIfInBounds_toArray, List.set_cons_zero, List.set_cons_succ, i64_w, i32_w]
      rfl
    refine hi_pure 30 (some 73) (v := ?_) (L' := #[true, true, true, true, true, true, true, true, true, true, true, true, true, true, true, true, true, true, true, true, true, true, true, true, true, true, true, true, true, true, true, false, false, false, false, false]) (a' := ?_) rfl rfl rfl (by kernel_rfl) (fun _ _ _ h => h) (fun _ => rfl) (fun _ => (HSof9.out _ HU7.out)) (Or.inl ⟨by rfl, ?_⟩) ?_ ?_
    rotate_left 2
    · intro w_
      go_simp
      try with_reducible rfl
    · simp only [Act.put, List.setIfInBounds_toArray, List.set_cons_zero, List.set_cons_succ, i64_w, i32_w]
      rfl
    refine hi_one 31 (L' := #[true, true, true, true, true, true, true, true, true, true, true, true, true, true, true, true, true, true, true, true, true, true, true, true, true, true, true, true, true, true, true, true, false, false, false, false]) rfl (by kernel_rfl) rfl (fun K hK => ?_)
    go_simp
    gi_wp2_with (refine ⟨trivial, ?_⟩; gi_at_call 27; refine (callsIn_wide.2 (HLG.out _ HU7.out)).mono ?_; rintro e U8 ⟨rfl, hb_⟩)
    have HU8 := Aside0.mk (below_step HU7.out hb_)
    clear hb_
    refine hK.out _ _ (fun _ => HSof9.out _ HU8.out) ?_
    clear hK K
    refine hi_pure 32 (some 75) (v := ?_) (L' := #[true, true, true, true, true, true, true, true, true, true, true, true, true, true, true, true, true, true, true, true, true, true, true, true, true, true, true, true, true, true, true, true, true, false, false, false]) (a' := ?_) rfl rfl rfl (by kernel_rfl) (fun _ _ _ h => h) (fun _ => rfl) (fun _ => (HSof9.out _ HU8.out)) (Or.inl ⟨by rfl, ?_⟩) ?_ ?_
    rotate_left 2
    · intro w_
      go_simp
      try with_reducible rfl
    · simp only [Act.put, List.setIfInBounds_toArray, List.set_cons_zero, List.set_cons_succ, i64_w, i32_w]
      rfl
    refine hi_pure 33 (some 76) (v := ?_) (L' := #[true, true, true, true, true, true, true, true, true, true, true, true, true, true, true, true, true, true, true, true, true, true, true, true, true, true, true, true, true, true, true, true, true, true, false, false]) (a' := ?_) rfl rfl rfl (by kernel_rfl) (fun _ _ _ h => h) (fun _ => rfl) (fun _ => (HSof9.out _ HU8.out)) (Or.inl ⟨by rfl, ?_⟩) ?_ ?_
    rotate_left 2
    · intro w_
      go_simp
      try with_reducible rfl
    · simp only [Act.put, List.setIfInBounds_toArray, List.set_cons_zero, List.set_cons_succ, i64_w, i32_w]
      rfl
    refine hi_pure 34 (some 77) (v := ?_) (L' := #[true, true, true, true, true, true, true, true, true, true, true, true, true, true, true, true, true, true, true, true, true, true, true, true, true, true, true, true, true, true, true, true, true, true, true, false]) (a' := ?_) rfl rfl rfl (by kernel_rfl) (fun _ _ _ h => h) (fun _ => rfl) (fun _ => (HSof9.out _ HU8.out)) (Or.inl ⟨by rfl, ?_⟩) ?_ ?_
    rotate_left 2
    · intro w_
      go_simp
      try with_reducible rfl
    · simp only [Act.put, List.setIfInBounds_toArray, List.set_cons_zero, List.set_cons_succ, i64_w, i32_w]
      rfl
    refine hi_pure 35 (some 6) (v := ?_) (L' := #[true, true, true, true, true, true, true, true, true, true, true, true, true, true, true, true, true, true, true, true, true, true, true, true, true, true, true, true, true, true, true, true, true, true, true, true]) (a' := ?_) rfl rfl rfl (by kernel_rfl) (fun _ _ _ h => h) (fun _ => rfl) (fun _ => (HSof9.out _ HU8.out)) (Or.inl ⟨by rfl, ?_⟩) ?_ ?_
    rotate_left 2
    · intro w_
      go_simp
      try with_reducible rfl
    · simp only [Act.put, List.setIfInBounds_toArray, List.set_cons_zero, List.set_cons_succ, i64_w, i32_w]
      rfl
    refine hi_done (by kernel_rfl) ?_ _
    gi_wp2
    refine bodyPost_ret (results_tmp rfl _ _ _) rfl ?_
    exact ⟨rfl, below_step HBV.out HU8.out⟩
  · skip
    refine hi_pure 0 (some 43) (v := ?_) (L' := #[true, false, false, false, false, false, false, false, false, false, false, false, false, false, false, false, false, false, false, false, false, false, false, false, false, false, false, false, false, false, false, false, false, false, false, false]) (a' := ?_) rfl rfl rfl (by kernel_rfl) (fun _ _ _ h => h) (fun _ => rfl) (fun _ => (HSof9.out _ HBd.out)) (Or.inl ⟨by rfl, ?_⟩) ?_ ?_
    rotate_left 2
    · intro w_
      go_simp
      try with_reducible rfl
    · simp only [Act.put, List.setIfInBounds_toArray, List.set_cons_zero, List.set_cons_succ, i64_w, i32_w]
      rfl
    refine hi_take 1 (some 44) (v := ?_) (L' := #[true, true, false, false, false, false, false, false, false, false, false, false, false, false, false, false, false, false, false, false, false, false, false, false, false, false, false, false, false, false, false, false, false, false, false, false]) (a' := ?_) rfl rfl rfl (by kernel_rfl) (fun _ _ _ h => h) (fun _ => rfl) (HSof9.out _ HBd.out) (Or.inl ⟨by rfl, ?_⟩) ?_ ?_
    rotate_left 2
    · intro w_ hw_
      obtain ⟨k0, k1, k2, k3⟩ := cells4 (hw_.1)
      go_simp
      try with_reducible rfl
    · simp only [Act.put, List.setIfInBounds_toArray, List.set_cons_zero, List.set_cons_succ, i64_w, i32_w]
      rfl
    refine hi_pure 3 (some 46) (v := ?_) (L' := #[true, true, false, true, false, false, false, false, false, false, false, false, false, false, false, false, false, false, false, false, false, false, false, false, false, false, false, false, false, false, false, false, false, false, false, false]) (a' := ?_) rfl rfl rfl (by kernel_rfl) (fun _ _ _ h => h) (fun _ => rfl) (fun _ => (HSof9.out _ HBd.out)) (Or.inl ⟨by rfl, ?_⟩) ?_ ?_
    rotate_left 2
    · intro w_
      go_simp
      try with_reducible rfl
    · simp only [Act.put, List.setIfInBounds_toArray, List.set_cons_zero, List.set_cons_succ, i64_w, i32_w]
      rfl
    refine hi_take 5 (some 48) (v := ?_) (L' := #[true, true, false, true, false, true, false, false, false, false, false, false, false, false, false, false, false, false, false, false, false, false, false, false, false, false, false, false, false, false, false, false, false, false, false, false]) (a' := ?_) rfl rfl rfl (by kernel_rfl) (fun _ _ _ h => h) (fun _ => rfl) (HSof9.out _ HBd.out) (Or.inl ⟨by rfl, ?_⟩) ?_ ?_
    rotate_left 2
    · intro w_ hw_
      obtain ⟨k0, k1, k2, k3⟩ := cells4 (hw_.1)
      go_simp
      try with_reducible rfl
    · simp only [Act.put, List.setIfInBounds_toArray, List.set_cons_zero, List.set_cons_succ, i64_w, i32_w]
      rfl
    refine hi_pure 6 (some 49) (v := ?_) (L' := #[true, true, false, true, false, true, true, false, false, false, false, false, false, false, false, false, false, false, false, false, false, false, false, false, false, false, false, false, false, false, false, false, false, false, false, false]) (a' := ?_) rfl rfl rfl (by kernel_rfl) (fun _ _ _ h => h) (fun _ => rfl) (fun _ => (HSof9.out _ HBd.out)) (Or.inl ⟨by rfl, ?_⟩) ?_ ?_
    rotate_left 2
    · intro w_
      go_simp
      try with_reducible rfl
    · simp only [Act.put, List.setIfInBounds_toArray, List.set_cons_zero, List.set_cons_succ, i64_w, i32_w]
      rfl
    refine hi_one 2 (L' := #[true, true, true, true, false, true, true, false, false, false, false, false, false, false, false, false, false, false, false, false, false, false, false, false, false, false, false, false, false, false, false, false, false, false, false, false]) rfl (by kernel_rfl) rfl (fun K hK => ?_)
    go_simp
    gi_wp2_with (refine ⟨trivial, ?_⟩; gi_at_fn 26; refine (callsIn_wide.2 (HC1.out _ HBd.out)).mono ?_; rintro e U0 ⟨B1, rfl, hN, hb_⟩)
    have HU0 := Aside0.mk (below_step HBd.out hb_)
    have HB1 := Aside0.mk hN
    clear hN
    clear hb_
    refine hK.out _ _ (fun _ => HSof9.out _ HU0.out) ?_
    clear hK K
    refine hi_one 4 (L' := #[true, true, true, true, true, true, true, false, false, false, false, false, false, false, false, false, false, false, false, false, false, false, false, false, false, false, false, false, false, false, false, false, false, false, false, false]) rfl (by kernel_rfl) rfl (fun K hK => ?_)
    go_simp
    gi_wp2_with (refine ⟨trivial, ?_⟩; gi_at_call 27; refine (callsIn_wide.2 (HLN.out _ B1 HU0.out (HB1.out))).mono ?_; rintro e U1 ⟨rfl, hb_⟩)
    have HU1 := Aside0.mk (below_step HU0.out hb_)
    clear hb_
    refine hK.out _ _ (fun _ => HSof9.out _ HU1.out) ?_
    clear hK K
    refine hi_one 7 (L' := #[true, true, true, true, true, true, true, true, false, false, false, false, false, false, false, false, false, false, false, false, false, false, false, false, false, false, false, false, false, false, false, false, false, false, false, false]) rfl (by kernel_rfl) rfl (fun K hK => ?_)
    go_simp
    gi_wp2_with (refine ⟨trivial, ?_⟩; gi_at_call 27; refine (callsIn_wide.2 (HLF.out _ HU1.out)).mono ?_; rintro e U2 ⟨rfl, hb_⟩)
    have HU2 := Aside0.mk (below_step HU1.out hb_)
    clear hb_
    refine hK.out _ _ (fun _ => HSof9.out _ HU2.out) ?_
    clear hK K
    refine hi_pure 8 (some 51) (v := ?_) (L' := #[true, true, true, true, true, true, true, true, true, false, false, false, false, false, false, false, false, false, false, false, false, false, false, false, false, false, false, false, false, false, false, false, false, false, false, false]) (a' := ?_) rfl rfl rfl (by kernel_rfl) (fun _ _ _ h => h) (fun _ => rfl) (fun _ => (HSof9.out _ HU2.out)) (Or.inl ⟨by rfl, ?_⟩) ?_ ?_
    rotate_left 2
    · intro w_
      go_simp
      try with_reducible rfl
    · simp only [Act.put, List.setIfInBounds_toArray, List.set_cons_zero, List.set_cons_succ, i64_w, i32_w]
      rfl
    refine hi_pure 9 (some 52) (v := ?_) (L' := #[true, true, true, true, true, true, true, true, true, true, false, false, false, false, false, false, false, false, false, false, false, false, false, false, false, false, false, false, false, false, false, false, false, false, false, false]) (a' := ?_) rfl rfl rfl (by kernel_rfl) (fun _ _ _ h => h) (fun _ => rfl) (fun _ => (HSof9.out _ HU2.out)) (Or.inl ⟨by rfl, ?_⟩) ?_ ?_
    rotate_left 2
    · intro w_
      go_simp
      try with_reducible rfl
    · simp only [Act.put, List.setIfInBounds_toArray, List.set_cons_zero, List.set_cons_succ, i64_w, i32_w]
      rfl
    refine hi_pure 10 (some 53) (v := ?_) (L' := #[true, true, true, true, true, true, true, true, true, true, true, false, false, false, false, false, false, false, false, false, false, false, false, false, false, false, false, false, false, false, false, false, false, false, false, false]) (a' := ?_) rfl rfl rfl (by kernel_rfl) (fun _ _ _ h => h) (fun _ => rfl) (fun _ => (HSof9.out _ HU2.out)) (Or.inl ⟨by rfl, ?_⟩) ?_ ?_
    rotate_left 2
    · intro w_
      go_simp
      try with_reducible rfl
    · simp only [Act.put, List.setIfInBounds_toArray, List.set_cons_zero, List.set_cons_succ, i64_w, i32_w]
      rfl
    refine hi_pure 11 (some 54) (v := ?_) (L' := #[true, true, true, true, true, true, true, true, true, true, true, true, false, false, false, false, false, false, false, false, false, false, false, false, false, false, false, false, false, false, false, false, false, false, false, false]) (a' := ?_) rfl rfl rfl (by kernel_rfl) (fun _ _ _ h => h) (fun _ => rfl) (fun _ => (HSof9.out _ HU2.out)) (Or.inl ⟨by rfl, ?_⟩) ?_ ?_
    rotate_left 2
    · intro w_
      go_simp
      try with_reducible rfl
    · simp only [Act.put, List.setIfInBounds_toArray, List.set_cons_zero, List.set_cons_succ, i64_w, i32_w]
      rfl
    refine hi_take 12 (some 55) (v := ?_) (L' := #[true, true, true, true, true, true, true, true, true, true, true, true, true, false, false, false, false, false, false, false, false, false, false, false, false, false, false, false, false, false, false, false, false, false, false, false]) (a' := ?_) rfl rfl rfl (by kernel_rfl) (fun _ _ _ h => h) (fun _ => rfl) (HSof9.out _ HU2.out) (Or.inl ⟨by rfl, ?_⟩) ?_ ?_
    rotate_left 2
    · intro w_ hw_
      obtain ⟨k0, k1, k2, k3⟩ := cells4 (hw_.2.2.1)
      go_simp
      try with_reducible rfl
    · simp only [Act.put, List.setIfInBounds_toArray, List.set_cons_zero, List.set_cons_succ, i64_w, i32_w]
      rfl
    refine hi_pure 14 (some 57) (v := ?_) (L' := #[true, true, true, true, true, true, true, true, true, true, true, true, true, false, true, false, false, false, false, false, false, false, false, false, false, false, false, false, false, false, false, false, false, false, false, false]) (a' := ?_) rfl rfl rfl (by kernel_rfl) (fun _ _ _ h => h) (fun _ => rfl) (fun _ => (HSof9.out _ HU2.out)) (Or.inl ⟨by rfl, ?_⟩) ?_ ?_
    rotate_left 2
    · intro w_
      go_simp
      try with_reducible rfl
    · simp only [Act.put, List.setIfInBounds_toArray, List.set_cons_zero, List.set_cons_succ, i64_w, i32_w]
      rfl
    refine hi_take 16 (some 59) (v := ?_) (L' := #[true, true, true, true, true, true, true, true, true, true, true, true, true, false, true, false, true, false, false, false, false, false, false, false, false, false, false, false, false, false, false, false, false, false, false, false]) (a' := ?_) rfl rfl rfl (by kernel_rfl) (fun _ _ _ h => h) (fun _ => rfl) (HSof9.out _ HU2.out) (Or.inl ⟨by rfl, ?_⟩) ?_ ?_
    rotate_left 2
    · intro w_ hw_
      obtain ⟨k0, k1, k2, k3⟩ := cells4 (hw_.2.2.2)
      go_simp
      try with_reducible rfl
    · simp only [Act.put, List.setIfInBounds_toArray, List.set_cons_zero, List.set_cons_succ, i64_w, i32_w]
      rfl
    refine hi_pure 17 (some 60) (v := ?_) (L' := #[true, true, true, true, true, true, true, true, true, true, true, true, true, false, true, false, true, true, false, false, false, false, false, false, false, false, false, false, false, false, false, false, false, false, false, false]) (a' := ?_) rfl rfl rfl (by kernel_rfl) (fun _ _ _ h => h) (fun _ => rfl) (fun _ => (HSof9.out _ HU2.out)) (Or.inl ⟨by rfl, ?_⟩) ?_ ?_
    rotate_left 2
    · intro w_
      go_simp
      try with_reducible rfl
    · simp only [Act.put, List.setIfInBounds_toArray, List.set_cons_zero, List.set_cons_succ, i64_w, i32_w]
      rfl
    refine hi_one 13 (L' := #[true, true, true, true, true, true, true, true, true, true, true, true, true, true, true, false, true, true, false, false, false, false, false, false, false, false, false, false, false, false, false, false, false, false, false, false]) rfl (by kernel_rfl) rfl (fun K hK => ?_)
    go_simp
    gi_wp2_with (refine ⟨trivial, ?_⟩; gi_at_fn 26; refine (callsIn_wide.2 (HC2.out _ HU2.out)).mono ?_; rintro e U3 ⟨B2, rfl, hN, hb_⟩)
    have HU3 := Aside0.mk (below_step HU2.out hb_)
    have HB2 := Aside0.mk hN
    clear hN
    clear hb_
    refine hK.out _ _ (fun _ => HSof9.out _ HU3.out) ?_
    clear hK K
    refine hi_one 15 (L' := #[true, true, true, true, true, true, true, true, true, true, true, true, true, true, true, true, true, true, false, false, false, false, false, false, false, false, false, false, false, false, false, false, false, false, false, false]) rfl (by kernel_rfl) rfl (fun K hK => ?_)
    go_simp
    gi_wp2_with (refine ⟨trivial, ?_⟩; gi_at_call 27; refine (callsIn_wide.2 (HLM.out _ B2 HU3.out (HB2.out))).mono ?_; rintro e U4 ⟨rfl, hb_⟩)
    have HU4 := Aside0.mk (below_step HU3.out hb_)
    clear hb_
    refine hK.out _ _ (fun _ => HSof9.out _ HU4.out) ?_
    clear hK K
    refine hi_one 18 (L' := #[true, true, true, true, true, true, true, true, true, true, true, true, true, true, true, true, true, true, true, false, false, false, false, false, false, false, false, false, false, false, false, false, false, false, false, false]) rfl (by kernel_rfl) rfl (fun K hK => ?_)
    go_simp
    gi_wp2_with (refine ⟨trivial, ?_⟩; gi_at_call 27; refine (callsIn_wide.2 (HLO.out _ HU4.out)).mono ?_; rintro e U5 ⟨rfl, hb_⟩)
    have HU5 := Aside0.mk (below_step HU4.out hb_)
    clear hb_
    refine hK.out _ _ (fun _ => HSof9.out _ HU5.out) ?_
    clear hK K
    refine hi_pure 19 (some 62) (v := ?_) (L' := #[true, true, true, true, true, true, true, true, true, true, true, true, true, true, true, true, true, true, true, true, false, false, false, false, false, false, false, false, false, false, false, false, false, false, false, false]) (a' := ?_) rfl rfl rfl (by kernel_rfl) (fun _ _ _ h => h) (fun _ => rfl) (fun _ => (HSof9.out _ HU5.out)) (Or.inl ⟨by rfl, ?_⟩) ?_ ?_
    rotate_left 2
    · intro w_
      go_simp
      try with_reducible rfl
    · simp only [Act.put, List.setIfInBounds_toArray, List.set_cons_zero, List.set_cons_succ, i64_w, i32_w]
      rfl
    refine hi_pure 20 (some 63) (v := ?_) (L' := #[true, true, true, true, true, true, true, true, true, true, true, true, true, true, true, true, true, true, true, true, true, false, false, false, false, false, false, false, false, false, false, false, false, false, false, false]) (a' := ?_) rfl rfl rfl (by kernel_rfl) (fun _ _ _ h => h) (fun _ => rfl) (fun _ => (HSof9.out _ HU5.out)) (Or.inl ⟨by rfl, ?_⟩) ?_ ?_
    rotate_left 2
    · intro w_
      go_simp
      try with_reducible rfl
    · simp only [Act.put, List.setIfInBounds_toArray, List.set_cons_zero, List.set_cons_succ, i64_w, i32_w]
      rfl
    refine hi_pure 21 (some 64) (v := ?_) (L' := #[true, true, true, true, true, true, true, true, true, true, true, true, true, true, true, true, true, true, true, true, true, true, false, false, false, false, false, false, false, false, false, false, false, false, false, false]) (a' := ?_) rfl rfl rfl (by kernel_rfl) (fun _ _ _ h => h) (fun _ => rfl) (fun _ => (HSof9.out _ HU5.out)) (Or.inl ⟨by rfl, ?_⟩) ?_ ?_
    rotate_left 2
    · intro w_
      go_simp
      try with_reducible rfl
    · simp only [Act.put, List.setIfInBounds_toArray, List.set_cons_zero, List.set_cons_succ, i64_w, i32_w]
      rfl
    refine hi_take 22 (some 65) (v := ?_) (L' := #[true, true, true, true, true, true, true, true, true, true, true, true, true, true, true, true, true, true, true, true, true, true, true, false, false, false, false, false, false, false, false, false, false, false, false, false]) (a' := ?_) rfl rfl rfl (by kernel_rfl) (fun _ _ _ h => h) (fun _ => rfl) (HSof9.out _ HU5.out) (Or.inl ⟨by rfl, ?_⟩) ?_ ?_
    rotate_left 2
    · intro w_ hw_
      obtain ⟨k0, k1, k2, k3⟩ := cells4 (hw_.2.2.1)
      go_simp
      try with_reducible rfl
    · simp only [Act.put, List.setIfInBounds_toArray, List.set_cons_zero, List.set_cons_succ, i64_w, i32_w]
      rfl
    refine hi_pure 23 (some 66) (v := ?_) (L' := #[true, true, true, true, true, true, true, true, true, true, true, true, true, true, true, true, true, true, true, true, true, true, true, true, false, false, false, false, false, false, false, false, false, false, false, false]) (a' := ?_) rfl rfl rfl (by kernel_rfl) (fun _ _ _ h => h) (fun _ => rfl) (fun _ => (HSof9.out _ HU5.out)) (Or.inl ⟨by rfl, ?_⟩) ?_ ?_
    rotate_left 2
    · intro w_
      go_simp
      try with_reducible rfl
    · simp only [Act.put, List.setIfInBounds_toArray, List.set_cons_zero, List.set_cons_succ, i64_w, i32_w]
      rfl
    refine hi_take 25 (some 68) (v := ?_) (L' := #[true, true, true, true, true, true, true, true, true, true, true, true, true, true, true, true, true, true, true, true, true, true, true, true, false, true, false, false, false, false, false, false, false, false, false, false]) (a' := ?_) rfl rfl rfl (by kernel_rfl) (fun _ _ _ h => h) (fun _ => rfl) (HSof9.out _ HU5.out) (Or.inl ⟨by rfl, ?_⟩) ?_ ?_
    rotate_left 2
    · intro w_ hw_
      obtain ⟨k0, k1, k2, k3⟩ := cells4 (hw_.1)
      go_simp
      try with_reducible rfl
    · simp only [Act.put, List.setIfInBounds_toArray, List.set_cons_zero, List.set_cons_succ, i64_w, i32_w]
      rfl
    refine hi_pure 26 (some 69) (v := ?_) (L' := #[true, true, true, true, true, true, true, true, true, true, true, true, true, true, true, true, true, true, true, true, true, true, true, true, false, true, true, false, false, false, false, false, false, false, false, false]) (a' := ?_) rfl rfl rfl (by kernel_rfl) (fun _ _ _ h => h) (fun _ => rfl) (fun _ => (HSof9.out _ HU5.out)) (Or.inl ⟨by rfl, ?_⟩) ?_ ?_
    rotate_left 2
    · intro w_
      go_simp
      try with_reducible rfl
    · simp only [Act.put, List.setIfInBounds_toArray, List.set_cons_zero, List.set_cons_succ, i64_w, i32_w]
      rfl
    refine hi_one 24 (L' := #[true, true, true, true, true, true, true, true, true, true, true, true, true, true, true, true, true, true, true, true, true, true, true, true, true, true, true, false, false, false, false, false, false, false, false, false]) rfl (by kernel_rfl) rfl (fun K hK => ?_)
    go_simp
    gi_wp2_with (refine ⟨trivial, ?_⟩; gi_at_call 27; refine (callsIn_wide.2 (HLA.out _ HU5.out)).mono ?_; rintro e U6 ⟨rfl, hb_⟩)
    have HU6 := Aside0.mk (below_step HU5.out hb_)
    clear hb_
    refine hK.out _ _ (fun _ => HSof9.out _ HU6.out) ?_
    clear hK K
    refine hi_one 27 (L' := #[true, true, true, true, true, true, true, true, true, true, true, true, true, true, true, true, true, true, true, true, true, true, true, true, true, true, true, true, false, false, false, false, false, false, false, false]) rfl (by kernel_rfl) rfl (fun K hK => ?_)
    go_simp
    gi_wp2_with (refine ⟨trivial, ?_⟩; gi_at_call 27; refine (callsIn_wide.2 (HLF.out _ HU6.out)).mono ?_; rintro e U7 ⟨rfl, hb_⟩)
    have HU7 := Aside0.mk (below_step HU6.out hb_)
    clear hb_
    refine hK.out _ _ (fun _ => HSof9.out _ HU7.out) ?_
    clear hK K
    refine hi_pure 28 (some 71) (v := ?_) (L' := #[true, true, true, true, true, true, true, true, true, true, true, true, true, true, true, true, true, true, true, true, true, true, true, true, true, true, true, true, true, false, false, false, false, false, false, false]) (a' := ?_) rfl rfl rfl (by kernel_rfl) (fun _ _ _ h => h) (fun _ => rfl) (fun _ => (HSof9.out _ HU7.out)) (Or.inl ⟨by rfl, ?_⟩) ?_ ?_
    rotate_left 2
    · intro w_
      go_simp
      try with_reducible rfl
    · simp only [Act.put, List.setIfInBounds_toArray, List.set_cons_zero, List.set_cons_succ, i64_w, i32_w]
      rfl
    refine hi_take 29 (some 72) (v := ?_) (L' := #[true, true, true, true, true, true, true, true, true, true, true, true, true, true, true, true, true, true, true, true, true, true, true, true, true, true, true, true, true, true, false, false, false, false, false, false]) (a' := ?_) rfl rfl rfl (by kernel_rfl) (fun _ _ _ h => h) (fun _ => rfl) (HSof9.out _ HU7.out) (Or.inl ⟨by rfl, ?_⟩) ?_ ?_
    rotate_left 2
    · intro w_ hw_
      obtain ⟨k0, k1, k2, k3⟩ := cells4 (hw_.2.1)
      go_simp
      try with_reducible rfl
    · simp only [Act.put, List.setIfInBounds_toArray, List.set_cons_zero, List.set_cons_succ, i64_w, i32_w]
      rfl
    refine hi_pure 30 (some 73) (v := ?_) (L' := #[true, true, true, true, true, true, true, true, true, true, true, true, true, true, true, true, true, true, true, true, true, true, true, true, true, true, true, true, true, true, true, false, false, false, false, false]) (a' := ?_) rfl rfl rfl (by kernel_rfl) (fun _ _ _ h => h) (fun _ => rfl) (fun _ => (HSof9.out _ HU7.out)) (Or.inl ⟨by rfl, ?_⟩) ?_ ?_
    rotate_left 2
    · intro w_
      go_simp
      try with_reducible rfl
    · simp only [Act.put, List.setIfInBounds_toArray, List.set_cons_zero, List.set_cons_succ, i64_w, i32_w]
      rfl
    refine hi_one 31 (L' := #[true, true, true, true, true, true, true, true, true, true, true, true, true, true, true, true, true, true, true, true, true, true, true, true, true, true, true, true, true, true, true, true, false, false, false, false]) rfl (by kernel_rfl) rfl (fun K hK => ?_)
    go_simp
    gi_wp2_with (refine ⟨trivial, ?_⟩; gi_at_call 27; refine (callsIn_wide.2 (HLG.out _ HU7.out)).mono ?_; rintro e U8 ⟨rfl, hb_⟩)
    have HU8 := Aside0.mk (below_step HU7.out hb_)
    clear hb_
    refine hK.out _ _ (fun _ => HSof9.out _ HU8.out) ?_
    clear hK K
    refine hi_pure 32 (some 75) (v := ?_) (L' := #[true, true, true, true, true, true, true, true, true, true, true, true, true, true, true, true, true, true, true, true, true, true, true, true, true, true, true, true, true, true, true, true, true, false, false, false]) (a' := ?_) rfl rfl rfl (by kernel_rfl) (fun _ _ _ h => h) (fun _ => rfl) (fun _ => (HSof9.out _ HU8.out)) (Or.inl ⟨by rfl, ?_⟩) ?_ ?_
    rotate_left 2
    · intro w_
      go_simp
      try with_reducible rfl
    · simp only [Act.put, List.setIfInBounds_toArray, List.set_cons_zero, List.set_cons_succ, i64_w, i32_w]
      rfl
    refine hi_pure 33 (some 76) (v := ?_) (L' := #[true, true, true, true, true, true, true, true, true, true, true, true, true, true, true, true, true, true, true, true, true, true, true, true, true, true, true, true, true, true, true, true, true, true, false, false]) (a' := ?_) rfl rfl rfl (by kernel_rfl) (fun _ _ _ h => h) (fun _ => rfl) (fun _ => (HSof9.out _ HU8.out)) (Or.inl ⟨by rfl, ?_⟩) ?_ ?_
    rotate_left 2
    · intro w_
      go_simp
      try with_reducible rfl
    · simp only [Act.put, List.setIfInBounds_toArray, List.set_cons_zero, List.set_cons_succ, i64_w, i32_w]
      rfl
    refine hi_pure 34 (some 77) (v := ?_) (L' := #[true, true, true, true, true, true, true, true, true, true, true, true, true, true, true, true, true, true, true, true, true, true, true, true, true, true, true, true, true, true, true, true, true, true, true, false]) (a' := ?_) rfl rfl rfl (by kernel_rfl) (fun _ _ _ h => h) (fun _ => rfl) (fun _ => (HSof9.out _ HU8.out)) (Or.inl ⟨by rfl, ?_⟩) ?_ ?_
    rotate_left 2
    · intro w_
      go_simp
      try with_reducible rfl
    · simp only [Act.put, List.setIfInBounds_toArray, List.set_cons_zero, List.set_cons_succ, i64_w, i32_w]
      rfl
    refine hi_pure 35 (some 6) (v := ?_) (L' := #[true, true, true, true, true, true, true, true, true, true, true, true, true, true, true, true, true, true, true, true, true, true, true, true, true, true, true, true, true, true, true, true, true, true, true, true]) (a' := ?_) rfl rfl rfl (by kernel_rfl) (fun _ _ _ h => h) (fun _ => rfl) (fun _ => (HSof9.out _ HU8.out)) (Or.inl ⟨by rfl, ?_⟩) ?_ ?_
    rotate_left 2
    · intro w_
      go_simp
      try with_reducible rfl
    · simp only [Act.put, List.setIfInBounds_toArray, List.set_cons_zero, List.set_cons_succ, i64_w, i32_w]
      rfl
    refine hi_done (by kernel_rfl) ?_ _
    gi_wp2
    refine bodyPost_ret (results_tmp rfl _ _ _) rfl ?_
    exact ⟨rfl, below_step HBV.out HU8.out⟩
end Go.Proofs.YtfejjfbhlmjkeaaDoor.F
