/- MatchOrder: the walk of the law. -/
import Derived.Test.YtfejjfbhlmjkeaaDoorF6
set_option linter.unusedVariables false
set_option linter.unusedSimpArgs false
namespace Go.Proofs.YtfejjfbhlmjkeaaDoor.F
open Go.RowKit Go.Shelf Go.Proofs.YtfejjfbhlmjkeaaDoor.Hi Go.Proofs.YtfejjfbhlmjkeaaDoorW.PrintWords Go.Proofs.YtfejjfbhlmjkeaaDoorW.PrintLast Go.Proofs.YtfejjfbhlmjkeaaDoorW.PrintMore Go.Proofs.YtfejjfbhlmjkeaaDoor.B Go.Proofs.YtfejjfbhlmjkeaaDoor.W Go.Proofs.YtfejjfbhlmjkeaaDoor.M Go.Proofs.YtfejjfbhlmjkeaaDoor.PMatchNot

theorem isT_three {w : World} {g : Nat} {x y z : S36} {A B D : Option Addr} {c c' c2 : Nat} {t : TypeId} {d : Nat} (hx : IsT d w x A c) (hy : IsT d w y B c') (hz : IsT d w z D c2) (op : Int)
    (h : w.heap[g]? = some (.cells #[.int .i64 x.f0, .string x.f1, .string x.f2, .slice A x.f3.length c, .int .i64 y.f0, .string y.f1, .string y.f2, .slice B y.f3.length c', .int .i64 z.f0, .string z.f1, .string z.f2, .slice D z.f3.length c2] t (0, 0))) : IsT (d + 1) w ⟨op, ⟨#[]⟩, ⟨#[]⟩, [x, y, z]⟩ (some ⟨g, 0, none⟩) 3 :=
  ⟨⟨Nat.zero_le _, Nat.zero_le _, by simp, fun k hk => by
    rcases List.mem_cons.1 hk with rfl | hk
    · exact hx.1
    · rcases List.mem_cons.1 hk with rfl | hk
      · exact hy.1
      · rw [List.mem_singleton.1 hk]; exact hz.1⟩, (rows_of h [x, y, z] (by simp) fun j u hu => by
    match j, hu with
    | 0, hu => cases hu; exact ⟨A, c, hx.2.2, hx.2.1, rfl, rfl, rfl, rfl⟩
    | 1, hu => cases hu; exact ⟨B, c', hy.2.2, hy.2.1, rfl, rfl, rfl, rfl⟩
    | 2, hu => cases hu; exact ⟨D, c2, hz.2.2, hz.2.1, rfl, rfl, rfl, rfl⟩
    | j + 3, hu => cases hu), Nat.le_refl _⟩
theorem lineV_and3 (line : ByteArray) (d : Nat) (x y z : S36) (n t : ByteArray) : lineV line (d + 1) ⟨7, n, t, [x, y, z]⟩ = (lineV line d x && lineV line d y && lineV line d z) := by
  show ((([x, y, z] : List S36).any fun k => !lineV line d k) == ((7 : Int) == 6)) = _
  cases h : lineV line d x <;> cases h' : lineV line d y <;> cases h2 : lineV line d z <;> simp [h, h', h2]
theorem lineV_or3 (line : ByteArray) (d : Nat) (x y z : S36) (n t : ByteArray) : lineV line (d + 1) ⟨8, n, t, [x, y, z]⟩ = (lineV line d x || lineV line d y || lineV line d z) := by
  show (([x, y, z] : List S36).any (lineV line d)) = _
  simp [Bool.or_assoc]
theorem cells2 {W : World} {b : Nat} {a c : Value} {t : TypeId} (h : W.heap[b]? = some (.cells #[a, c] t (0, 0))) : W.cell? ⟨b, 0, none⟩ = some a ∧ W.cell? ⟨b, 1, none⟩ = some c := ⟨by rw [blk_cell h]; rfl, by rw [blk_cell h]; rfl⟩
set_option maxRecDepth 20000 in
set_option maxHeartbeats 4000000 in
theorem matchOrder_all (a b : List Int) (line : ByteArray) (Aa Ab : Option Addr) (ca cb : Nat) (W : World) (hC : Con W) (hS : Spl W) (ha : Kd.C (Kd.int .i64) W Aa a.length a) (hb : Kd.C (Kd.int .i64) W Ab b.length b) :
    Calls Tryd.prog 7 #[.slice Aa a.length ca, .slice Ab b.length cb, .string line] W fun e w' => e = .returned (.bool true) ∧ Below W.heap.size W w' := by
  have HA0 := fun w => Aside0.mk (alive9 w)
  by_cases h1 : (300 : Int) < (a.length : Int)
  · have d1 : decide ((300 : Int) < (a.length : Int)) = true := decide_eq_true h1
    clear h1 hC hS ha hb
    go_enter Tryd.func7, Tryd.ntmps7
    go_wp2_with (go_at_call 24; refine ((HA0 _).out).mono ?_; rintro e W1 ⟨rfl, hb1⟩; have HB1 := Aside0.mk hb1; clear hb1)
    go_ret
    exact ⟨rfl, HB1.out⟩
  have d1 : decide ((300 : Int) < (a.length : Int)) = false := decide_eq_false h1
  by_cases h2 : (300 : Int) < (b.length : Int)
  · have d2 : decide ((300 : Int) < (b.length : Int)) = true := decide_eq_true h2
    clear h1 h2 hC hS ha hb
    go_enter Tryd.func7, Tryd.ntmps7
    go_wp2_with (go_at_call 24; refine ((HA0 _).out).mono ?_; rintro e W1 ⟨rfl, hb1⟩; have HB1 := Aside0.mk hb1; clear hb1)
    go_ret
    exact ⟨rfl, HB1.out⟩
  have d2 : decide ((300 : Int) < (b.length : Int)) = false := decide_eq_false h2
  by_cases h3 : (1000 : Int) < (line.size : Int)
  · have d3 : decide ((1000 : Int) < (line.size : Int)) = true := decide_eq_true h3
    clear h1 h2 h3 hC hS ha hb
    go_enter Tryd.func7, Tryd.ntmps7
    go_wp2_with (go_at_call 24; refine ((HA0 _).out).mono ?_; rintro e W1 ⟨rfl, hb1⟩; have HB1 := Aside0.mk hb1; clear hb1)
    go_ret
    exact ⟨rfl, HB1.out⟩
  have d3 : decide ((1000 : Int) < (line.size : Int)) = false := decide_eq_false h3
  have HF := Aside0.mk (fun w (h : Below W.heap.size W w) => filter_any a (by omega) Aa ca w (Kd.C_below ha h))
  have HG := Aside0.mk (fun w (h : Below W.heap.size W w) => filter_any b (by omega) Ab cb w (Kd.C_below hb h))
  have HL := Aside0.mk (line_all (line := line) hC hS (by omega))
  clear h1 h2 h3 hC hS ha hb
  obtain ⟨na, hna⟩ : ∃ na, na = a.length := ⟨_, rfl⟩
  obtain ⟨nb, hnb⟩ : ∃ nb, nb = b.length := ⟨_, rfl⟩
  rw [← hna] at d1 HF ⊢
  rw [← hnb] at d2 HG ⊢
  clear hna hnb
  go_enter Tryd.func7, Tryd.ntmps7
  go_wp2_with (first
    | (go_at_call 24; refine ((HA0 _).out).mono ?_; rintro e W1 ⟨rfl, hb1⟩; have HB1 := Aside0.mk hb1; clear hb1)
    | (go_at_call 25; refine (HF.out _ HB1.out).mono ?_; rintro e W2 ⟨F, AF, cF, rfl, hF, hb2⟩; unfold fv; have HB2 := Aside0.mk (below_step HB1.out hb2); have HIF := Aside0.mk hF; clear hb2 hF)
    | (go_at_call 25; refine (HG.out _ HB2.out).mono ?_; rintro e W3 ⟨G, AG, cG, rfl, hG, hb3⟩; unfold fv; have HB3 := Aside0.mk (below_step HB2.out hb3); have HIG := Aside0.mk hG.now; have HIF2 := Aside0.mk (HIF.out.below hb3).now; clear hb3 hG HIF))
  have hbb := below_alloc (below_alloc (below_alloc (Below.refl _ W3) (.cells #[.int .i64 F.f0, .string F.f1, .string F.f2, .slice AF F.f3.length cF] 36)) (.cells #[.int .i64 G.f0, .string G.f1, .string G.f2, .slice AG G.f3.length cG] 36)) (.cells #[.int .i64 7, .int .i64 8] 3)
  have HB0 := Aside0.mk (below_step HB3.out hbb)
  have HF0 := Aside0.mk (HIF2.out.below hbb)
  have HG0 := Aside0.mk (HIG.out.below hbb)
  have HbF : Aside0 ((((W3.alloc (.cells #[.int .i64 F.f0, .string F.f1, .string F.f2, .slice AF F.f3.length cF] 36)).alloc (.cells #[.int .i64 G.f0, .string G.f1, .string G.f2, .slice AG G.f3.length cG] 36)).alloc (.cells #[.int .i64 7, .int .i64 8] 3)).heap[W3.heap.size]? = some (.cells #[.int .i64 F.f0, .string F.f1, .string F.f2, .slice AF F.f3.length cF] 36)) := ⟨blk_alloc (blk_alloc (World.alloc_heap_new W3 _) _) _⟩
  have HbG : Aside0 ((((W3.alloc (.cells #[.int .i64 F.f0, .string F.f1, .string F.f2, .slice AF F.f3.length cF] 36)).alloc (.cells #[.int .i64 G.f0, .string G.f1, .string G.f2, .slice AG G.f3.length cG] 36)).alloc (.cells #[.int .i64 7, .int .i64 8] 3)).heap[W3.heap.size + 1]? = some (.cells #[.int .i64 G.f0, .string G.f1, .string G.f2, .slice AG G.f3.length cG] 36)) := ⟨blk_alloc (heap1 W3 _ _) _⟩
  have HbL : Aside0 ((((W3.alloc (.cells #[.int .i64 F.f0, .string F.f1, .string F.f2, .slice AF F.f3.length cF] 36)).alloc (.cells #[.int .i64 G.f0, .string G.f1, .string G.f2, .slice AG G.f3.length cG] 36)).alloc (.cells #[.int .i64 7, .int .i64 8] 3)).heap[W3.heap.size + 1 + 1]? = some (.cells #[.int .i64 7, .int .i64 8] 3)) := ⟨heap2 W3 _ _ _⟩
  clear hbb HB2 HB3 HIF2 HIG HF HG HA0 HB1
  obtain ⟨V0, hV0⟩ : ∃ V0, V0 = (((W3.alloc (.cells #[.int .i64 F.f0, .string F.f1, .string F.f2, .slice AF F.f3.length cF] 36)).alloc (.cells #[.int .i64 G.f0, .string G.f1, .string G.f2, .slice AG G.f3.length cG] 36)).alloc (.cells #[.int .i64 7, .int .i64 8] 3)) := ⟨_, rfl⟩
  rw [← hV0] at HB0 HF0 HG0 HbF HbG HbL ⊢
  obtain ⟨bL, hbL⟩ : ∃ b, b = W3.heap.size + 1 + 1 := ⟨_, rfl⟩
  obtain ⟨bG, hbG⟩ : ∃ b, b = W3.heap.size + 1 := ⟨_, rfl⟩
  obtain ⟨bF, hbF⟩ : ∃ b, b = W3.heap.size := ⟨_, rfl⟩
  rw [← hbL] at HbL ⊢
  rw [← hbG] at HbG ⊢
  rw [← hbF] at HbF ⊢
  clear hV0 hbL hbG hbF
  have HL1 : Aside0 (∀ op V, Below V0.heap.size V0 V → Calls Tryd.prog 27 #[.agg #[.int .i64 op, .string ⟨#[]⟩, .string ⟨#[]⟩, .slice (some ⟨V.heap.size, 0, none⟩) 2 2], .string line] (V.alloc (.cells #[.int .i64 F.f0, .string F.f1, .string F.f2, .slice AF F.f3.length cF, .int .i64 G.f0, .string G.f1, .string G.f2, .slice AG G.f3.length cG] 36)) fun e w' => e = .returned (.bool (lineV line 6 ⟨op, ⟨#[]⟩, ⟨#[]⟩, [F, G]⟩)) ∧ Below (V.alloc (.cells #[.int .i64 F.f0, .string F.f1, .string F.f2, .slice AF F.f3.length cF, .int .i64 G.f0, .string G.f1, .string G.f2, .slice AG G.f3.length cG] 36)).heap.size (V.alloc (.cells #[.int .i64 F.f0, .string F.f1, .string F.f2, .slice AF F.f3.length cF, .int .i64 G.f0, .string G.f1, .string G.f2, .slice AG G.f3.length cG] 36)) w') := ⟨fun op V h => by
    have hb := below_alloc (Below.refl _ V) (.cells #[.int .i64 F.f0, .string F.f1, .string F.f2, .slice AF F.f3.length cF, .int .i64 G.f0, .string G.f1, .string G.f2, .slice AG G.f3.length cG] 36)
    have hT := isT_two ((HF0.out.below h).below hb) ((HG0.out.below h).below hb) op (World.alloc_heap_new V _)
    exact HL.out 6 ⟨op, ⟨#[]⟩, ⟨#[]⟩, [F, G]⟩ _ 2 _ hT.1 (below_step (below_step HB0.out h) hb) hT.2.1 hT.2.2⟩
  have HL2 : Aside0 (∀ op V, op = 7 ∨ op = 8 → Below V0.heap.size V0 V → Calls Tryd.prog 27 #[.agg #[.int .i64 op, .string ⟨#[]⟩, .string ⟨#[]⟩, .slice (some ⟨V.heap.size, 0, none⟩) 2 2], .string line] (V.alloc (.cells #[.int .i64 G.f0, .string G.f1, .string G.f2, .slice AG G.f3.length cG, .int .i64 F.f0, .string F.f1, .string F.f2, .slice AF F.f3.length cF] 36)) fun e w' => e = .returned (.bool (lineV line 6 ⟨op, ⟨#[]⟩, ⟨#[]⟩, [F, G]⟩)) ∧ Below (V.alloc (.cells #[.int .i64 G.f0, .string G.f1, .string G.f2, .slice AG G.f3.length cG, .int .i64 F.f0, .string F.f1, .string F.f2, .slice AF F.f3.length cF] 36)).heap.size (V.alloc (.cells #[.int .i64 G.f0, .string G.f1, .string G.f2, .slice AG G.f3.length cG, .int .i64 F.f0, .string F.f1, .string F.f2, .slice AF F.f3.length cF] 36)) w') := ⟨fun op V ho h => by
    have hb := below_alloc (Below.refl _ V) (.cells #[.int .i64 G.f0, .string G.f1, .string G.f2, .slice AG G.f3.length cG, .int .i64 F.f0, .string F.f1, .string F.f2, .slice AF F.f3.length cF] 36)
    have hT := isT_two ((HG0.out.below h).below hb) ((HF0.out.below h).below hb) op (World.alloc_heap_new V _)
    have h1 := HL.out 6 ⟨op, ⟨#[]⟩, ⟨#[]⟩, [G, F]⟩ _ 2 _ hT.1 (below_step (below_step HB0.out h) hb) hT.2.1 hT.2.2
    have e : lineV line 6 ⟨op, ⟨#[]⟩, ⟨#[]⟩, [G, F]⟩ = lineV line 6 ⟨op, ⟨#[]⟩, ⟨#[]⟩, [F, G]⟩ := by
      rcases ho with rfl | rfl
      · rw [lineV_and, lineV_and, Bool.and_comm]
      · rw [lineV_or, lineV_or, Bool.or_comm]
    rw [e] at h1
    exact h1⟩
  have HL3 : Aside0 (∀ op V, op = 7 ∨ op = 8 → Below V0.heap.size V0 V → Calls Tryd.prog 27 #[.agg #[.int .i64 op, .string ⟨#[]⟩, .string ⟨#[]⟩, .slice (some ⟨V.heap.size, 0, none⟩) 3 3], .string line] (V.alloc (.cells #[.int .i64 G.f0, .string G.f1, .string G.f2, .slice AG G.f3.length cG, .int .i64 F.f0, .string F.f1, .string F.f2, .slice AF F.f3.length cF, .int .i64 G.f0, .string G.f1, .string G.f2, .slice AG G.f3.length cG] 36)) fun e w' => e = .returned (.bool (lineV line 6 ⟨op, ⟨#[]⟩, ⟨#[]⟩, [F, G]⟩)) ∧ Below (V.alloc (.cells #[.int .i64 G.f0, .string G.f1, .string G.f2, .slice AG G.f3.length cG, .int .i64 F.f0, .string F.f1, .string F.f2, .slice AF F.f3.length cF, .int .i64 G.f0, .string G.f1, .string G.f2, .slice AG G.f3.length cG] 36)).heap.size (V.alloc (.cells #[.int .i64 G.f0, .string G.f1, .string G.f2, .slice AG G.f3.length cG, .int .i64 F.f0, .string F.f1, .string F.f2, .slice AF F.f3.length cF, .int .i64 G.f0, .string G.f1, .string G.f2, .slice AG G.f3.length cG] 36)) w') := ⟨fun op V ho h => by
    have hb := below_alloc (Below.refl _ V) (.cells #[.int .i64 G.f0, .string G.f1, .string G.f2, .slice AG G.f3.length cG, .int .i64 F.f0, .string F.f1, .string F.f2, .slice AF F.f3.length cF, .int .i64 G.f0, .string G.f1, .string G.f2, .slice AG G.f3.length cG] 36)
    have hT := isT_three ((HG0.out.below h).below hb) ((HF0.out.below h).below hb) ((HG0.out.below h).below hb) op (World.alloc_heap_new V _)
    have h1 := HL.out 6 ⟨op, ⟨#[]⟩, ⟨#[]⟩, [G, F, G]⟩ _ 3 _ hT.1 (below_step (below_step HB0.out h) hb) hT.2.1 hT.2.2
    have e : lineV line 6 ⟨op, ⟨#[]⟩, ⟨#[]⟩, [G, F, G]⟩ = lineV line 6 ⟨op, ⟨#[]⟩, ⟨#[]⟩, [F, G]⟩ := by
      rcases ho with rfl | rfl
      · rw [lineV_and3, lineV_and]; cases lineV line 5 F <;> cases lineV line 5 G <;> rfl
      · rw [lineV_or3, lineV_or]; cases lineV line 5 F <;> cases lineV line 5 G <;> rfl
    rw [e] at h1
    exact h1⟩
  have HS0 : Aside0 (∀ V, Below V0.heap.size V0 V → V.heap[bF]? = some (.cells #[.int .i64 F.f0, .string F.f1, .string F.f2, .slice AF F.f3.length cF] 36) ∧ V.heap[bG]? = some (.cells #[.int .i64 G.f0, .string G.f1, .string G.f2, .slice AG G.f3.length cG] 36) ∧ V.heap[bL]? = some (.cells #[.int .i64 7, .int .i64 8] 3)) := ⟨fun V h => ⟨blk_below HbF.out h, blk_below HbG.out h, blk_below HbL.out h⟩⟩
  clear HL HbF HbG HbL HF0 HG0
  go_loopw [33] (fun t33 wr => ∃ k : Nat, k ≤ 2 ∧ t33 = .int .i64 (k : Int) ∧ Aside0 (Below V0.heap.size V0 wr)) (fun t33 _ => 2 - (intOf t33).toNat)
  case atStart => exact ⟨0, Nat.zero_le _, rfl, ⟨Below.refl _ _⟩⟩
  case round =>
    obtain ⟨k, hk, rfl, HBr⟩ := hrel
    rcases (by omega : k = 0 ∨ k = 1 ∨ k = 2) with rfl | rfl | rfl
    · obtain ⟨hF_, hG_, hL_⟩ := HS0.out _ HBr.out
      obtain ⟨k0, k1, k2, k3⟩ := cells4 hF_
      obtain ⟨m0, m1, m2, m3⟩ := cells4 hG_
      obtain ⟨l0, l1⟩ := cells2 hL_
      clear hF_ hG_ hL_
      obtain ⟨bb, hbb⟩ : ∃ bb, bb = lineV line 6 ⟨7, ⟨#[]⟩, ⟨#[]⟩, [F, G]⟩ := ⟨_, rfl⟩
      have HM1 := Aside0.mk (fun V => HL1.out 7 V)
      have HM2 := Aside0.mk (fun V => HL2.out 7 V (by decide))
      have HM3 := Aside0.mk (fun V => HL3.out 7 V (by decide))
      rw [← hbb] at HM1 HM2 HM3
      clear hbb HL1 HL2 HL3 hk
      go_wp2_with (first
        | (go_at_call 27; refine (HM1.out _ HBr.out).mono ?_; rintro e w4 ⟨rfl, hb4⟩; have HB4 := Aside0.mk (below_step (below_alloc HBr.out _) hb4); clear hb4; obtain ⟨hF_, hG_, hL_⟩ := HS0.out _ HB4.out; obtain ⟨p0, p1, p2, p3⟩ := cells4 hF_; obtain ⟨q0, q1, q2, q3⟩ := cells4 hG_; clear hF_ hG_ hL_ HM1)
        | (go_at_call 27; refine (HM2.out _ HB4.out).mono ?_; rintro e w5 ⟨rfl, hb5⟩; have HB5 := Aside0.mk (below_step (below_alloc HB4.out _) hb5); clear hb5; obtain ⟨hF_, hG_, hL_⟩ := HS0.out _ HB5.out; obtain ⟨r0, r1, r2, r3⟩ := cells4 hF_; obtain ⟨s0, s1, s2, s3⟩ := cells4 hG_; clear hF_ hG_ hL_ HM2)
        | (go_at_call 27; refine (HM3.out _ HB5.out).mono ?_; rintro e w6 ⟨rfl, hb6⟩; have HB6 := Aside0.mk (below_step (below_alloc HB5.out _) hb6); clear hb6 HM3))
      go_roundw
      case rel => exact ⟨1, by omega, by go_num, HB6⟩
      case measure => simp [intOf]
    · obtain ⟨hF_, hG_, hL_⟩ := HS0.out _ HBr.out
      obtain ⟨k0, k1, k2, k3⟩ := cells4 hF_
      obtain ⟨m0, m1, m2, m3⟩ := cells4 hG_
      obtain ⟨l0, l1⟩ := cells2 hL_
      clear hF_ hG_ hL_
      obtain ⟨bb, hbb⟩ : ∃ bb, bb = lineV line 6 ⟨8, ⟨#[]⟩, ⟨#[]⟩, [F, G]⟩ := ⟨_, rfl⟩
      have HM1 := Aside0.mk (fun V => HL1.out 8 V)
      have HM2 := Aside0.mk (fun V => HL2.out 8 V (by decide))
      have HM3 := Aside0.mk (fun V => HL3.out 8 V (by decide))
      rw [← hbb] at HM1 HM2 HM3
      clear hbb HL1 HL2 HL3 hk
      go_wp2_with (first
        | (go_at_call 27; refine (HM1.out _ HBr.out).mono ?_; rintro e w4 ⟨rfl, hb4⟩; have HB4 := Aside0.mk (below_step (below_alloc HBr.out _) hb4); clear hb4; obtain ⟨hF_, hG_, hL_⟩ := HS0.out _ HB4.out; obtain ⟨p0, p1, p2, p3⟩ := cells4 hF_; obtain ⟨q0, q1, q2, q3⟩ := cells4 hG_; clear hF_ hG_ hL_ HM1)
        | (go_at_call 27; refine (HM2.out _ HB4.out).mono ?_; rintro e w5 ⟨rfl, hb5⟩; have HB5 := Aside0.mk (below_step (below_alloc HB4.out _) hb5); clear hb5; obtain ⟨hF_, hG_, hL_⟩ := HS0.out _ HB5.out; obtain ⟨r0, r1, r2, r3⟩ := cells4 hF_; obtain ⟨s0, s1, s2, s3⟩ := cells4 hG_; clear hF_ hG_ hL_ HM2)
        | (go_at_call 27; refine (HM3.out _ HB5.out).mono ?_; rintro e w6 ⟨rfl, hb6⟩; have HB6 := Aside0.mk (below_step (below_alloc HB5.out _) hb6); clear hb6 HM3))
      go_roundw
      case rel => exact ⟨2, by omega, by go_num, HB6⟩
      case measure => simp [intOf]
    · clear HL1 HL2 HL3 HS0
      go_wp2
      go_ret
      exact ⟨rfl, below_step HB0.out HBr.out⟩
theorem matchOrder_d (Aa : Option Addr) (ca : Nat) (a : List Int) (Ab : Option Addr) (cb : Nat) (b : List Int) (line : ByteArray) (W : World) (hC : Con W) (hS : Spl W) (ha : Kd.C (Kd.int .i64) W Aa a.length a) (hb : Kd.C (Kd.int .i64) W Ab b.length b) (hD : Dec W) :
    Calls Tryd.prog 7 #[.slice Aa a.length ca, .slice Ab b.length cb, .string line] W fun e w' => e = .returned (.bool true) ∧ Below W.heap.size W w' := matchOrder_all a b line Aa Ab ca cb W hC hS ha hb
end Go.Proofs.YtfejjfbhlmjkeaaDoor.F
