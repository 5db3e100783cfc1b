/- The reference's Words: what it computes. -/
import Derived.Test.YtfejjfbhlmjkeaaDoorP2
set_option linter.unusedVariables false
set_option linter.unusedSimpArgs false
namespace Go.Proofs.YtfejjfbhlmjkeaaDoor.W
open Go.RowKit Go.Shelf Go.Proofs.YtfejjfbhlmjkeaaDoor.Hi Go.Proofs.YtfejjfbhlmjkeaaDoorW.PrintWords Go.Proofs.YtfejjfbhlmjkeaaDoorW.PrintLast Go.Proofs.YtfejjfbhlmjkeaaDoor.B

section
variable {F : Fence} {n : Nat} {P : Program} {w : World} {o : Oper} {a : Act} {Q : Exit → Act → World → Prop} {K : Act → World → Prop}
/-- append(v, x...), of one operation, in a fence: x a slice that is read. -/
theorem opIn_append_b (base : Nat) (s x : Operand) (t e : TypeId) (z : Value) (bytes : Nat)
    (ho : o.op = Op.call { callee := Callee.builtin Builtin.append, args := #[s, x], argTypes := #[t, t] })
    (ht : P.underlying t = some (.slice e)) (hinfo : (P.info? e).map (fun i => (i.zero, i.size, i.bytes)) = some (some z, 1, bytes)) (hz : z.cells.size = 1) (hb0 : 0 < bytes)
    (v : Value) (xs : List Value) (hs : a.eval s = v) (hown : B.Own w base e v xs)
    (A : Option Addr) (m c : Nat) (news : List Value) (hx : a.eval x = .slice A m c) (hm : news.length = m) (hnews : ∀ ad, A = some ad → ∀ j u, news[j]? = some u → w.cell? (ad.add j) = some u) (hnil : A = none → news = []) (h1 : ∀ u ∈ news, u.oneCell' = true)
    (hbytes : (xs.length + m) * bytes ≤ 140737488355328) (hbase : base ≤ w.heap.size)
    (h : ∀ v' w', B.Own w' base e v' (xs ++ news) → w.grownBy w' v.ownBlock → (v'.ownBlock = v.ownBlock ∨ v'.ownBlock = some w.heap.size) → K (a.put o.dst v') w') : Oper.wpIn F n P o a w K Q := by
  obtain ⟨i0, hi, hzz⟩ := Option.map_eq_some_iff.1 hinfo
  simp only [Prod.mk.injEq] at hzz
  obtain ⟨hz0, hz1, hz2⟩ := hzz
  subst hm
  obtain ⟨v', w', hr, h2, h3, h4⟩ := run_append_b (P := P) w base t o.type e i0 z bytes ht hi hz0 hz1 hz2 hz hb0 v xs hown A c news hnews hnil h1 hbytes hbase
  unfold Oper.wpIn
  refine ⟨?_, ?_⟩
  · simp [Oper.about, ho, resolve, Target.leads, Sem.run_pure]
  · rw [Oper.semAt_plain F _ _ (by rw [ho]; intro c hc'; cases hc')]
    simp [execOp, ho, resolve, invoke, builtin, hs, hx, hr, Result.andThen]
    exact h v' w' h2 h3 h4
end
/-- Rows of two types are apart. -/
theorem own_types {w : World} {b b' : Nat} {e e' : TypeId} {v v' : Value} {xs ys : List Value} (h : B.Own w b e v xs) (h' : B.Own w b' e' v' ys) (hne : e ≠ e') : v.ownBlock = none ∨ v.ownBlock ≠ v'.ownBlock := by
  rcases h with ⟨rfl, _⟩ | ⟨g, cap, cur, fz, rfl, _, hg, _⟩
  · exact .inl rfl
  · refine .inr fun eq => ?_
    rcases h' with ⟨rfl, _⟩ | ⟨g', cap', cur', fz', rfl, _, hg', _⟩
    · simp [Value.ownBlock] at eq
    · simp [Value.ownBlock] at eq
      subst eq
      rw [hg] at hg'
      simp at hg'
      exact hne hg'.2.1
theorem ints_at (l : List Nat) (j f : Nat) (h : l[j]? = some f) : (ints l)[j]? = some (.int .i64 (f : Int)) := by
  unfold ints; rw [List.getElem?_map, h]; rfl
/-- The texts of words, as cells. -/
def txts (l : List ByteArray) : List Value := l.map Value.string
set_option maxRecDepth 20000 in
set_option maxHeartbeats 4000000 in
theorem refWords_any (s : ByteArray) (w : World) (hs : s.size ≤ 1100) (hD : Dec w) : Calls Tryd.prog 13 #[.string s] w fun e w' => ∃ v, e = .returned v ∧ B.Own w' w.heap.size 9 v (txts (words s)) ∧ Below w.heap.size w w' := by
  refine (callsIn_wide (n := 9)).1 ?_
  obtain ⟨sps, hsps⟩ : ∃ sps, sps = spansFrom s 0 none := ⟨_, rfl⟩
  have hcount := spans_count s s.size 0 none (by omega)
  have hle := spans_le s s.size 0 none (by omega) (by omega) (fun f e => by cases e)
  rw [← hsps] at hcount hle
  have hpl := pl_all s
  rw [← hsps] at hpl
  have hcalls := places_any s w hs hD
  rw [hpl] at hcalls
  have Hplaces := Aside0.mk hcalls
  have Hwords : Aside0 (words s = sps.map (word s)) := ⟨by unfold words; rw [← hsps]⟩
  have Hle := Aside0.mk hle
  have Hcount : Aside0 (sps.length ≤ 1100) := ⟨by simp only at hcount; omega⟩
  have Hinfo := Aside0.mk (show (Tryd.prog.info? 9).map (fun i => (i.zero, i.size, i.bytes)) = some (some (.string ⟨#[]⟩), 1, 16) by rfl)
  have hfo : (Tryd.prog).follows .mixedOrders = true := by kernel_rfl
  clear hcalls hpl hsps hcount hle hD hs
  refine callsIn_of_wp Tryd.func13 rfl trivial ?_ rfl
  simp only [Tryd.ntmps13, List.size_toArray, List.length_cons, List.length_nil, Nat.reduceAdd, Nat.reduceSub, Array.replicate_succ, Array.replicate_zero, List.push_toArray, List.append_toArray, List.nil_append, List.cons_append]
  gi_wp2_with (refine ⟨trivial, ?_⟩; gi_at_call 43; refine (callsIn_wide.2 Hplaces.out).mono ?_; rintro e w1 ⟨v1, rfl, ho1, hb1⟩; obtain ⟨A, c, rfl, hn1, hz1⟩ := own_news ho1; have HO1 := Aside0.mk ho1; have HB1 := Aside0.mk hb1; clear ho1 hb1 hn1 hz1)
  obtain ⟨N, hN⟩ : ∃ N, N = 2 * sps.length := ⟨_, rfl⟩
  have hlx : (ints (flat sps)).length = N := by unfold ints; rw [List.length_map, flat_length, hN]
  have HN := Aside0.mk hN
  have Hl1 := HO1.out
  rw [hlx] at Hl1 ⊢
  have HO1' := Aside0.mk Hl1
  clear HO1 Hl1 hlx hN
  gi_loopw [3, 5] (fun t3 t5 wr => ∃ (i j : Nat), i ≤ sps.length ∧ j = 2 * i ∧ t5 = .int .i64 (j : Int) ∧ Aside0 (B.Own wr w.heap.size 9 t3 (txts ((sps.take i).map (word s)))) ∧ Aside0 (B.Own wr w.heap.size 3 (.slice A N c) (ints (flat sps))) ∧ Aside0 (Below w.heap.size w wr)) (fun _ t5 _ => N - (intOf t5).toNat)
  case atStart => exact ⟨0, 0, Nat.zero_le _, rfl, rfl, ⟨Own.nil _ _ _⟩, HO1', HB1⟩
  case round =>
    clear HO1' HB1
    obtain ⟨i, j, hi, hj, rfl, HO, HI, HB⟩ := hrel
    have hN := HN.out
    have hcn := Hcount.out
    by_cases hlt : i < sps.length
    · have d1 : decide (j < N) = true := decide_eq_true (by omega)
      obtain ⟨f, t, hft⟩ : ∃ f t, sps[i] = (f, t) := ⟨_, _, rfl⟩
      obtain ⟨b1, b2⟩ := Hle.out _ (List.getElem_mem hlt)
      have ha := flat_at sps i hlt
      rw [← hj] at ha
      rw [hft] at b1 b2 ha
      obtain ⟨A', c', he, hrd, hnil⟩ := own_news HI.out
      obtain ⟨rfl, rfl⟩ : A = A' ∧ c = c' := by simp only [Value.slice.injEq] at he; exact ⟨he.1, he.2.2⟩
      obtain ⟨ad, rfl⟩ : ∃ ad, A = some ad := by
        cases A with
        | some ad => exact ⟨ad, rfl⟩
        | none =>
          have h0 := congrArg List.length (hnil rfl)
          unfold ints at h0
          rw [List.length_map, flat_length, List.length_nil] at h0
          omega
      have c0 := hrd ad rfl j _ (ints_at _ j f ha.1)
      have c1 := hrd ad rfl (j + 1) _ (ints_at _ (j + 1) t ha.2)
      have hadd : ad.add (j + 1) = ⟨ad.block, ad.off + (j + 1), none⟩ := by unfold Addr.add; simp
      rw [hadd] at c1
      clear hadd
      have hsl : ∀ V, (Instr.slice 9 (.string s) (some (.int .i64 (f : Int))) (some (.int .i64 (t : Int))) none).run Tryd.prog V = .ok (.string (word s (f, t))) V := fun V => by
        have h := run_slice_string (P := Tryd.prog) V 9 s .i64 .i64 (f : Int) (t : Int) Tryd.underlying9 (by omega) (by omega) (by omega)
        simpa [word] using h
      have Hft := Aside0.mk hft
      have HO2 := Aside0.mk (HO.out.drew)
      have Hsz : Aside0 (wr.heap.size = wr.drew.heap.size) := ⟨rfl⟩
      have hjN : j + 1 < N := by omega
      have hjb : j ≤ 2200 := by omega
      have Hj := Aside0.mk hj
      have e1 : (j < N) = True := eq_true (by omega)
      have e2 : wrap64 ((j : Int) + 1) = (j : Int) + 1 := w64_in _ (by omega)
      have e3 : ((0 : Int) ≤ (j : Int) + 1) = True := eq_true (by omega)
      have e4 : ((j : Int) + 1 < (N : Int)) = True := eq_true (by omega)
      clear he hrd hnil ha b1 b2 hft hj hN hcn
      gi_wp2
      refine hi_start 12 (fun W_ => W_ = wr.drew) hfo ?_
      refine hi_pure 0 (some 14) (v := ?_) (L' := #[true, false, false, false, false, false, false, false, false, false, false, false, false, false, false]) (a' := ?_) rfl rfl rfl (by kernel_rfl) (fun _ _ _ h => h) (fun _ => rfl) (fun _ => rfl) (Or.inl ⟨by rfl, ?_⟩) ?_ ?_
      rotate_left 2
      · intro w_
        go_simp
        try with_reducible rfl
      · simp only [Act.put, List.setIfInBounds_toArray, List.set_cons_zero, List.set_cons_succ, i64_w, i32_w]
        rfl
      refine hi_take 1 (some 15) (v := ?_) (L' := #[true, true, false, false, false, false, false, false, false, false, false, false, false, false, false]) (a' := ?_) rfl rfl rfl (by kernel_rfl) (fun _ _ _ h => h) (fun _ => rfl) rfl (Or.inl ⟨by rfl, ?_⟩) ?_ ?_
      rotate_left 2
      · rintro w_ rfl
        go_simp
        try with_reducible rfl
      · simp only [Act.put, List.setIfInBounds_toArray, List.set_cons_zero, List.set_cons_succ, i64_w, i32_w]
        rfl
      refine hi_take 2 (some 16) (v := ?_) (L' := #[true, true, true, false, false, false, false, false, false, false, false, false, false, false, false]) (a' := ?_) rfl rfl rfl (by kernel_rfl) (fun _ _ _ h => h) (fun _ => rfl) rfl (Or.inl ⟨by rfl, ?_⟩) ?_ ?_
      rotate_left 2
      · rintro w_ rfl
        go_simp
        try with_reducible rfl
      · simp only [Act.put, List.setIfInBounds_toArray, List.set_cons_zero, List.set_cons_succ, i64_w, i32_w]
        rfl
      refine hi_take 3 (some 17) (v := ?_) (L' := #[true, true, true, true, false, false, false, false, false, false, false, false, false, false, false]) (a' := ?_) rfl rfl rfl (by kernel_rfl) (fun _ _ _ h => h) (fun _ => rfl) rfl (Or.inl ⟨by rfl, ?_⟩) ?_ ?_
      rotate_left 2
      · rintro w_ rfl
        go_simp
        try with_reducible rfl
      · simp only [Act.put, List.setIfInBounds_toArray, List.set_cons_zero, List.set_cons_succ, i64_w, i32_w]
        rfl
      refine hi_take 4 (some 18) (v := ?_) (L' := #[true, true, true, true, true, false, false, false, false, false, false, false, false, false, false]) (a' := ?_) rfl rfl rfl (by kernel_rfl) (fun _ _ _ h => h) (fun _ => rfl) rfl (Or.inl ⟨by rfl, ?_⟩) ?_ ?_
      rotate_left 2
      · rintro w_ rfl
        go_simp
        try with_reducible rfl
      · simp only [Act.put, List.setIfInBounds_toArray, List.set_cons_zero, List.set_cons_succ, i64_w, i32_w]
        rfl
      refine hi_take 5 (some 19) (v := ?_) (L' := #[true, true, true, true, true, true, false, false, false, false, false, false, false, false, false]) (a' := ?_) rfl rfl rfl (by kernel_rfl) (fun _ _ _ h => h) (fun _ => rfl) rfl (Or.inl ⟨by rfl, ?_⟩) ?_ ?_
      rotate_left 2
      · rintro w_ rfl
        go_simp
        try with_reducible rfl
      · simp only [Act.put, List.setIfInBounds_toArray, List.set_cons_zero, List.set_cons_succ, i64_w, i32_w]
        rfl
      refine hi_take 6 (some 20) (v := ?_) (L' := #[true, true, true, true, true, true, true, false, false, false, false, false, false, false, false]) (a' := ?_) rfl rfl rfl (by kernel_rfl) (fun _ _ _ h => h) (fun _ => rfl) rfl (Or.inl ⟨by rfl, ?_⟩) ?_ ?_
      rotate_left 2
      · rintro w_ rfl
        go_simp
        try with_reducible rfl
      · simp only [Act.put, List.setIfInBounds_toArray, List.set_cons_zero, List.set_cons_succ, i64_w, i32_w]
        rfl
      refine hi_take 7 (some 21) (v := ?_) (L' := #[true, true, true, true, true, true, true, true, false, false, false, false, false, false, false]) (a' := ?_) rfl rfl rfl (by kernel_rfl) (fun _ _ _ h => h) (fun _ => rfl) rfl (Or.inl ⟨by rfl, ?_⟩) ?_ ?_
      rotate_left 2
      · rintro w_ rfl
        go_simp
        try with_reducible rfl
      · simp only [Act.put, List.setIfInBounds_toArray, List.set_cons_zero, List.set_cons_succ, i64_w, i32_w]
        rfl
      refine hi_take 8 (some 22) (v := ?_) (L' := #[true, true, true, true, true, true, true, true, true, false, false, false, false, false, false]) (a' := ?_) rfl rfl rfl (by kernel_rfl) (fun _ _ _ h => h) (fun _ => rfl) rfl (Or.inl ⟨by rfl, ?_⟩) ?_ ?_
      rotate_left 2
      · rintro w_ rfl
        go_simp
        try with_reducible rfl
      · simp only [Act.put, List.setIfInBounds_toArray, List.set_cons_zero, List.set_cons_succ, i64_w, i32_w]
        rfl
      refine hi_take 9 (some 23) (v := ?_) (L' := #[true, true, true, true, true, true, true, true, true, true, false, false, false, false, false]) (a' := ?_) rfl rfl rfl (by kernel_rfl) (fun _ _ _ h => h) (fun _ => rfl) rfl (Or.inl ⟨by rfl, ?_⟩) ?_ ?_
      rotate_left 2
      · rintro w_ rfl
        go_simp
        try with_reducible rfl
      · simp only [Act.put, List.setIfInBounds_toArray, List.set_cons_zero, List.set_cons_succ, i64_w, i32_w]
        rfl
      refine hi_take 10 (some 24) (v := ?_) (L' := #[true, true, true, true, true, true, true, true, true, true, true, false, false, false, false]) (a' := ?_) rfl rfl rfl (by kernel_rfl) (fun _ _ _ h => h) (fun _ => rfl) rfl (Or.inl ⟨by rfl, ?_⟩) ?_ ?_
      rotate_left 2
      · rintro w_ rfl
        go_simp
        try with_reducible rfl
      · simp only [Act.put, List.setIfInBounds_toArray, List.set_cons_zero, List.set_cons_succ, i64_w, i32_w]
        rfl
      refine hi_take 11 (some 25) (v := ?_) (L' := #[true, true, true, true, true, true, true, true, true, true, true, true, false, false, false]) (a' := ?_) rfl rfl rfl (by kernel_rfl) (fun _ _ _ h => h) (fun _ => rfl) rfl (Or.inl ⟨by rfl, ?_⟩) ?_ ?_
      rotate_left 2
      · rintro w_ rfl
        go_simp
        try with_reducible rfl
      · simp only [Act.put, List.setIfInBounds_toArray, List.set_cons_zero, List.set_cons_succ, i64_w, i32_w]
        rfl
      clear c0 c1 hsl e1 e2 e3 e4
      refine hi_one 12 (L' := #[true, true, true, true, true, true, true, true, true, true, true, true, true, false, false]) rfl (by kernel_rfl) rfl (fun K hK => ?_)
      go_simp
      refine hK.out _ _ (fun h => by cases h) ?_
      clear hK K
      refine hi_one 13 (L' := #[true, true, true, true, true, true, true, true, true, true, true, true, true, true, false]) rfl (by kernel_rfl) rfl (fun K hK => ?_)
      refine (if_pos (by rfl)).mpr (opIn_append_b w.heap.size _ _ 23 9 (.string ⟨#[]⟩) 16 rfl Tryd.underlying23 Hinfo.out rfl (by decide) _ _ rfl (HO2.out.alloc _) (some ⟨wr.heap.size, 0, none⟩) 1 1 [.string (word s (f, t))] rfl rfl (news_row _ _ _) (fun e => by cases e) (fun u hu => by rw [List.mem_singleton.1 hu]; rfl) (by have := Hcount.out; unfold txts; rw [List.length_map, List.length_map, List.length_take]; omega) (by have := HB.out.size; show w.heap.size ≤ (wr.alloc _).heap.size; rw [World.size_alloc]; omega) ?_)
      intro v2 w2 hown2 hgrow2 hnear2
      have HB2 := Aside0.mk ((below_alloc HB.out.drew _).grown hgrow2 (by have := HB.out.size; show w.heap.size ≤ (wr.alloc _).heap.size; rw [World.size_alloc]; omega) (fun k e => by have := (HO2.out.lt k e).1; omega))
      have HI2 : Aside0 (B.Own w2 w.heap.size 3 (.slice (some ad) N c) (ints (flat sps))) := ⟨(HI.out.drew.alloc _).kept hgrow2 (own_types HI.out HO.out (by decide))⟩
      have HO3 : Aside0 (B.Own w2 w.heap.size 9 v2 (txts ((sps.take (i + 1)).map (word s)))) := ⟨by
        have e : sps.take (i + 1) = sps.take i ++ [(f, t)] := by rw [← Hft.out, List.take_succ_eq_append_getElem hlt]
        unfold txts at hown2 ⊢
        rw [e, List.map_append, List.map_append]
        exact hown2⟩
      clear hown2 hgrow2 hnear2
      refine hK.out _ _ (fun h => by cases h) ?_
      clear hK K
      refine hi_one 14 (L' := #[true, true, true, true, true, true, true, true, true, true, true, true, true, true, true]) rfl (by kernel_rfl) rfl (fun K hK => ?_)
      go_simp
      refine hK.out _ _ (fun h => by cases h) (hi_done (by kernel_rfl) ?_ _)
      clear hK K
      gi_wp2
      go_roundw
      case rel => exact ⟨i + 1, j + 2, by omega, by have := Hj.out; omega, by simp, HO3, HI2, HB2⟩
      case measure => simp [intOf]; omega
    · have d1 : decide (j < N) = false := decide_eq_false (by omega)
      have Hall : Aside0 (words s = (sps.take i).map (word s)) := ⟨by rw [Hwords.out, List.take_of_length_le (by omega)]⟩
      gi_wp2
      refine bodyPost_ret (results_tmp rfl _ _ _) rfl ?_
      exact ⟨_, rfl, by rw [Hall.out]; exact HO.out, HB.out⟩
end Go.Proofs.YtfejjfbhlmjkeaaDoor.W
