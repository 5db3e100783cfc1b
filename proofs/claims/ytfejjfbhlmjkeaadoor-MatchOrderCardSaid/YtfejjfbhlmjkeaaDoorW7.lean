/- gone: what it collects of an iterator over texts. -/
import Derived.Test.YtfejjfbhlmjkeaaDoorW6
set_option linter.unusedVariables false
set_option linter.unusedSimpArgs false
namespace Go.Proofs.YtfejjfbhlmjkeaaDoor.W
open Go.RowKit Go.Shelf Go.Proofs.YtfejjfbhlmjkeaaDoorW.PrintWords Go.Proofs.YtfejjfbhlmjkeaaDoorW.PrintLast Go.Proofs.YtfejjfbhlmjkeaaDoor.B Go.Proofs.YtfejjfbhlmjkeaaDoor.It
attribute [local go_sem] Oper.semAt_some

section
variable {F : Fence} {n : Nat} {P : Program} {w : World} {ops : Array Oper} {rest : List Oper} {o : Oper} {a : Act} {Q : Exit → Act → World → Prop}
/-- append(v, x...), at the operation, in a fence: x a slice that is read. -/
theorem wpListIn_append_b (base : Nat) (hgd : o.guard = none) (s x : Operand) (t e : TypeId) (z : Value) (bytes : Nat)
    (ho : o.op = Op.call { callee := Callee.builtin Builtin.append, args := #[s, x], argTypes := #[t, t] })
    (ht : P.underlying t = some (.slice e)) (hinfo : (P.info? e).map (fun i => (i.zero, i.size, i.bytes)) = some (some z, 1, bytes)) (hz : z.cells.size = 1) (hb0 : 0 < bytes)
    (v : Value) (xs : List Value) (hs : a.eval s = v) (hown : B.Own w base e v xs)
    (A : Option Addr) (m c : Nat) (news : List Value) (hx : a.eval x = .slice A m c) (hm : news.length = m) (hnews : ∀ ad, A = some ad → ∀ j u, news[j]? = some u → w.cell? (ad.add j) = some u) (hnil : A = none → news = []) (h1 : ∀ u ∈ news, u.oneCell' = true)
    (hbytes : (xs.length + m) * bytes ≤ 140737488355328) (hbase : base ≤ w.heap.size)
    (h : ∀ v' w', B.Own w' base e v' (xs ++ news) → w.grownBy w' v.ownBlock → (v'.ownBlock = v.ownBlock ∨ v'.ownBlock = some w.heap.size) → wpListIn F n P ops Q rest (a.put o.dst v') w') : wpListIn F n P ops Q (o :: rest) a w := by
  obtain ⟨i0, hi, hzz⟩ := Option.map_eq_some_iff.1 hinfo
  simp only [Prod.mk.injEq] at hzz
  obtain ⟨hz0, hz1, hz2⟩ := hzz
  subst hm
  refine wpListIn_plain hgd fun K hK => ?_
  obtain ⟨v', w', hr, h2, h3, h4⟩ := run_append_b (P := P) w base t o.type e i0 z bytes ht hi hz0 hz1 hz2 hz hb0 v xs hown A c news hnews hnil h1 hbytes hbase
  unfold Oper.wpIn
  refine ⟨?_, ?_⟩
  · simp [Oper.about, ho, resolve, Target.leads, Sem.run_pure]
  · rw [Oper.semAt_plain F _ _ (by rw [ho]; intro c hc'; cases hc')]
    simp [execOp, ho, resolve, invoke, builtin, hs, hx, hr, Result.andThen]
    exact hK _ _ (h v' w' h2 h3 h4)
end
theorem eql_func_nil {P : Program} (W : World) {t : TypeId} {ps rs : Array TypeId} {vd : Bool} (h : P.underlying t = some (.func ps rs vd)) (f : Fn) (fi ca : Array Value) : (binOp .eql t (.func f fi ca) .nilFunc).run P W = .ok (.bool false) W := by
  have h1 : ∀ d, (Op.equalIn (d + 1) t (.func f fi ca) .nilFunc).run P W = .ok false W := fun d => by simp [Op.equalIn, run_underlying h]
  have h2 : (Op.equal t (.func f fi ca) .nilFunc).run P W = .ok false W := h1 9999
  simp only [binOp]
  simp [h2]
theorem own_block {w : World} {base : Nat} {e : TypeId} {v : Value} {xs : List Value} (h : B.Own w base e v xs) : ∀ k, v.ownBlock = some k → ∃ o : Obj, w.heap[k]? = some o ∧ o.isCells = true := by
  intro k hk
  rcases h with ⟨rfl, _⟩ | ⟨g, cap, cur, fz, rfl, hb, hg, _⟩
  · simp [Value.ownBlock] at hk
  · simp [Value.ownBlock] at hk
    subst hk
    exact ⟨_, hg, rfl⟩
theorem own_apart {w : World} {base : Nat} {e : TypeId} {v : Value} {xs : List Value} (h : B.Own w base e v xs) {D : Nat} {o : Obj} (hD : w.heap[D]? = some o) (hc : o.isCells = false) : v.ownBlock ≠ some D := fun e => by
  obtain ⟨o', h7, h8⟩ := own_block h D e
  rw [hD] at h7
  cases h7
  rw [hc] at h8
  cases h8
theorem own_putObj {w : World} {base : Nat} {e : TypeId} {v : Value} {xs : List Value} (h : B.Own w base e v xs) {D : Nat} {o : Obj} (o' : Obj) (hD : w.heap[D]? = some o) (hc : o.isCells = false) : B.Own (w.putObj D o') base e v xs :=
  h.kept (grownBy_putObj' w D o') (.inr (own_apart h hD hc))
theorem boxed_inj {W : World} {b : Nat} {t : TypeId} {u v : Value} (h : Boxed W b t u) (k : Boxed W b t v) : u = v := by
  have := (show W.heap[b]? = _ from h).symm.trans (show W.heap[b]? = _ from k)
  simpa using this
/-- A caller that collects: it writes the box of its slice, and the row that the slice in it names. -/
theorem told_row (b : Nat) (t e : TypeId) : Told (fun W => ∃ v xs, Boxed W b t v ∧ B.Own W (b + 1) e v xs) (fun W k => k = b ∨ ∃ v, Boxed W b t v ∧ v.ownBlock = some k) := by
  refine ⟨?_, ?_⟩
  · rintro A B row ⟨v, xs, hv, ho⟩ hgr hr
    have hv' := hv.kept hgr (fun e => by obtain ⟨o, h1, h2⟩ := hr b e.symm; rw [show A.heap[b]? = _ from hv] at h1; cases h1; cases h2)
    have ho' := ho.kept hgr (by
      cases hvb : v.ownBlock with
      | none => exact .inl rfl
      | some k =>
        refine .inr fun e => ?_
        obtain ⟨o, h1, h2⟩ := hr k e.symm
        obtain ⟨o', h3, h4⟩ := own_block ho k hvb
        rw [h1] at h3
        cases h3
        rw [h2] at h4
        cases h4)
    refine ⟨⟨v, xs, hv', ho'⟩, fun k h => h.imp id ?_⟩
    rintro ⟨u, hu, hk⟩
    exact ⟨v, hv, by rw [← boxed_inj hu hv']; exact hk⟩
  · rintro A k ⟨v, xs, hv, ho⟩ (rfl | ⟨u, hu, hk⟩)
    · exact ⟨_, hv, rfl⟩
    · exact own_block ho k (by rw [← boxed_inj hu hv]; exact hk)
/-- What is known behind out = append(out, x). -/
theorem collected {W w1 : World} {b : Nat} {t e : TypeId} {v v' : Value} {xs ys : List Value} {tmp : Obj} (hv : Boxed W b t v) (ho : B.Own W (b + 1) e v xs) (ho' : B.Own w1 (b + 1) e v' ys) (hgr : (W.alloc tmp).grownBy w1 v.ownBlock) (hn : v'.ownBlock = v.ownBlock ∨ v'.ownBlock = some (W.alloc tmp).heap.size) :
    Boxed w1 b t v ∧ Boxed (w1.setCell ⟨b, 0, none⟩ v') b t v' ∧ B.Own (w1.setCell ⟨b, 0, none⟩ v') (b + 1) e v' ys ∧ (∀ k o, W.heap[k]? = some o → k ≠ b → v.ownBlock ≠ some k → (w1.setCell ⟨b, 0, none⟩ v').heap[k]? = some o) ∧ W.heap.size ≤ (w1.setCell ⟨b, 0, none⟩ v').heap.size ∧ (∀ k, v'.ownBlock = some k → v.ownBlock = some k ∨ W.heap.size ≤ k) := by
  have hv1 : Boxed w1 b t v := (hv.alloc tmp).kept hgr (fun e => by have := (ho.lt b e.symm).1; omega)
  have hs := hgr.size
  rw [World.size_alloc] at hs
  refine ⟨hv1, hv1.set v', ho'.kept (grownBy_setCell' w1 b v') (.inr fun e => by have := (ho'.lt b e).1; omega), ?_, ?_, ?_⟩
  · intro k o hk hb hne
    have hlt := (Array.getElem?_eq_some_iff.1 hk).1
    have h1 : w1.heap[k]? = some o := (hgr.block k (by rw [World.size_alloc]; omega) (fun e => hne e.symm)).trans ((Below.heap_alloc W tmp k hlt).trans hk)
    exact ((grownBy_setCell' w1 b v').block k (Array.getElem?_eq_some_iff.1 h1).1 (fun e => hb (by cases e; rfl))).trans h1
  · have := (grownBy_setCell' w1 b v').size
    omega
  · intro k hk
    rcases hn with hn | hn
    · exact .inl (by rw [← hn]; exact hk)
    · rw [hn, World.size_alloc] at hk
      cases hk
      exact .inr (by omega)
/-- An iterator over texts, wherever it is ranged over. -/
def SeqOf (gf bs : Nat) (ws : List ByteArray) (w : World) : Prop :=
  ∀ (n : Nat), 5 ≤ n → ∀ (G : World → Prop) (M : World → Nat → Prop), Told G M → ∀ (W : World), Below w.heap.size w W → ∀ n₀, Seq Fence.wide n Tryd.prog gf #[.pointer (some ⟨bs, 0, none⟩)] (fun x => #[.string x]) (KpM G M n₀) (fun V => G V ∧ ¬ M V bs) (fun xs => xs = ws) (fun xs => xs <+: ws) W n₀
theorem seqOf_words {w : World} {bs : Nat} {s : ByteArray} (hb : Boxed w bs 9 (.string s)) (hs : s.size ≤ 4611686018427) : SeqOf 44 bs (words s) w :=
  fun n hn G M hM W hB n₀ => words_seq n hn bs s G M hM W ((hB.block bs hb.lt).trans hb) hs n₀
set_option maxRecDepth 20000 in
set_option maxHeartbeats 4000000 in
theorem gone_any (gf bs : Nat) (ws : List ByteArray) (most : Int) (w : World) (eg : ∀ args w, (callFunc gf args).run Tryd.prog w = .ok (.enter gf args) w) (hbs : bs < w.heap.size) (hseq : SeqOf gf bs ws w) (hlen : ws.length ≤ 1000000) :
    Calls Tryd.prog 16 #[.func (.func gf) #[] #[.pointer (some ⟨bs, 0, none⟩)], .int .i64 most] w fun e w' => ∃ v, e = .returned v ∧ B.Own w' w.heap.size 9 v ((ws.take most.toNat).map .string) ∧ Below w.heap.size w w' := by
  refine (callsIn_wide (n := 9)).1 ?_
  refine callsIn_of_wp_marks Tryd.func16 rfl trivial ?_ rfl
  simp only [Tryd.ntmps16, List.size_toArray, List.length_cons, List.length_nil, Nat.reduceAdd, Nat.reduceSub, Array.replicate_succ, Array.replicate_zero, List.push_toArray, List.append_toArray, List.nil_append, List.cons_append]
  have hnl : ∀ W, (binOp .eql 28 (.func (.func gf) #[] #[.pointer (some ⟨bs, 0, none⟩)]) .nilFunc).run Tryd.prog W = .ok (.bool false) W := fun W => eql_func_nil W Tryd.underlying28 _ _ _
  gi_wp2
  obtain ⟨W0, hW0⟩ : ∃ W0, W0 = ((w.alloc (.cells #[.int .i64 most] 3)).alloc (.cells #[.slice none 0 0] 23)) := ⟨_, rfl⟩
  have hz0 : W0.heap.size = w.heap.size + 2 := by rw [hW0]; simp
  have hb0 : Boxed W0 w.heap.size 3 (.int .i64 most) := by rw [hW0]; exact (Boxed.new w _ _).alloc _
  have hb1 : Boxed W0 (w.heap.size + 1) 23 (.slice none 0 0) := by
    rw [hW0]
    have h := Boxed.new (w.alloc (.cells #[.int .i64 most] 3)) 23 (.slice none 0 0)
    rw [World.size_alloc] at h
    exact h
  have hB0 : Below w.heap.size w W0 := by
    rw [hW0]
    exact ((Below.refl _ w).alloc (Nat.le_refl _) _).alloc (by simp) _
  rw [← hW0]
  clear hW0 hnl
  have hM := told_row (w.heap.size + 1) 23 9
  refine range_law (F := Fence.wide) rfl (by omega) (gf := gf) (lb := #[.pointer (some ⟨bs, 0, none⟩)]) rfl trivial eg
    (hseq (9 - 1) (by omega) _ _ hM W0 hB0 _) KpM.trans (fun V l o o' _ hlt h hc hw => KpM.book hM V l o o' hlt h hc hw) (Below.refl _ _) (fun _ => rfl)
    (fun pre W => Boxed W w.heap.size 3 (.int .i64 most) ∧ (∃ v, Boxed W (w.heap.size + 1) 23 v ∧ B.Own W (w.heap.size + 1 + 1) 9 v (pre.map .string)) ∧ pre.length ≤ most.toNat ∧ Below w.heap.size w W ∧ W0.heap.size ≤ W.heap.size)
    (fun c pre W => c = .exit 0 ∧ (∃ p x v, pre = p ++ [x] ∧ p.length = most.toNat ∧ Boxed W (w.heap.size + 1) 23 v ∧ B.Own W (w.heap.size + 1 + 1) 9 v (p.map .string)) ∧ Below w.heap.size w W)
    ?inv ?invx
    (fun pre V h => ⟨by obtain ⟨v, h1, h2⟩ := h.2.1; exact ⟨v, _, h1, h2⟩, by
      obtain ⟨v, h1, h2⟩ := h.2.1
      rintro (e | ⟨u, hu, hk⟩)
      · omega
      · rw [boxed_inj hu h1] at hk
        have := (h2.lt _ hk).1
        omega⟩) ⟨hb0, ⟨_, hb1, Own.nil _ _ _⟩, by simp, hB0, Nat.le_refl _⟩
    (fun x a' W => a' = { tmps := #[.func (.func gf) #[] #[.pointer (some ⟨bs, 0, none⟩)], .int .i64 most, undef, .pointer (some ⟨w.heap.size, 0, none⟩), .slice none 0 0, .pointer (some ⟨w.heap.size + 1, 0, none⟩), .string x, .func (.func gf) #[] #[.pointer (some ⟨bs, 0, none⟩)], .bool false, .func (.func gf) #[] #[.pointer (some ⟨bs, 0, none⟩)], .string x, undef, undef, undef, undef, undef, undef, undef, undef, undef], defers := [] })
    (fun x a' u A B row hs hg hr => hs) ?assign ?body ?done ?stop
  case inv =>
    rintro pre A B row ⟨h1, ⟨v, h2, h3⟩, h4, h5, h6⟩ hg hr
    have hlo : ∀ k, k < W0.heap.size → some k ≠ row := fun k hk e => by have := (hr k e.symm).1; omega
    refine ⟨h1.kept hg (hlo _ (by omega)), ⟨v, h2.kept hg (hlo _ (by omega)), h3.kept hg ?_⟩, h4, h5.grown hg h5.size (fun k e => by have := (hr k e).1; omega), Nat.le_trans h6 hg.size⟩
    cases hvb : v.ownBlock with
    | none => exact .inl rfl
    | some k =>
      refine .inr fun e => ?_
      obtain ⟨_, o, ho, hc⟩ := hr k e.symm
      obtain ⟨o', h7, h8⟩ := own_block h3 k hvb
      rw [ho] at h7
      cases h7
      rw [hc] at h8
      cases h8
  case invx =>
    rintro c pre A B row ⟨h0, ⟨p, x, v, h1, h4, h2, h3⟩, h5⟩ hg hr
    have hlo : ∀ k, k < W0.heap.size → some k ≠ row := fun k hk e => by have := (hr k e.symm).1; omega
    refine ⟨h0, ⟨p, x, v, h1, h4, h2.kept hg (hlo _ (by omega)), h3.kept hg ?_⟩, h5.grown hg h5.size (fun k e => by have := (hr k e).1; omega)⟩
    cases hvb : v.ownBlock with
    | none => exact .inl rfl
    | some k =>
      refine .inr fun e => ?_
      obtain ⟨_, o, ho, hc⟩ := hr k e.symm
      obtain ⟨o', h7, h8⟩ := own_block h3 k hvb
      rw [ho] at h7
      cases h7
      rw [hc] at h8
      cases h8
  case assign =>
    rintro l pre x W K hI hK
    gi_wp2
    exact hK _ _ (KeepsFrom.refl _ _) (KpM.refl hM _) hI rfl
  case body =>
    rintro l pre x a' W hl ⟨r, hr⟩ ⟨h1, ⟨v, h2, h3⟩, h4, h5, h6⟩ rfl hpre
    have hplen : pre.length + 1 ≤ 1000000 := by
      have := hpre.length_le
      simp at this
      omega
    obtain ⟨A, c, hv, hcap, hmx⟩ := h3.shape
    simp only [List.length_map] at hv
    subst hv
    have k0 := h1.cell
    have k1 := h2.cell
    have Hcap := Aside0.mk hcap
    have Hmx := Aside0.mk hmx
    have Hpre := Aside0.mk hpre
    have Hinfo := Aside0.mk (show (Tryd.prog.info? 9).map (fun i => (i.zero, i.size, i.bytes)) = some (some (.string ⟨#[]⟩), 1, 16) by rfl)
    clear hcap hmx hpre
    by_cases hm : most ≤ (pre.length : Int)
    · have d : decide (most ≤ (pre.length : Int)) = true := decide_eq_true hm
      gi_wp2
      exact ⟨KeepsFrom.refl _ _, rfl, ⟨pre, x, _, rfl, by omega, h2, h3⟩, h5⟩
    · have d : decide (most ≤ (pre.length : Int)) = false := decide_eq_false hm
      have hpm : pre.length + 1 ≤ most.toNat := by omega
      have Hpm := Aside0.mk hpm
      clear hm hpm
      gi_wp2_with (gi_at_builtin; refine wpListIn_append_b (w.heap.size + 1 + 1) rfl _ _ 23 9 (.string ⟨#[]⟩) 16 rfl Tryd.underlying23 Hinfo.out rfl (by decide) _ _ rfl (h3.alloc _) (some ⟨W.heap.size, 0, none⟩) 1 1 [.string x] rfl rfl (news_row _ _ _) (fun e => by cases e) (fun u hu => by rw [List.mem_singleton.1 hu]; rfl) (by rw [List.length_map]; omega) (by rw [World.size_alloc]; omega) ?_; intro v' w1 hown' hgrow hnear; obtain ⟨hc1, hc2, hc3, hc4, hc5, hc6⟩ := collected h2 h3 hown' hgrow hnear; have Hc := Aside0.mk (And.intro hc2 (And.intro hc3 (And.intro hc4 (And.intro hc5 hc6)))); have Hg := Aside0.mk hgrow; obtain ⟨A', c', rfl, _, _⟩ := hown'.shape; have hk1 := hc1.cell; have hf1 := hc1.frozen; clear hc1 hc2 hc3 hc4 hc5 hc6 hown' hgrow hnear)
      have hlx : (pre.map Value.string ++ [Value.string x]).length = pre.length + 1 := by simp
      have hcc := Hc.out
      rw [hlx] at hcc
      obtain ⟨b2, b3, b4, b5, b6⟩ := hcc
      have hpm := Hpm.out
      refine ⟨⟨b5, fun k o hB hk hc => b4 k o hk (by omega) (own_apart h3 hk hc)⟩, fun _ => ⟨⟨_, _, b2, b3⟩, b5, fun k o hk hmm _ => b4 k o hk (fun e => hmm (.inl e)) (fun e => hmm (.inr ⟨_, h2, e⟩)), ?_⟩, b4 _ _ h1 (by omega) (fun e => by have := (h3.lt _ e).1; omega), ⟨_, b2, by simpa using b3⟩, by simp; omega,
        ((h5.alloc h5.size _).grown Hg.out (by have := h5.size; rw [World.size_alloc]; omega) (fun k e => by have := (h3.lt k e).1; omega)).setCell (p := ⟨w.heap.size + 1, 0, none⟩) (by simp) _, Nat.le_trans h6 b5⟩
      rintro k (e | ⟨u, hu, hk⟩)
      · exact .inl (.inl e)
      · rw [boxed_inj hu b2] at hk
        exact (b6 k hk).imp (fun e => .inr ⟨_, h2, e⟩) id
  case done =>
    rintro D xs W hD rfl ⟨h1, ⟨v, h2, h3⟩, h4, h5, h6⟩ hK
    have k1 := h2.cell
    gi_wp2
    refine ⟨by simp, .inl ⟨_, _, rfl, run_takeDeferred hK, ?_⟩⟩
    refine ⟨_, results_tmp rfl _ _ _, v, rfl, ?_, h5.trans (belowK_b (w := w) (Nat.le_refl _) W D _ _ (by omega) hK rfl rfl)⟩
    rw [List.take_of_length_le h4]
    exact (own_putObj h3 _ hK rfl).weaken (by omega)
  case stop =>
    rintro D c pre W hD hpre ⟨rfl, ⟨p, x, v, h1, h4, h2, h3⟩, h5⟩ hK
    have k1 := h2.cell
    gi_wp2
    refine ⟨by simp, .inl ⟨_, _, rfl, run_takeDeferred hK, ?_⟩⟩
    refine ⟨_, results_tmp rfl _ _ _, v, rfl, ?_, h5.trans (belowK_b (w := w) (Nat.le_refl _) W D _ _ (by omega) hK rfl rfl)⟩
    obtain ⟨t, ht⟩ := hpre
    have htk : ws.take most.toNat = p := by rw [← ht, h1, List.append_assoc, ← h4, List.take_left]
    rw [htk]
    exact (own_putObj h3 _ hK rfl).weaken (by omega)
end Go.Proofs.YtfejjfbhlmjkeaaDoor.W
