import Derived.Shelf.Unicode.DecodeAny
import Derived.Test.YtpleiklodomgiaaGreatDoorModelPages29
set_option linter.unusedVariables false
set_option linter.unusedSimpArgs false
section
namespace Go.Proofs.YtpleiklodomgiaaGreatDoor.B
end Go.Proofs.YtpleiklodomgiaaGreatDoor.B
namespace Go.Proofs.YtpleiklodomgiaaGreatDoor.WL
end Go.Proofs.YtpleiklodomgiaaGreatDoor.WL
namespace Go.Proofs.YtpleiklodomgiaaGreatDoor.W
open Go.RowKit Go.Proofs.YtpleiklodomgiaaGreatDoorW.PrintWords Go.Proofs.YtpleiklodomgiaaGreatDoorW.PrintLast Go.Proofs.YtpleiklodomgiaaGreatDoor.B Go.Proofs.YtpleiklodomgiaaGreatDoor.WL
def Dec (w : World) : Prop := ∀ (s : ByteArray) (w' : World), Below w.heap.size w w' → Calls Tryz.prog 93 #[.string s] w' fun e w2 => e = .returned (.tuple #[.int .i32 (Lib.decodeGo s).1, .int .i64 (Lib.decodeGo s).2]) ∧ Below w'.heap.size w' w2
theorem Dec.below {w w1 : World} (h : Dec w) (hb : Below w.heap.size w w1) : Dec w1 := fun s w' hb' => h s w' (below_step hb hb')
theorem dec_tail (s : ByteArray) (pos : Nat) (h : pos < s.size) : Lib.decodeGo (s.extract pos s.size) = Utf8.decode s pos := by
 unfold Lib.decodeGo
 have hz : (s.extract pos s.size).size ≠ 0 := by rw [ByteArray.size_extract]; omega
 simp only [hz, if_false]
 rw [Lib.tail_decode, Nat.add_zero]
theorem dec_le (s : ByteArray) (pos : Nat) (h : pos < s.size) : pos + (Utf8.decode s pos).2 ≤ s.size := by
 have hd := Lib.decodeL_drop s pos
 have hne : s.data.toList.drop pos ≠ [] := fun e => by have h1 := congrArg List.length e; rw [List.length_drop, size_list, List.length_nil] at h1; omega
 have hw := Lib.decodeL_le _ hne
 rw [List.length_drop, size_list, hd] at hw
 omega
def ints (l : List Nat) : List Value := l.map fun (n : Nat) => Value.int .i64 (n : Int)
theorem ints_one (l : List Nat) : ∀ u ∈ ints l, u.oneCell' = true := by
 intro u hu
 obtain ⟨n, _, rfl⟩ := List.mem_map.1 hu
 rfl
set_option maxRecDepth 20000 in
set_option maxHeartbeats 4000000 in
theorem places_any (s : ByteArray) (w : World) (hs : s.size ≤ 1100) (hD : Dec w) : Calls Tryz.prog 82 #[.string s] w fun e w' => ∃ v, e = .returned v ∧ B.Own w' w.heap.size 3 v (ints (pl s 0 false)) ∧ Below w.heap.size w w' := by
 obtain ⟨all, hall⟩ : ∃ all, all = pl s 0 false := ⟨_, rfl⟩
 have Hall := Aside0.mk hall
 have HD := Aside0.mk hD
 have Hs := Aside0.mk hs
 have Hinfo := Aside0.mk (show (Tryz.prog.info? 3).map (fun i => (i.zero, i.size, i.bytes)) = some (some (.int .i64 0), 1, 8) by rfl)
 rw [← hall]
 clear hall hD hs
 go_enter Tryz.func82, Tryz.ntmps82
 go_wp2_with fail
 go_loopw [3, 4, 5] (fun t3 t4 t5 wr => ∃ (pos : Nat) (op : Bool) (done : List Nat), pos ≤ s.size ∧ t5 = .int .i64 (pos : Int) ∧ t4 = .bool op ∧ Aside0 (done ++ pl s pos op = all) ∧ Aside0 (done.length ≤ pos) ∧ Aside0 (B.Own wr w.heap.size 3 t3 (ints done)) ∧ Aside0 (Below w.heap.size w wr)) (fun _ _ t5 _ => s.size - (intOf t5).toNat)
 case atStart => exact ⟨0, false, [], Nat.zero_le _, rfl, rfl, ⟨by rw [Hall.out]; rfl⟩, ⟨Nat.le_refl _⟩, ⟨Own.nil _ _ _⟩, ⟨Below.refl _ _⟩⟩
 case round =>
  obtain ⟨pos, op, done, hpos, rfl, rfl, Hd, Hl, HO, HB⟩ := hrel
  by_cases hp : pos < s.size
  ·have d1 : decide (pos < s.size) = true := decide_eq_true hp
   have Hp := Aside0.mk hp
   obtain ⟨c, k, hck⟩ : ∃ c k, Utf8.decode s pos = (c, k) := ⟨_, _, rfl⟩
   have hk1 := Lib.decode_width_pos s pos hp
   have hk2 := dec_le s pos hp
   have hs1 := Hs.out
   rw [hck] at hk1 hk2
   simp only at hk1 hk2
   have Hck := Aside0.mk hck
   have Hdt := Aside0.mk (dec_tail s pos hp)
   have Hk := Aside0.mk (And.intro hk1 hk2)
   have HDr := Aside0.mk (HD.out (s.extract pos s.size) wr HB.out)
   rw [Hdt.out, Hck.out] at HDr
   cases hlo : (letter (c : Int) == op) with
   | true =>
    have Hlo := Aside0.mk hlo
    clear hck hp
    go_wp2_with (first
     | (go_at_call 93; refine HDr.out.mono ?_; rintro e w1 ⟨rfl, hb1⟩; have HB1 := Aside0.mk (below_step HB.out hb1); have HO1 := Aside0.mk (HO.out.below hb1); clear hb1)
     | (go_at_call 94; with_reducible refine (refLetter_any _ _).mono ?_; rintro e w3 ⟨rfl, rfl⟩))
    go_roundw
    case rel => exact ⟨pos + k, op, done, Hk.out.2, by simp, rfl, ⟨by rw [← Hd.out, pl_same Hp.out (by rw [Hck.out]; have h := Hlo.out; cases op <;> cases hl : letter (c : Int) <;> simp_all), Hck.out]⟩, ⟨by have := Hl.out; omega⟩, HO1, HB1⟩
    case measure => simp [intOf]; omega
   | false =>
    have Hlo := Aside0.mk hlo
    clear hck hp
    go_wp2_with (first
     | (go_at_call 93; refine HDr.out.mono ?_; rintro e w1 ⟨rfl, hb1⟩; have HB1 := Aside0.mk (below_step HB.out hb1); have HO1 := Aside0.mk (HO.out.below hb1); clear hb1)
     | (go_at_call 94; with_reducible refine (refLetter_any _ _).mono ?_; rintro e w3 ⟨rfl, rfl⟩)
     | (at_builtin; refine wpList_append_b w.heap.size rfl _ _ 22 3 (.int .i64 0) 8 rfl Tryz.underlying22 Hinfo.out rfl (by decide) _ _ rfl (HO1.out.alloc _) (some ⟨w1.heap.size, 0, none⟩) 1 1 (ints [pos]) rfl rfl (news_row _ _ _) (fun e => by cases e) (ints_one _) (by have := Hl.out; unfold ints; rw [List.length_map]; omega) (by have := HB1.out.size; rw [World.size_alloc]; omega) ?_; intro v2 w2 hown2 hgrow2 hnear2; have HO2 := Aside0.mk hown2; have HB2 := Aside0.mk ((below_alloc HB1.out _).grown hgrow2 (by have := HB1.out.size; rw [World.size_alloc]; omega) (fun k e => by have := (HO1.out.lt k e).1; omega)); clear hown2 hgrow2 hnear2))
    go_roundw
    case rel => exact ⟨pos + k, !op, done ++ [pos], Hk.out.2, by simp, rfl, ⟨by rw [← Hd.out, pl_turn Hp.out (by rw [Hck.out]; have h := Hlo.out; cases op <;> cases hl : letter (c : Int) <;> simp_all), Hck.out]; simp⟩, ⟨by have := Hl.out; have := Hk.out.1; rw [List.length_append, List.length_singleton]; omega⟩, ⟨by have h := HO2.out; unfold ints at h ⊢; rw [List.map_append]; exact h⟩, HB2⟩
    case measure => simp [intOf]; omega
  ·have d1 : decide (pos < s.size) = false := decide_eq_false hp
   have hall := Hd.out
   rw [pl_end hp] at hall
   have hs1 := Hs.out
   cases op with
   | false =>
    have Hall2 : Aside0 (done = all) := ⟨by simpa using hall⟩
    clear hall hp
    go_wp2_with fail
    go_ret
    exact ⟨_, rfl, by rw [← Hall2.out]; exact HO.out, HB.out⟩
   | true =>
    have Hall2 : Aside0 (done ++ [s.size] = all) := ⟨by simpa using hall⟩
    clear hall hp
    go_wp2_with (at_builtin; refine wpList_append_b w.heap.size rfl _ _ 22 3 (.int .i64 0) 8 rfl Tryz.underlying22 Hinfo.out rfl (by decide) _ _ rfl (HO.out.alloc _) (some ⟨wr.heap.size, 0, none⟩) 1 1 (ints [s.size]) rfl rfl (news_row _ _ _) (fun e => by cases e) (ints_one _) (by have := Hl.out; unfold ints; rw [List.length_map]; omega) (by have := HB.out.size; rw [World.size_alloc]; omega) ?_; intro v2 w2 hown2 hgrow2 hnear2; have HO2 := Aside0.mk hown2; have HB2 := Aside0.mk ((below_alloc HB.out _).grown hgrow2 (by have := HB.out.size; rw [World.size_alloc]; omega) (fun k e => by have := (HO.out.lt k e).1; omega)); clear hown2 hgrow2 hnear2)
    go_ret
    exact ⟨_, rfl, by rw [← Hall2.out]; have h := HO2.out; unfold ints at h ⊢; rw [List.map_append]; exact h, HB2.out⟩
end Go.Proofs.YtpleiklodomgiaaGreatDoor.W
end
section
namespace Go.Proofs.YtpleiklodomgiaaGreatDoor.Hi
end Go.Proofs.YtpleiklodomgiaaGreatDoor.Hi
namespace Go.Proofs.YtpleiklodomgiaaGreatDoor.W
open Go.RowKit Go.Shelf Go.Proofs.YtpleiklodomgiaaGreatDoor.Hi Go.Proofs.YtpleiklodomgiaaGreatDoorW.PrintWords Go.Proofs.YtpleiklodomgiaaGreatDoorW.PrintLast Go.Proofs.YtpleiklodomgiaaGreatDoor.B
section
variable {F : Fence} {n : Nat} {P : Program} {w : World} {o : Oper} {a : Act} {Q : Exit → Act → World → Prop} {K : Act → World → Prop}
theorem opIn_append_b (base : Nat) (s x : Operand) (t e : TypeId) (z : Value) (bytes : Nat)
  (ho : o.op = Op.call { callee := Callee.builtin Builtin.append, args := #[s, x], argTypes := #[t, t] })
  (ht : P.underlying t = some (.slice e)) (hinfo : (P.info? e).map (fun i => (i.zero, i.size, i.bytes)) = some (some z, 1, bytes)) (hz : z.cells.size = 1) (hb0 : 0 < bytes)
  (v : Value) (xs : List Value) (hs : a.eval s = v) (hown : B.Own w base e v xs)
  (A : Option Addr) (m c : Nat) (news : List Value) (hx : a.eval x = .slice A m c) (hm : news.length = m) (hnews : ∀ ad, A = some ad → ∀ j u, news[j]? = some u → w.cell? (ad.add j) = some u) (hnil : A = none → news = []) (h1 : ∀ u ∈ news, u.oneCell' = true)
  (hbytes : (xs.length + m) * bytes ≤ 140737488355328) (hbase : base ≤ w.heap.size)
  (h : ∀ v' w', B.Own w' base e v' (xs ++ news) → w.grownBy w' v.ownBlock → (v'.ownBlock = v.ownBlock ∨ v'.ownBlock = some w.heap.size) → K (a.put o.dst v') w') : Oper.wpIn F n P o a w K Q := by
 obtain ⟨i0, hi, hzz⟩ := Option.map_eq_some_iff.1 hinfo
 simp only [Prod.mk.injEq] at hzz
 obtain ⟨hz0, hz1, hz2⟩ := hzz
 subst hm
 obtain ⟨v', w', hr, h2, h3, h4⟩ := run_append_b (P := P) w base t o.type e i0 z bytes ht hi hz0 hz1 hz2 hz hb0 v xs hown A c news hnews hnil h1 hbytes hbase
 unfold Oper.wpIn
 refine ⟨?_, ?_⟩
 ·simp [Oper.about, ho, resolve, Target.leads, Sem.run_pure]
 ·rw [Oper.semAt_plain F _ _ (by rw [ho]; intro c hc'; cases hc')]
  simp [execOp, ho, resolve, invoke, builtin, hs, hx, hr, Result.andThen]
  exact h v' w' h2 h3 h4
end
theorem own_types {w : World} {b b' : Nat} {e e' : TypeId} {v v' : Value} {xs ys : List Value} (h : B.Own w b e v xs) (h' : B.Own w b' e' v' ys) (hne : e ≠ e') : v.ownBlock = none ∨ v.ownBlock ≠ v'.ownBlock := by
 rcases h with ⟨rfl, _⟩ | ⟨g, cap, cur, fz, rfl, _, hg, _⟩
 ·exact .inl rfl
 ·refine .inr fun eq => ?_
  rcases h' with ⟨rfl, _⟩ | ⟨g', cap', cur', fz', rfl, _, hg', _⟩
  ·simp [Value.ownBlock] at eq
  ·simp [Value.ownBlock] at eq
   subst eq
   rw [hg] at hg'
   simp at hg'
   exact hne hg'.2.1
theorem ints_at (l : List Nat) (j f : Nat) (h : l[j]? = some f) : (ints l)[j]? = some (.int .i64 (f : Int)) := by
 unfold ints; rw [List.getElem?_map, h]; rfl
def txts (l : List ByteArray) : List Value := l.map Value.string
set_option maxRecDepth 20000 in
set_option maxHeartbeats 4000000 in
theorem refWords_any (s : ByteArray) (w : World) (hs : s.size ≤ 1100) (hD : Dec w) : Calls Tryz.prog 62 #[.string s] w fun e w' => ∃ v, e = .returned v ∧ B.Own w' w.heap.size 9 v (txts (words s)) ∧ Below w.heap.size w w' := by
 refine (callsIn_wide (n := 9)).1 ?_
 obtain ⟨sps, hsps⟩ : ∃ sps, sps = spansFrom s 0 none := ⟨_, rfl⟩
 have hcount := spans_count s s.size 0 none (by omega)
 have hle := spans_le s s.size 0 none (by omega) (by omega) (fun f e => by cases e)
 rw [← hsps] at hcount hle
 have hpl := pl_all s
 rw [← hsps] at hpl
 have hcalls := places_any s w hs hD
 rw [hpl] at hcalls
 have Hplaces := Aside0.mk hcalls
 have Hwords : Aside0 (words s = sps.map (word s)) := ⟨by unfold words; rw [← hsps]⟩
 have Hle := Aside0.mk hle
 have Hcount : Aside0 (sps.length ≤ 1100) := ⟨by simp only at hcount; omega⟩
 have Hinfo := Aside0.mk (show (Tryz.prog.info? 9).map (fun i => (i.zero, i.size, i.bytes)) = some (some (.string ⟨#[]⟩), 1, 16) by rfl)
 have hfo : (Tryz.prog).follows .mixedOrders = true := by kernel_rfl
 clear hcalls hpl hsps hcount hle hD hs
 refine callsIn_of_wp Tryz.func62 rfl trivial ?_ rfl
 simp only [Tryz.ntmps62, List.size_toArray, List.length_cons, List.length_nil, Nat.reduceAdd, Nat.reduceSub, Array.replicate_succ, Array.replicate_zero, List.push_toArray, List.append_toArray, List.nil_append, List.cons_append]
 gi_wp2_with (refine ⟨trivial, ?_⟩; gi_at_call 82; refine (callsIn_wide.2 Hplaces.out).mono ?_; rintro e w1 ⟨v1, rfl, ho1, hb1⟩; obtain ⟨A, c, rfl, hn1, hz1⟩ := own_news ho1; have HO1 := Aside0.mk ho1; have HB1 := Aside0.mk hb1; clear ho1 hb1 hn1 hz1)
 obtain ⟨N, hN⟩ : ∃ N, N = 2 * sps.length := ⟨_, rfl⟩
 have hlx : (ints (flat sps)).length = N := by unfold ints; rw [List.length_map, flat_length, hN]
 have HN := Aside0.mk hN
 have Hl1 := HO1.out
 rw [hlx] at Hl1 ⊢
 have HO1' := Aside0.mk Hl1
 clear HO1 Hl1 hlx hN
 gi_loopw [3, 5] (fun t3 t5 wr => ∃ (i j : Nat), i ≤ sps.length ∧ j = 2 * i ∧ t5 = .int .i64 (j : Int) ∧ Aside0 (B.Own wr w.heap.size 9 t3 (txts ((sps.take i).map (word s)))) ∧ Aside0 (B.Own wr w.heap.size 3 (.slice A N c) (ints (flat sps))) ∧ Aside0 (Below w.heap.size w wr)) (fun _ t5 _ => N - (intOf t5).toNat)
 case atStart => exact ⟨0, 0, Nat.zero_le _, rfl, rfl, ⟨Own.nil _ _ _⟩, HO1', HB1⟩
 case round =>
  clear HO1' HB1
  obtain ⟨i, j, hi, hj, rfl, HO, HI, HB⟩ := hrel
  have hN := HN.out
  have hcn := Hcount.out
  by_cases hlt : i < sps.length
  ·have d1 : decide (j < N) = true := decide_eq_true (by omega)
   obtain ⟨f, t, hft⟩ : ∃ f t, sps[i] = (f, t) := ⟨_, _, rfl⟩
   obtain ⟨b1, b2⟩ := Hle.out _ (List.getElem_mem hlt)
   have ha := flat_at sps i hlt
   rw [← hj] at ha
   rw [hft] at b1 b2 ha
   obtain ⟨A', c', he, hrd, hnil⟩ := own_news HI.out
   obtain ⟨rfl, rfl⟩ : A = A' ∧ c = c' := by simp only [Value.slice.injEq] at he; exact ⟨he.1, he.2.2⟩
   obtain ⟨ad, rfl⟩ : ∃ ad, A = some ad := by
    cases A with
    | some ad => exact ⟨ad, rfl⟩
    | none =>
     have h0 := congrArg List.length (hnil rfl)
     unfold ints at h0
     rw [List.length_map, flat_length, List.length_nil] at h0
     omega
   have c0 := hrd ad rfl j _ (ints_at _ j f ha.1)
   have c1 := hrd ad rfl (j + 1) _ (ints_at _ (j + 1) t ha.2)
   have hadd : ad.add (j + 1) = ⟨ad.block, ad.off + (j + 1), none⟩ := by unfold Addr.add; simp
   rw [hadd] at c1
   clear hadd
   have hsl : ∀ V, (Instr.slice 9 (.string s) (some (.int .i64 (f : Int))) (some (.int .i64 (t : Int))) none).run Tryz.prog V = .ok (.string (word s (f, t))) V := fun V => by
    have h := run_slice_string (P := Tryz.prog) V 9 s .i64 .i64 (f : Int) (t : Int) Tryz.underlying9 (by omega) (by omega) (by omega)
    simpa [word] using h
   have Hft := Aside0.mk hft
   have HO2 := Aside0.mk (HO.out.drew)
   have Hsz : Aside0 (wr.heap.size = wr.drew.heap.size) := ⟨rfl⟩
   have hjN : j + 1 < N := by omega
   have hjb : j ≤ 2200 := by omega
   have Hj := Aside0.mk hj
   have e1 : (j < N) = True := eq_true (by omega)
   have e2 : wrap64 ((j : Int) + 1) = (j : Int) + 1 := w64_in _ (by omega)
   have e3 : ((0 : Int) ≤ (j : Int) + 1) = True := eq_true (by omega)
   have e4 : ((j : Int) + 1 < (N : Int)) = True := eq_true (by omega)
   clear he hrd hnil ha b1 b2 hft hj hN hcn
   gi_wp2
   refine hi_start 12 (fun W_ => W_ = wr.drew) hfo ?_
   refine hi_pure 0 (some 14) (v := ?_) (L' := #[true, false, false, false, false, false, false, false, false, false, false, false, false, false, false]) (a' := ?_) rfl rfl rfl (by kernel_rfl) (fun _ _ _ h => h) (fun _ => rfl) (fun _ => rfl) (Or.inl ⟨by rfl, ?_⟩) ?_ ?_
   rotate_left 2
   ·intro w_
    go_simp
    try with_reducible rfl
   ·simp only [Act.put, List.setIfInBounds_toArray, List.set_cons_zero, List.set_cons_succ, i64_w, i32_w]
    rfl
   refine hi_take 1 (some 15) (v := ?_) (L' := #[true, true, false, false, false, false, false, false, false, false, false, false, false, false, false]) (a' := ?_) rfl rfl rfl (by kernel_rfl) (fun _ _ _ h => h) (fun _ => rfl) rfl (Or.inl ⟨by rfl, ?_⟩) ?_ ?_
   rotate_left 2
   ·rintro w_ rfl
    go_simp
    try with_reducible rfl
   ·simp only [Act.put, List.setIfInBounds_toArray, List.set_cons_zero, List.set_cons_succ, i64_w, i32_w]
    rfl
   refine hi_take 2 (some 16) (v := ?_) (L' := #[true, true, true, false, false, false, false, false, false, false, false, false, false, false, false]) (a' := ?_) rfl rfl rfl (by kernel_rfl) (fun _ _ _ h => h) (fun _ => rfl) rfl (Or.inl ⟨by rfl, ?_⟩) ?_ ?_
   rotate_left 2
   ·rintro w_ rfl
    go_simp
    try with_reducible rfl
   ·simp only [Act.put, List.setIfInBounds_toArray, List.set_cons_zero, List.set_cons_succ, i64_w, i32_w]
    rfl
   refine hi_take 3 (some 17) (v := ?_) (L' := #[true, true, true, true, false, false, false, false, false, false, false, false, false, false, false]) (a' := ?_) rfl rfl rfl (by kernel_rfl) (fun _ _ _ h => h) (fun _ => rfl) rfl (Or.inl ⟨by rfl, ?_⟩) ?_ ?_
   rotate_left 2
   ·rintro w_ rfl
    go_simp
    try with_reducible rfl
   ·simp only [Act.put, List.setIfInBounds_toArray, List.set_cons_zero, List.set_cons_succ, i64_w, i32_w]
    rfl
   refine hi_take 4 (some 18) (v := ?_) (L' := #[true, true, true, true, true, false, false, false, false, false, false, false, false, false, false]) (a' := ?_) rfl rfl rfl (by kernel_rfl) (fun _ _ _ h => h) (fun _ => rfl) rfl (Or.inl ⟨by rfl, ?_⟩) ?_ ?_
   rotate_left 2
   ·rintro w_ rfl
    go_simp
    try with_reducible rfl
   ·simp only [Act.put, List.setIfInBounds_toArray, List.set_cons_zero, List.set_cons_succ, i64_w, i32_w]
    rfl
   refine hi_take 5 (some 19) (v := ?_) (L' := #[true, true, true, true, true, true, false, false, false, false, false, false, false, false, false]) (a' := ?_) rfl rfl rfl (by kernel_rfl) (fun _ _ _ h => h) (fun _ => rfl) rfl (Or.inl ⟨by rfl, ?_⟩) ?_ ?_
   rotate_left 2
   ·rintro w_ rfl
    go_simp
    try with_reducible rfl
   ·simp only [Act.put, List.setIfInBounds_toArray, List.set_cons_zero, List.set_cons_succ, i64_w, i32_w]
    rfl
   refine hi_take 6 (some 20) (v := ?_) (L' := #[true, true, true, true, true, true, true, false, false, false, false, false, false, false, false]) (a' := ?_) rfl rfl rfl (by kernel_rfl) (fun _ _ _ h => h) (fun _ => rfl) rfl (Or.inl ⟨by rfl, ?_⟩) ?_ ?_
   rotate_left 2
   ·rintro w_ rfl
    go_simp
    try with_reducible rfl
   ·simp only [Act.put, List.setIfInBounds_toArray, List.set_cons_zero, List.set_cons_succ, i64_w, i32_w]
    rfl
   refine hi_take 7 (some 21) (v := ?_) (L' := #[true, true, true, true, true, true, true, true, false, false, false, false, false, false, false]) (a' := ?_) rfl rfl rfl (by kernel_rfl) (fun _ _ _ h => h) (fun _ => rfl) rfl (Or.inl ⟨by rfl, ?_⟩) ?_ ?_
   rotate_left 2
   ·rintro w_ rfl
    go_simp
    try with_reducible rfl
   ·simp only [Act.put, List.setIfInBounds_toArray, List.set_cons_zero, List.set_cons_succ, i64_w, i32_w]
    rfl
   refine hi_take 8 (some 22) (v := ?_) (L' := #[true, true, true, true, true, true, true, true, true, false, false, false, false, false, false]) (a' := ?_) rfl rfl rfl (by kernel_rfl) (fun _ _ _ h => h) (fun _ => rfl) rfl (Or.inl ⟨by rfl, ?_⟩) ?_ ?_
   rotate_left 2
   ·rintro w_ rfl
    go_simp
    try with_reducible rfl
   ·simp only [Act.put, List.setIfInBounds_toArray, List.set_cons_zero, List.set_cons_succ, i64_w, i32_w]
    rfl
   refine hi_take 9 (some 23) (v := ?_) (L' := #[true, true, true, true, true, true, true, true, true, true, false, false, false, false, false]) (a' := ?_) rfl rfl rfl (by kernel_rfl) (fun _ _ _ h => h) (fun _ => rfl) rfl (Or.inl ⟨by rfl, ?_⟩) ?_ ?_
   rotate_left 2
   ·rintro w_ rfl
    go_simp
    try with_reducible rfl
   ·simp only [Act.put, List.setIfInBounds_toArray, List.set_cons_zero, List.set_cons_succ, i64_w, i32_w]
    rfl
   refine hi_take 10 (some 24) (v := ?_) (L' := #[true, true, true, true, true, true, true, true, true, true, true, false, false, false, false]) (a' := ?_) rfl rfl rfl (by kernel_rfl) (fun _ _ _ h => h) (fun _ => rfl) rfl (Or.inl ⟨by rfl, ?_⟩) ?_ ?_
   rotate_left 2
   ·rintro w_ rfl
    go_simp
    try with_reducible rfl
   ·simp only [Act.put, List.setIfInBounds_toArray, List.set_cons_zero, List.set_cons_succ, i64_w, i32_w]
    rfl
   refine hi_take 11 (some 25) (v := ?_) (L' := #[true, true, true, true, true, true, true, true, true, true, true, true, false, false, false]) (a' := ?_) rfl rfl rfl (by kernel_rfl) (fun _ _ _ h => h) (fun _ => rfl) rfl (Or.inl ⟨by rfl, ?_⟩) ?_ ?_
   rotate_left 2
   ·rintro w_ rfl
    go_simp
    try with_reducible rfl
   ·simp only [Act.put, List.setIfInBounds_toArray, List.set_cons_zero, List.set_cons_succ, i64_w, i32_w]
    rfl
   clear c0 c1 hsl e1 e2 e3 e4
   refine hi_one 12 (L' := #[true, true, true, true, true, true, true, true, true, true, true, true, true, false, false]) rfl (by kernel_rfl) rfl (fun K hK => ?_)
   go_simp
   refine hK.out _ _ (fun h => by cases h) ?_
   clear hK K
   refine hi_one 13 (L' := #[true, true, true, true, true, true, true, true, true, true, true, true, true, true, false]) rfl (by kernel_rfl) rfl (fun K hK => ?_)
   refine (if_pos (by rfl)).mpr (opIn_append_b w.heap.size _ _ 59 9 (.string ⟨#[]⟩) 16 rfl Tryz.underlying59 Hinfo.out rfl (by decide) _ _ rfl (HO2.out.alloc _) (some ⟨wr.heap.size, 0, none⟩) 1 1 [.string (word s (f, t))] rfl rfl (news_row _ _ _) (fun e => by cases e) (fun u hu => by rw [List.mem_singleton.1 hu]; rfl) (by have := Hcount.out; unfold txts; rw [List.length_map, List.length_map, List.length_take]; omega) (by have := HB.out.size; show w.heap.size ≤ (wr.alloc _).heap.size; rw [World.size_alloc]; omega) ?_)
   intro v2 w2 hown2 hgrow2 hnear2
   have HB2 := Aside0.mk ((below_alloc HB.out.drew _).grown hgrow2 (by have := HB.out.size; show w.heap.size ≤ (wr.alloc _).heap.size; rw [World.size_alloc]; omega) (fun k e => by have := (HO2.out.lt k e).1; omega))
   have HI2 : Aside0 (B.Own w2 w.heap.size 3 (.slice (some ad) N c) (ints (flat sps))) := ⟨(HI.out.drew.alloc _).kept hgrow2 (own_types HI.out HO.out (by decide))⟩
   have HO3 : Aside0 (B.Own w2 w.heap.size 9 v2 (txts ((sps.take (i + 1)).map (word s)))) := ⟨by
    have e : sps.take (i + 1) = sps.take i ++ [(f, t)] := by rw [← Hft.out, List.take_succ_eq_append_getElem hlt]
    unfold txts at hown2 ⊢
    rw [e, List.map_append, List.map_append]
    exact hown2⟩
   clear hown2 hgrow2 hnear2
   refine hK.out _ _ (fun h => by cases h) ?_
   clear hK K
   refine hi_one 14 (L' := #[true, true, true, true, true, true, true, true, true, true, true, true, true, true, true]) rfl (by kernel_rfl) rfl (fun K hK => ?_)
   go_simp
   refine hK.out _ _ (fun h => by cases h) (hi_done (by kernel_rfl) ?_ _)
   clear hK K
   gi_wp2
   go_roundw
   case rel => exact ⟨i + 1, j + 2, by omega, by have := Hj.out; omega, by simp, HO3, HI2, HB2⟩
   case measure => simp [intOf]; omega
  ·have d1 : decide (j < N) = false := decide_eq_false (by omega)
   have Hall : Aside0 (words s = (sps.take i).map (word s)) := ⟨by rw [Hwords.out, List.take_of_length_le (by omega)]⟩
   gi_wp2
   refine bodyPost_ret (results_tmp rfl _ _ _) rfl ?_
   exact ⟨_, rfl, by rw [Hall.out]; exact HO.out, HB.out⟩
end Go.Proofs.YtpleiklodomgiaaGreatDoor.W
end
section
namespace Go.Proofs.YtpleiklodomgiaaGreatDoor.W
open Go.RowKit Go.Proofs.YtpleiklodomgiaaGreatDoorW.PrintWords Go.Proofs.YtpleiklodomgiaaGreatDoorW.PrintLast Go.Proofs.YtpleiklodomgiaaGreatDoor.B
theorem refWordsS (s : ByteArray) (w : World) (hs : s.size ≤ 1100) (hD : Dec w) : Calls Tryz.prog 62 #[.string s] w fun e w' => ∃ A c, e = .returned (.slice A (words s).length c) ∧ Aside0 (ReadsS w' (.slice A (words s).length c) (words s)) ∧ Below w.heap.size w w' := by
 refine (refWords_any s w hs hD).mono ?_
 rintro e w' ⟨v, rfl, ho, hb⟩
 have hr := readsS_own (xs := words s) ho
 obtain ⟨A, c, rfl, h⟩ := hr
 exact ⟨A, c, rfl, ⟨A, c, rfl, h⟩, hb⟩
set_option maxRecDepth 20000 in
set_option maxHeartbeats 4000000 in
theorem refHas_any (s x0 : ByteArray) (w : World) (hs : s.size ≤ 1100) (hD : Dec w) : Calls Tryz.prog 42 #[.string s, .string x0] w fun e w' => e = .returned (.bool (hasB s x0)) ∧ Below w.heap.size w w' := by
 have HW := Aside0.mk (refWordsS s w hs hD)
 have hc := words_count s
 obtain ⟨ws, hws⟩ : ∃ ws, ws = words s := ⟨_, rfl⟩
 have Hh : Aside0 (hasB s x0 = ws.any fun y => y.toList == x0.toList) := ⟨by rw [hws]; rfl⟩
 have Hlen : Aside0 (ws.length ≤ 1100) := ⟨by rw [hws]; omega⟩
 rw [← hws] at HW
 clear hws hc hs hD
 go_enter Tryz.func42, Tryz.ntmps42
 go_wp2_with (go_at_call 62; refine HW.out.mono ?_; rintro e w1 ⟨A, c, rfl, HR1, hb1⟩; have HB1 := Aside0.mk hb1; clear hb1)
 clear HW
 go_loopw [10] (fun t10 wr => ∃ (i : Nat), i ≤ ws.length ∧ t10 = .int .i64 (i : Int) ∧ Aside0 (x0 ∉ ws.take i) ∧ Aside0 (ReadsS wr (.slice A ws.length c) ws) ∧ Aside0 (Below w.heap.size w wr)) (fun t10 _ => ws.length - (intOf t10).toNat)
 case atStart => exact ⟨0, Nat.zero_le _, rfl, ⟨by simp⟩, HR1, HB1⟩
 case round =>
  clear HR1 HB1
  obtain ⟨i, hi, rfl, HN, HR, HB⟩ := hrel
  by_cases hlt : i < ws.length
  ·obtain ⟨x, hx⟩ : ∃ x, x = ws[i] := ⟨_, rfl⟩
   obtain ⟨A1, c1, he, h2, h3, h4⟩ := HR.out
   obtain ⟨ad, rfl, hc⟩ := h4 (by omega)
   obtain rfl : A = some ad := by simp only [Value.slice.injEq] at he; exact he.1
   have hcell : wr.cell? (ad.add i) = some (.string x) := by
    rw [hc i hlt, hx, List.getD_eq_getElem?_getD, List.getElem?_eq_getElem hlt]; rfl
   have hl11 := Hlen.out
   have d : decide ((i : Int) < (ws.length : Int)) = true := decide_eq_true (by omega)
   have Hx := Aside0.mk hx
   clear he h2 h3 h4 hc hx
   cases hxe : (x.toList == x0.toList) with
   | true =>
    have Hret : Aside0 (hasB s x0 = true) := ⟨by rw [Hh.out, ← (text_iff _ _).1 hxe, Hx.out]; exact any_true (List.getElem_mem hlt)⟩
    go_wp2_with fail
    go_ret
    exact ⟨by rw [Hret.out]; rfl, HB.out⟩
   | false =>
    have Hne := Aside0.mk (text_not hxe)
    go_wp2_with fail
    go_roundw
    case rel => exact ⟨i + 1, by omega, by simp, ⟨by
     rw [List.take_succ_eq_append_getElem hlt]
     intro hm
     exact (List.mem_append.1 hm).elim HN.out (fun hm => Hne.out (by rw [Hx.out]; exact (List.mem_singleton.1 hm).symm))⟩, HR, HB⟩
    case measure => simp [intOf]; omega
  ·have d : decide ((i : Int) < (ws.length : Int)) = false := decide_eq_false (by omega)
   have Hret : Aside0 (hasB s x0 = false) := ⟨by rw [Hh.out]; have h := HN.out; rw [List.take_of_length_le (by omega)] at h; exact any_false h⟩
   go_wp2_with fail
   go_ret
   exact ⟨by rw [Hret.out]; rfl, HB.out⟩
end Go.Proofs.YtpleiklodomgiaaGreatDoor.W
end
section
namespace Go.Proofs.YtpleiklodomgiaaGreatDoor.W
open Go.RowKit Go.Proofs.YtpleiklodomgiaaGreatDoorW.PrintWords Go.Proofs.YtpleiklodomgiaaGreatDoorW.PrintLast Go.Proofs.YtpleiklodomgiaaGreatDoorW.PrintMore Go.Proofs.YtpleiklodomgiaaGreatDoor.B
def mx (x y : Int) : Int := if x < y then y else x
def mn (x y : Int) : Int := if y < x then y else x
theorem max2_mx (k k' : IntKind) (x y : Int) : Builtin.max2 (.int k x) (.int k' y) = pure (.int k (mx x y)) := max2_int k k' x y
theorem min2_mn (k k' : IntKind) (x y : Int) : Builtin.min2 (.int k x) (.int k' y) = pure (.int k (mn x y)) := min2_int k k' x y
attribute [local go_sem] max2_mx min2_mn max_two min_two
end Go.Proofs.YtpleiklodomgiaaGreatDoor.W
end
