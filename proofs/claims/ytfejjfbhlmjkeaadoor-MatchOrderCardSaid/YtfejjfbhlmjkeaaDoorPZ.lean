/- Texts of this claim, made one by a program: each begins with a comment of its own. -/
import Derived.Test.YtfejjfbhlmjkeaaDoorWG
import Derived.Lib.RuneCountTail
import Derived.Shelf.Unicode.DecodeAny
import Derived.Shelf.Small.Bits
import Derived.Shelf.Utf8.RuneCount
import Derived.Shelf.Strconv.Itoa0
import Derived.Shelf.Strings.Search1
import Derived.Shelf.Strings.Search2
import Derived.Shelf.Strings.Search3
import Derived.Shelf.Strings.Count
import Derived.Shelf.LaysM
import Derived.Shelf.Strings.Shaped
import Derived.Shelf.Strings.Split
import Derived.Shelf.Strings.SplitShaped
import Derived.Shelf.Unicode.Decode
import Derived.Shelf.Strings.RuneCount
import Derived.Shelf.Strings.Explode
import Derived.Shelf.Unicode.DecodeSlow
import Derived.Ground.Names2Prog
import Derived.Shelf.Slices.SearchI
import Derived.Test.YtfejjfbhlmjkeaaDoorProg
import Derived.Lib.LaidU8T
import Derived.PinnedBridge
import Derived.KernelRfl
import Derived.Lib.IndexMore
import Derived.HandedShaped
import Derived.Handed
import Derived.Shelf.Vars
/- What the reference reckons of words: where they begin and end, one behind the other; plain laws. -/
set_option linter.unusedVariables false
set_option linter.unusedSimpArgs false
namespace Go.Proofs.YtfejjfbhlmjkeaaDoor.W
open Go.RowKit Go.Lib Go.Proofs.YtfejjfbhlmjkeaaDoor.B Go.Proofs.YtfejjfbhlmjkeaaDoor.WL

/-- Where words begin, and end, from a place on; op: a word is open. -/
def pl (s : ByteArray) (pos : Nat) (op : Bool) : List Nat :=
  if h : pos < s.size then
    if letter ((Utf8.decode s pos).1 : Int) = op then pl s (pos + (Utf8.decode s pos).2) op
    else pos :: pl s (pos + (Utf8.decode s pos).2) (!op)
  else if op then [s.size] else []
termination_by s.size - pos
decreasing_by
  all_goals (have := Lib.decode_width_pos s pos h; omega)
theorem pl_end {s : ByteArray} {pos : Nat} (h : ¬ pos < s.size) (op : Bool) : pl s pos op = if op then [s.size] else [] := by rw [pl.eq_def, dif_neg h]
theorem pl_same {s : ByteArray} {pos : Nat} (h : pos < s.size) {op : Bool} (hl : letter ((Utf8.decode s pos).1 : Int) = op) : pl s pos op = pl s (pos + (Utf8.decode s pos).2) op := by rw [pl.eq_def, dif_pos h, if_pos hl]
theorem pl_turn {s : ByteArray} {pos : Nat} (h : pos < s.size) {op : Bool} (hl : letter ((Utf8.decode s pos).1 : Int) = !op) : pl s pos op = pos :: pl s (pos + (Utf8.decode s pos).2) (!op) := by
  rw [pl.eq_def, dif_pos h, if_neg (by rw [hl]; cases op <;> simp)]
/-- Pairs, one behind the other. -/
def flat (l : List (Nat × Nat)) : List Nat := l.flatMap fun x => [x.1, x.2]
theorem pl_spans (s : ByteArray) : ∀ (n pos : Nat), s.size - pos ≤ n → flat (spansFrom s pos none) = pl s pos false ∧ ∀ f, flat (spansFrom s pos (some f)) = f :: pl s pos true := by
  intro n
  induction n with
  | zero => intro pos h; rw [spansFrom_end (by omega), pl_end (by omega)]; exact ⟨rfl, fun f => by rw [spansFrom_end (by omega), pl_end (by omega)]; rfl⟩
  | succ n ih =>
    intro pos h
    by_cases hp : pos < s.size
    · have hw := decode_width_pos s pos hp
      have h1 := ih (pos + (Utf8.decode s pos).2) (by omega)
      cases hl : letter ((Utf8.decode s pos).1 : Int) with
      | true =>
        refine ⟨?_, fun f => ?_⟩
        · rw [spansFrom_is hp hl, pl_turn hp (by rw [hl]; rfl), h1.2]; rfl
        · rw [spansFrom_is hp hl, pl_same hp hl, h1.2]; rfl
      | false =>
        refine ⟨?_, fun f => ?_⟩
        · rw [spansFrom_none hp hl, pl_same hp hl, h1.1]
        · rw [spansFrom_some hp hl, pl_turn hp (by rw [hl]; rfl)]
          show f :: pos :: flat _ = _
          rw [h1.1]; rfl
    · rw [spansFrom_end hp, pl_end hp]
      exact ⟨rfl, fun f => by rw [spansFrom_end hp, pl_end hp]; rfl⟩
theorem pl_all (s : ByteArray) : pl s 0 false = flat (spansFrom s 0 none) := ((pl_spans s s.size 0 (by omega)).1).symm
theorem flat_length (l : List (Nat × Nat)) : (flat l).length = 2 * l.length := by
  induction l with
  | nil => rfl
  | cons x t ih => show (flat t).length + 1 + 1 = _; rw [ih, List.length_cons]; omega
theorem flat_at (l : List (Nat × Nat)) (i : Nat) (h : i < l.length) : (flat l)[2 * i]? = some l[i].1 ∧ (flat l)[2 * i + 1]? = some l[i].2 := by
  induction l generalizing i with
  | nil => cases h
  | cons x t ih =>
    cases i with
    | zero => exact ⟨rfl, rfl⟩
    | succ i =>
      have h1 := ih i (by simpa using h)
      have e : ∀ k, (flat (x :: t))[k + 2]? = (flat t)[k]? := fun k => rfl
      have e1 : 2 * (i + 1) = 2 * i + 2 := by omega
      have e2 : 2 * (i + 1) + 1 = (2 * i + 1) + 2 := by omega
      rw [e1, e, show 2 * i + 2 + 1 = (2 * i + 1) + 2 by omega, e]
      exact h1
/-- Behind a word that ends with the text there is none. -/
theorem spans_last (s : ByteArray) : ∀ (n pos : Nat) (fr : Option Nat), s.size - pos ≤ n → ∀ x t, spansFrom s pos fr = x :: t → x.2 = s.size → t = [] := by
  have hend : ∀ (pos : Nat) (fr : Option Nat), ¬ pos < s.size → ∀ x t, spansFrom s pos fr = x :: t → t = [] := by
    intro pos fr hp x t he
    rw [spansFrom_end hp] at he
    cases fr with
    | none => cases he
    | some f => simp at he; exact he.2
  intro n
  induction n with
  | zero => exact fun pos fr h x t he _ => hend pos fr (by omega) x t he
  | succ n ih =>
    intro pos fr h x t he hx
    by_cases hp : pos < s.size
    · have hw := decode_width_pos s pos hp
      cases hl : letter ((Utf8.decode s pos).1 : Int) with
      | true => rw [spansFrom_is hp hl] at he; exact ih _ _ (by omega) x t he hx
      | false =>
        cases fr with
        | none => rw [spansFrom_none hp hl] at he; exact ih _ _ (by omega) x t he hx
        | some f =>
          rw [spansFrom_some hp hl] at he
          simp only [List.cons.injEq] at he
          obtain ⟨rfl, _⟩ := he
          simp only at hx
          omega
    · exact hend pos fr hp x t he
/-- What is one word has itself alone. -/
theorem words_of_is (s : ByteArray) (h : isWord s = true) : words s = [s] := by
  unfold isWord at h
  cases hsp : spansFrom s 0 none with
  | nil => rw [hsp] at h; cases h
  | cons x t =>
    rw [hsp] at h
    simp only [Bool.and_eq_true, beq_iff_eq] at h
    have e1 : x.1 = 0 := by omega
    have e2 : x.2 = s.size := by omega
    obtain rfl := spans_last s s.size 0 none (by omega) x t hsp e2
    unfold words
    rw [hsp]
    show [word s x] = [s]
    unfold word
    rw [e1, e2]
    congr 1
    apply ByteArray.ext
    rw [ByteArray.data_extract]
    exact Array.extract_size
/-- What the reference tells of a text that is one word. -/
def oneB (l : List ByteArray) (s : ByteArray) : Bool := match l with
  | [x] => x.toList == s.toList
  | _ => false
theorem oneB_iff (l : List ByteArray) (s : ByteArray) : oneB l s = true ↔ l = [s] := by
  unfold oneB
  split
  · rw [text_iff]
    constructor
    · rintro rfl; rfl
    · intro h; simpa using h
  · rename_i h
    constructor
    · intro h1; cases h1
    · rintro rfl; exact absurd rfl (h s)
theorem is_one (s : ByteArray) : isWord s = oneB (words s) s := by
  rw [Bool.eq_iff_iff, oneB_iff]
  exact ⟨words_of_is s, isWord_of s⟩
theorem inner_eq (s : ByteArray) : inner s = ((spansFrom s 0 none).filter fun x => decide (x.1 ≠ 0) && decide (x.2 ≠ s.size)).map (word s) := by
  unfold inner
  congr 1
  apply List.filter_congr
  intro x hx
  have := spans_le s s.size 0 none (by omega) (by omega) (fun f e => by cases e) x hx
  rw [Bool.eq_iff_iff]
  simp
  omega
theorem inner_count (s : ByteArray) : (inner s).length ≤ (spansFrom s 0 none).length := by
  unfold inner
  rw [List.length_map]
  exact List.length_filter_le _ _
end Go.Proofs.YtfejjfbhlmjkeaaDoor.W

/- Places: what it computes. -/
set_option linter.unusedVariables false
set_option linter.unusedSimpArgs false
namespace Go.Proofs.YtfejjfbhlmjkeaaDoor.W
open Go.RowKit Go.Proofs.YtfejjfbhlmjkeaaDoorW.PrintWords Go.Proofs.YtfejjfbhlmjkeaaDoorW.PrintLast Go.Proofs.YtfejjfbhlmjkeaaDoor.B Go.Proofs.YtfejjfbhlmjkeaaDoor.WL

/-- The library's decoder answers what it should, from this world on. -/
def Dec (w : World) : Prop := ∀ (s : ByteArray) (w' : World), Below w.heap.size w w' → Calls Tryd.prog 65 #[.string s] w' fun e w2 => e = .returned (.tuple #[.int .i32 (Lib.decodeGo s).1, .int .i64 (Lib.decodeGo s).2]) ∧ Below w'.heap.size w' w2
theorem Dec.below {w w1 : World} (h : Dec w) (hb : Below w.heap.size w w1) : Dec w1 := fun s w' hb' => h s w' (below_step hb hb')
theorem dec_tail (s : ByteArray) (pos : Nat) (h : pos < s.size) : Lib.decodeGo (s.extract pos s.size) = Utf8.decode s pos := by
  unfold Lib.decodeGo
  have hz : (s.extract pos s.size).size ≠ 0 := by rw [ByteArray.size_extract]; omega
  simp only [hz, if_false]
  rw [Lib.tail_decode, Nat.add_zero]
theorem dec_le (s : ByteArray) (pos : Nat) (h : pos < s.size) : pos + (Utf8.decode s pos).2 ≤ s.size := by
  have hd := Lib.decodeL_drop s pos
  have hne : s.data.toList.drop pos ≠ [] := fun e => by have h1 := congrArg List.length e; rw [List.length_drop, size_list, List.length_nil] at h1; omega
  have hw := Lib.decodeL_le _ hne
  rw [List.length_drop, size_list, hd] at hw
  omega
/-- Numbers as cells. -/
def ints (l : List Nat) : List Value := l.map fun (n : Nat) => Value.int .i64 (n : Int)
theorem ints_one (l : List Nat) : ∀ u ∈ ints l, u.oneCell' = true := by
  intro u hu
  obtain ⟨n, _, rfl⟩ := List.mem_map.1 hu
  rfl
set_option maxRecDepth 20000 in
set_option maxHeartbeats 4000000 in
theorem places_any (s : ByteArray) (w : World) (hs : s.size ≤ 1100) (hD : Dec w) : Calls Tryd.prog 43 #[.string s] w fun e w' => ∃ v, e = .returned v ∧ B.Own w' w.heap.size 3 v (ints (pl s 0 false)) ∧ Below w.heap.size w w' := by
  obtain ⟨all, hall⟩ : ∃ all, all = pl s 0 false := ⟨_, rfl⟩
  have Hall := Aside0.mk hall
  have HD := Aside0.mk hD
  have Hs := Aside0.mk hs
  have Hinfo := Aside0.mk (show (Tryd.prog.info? 3).map (fun i => (i.zero, i.size, i.bytes)) = some (some (.int .i64 0), 1, 8) by rfl)
  rw [← hall]
  clear hall hD hs
  go_enter Tryd.func43, Tryd.ntmps43
  go_wp2_with fail
  go_loopw [3, 4, 5] (fun t3 t4 t5 wr => ∃ (pos : Nat) (op : Bool) (done : List Nat), pos ≤ s.size ∧ t5 = .int .i64 (pos : Int) ∧ t4 = .bool op ∧ Aside0 (done ++ pl s pos op = all) ∧ Aside0 (done.length ≤ pos) ∧ Aside0 (B.Own wr w.heap.size 3 t3 (ints done)) ∧ Aside0 (Below w.heap.size w wr)) (fun _ _ t5 _ => s.size - (intOf t5).toNat)
  case atStart => exact ⟨0, false, [], Nat.zero_le _, rfl, rfl, ⟨by rw [Hall.out]; rfl⟩, ⟨Nat.le_refl _⟩, ⟨Own.nil _ _ _⟩, ⟨Below.refl _ _⟩⟩
  case round =>
    obtain ⟨pos, op, done, hpos, rfl, rfl, Hd, Hl, HO, HB⟩ := hrel
    by_cases hp : pos < s.size
    · have d1 : decide (pos < s.size) = true := decide_eq_true hp
      have Hp := Aside0.mk hp
      obtain ⟨c, k, hck⟩ : ∃ c k, Utf8.decode s pos = (c, k) := ⟨_, _, rfl⟩
      have hk1 := Lib.decode_width_pos s pos hp
      have hk2 := dec_le s pos hp
      have hs1 := Hs.out
      rw [hck] at hk1 hk2
      simp only at hk1 hk2
      have Hck := Aside0.mk hck
      have Hdt := Aside0.mk (dec_tail s pos hp)
      have Hk := Aside0.mk (And.intro hk1 hk2)
      have HDr := Aside0.mk (HD.out (s.extract pos s.size) wr HB.out)
      rw [Hdt.out, Hck.out] at HDr
      cases hlo : (letter (c : Int) == op) with
      | true =>
        have Hlo := Aside0.mk hlo
        clear hck hp
        go_wp2_with (first
          | (go_at_call 65; refine HDr.out.mono ?_; rintro e w1 ⟨rfl, hb1⟩; have HB1 := Aside0.mk (below_step HB.out hb1); have HO1 := Aside0.mk (HO.out.below hb1); clear hb1)
          | (go_at_call 66; with_reducible refine (refLetter_any _ _).mono ?_; rintro e w3 ⟨rfl, rfl⟩))
        go_roundw
        case rel => exact ⟨pos + k, op, done, Hk.out.2, by simp, rfl, ⟨by rw [← Hd.out, pl_same Hp.out (by rw [Hck.out]; have h := Hlo.out; cases op <;> cases hl : letter (c : Int) <;> simp_all), Hck.out]⟩, ⟨by have := Hl.out; omega⟩, HO1, HB1⟩
        case measure => simp [intOf]; omega
      | false =>
        have Hlo := Aside0.mk hlo
        clear hck hp
        go_wp2_with (first
          | (go_at_call 65; refine HDr.out.mono ?_; rintro e w1 ⟨rfl, hb1⟩; have HB1 := Aside0.mk (below_step HB.out hb1); have HO1 := Aside0.mk (HO.out.below hb1); clear hb1)
          | (go_at_call 66; with_reducible refine (refLetter_any _ _).mono ?_; rintro e w3 ⟨rfl, rfl⟩)
          | (at_builtin; refine wpList_append_b w.heap.size rfl _ _ 33 3 (.int .i64 0) 8 rfl Tryd.underlying33 Hinfo.out rfl (by decide) _ _ rfl (HO1.out.alloc _) (some ⟨w1.heap.size, 0, none⟩) 1 1 (ints [pos]) rfl rfl (news_row _ _ _) (fun e => by cases e) (ints_one _) (by have := Hl.out; unfold ints; rw [List.length_map]; omega) (by have := HB1.out.size; rw [World.size_alloc]; omega) ?_; intro v2 w2 hown2 hgrow2 hnear2; have HO2 := Aside0.mk hown2; have HB2 := Aside0.mk ((below_alloc HB1.out _).grown hgrow2 (by have := HB1.out.size; rw [World.size_alloc]; omega) (fun k e => by have := (HO1.out.lt k e).1; omega)); clear hown2 hgrow2 hnear2))
        go_roundw
        case rel => exact ⟨pos + k, !op, done ++ [pos], Hk.out.2, by simp, rfl, ⟨by rw [← Hd.out, pl_turn Hp.out (by rw [Hck.out]; have h := Hlo.out; cases op <;> cases hl : letter (c : Int) <;> simp_all), Hck.out]; simp⟩, ⟨by have := Hl.out; have := Hk.out.1; rw [List.length_append, List.length_singleton]; omega⟩, ⟨by have h := HO2.out; unfold ints at h ⊢; rw [List.map_append]; exact h⟩, HB2⟩
        case measure => simp [intOf]; omega
    · have d1 : decide (pos < s.size) = false := decide_eq_false hp
      have hall := Hd.out
      rw [pl_end hp] at hall
      have hs1 := Hs.out
      cases op with
      | false =>
        have Hall2 : Aside0 (done = all) := ⟨by simpa using hall⟩
        clear hall hp
        go_wp2_with fail
        go_ret
        exact ⟨_, rfl, by rw [← Hall2.out]; exact HO.out, HB.out⟩
      | true =>
        have Hall2 : Aside0 (done ++ [s.size] = all) := ⟨by simpa using hall⟩
        clear hall hp
        go_wp2_with (at_builtin; refine wpList_append_b w.heap.size rfl _ _ 33 3 (.int .i64 0) 8 rfl Tryd.underlying33 Hinfo.out rfl (by decide) _ _ rfl (HO.out.alloc _) (some ⟨wr.heap.size, 0, none⟩) 1 1 (ints [s.size]) rfl rfl (news_row _ _ _) (fun e => by cases e) (ints_one _) (by have := Hl.out; unfold ints; rw [List.length_map]; omega) (by have := HB.out.size; rw [World.size_alloc]; omega) ?_; intro v2 w2 hown2 hgrow2 hnear2; have HO2 := Aside0.mk hown2; have HB2 := Aside0.mk ((below_alloc HB.out _).grown hgrow2 (by have := HB.out.size; rw [World.size_alloc]; omega) (fun k e => by have := (HO.out.lt k e).1; omega)); clear hown2 hgrow2 hnear2)
        go_ret
        exact ⟨_, rfl, by rw [← Hall2.out]; have h := HO2.out; unfold ints at h ⊢; rw [List.map_append]; exact h, HB2.out⟩
end Go.Proofs.YtfejjfbhlmjkeaaDoor.W

/- The reference's Words: what it computes. -/
set_option linter.unusedVariables false
set_option linter.unusedSimpArgs false
namespace Go.Proofs.YtfejjfbhlmjkeaaDoor.W
open Go.RowKit Go.Shelf Go.Proofs.YtfejjfbhlmjkeaaDoor.Hi Go.Proofs.YtfejjfbhlmjkeaaDoorW.PrintWords Go.Proofs.YtfejjfbhlmjkeaaDoorW.PrintLast Go.Proofs.YtfejjfbhlmjkeaaDoor.B

section
variable {F : Fence} {n : Nat} {P : Program} {w : World} {o : Oper} {a : Act} {Q : Exit → Act → World → Prop} {K : Act → World → Prop}
/-- append(v, x...), of one operation, in a fence: x a slice that is read. -/
theorem opIn_append_b (base : Nat) (s x : Operand) (t e : TypeId) (z : Value) (bytes : Nat)
    (ho : o.op = Op.call { callee := Callee.builtin Builtin.append, args := #[s, x], argTypes := #[t, t] })
    (ht : P.underlying t = some (.slice e)) (hinfo : (P.info? e).map (fun i => (i.zero, i.size, i.bytes)) = some (some z, 1, bytes)) (hz : z.cells.size = 1) (hb0 : 0 < bytes)
    (v : Value) (xs : List Value) (hs : a.eval s = v) (hown : B.Own w base e v xs)
    (A : Option Addr) (m c : Nat) (news : List Value) (hx : a.eval x = .slice A m c) (hm : news.length = m) (hnews : ∀ ad, A = some ad → ∀ j u, news[j]? = some u → w.cell? (ad.add j) = some u) (hnil : A = none → news = []) (h1 : ∀ u ∈ news, u.oneCell' = true)
    (hbytes : (xs.length + m) * bytes ≤ 140737488355328) (hbase : base ≤ w.heap.size)
    (h : ∀ v' w', B.Own w' base e v' (xs ++ news) → w.grownBy w' v.ownBlock → (v'.ownBlock = v.ownBlock ∨ v'.ownBlock = some w.heap.size) → K (a.put o.dst v') w') : Oper.wpIn F n P o a w K Q := by
  obtain ⟨i0, hi, hzz⟩ := Option.map_eq_some_iff.1 hinfo
  simp only [Prod.mk.injEq] at hzz
  obtain ⟨hz0, hz1, hz2⟩ := hzz
  subst hm
  obtain ⟨v', w', hr, h2, h3, h4⟩ := run_append_b (P := P) w base t o.type e i0 z bytes ht hi hz0 hz1 hz2 hz hb0 v xs hown A c news hnews hnil h1 hbytes hbase
  unfold Oper.wpIn
  refine ⟨?_, ?_⟩
  · simp [Oper.about, ho, resolve, Target.leads, Sem.run_pure]
  · rw [Oper.semAt_plain F _ _ (by rw [ho]; intro c hc'; cases hc')]
    simp [execOp, ho, resolve, invoke, builtin, hs, hx, hr, Result.andThen]
    exact h v' w' h2 h3 h4
end
/-- Rows of two types are apart. -/
theorem own_types {w : World} {b b' : Nat} {e e' : TypeId} {v v' : Value} {xs ys : List Value} (h : B.Own w b e v xs) (h' : B.Own w b' e' v' ys) (hne : e ≠ e') : v.ownBlock = none ∨ v.ownBlock ≠ v'.ownBlock := by
  rcases h with ⟨rfl, _⟩ | ⟨g, cap, cur, fz, rfl, _, hg, _⟩
  · exact .inl rfl
  · refine .inr fun eq => ?_
    rcases h' with ⟨rfl, _⟩ | ⟨g', cap', cur', fz', rfl, _, hg', _⟩
    · simp [Value.ownBlock] at eq
    · simp [Value.ownBlock] at eq
      subst eq
      rw [hg] at hg'
      simp at hg'
      exact hne hg'.2.1
theorem ints_at (l : List Nat) (j f : Nat) (h : l[j]? = some f) : (ints l)[j]? = some (.int .i64 (f : Int)) := by
  unfold ints; rw [List.getElem?_map, h]; rfl
/-- The texts of words, as cells. -/
def txts (l : List ByteArray) : List Value := l.map Value.string
set_option maxRecDepth 20000 in
set_option maxHeartbeats 4000000 in
theorem refWords_any (s : ByteArray) (w : World) (hs : s.size ≤ 1100) (hD : Dec w) : Calls Tryd.prog 13 #[.string s] w fun e w' => ∃ v, e = .returned v ∧ B.Own w' w.heap.size 9 v (txts (words s)) ∧ Below w.heap.size w w' := by
  refine (callsIn_wide (n := 9)).1 ?_
  obtain ⟨sps, hsps⟩ : ∃ sps, sps = spansFrom s 0 none := ⟨_, rfl⟩
  have hcount := spans_count s s.size 0 none (by omega)
  have hle := spans_le s s.size 0 none (by omega) (by omega) (fun f e => by cases e)
  rw [← hsps] at hcount hle
  have hpl := pl_all s
  rw [← hsps] at hpl
  have hcalls := places_any s w hs hD
  rw [hpl] at hcalls
  have Hplaces := Aside0.mk hcalls
  have Hwords : Aside0 (words s = sps.map (word s)) := ⟨by unfold words; rw [← hsps]⟩
  have Hle := Aside0.mk hle
  have Hcount : Aside0 (sps.length ≤ 1100) := ⟨by simp only at hcount; omega⟩
  have Hinfo := Aside0.mk (show (Tryd.prog.info? 9).map (fun i => (i.zero, i.size, i.bytes)) = some (some (.string ⟨#[]⟩), 1, 16) by rfl)
  have hfo : (Tryd.prog).follows .mixedOrders = true := by kernel_rfl
  clear hcalls hpl hsps hcount hle hD hs
  refine callsIn_of_wp Tryd.func13 rfl trivial ?_ rfl
  simp only [Tryd.ntmps13, List.size_toArray, List.length_cons, List.length_nil, Nat.reduceAdd, Nat.reduceSub, Array.replicate_succ, Array.replicate_zero, List.push_toArray, List.append_toArray, List.nil_append, List.cons_append]
  gi_wp2_with (refine ⟨trivial, ?_⟩; gi_at_call 43; refine (callsIn_wide.2 Hplaces.out).mono ?_; rintro e w1 ⟨v1, rfl, ho1, hb1⟩; obtain ⟨A, c, rfl, hn1, hz1⟩ := own_news ho1; have HO1 := Aside0.mk ho1; have HB1 := Aside0.mk hb1; clear ho1 hb1 hn1 hz1)
  obtain ⟨N, hN⟩ : ∃ N, N = 2 * sps.length := ⟨_, rfl⟩
  have hlx : (ints (flat sps)).length = N := by unfold ints; rw [List.length_map, flat_length, hN]
  have HN := Aside0.mk hN
  have Hl1 := HO1.out
  rw [hlx] at Hl1 ⊢
  have HO1' := Aside0.mk Hl1
  clear HO1 Hl1 hlx hN
  gi_loopw [3, 5] (fun t3 t5 wr => ∃ (i j : Nat), i ≤ sps.length ∧ j = 2 * i ∧ t5 = .int .i64 (j : Int) ∧ Aside0 (B.Own wr w.heap.size 9 t3 (txts ((sps.take i).map (word s)))) ∧ Aside0 (B.Own wr w.heap.size 3 (.slice A N c) (ints (flat sps))) ∧ Aside0 (Below w.heap.size w wr)) (fun _ t5 _ => N - (intOf t5).toNat)
  case atStart => exact ⟨0, 0, Nat.zero_le _, rfl, rfl, ⟨Own.nil _ _ _⟩, HO1', HB1⟩
  case round =>
    clear HO1' HB1
    obtain ⟨i, j, hi, hj, rfl, HO, HI, HB⟩ := hrel
    have hN := HN.out
    have hcn := Hcount.out
    by_cases hlt : i < sps.length
    · have d1 : decide (j < N) = true := decide_eq_true (by omega)
      obtain ⟨f, t, hft⟩ : ∃ f t, sps[i] = (f, t) := ⟨_, _, rfl⟩
      obtain ⟨b1, b2⟩ := Hle.out _ (List.getElem_mem hlt)
      have ha := flat_at sps i hlt
      rw [← hj] at ha
      rw [hft] at b1 b2 ha
      obtain ⟨A', c', he, hrd, hnil⟩ := own_news HI.out
      obtain ⟨rfl, rfl⟩ : A = A' ∧ c = c' := by simp only [Value.slice.injEq] at he; exact ⟨he.1, he.2.2⟩
      obtain ⟨ad, rfl⟩ : ∃ ad, A = some ad := by
        cases A with
        | some ad => exact ⟨ad, rfl⟩
        | none =>
          have h0 := congrArg List.length (hnil rfl)
          unfold ints at h0
          rw [List.length_map, flat_length, List.length_nil] at h0
          omega
      have c0 := hrd ad rfl j _ (ints_at _ j f ha.1)
      have c1 := hrd ad rfl (j + 1) _ (ints_at _ (j + 1) t ha.2)
      have hadd : ad.add (j + 1) = ⟨ad.block, ad.off + (j + 1), none⟩ := by unfold Addr.add; simp
      rw [hadd] at c1
      clear hadd
      have hsl : ∀ V, (Instr.slice 9 (.string s) (some (.int .i64 (f : Int))) (some (.int .i64 (t : Int))) none).run Tryd.prog V = .ok (.string (word s (f, t))) V := fun V => by
        have h := run_slice_string (P := Tryd.prog) V 9 s .i64 .i64 (f : Int) (t : Int) Tryd.underlying9 (by omega) (by omega) (by omega)
        simpa [word] using h
      have Hft := Aside0.mk hft
      have HO2 := Aside0.mk (HO.out.drew)
      have Hsz : Aside0 (wr.heap.size = wr.drew.heap.size) := ⟨rfl⟩
      have hjN : j + 1 < N := by omega
      have hjb : j ≤ 2200 := by omega
      have Hj := Aside0.mk hj
      have e1 : (j < N) = True := eq_true (by omega)
      have e2 : wrap64 ((j : Int) + 1) = (j : Int) + 1 := w64_in _ (by omega)
      have e3 : ((0 : Int) ≤ (j : Int) + 1) = True := eq_true (by omega)
      have e4 : ((j : Int) + 1 < (N : Int)) = True := eq_true (by omega)
      clear he hrd hnil ha b1 b2 hft hj hN hcn
      gi_wp2
      refine hi_start 12 (fun W_ => W_ = wr.drew) hfo ?_
      refine hi_pure 0 (some 14) (v := ?_) (L' := #[true, false, false, false, false, false, false, false, false, false, false, false, false, false, false]) (a' := ?_) rfl rfl rfl (by kernel_rfl) (fun _ _ _ h => h) (fun _ => rfl) (fun _ => rfl) (Or.inl ⟨by rfl, ?_⟩) ?_ ?_
      rotate_left 2
      · intro w_
        go_simp
        try with_reducible rfl
      · simp only [Act.put, List.setIfInBounds_toArray, List.set_cons_zero, List.set_cons_succ, i64_w, i32_w]
        rfl
      refine hi_take 1 (some 15) (v := ?_) (L' := #[true, true, false, false, false, false, false, false, false, false, false, false, false, false, false]) (a' := ?_) rfl rfl rfl (by kernel_rfl) (fun _ _ _ h => h) (fun _ => rfl) rfl (Or.inl ⟨by rfl, ?_⟩) ?_ ?_
      rotate_left 2
      · rintro w_ rfl
        go_simp
        try with_reducible rfl
      · simp only [Act.put, List.setIfInBounds_toArray, List.set_cons_zero, List.set_cons_succ, i64_w, i32_w]
        rfl
      refine hi_take 2 (some 16) (v := ?_) (L' := #[true, true, true, false, false, false, false, false, false, false, false, false, false, false, false]) (a' := ?_) rfl rfl rfl (by kernel_rfl) (fun _ _ _ h => h) (fun _ => rfl) rfl (Or.inl ⟨by rfl, ?_⟩) ?_ ?_
      rotate_left 2
      · rintro w_ rfl
        go_simp
        try with_reducible rfl
      · simp only [Act.put, List.setIfInBounds_toArray, List.set_cons_zero, List.set_cons_succ, i64_w, i32_w]
        rfl
      refine hi_take 3 (some 17) (v := ?_) (L' := #[true, true, true, true, false, false, false, false, false, false, false, false, false, false, false]) (a' := ?_) rfl rfl rfl (by kernel_rfl) (fun _ _ _ h => h) (fun _ => rfl) rfl (Or.inl ⟨by rfl, ?_⟩) ?_ ?_
      rotate_left 2
      · rintro w_ rfl
        go_simp
        try with_reducible rfl
      · simp only [Act.put, List.setIfInBounds_toArray, List.set_cons_zero, List.set_cons_succ, i64_w, i32_w]
        rfl
      refine hi_take 4 (some 18) (v := ?_) (L' := #[true, true, true, true, true, false, false, false, false, false, false, false, false, false, false]) (a' := ?_) rfl rfl rfl (by kernel_rfl) (fun _ _ _ h => h) (fun _ => rfl) rfl (Or.inl ⟨by rfl, ?_⟩) ?_ ?_
      rotate_left 2
      · rintro w_ rfl
        go_simp
        try with_reducible rfl
      · simp only [Act.put, List.setIfInBounds_toArray, List.set_cons_zero, List.set_cons_succ, i64_w, i32_w]
        rfl
      refine hi_take 5 (some 19) (v := ?_) (L' := #[true, true, true, true, true, true, false, false, false, false, false, false, false, false, false]) (a' := ?_) rfl rfl rfl (by kernel_rfl) (fun _ _ _ h => h) (fun _ => rfl) rfl (Or.inl ⟨by rfl, ?_⟩) ?_ ?_
      rotate_left 2
      · rintro w_ rfl
        go_simp
        try with_reducible rfl
      · simp only [Act.put, List.setIfInBounds_toArray, List.set_cons_zero, List.set_cons_succ, i64_w, i32_w]
        rfl
      refine hi_take 6 (some 20) (v := ?_) (L' := #[true, true, true, true, true, true, true, false, false, false, false, false, false, false, false]) (a' := ?_) rfl rfl rfl (by kernel_rfl) (fun _ _ _ h => h) (fun _ => rfl) rfl (Or.inl ⟨by rfl, ?_⟩) ?_ ?_
      rotate_left 2
      · rintro w_ rfl
        go_simp
        try with_reducible rfl
      · simp only [Act.put, List.setIfInBounds_toArray, List.set_cons_zero, List.set_cons_succ, i64_w, i32_w]
        rfl
      refine hi_take 7 (some 21) (v := ?_) (L' := #[true, true, true, true, true, true, true, true, false, false, false, false, false, false, false]) (a' := ?_) rfl rfl rfl (by kernel_rfl) (fun _ _ _ h => h) (fun _ => rfl) rfl (Or.inl ⟨by rfl, ?_⟩) ?_ ?_
      rotate_left 2
      · rintro w_ rfl
        go_simp
        try with_reducible rfl
      · simp only [Act.put, List.setIfInBounds_toArray, List.set_cons_zero, List.set_cons_succ, i64_w, i32_w]
        rfl
      refine hi_take 8 (some 22) (v := ?_) (L' := #[true, true, true, true, true, true, true, true, true, false, false, false, false, false, false]) (a' := ?_) rfl rfl rfl (by kernel_rfl) (fun _ _ _ h => h) (fun _ => rfl) rfl (Or.inl ⟨by rfl, ?_⟩) ?_ ?_
      rotate_left 2
      · rintro w_ rfl
        go_simp
        try with_reducible rfl
      · simp only [Act.put, List.setIfInBounds_toArray, List.set_cons_zero, List.set_cons_succ, i64_w, i32_w]
        rfl
      refine hi_take 9 (some 23) (v := ?_) (L' := #[true, true, true, true, true, true, true, true, true, true, false, false, false, false, false]) (a' := ?_) rfl rfl rfl (by kernel_rfl) (fun _ _ _ h => h) (fun _ => rfl) rfl (Or.inl ⟨by rfl, ?_⟩) ?_ ?_
      rotate_left 2
      · rintro w_ rfl
        go_simp
        try with_reducible rfl
      · simp only [Act.put, List.setIfInBounds_toArray, List.set_cons_zero, List.set_cons_succ, i64_w, i32_w]
        rfl
      refine hi_take 10 (some 24) (v := ?_) (L' := #[true, true, true, true, true, true, true, true, true, true, true, false, false, false, false]) (a' := ?_) rfl rfl rfl (by kernel_rfl) (fun _ _ _ h => h) (fun _ => rfl) rfl (Or.inl ⟨by rfl, ?_⟩) ?_ ?_
      rotate_left 2
      · rintro w_ rfl
        go_simp
        try with_reducible rfl
      · simp only [Act.put, List.setIfInBounds_toArray, List.set_cons_zero, List.set_cons_succ, i64_w, i32_w]
        rfl
      refine hi_take 11 (some 25) (v := ?_) (L' := #[true, true, true, true, true, true, true, true, true, true, true, true, false, false, false]) (a' := ?_) rfl rfl rfl (by kernel_rfl) (fun _ _ _ h => h) (fun _ => rfl) rfl (Or.inl ⟨by rfl, ?_⟩) ?_ ?_
      rotate_left 2
      · rintro w_ rfl
        go_simp
        try with_reducible rfl
      · simp only [Act.put, List.setIfInBounds_toArray, List.set_cons_zero, List.set_cons_succ, i64_w, i32_w]
        rfl
      clear c0 c1 hsl e1 e2 e3 e4
      refine hi_one 12 (L' := #[true, true, true, true, true, true, true, true, true, true, true, true, true, false, false]) rfl (by kernel_rfl) rfl (fun K hK => ?_)
      go_simp
      refine hK.out _ _ (fun h => by cases h) ?_
      clear hK K
      refine hi_one 13 (L' := #[true, true, true, true, true, true, true, true, true, true, true, true, true, true, false]) rfl (by kernel_rfl) rfl (fun K hK => ?_)
      refine (if_pos (by rfl)).mpr (opIn_append_b w.heap.size _ _ 23 9 (.string ⟨#[]⟩) 16 rfl Tryd.underlying23 Hinfo.out rfl (by decide) _ _ rfl (HO2.out.alloc _) (some ⟨wr.heap.size, 0, none⟩) 1 1 [.string (word s (f, t))] rfl rfl (news_row _ _ _) (fun e => by cases e) (fun u hu => by rw [List.mem_singleton.1 hu]; rfl) (by have := Hcount.out; unfold txts; rw [List.length_map, List.length_map, List.length_take]; omega) (by have := HB.out.size; show w.heap.size ≤ (wr.alloc _).heap.size; rw [World.size_alloc]; omega) ?_)
      intro v2 w2 hown2 hgrow2 hnear2
      have HB2 := Aside0.mk ((below_alloc HB.out.drew _).grown hgrow2 (by have := HB.out.size; show w.heap.size ≤ (wr.alloc _).heap.size; rw [World.size_alloc]; omega) (fun k e => by have := (HO2.out.lt k e).1; omega))
      have HI2 : Aside0 (B.Own w2 w.heap.size 3 (.slice (some ad) N c) (ints (flat sps))) := ⟨(HI.out.drew.alloc _).kept hgrow2 (own_types HI.out HO.out (by decide))⟩
      have HO3 : Aside0 (B.Own w2 w.heap.size 9 v2 (txts ((sps.take (i + 1)).map (word s)))) := ⟨by
        have e : sps.take (i + 1) = sps.take i ++ [(f, t)] := by rw [← Hft.out, List.take_succ_eq_append_getElem hlt]
        unfold txts at hown2 ⊢
        rw [e, List.map_append, List.map_append]
        exact hown2⟩
      clear hown2 hgrow2 hnear2
      refine hK.out _ _ (fun h => by cases h) ?_
      clear hK K
      refine hi_one 14 (L' := #[true, true, true, true, true, true, true, true, true, true, true, true, true, true, true]) rfl (by kernel_rfl) rfl (fun K hK => ?_)
      go_simp
      refine hK.out _ _ (fun h => by cases h) (hi_done (by kernel_rfl) ?_ _)
      clear hK K
      gi_wp2
      go_roundw
      case rel => exact ⟨i + 1, j + 2, by omega, by have := Hj.out; omega, by simp, HO3, HI2, HB2⟩
      case measure => simp [intOf]; omega
    · have d1 : decide (j < N) = false := decide_eq_false (by omega)
      have Hall : Aside0 (words s = (sps.take i).map (word s)) := ⟨by rw [Hwords.out, List.take_of_length_le (by omega)]⟩
      gi_wp2
      refine bodyPost_ret (results_tmp rfl _ _ _) rfl ?_
      exact ⟨_, rfl, by rw [Hall.out]; exact HO.out, HB.out⟩
end Go.Proofs.YtfejjfbhlmjkeaaDoor.W

/- The reference's Inner: what it computes. -/
set_option linter.unusedVariables false
set_option linter.unusedSimpArgs false
namespace Go.Proofs.YtfejjfbhlmjkeaaDoor.W
open Go.RowKit Go.Shelf Go.Proofs.YtfejjfbhlmjkeaaDoor.Hi Go.Proofs.YtfejjfbhlmjkeaaDoorW.PrintWords Go.Proofs.YtfejjfbhlmjkeaaDoorW.PrintLast Go.Proofs.YtfejjfbhlmjkeaaDoor.B

/-- Whether a word touches neither end. -/
def inP (s : ByteArray) (x : Nat × Nat) : Bool := decide (x.1 ≠ 0) && decide (x.2 ≠ s.size)
theorem inner_inP (s : ByteArray) : inner s = ((spansFrom s 0 none).filter (inP s)).map (word s) := inner_eq s
theorem take_no {s : ByteArray} {l : List (Nat × Nat)} {i : Nat} (h : i < l.length) (hp : inP s l[i] = false) : (l.take (i + 1)).filter (inP s) = (l.take i).filter (inP s) := by
  rw [List.take_succ_eq_append_getElem h, List.filter_append, List.filter_cons, if_neg (by rw [hp]; exact Bool.false_ne_true)]; simp
theorem take_yes {s : ByteArray} {l : List (Nat × Nat)} {i : Nat} (h : i < l.length) (hp : inP s l[i] = true) : (l.take (i + 1)).filter (inP s) = (l.take i).filter (inP s) ++ [l[i]] := by
  rw [List.take_succ_eq_append_getElem h, List.filter_append, List.filter_cons, if_pos hp]; rfl
set_option maxRecDepth 20000 in
set_option maxHeartbeats 4000000 in
theorem refInner_any (s : ByteArray) (w : World) (hs : s.size ≤ 1100) (hD : Dec w) : Calls Tryd.prog 14 #[.string s] w fun e w' => ∃ v, e = .returned v ∧ B.Own w' w.heap.size 9 v (txts (inner s)) ∧ Below w.heap.size w w' := by
  refine (callsIn_wide (n := 9)).1 ?_
  obtain ⟨sps, hsps⟩ : ∃ sps, sps = spansFrom s 0 none := ⟨_, rfl⟩
  have hcount := spans_count s s.size 0 none (by omega)
  have hle := spans_le s s.size 0 none (by omega) (by omega) (fun f e => by cases e)
  rw [← hsps] at hcount hle
  have hpl := pl_all s
  rw [← hsps] at hpl
  have hcalls := places_any s w hs hD
  rw [hpl] at hcalls
  have Hplaces := Aside0.mk hcalls
  have Hwords : Aside0 (inner s = (sps.filter (inP s)).map (word s)) := ⟨by rw [inner_inP, ← hsps]⟩
  have Hle := Aside0.mk hle
  have Hcount : Aside0 (sps.length ≤ 1100) := ⟨by simp only at hcount; omega⟩
  have Hinfo := Aside0.mk (show (Tryd.prog.info? 9).map (fun i => (i.zero, i.size, i.bytes)) = some (some (.string ⟨#[]⟩), 1, 16) by rfl)
  have hfo : (Tryd.prog).follows .mixedOrders = true := by kernel_rfl
  clear hcalls hpl hsps hcount hle hD hs
  refine callsIn_of_wp Tryd.func14 rfl trivial ?_ rfl
  simp only [Tryd.ntmps14, List.size_toArray, List.length_cons, List.length_nil, Nat.reduceAdd, Nat.reduceSub, Array.replicate_succ, Array.replicate_zero, List.push_toArray, List.append_toArray, List.nil_append, List.cons_append]
  gi_wp2_with (refine ⟨trivial, ?_⟩; gi_at_call 43; refine (callsIn_wide.2 Hplaces.out).mono ?_; rintro e w1 ⟨v1, rfl, ho1, hb1⟩; obtain ⟨A, c, rfl, hn1, hz1⟩ := own_news ho1; have HO1 := Aside0.mk ho1; have HB1 := Aside0.mk hb1; clear ho1 hb1 hn1 hz1)
  obtain ⟨N, hN⟩ : ∃ N, N = 2 * sps.length := ⟨_, rfl⟩
  have hlx : (ints (flat sps)).length = N := by unfold ints; rw [List.length_map, flat_length, hN]
  have HN := Aside0.mk hN
  have Hl1 := HO1.out
  rw [hlx] at Hl1 ⊢
  have HO1' := Aside0.mk Hl1
  clear HO1 Hl1 hlx hN
  gi_loopw [3, 5] (fun t3 t5 wr => ∃ (i j : Nat), i ≤ sps.length ∧ j = 2 * i ∧ t5 = .int .i64 (j : Int) ∧ Aside0 (B.Own wr w.heap.size 9 t3 (txts (((sps.take i).filter (inP s)).map (word s)))) ∧ Aside0 (B.Own wr w.heap.size 3 (.slice A N c) (ints (flat sps))) ∧ Aside0 (Below w.heap.size w wr)) (fun _ t5 _ => N - (intOf t5).toNat)
  case atStart => exact ⟨0, 0, Nat.zero_le _, rfl, rfl, ⟨Own.nil _ _ _⟩, HO1', HB1⟩
  case round =>
    clear HO1' HB1
    obtain ⟨i, j, hi, hj, rfl, HO, HI, HB⟩ := hrel
    have hN := HN.out
    have hcn := Hcount.out
    by_cases hlt : i < sps.length
    · have d1 : decide (j < N) = true := decide_eq_true (by omega)
      obtain ⟨f, t, hft⟩ : ∃ f t, sps[i] = (f, t) := ⟨_, _, rfl⟩
      obtain ⟨b1, b2⟩ := Hle.out _ (List.getElem_mem hlt)
      have ha := flat_at sps i hlt
      rw [← hj] at ha
      rw [hft] at b1 b2 ha
      obtain ⟨A', c', he, hrd, hnil⟩ := own_news HI.out
      obtain ⟨rfl, rfl⟩ : A = A' ∧ c = c' := by simp only [Value.slice.injEq] at he; exact ⟨he.1, he.2.2⟩
      obtain ⟨ad, rfl⟩ : ∃ ad, A = some ad := by
        cases A with
        | some ad => exact ⟨ad, rfl⟩
        | none =>
          have h0 := congrArg List.length (hnil rfl)
          unfold ints at h0
          rw [List.length_map, flat_length, List.length_nil] at h0
          omega
      have c0 := hrd ad rfl j _ (ints_at _ j f ha.1)
      have c1 := hrd ad rfl (j + 1) _ (ints_at _ (j + 1) t ha.2)
      have hadd : ad.add (j + 1) = ⟨ad.block, ad.off + (j + 1), none⟩ := by unfold Addr.add; simp
      rw [hadd] at c1
      clear hadd
      have hsl : ∀ V, (Instr.slice 9 (.string s) (some (.int .i64 (f : Int))) (some (.int .i64 (t : Int))) none).run Tryd.prog V = .ok (.string (word s (f, t))) V := fun V => by
        have h := run_slice_string (P := Tryd.prog) V 9 s .i64 .i64 (f : Int) (t : Int) Tryd.underlying9 (by omega) (by omega) (by omega)
        simpa [word] using h
      have Hft := Aside0.mk hft
      have HO2 := Aside0.mk (HO.out.drew)
      have Hsz : Aside0 (wr.heap.size = wr.drew.heap.size) := ⟨rfl⟩
      have hjN : j + 1 < N := by omega
      have hjb : j ≤ 2200 := by omega
      have Hj := Aside0.mk hj
      have e1 : (j < N) = True := eq_true (by omega)
      have e2 : wrap64 ((j : Int) + 1) = (j : Int) + 1 := w64_in _ (by omega)
      have e3 : ((0 : Int) ≤ (j : Int) + 1) = True := eq_true (by omega)
      have e4 : ((j : Int) + 1 < (N : Int)) = True := eq_true (by omega)
      clear he hrd hnil ha b1 b2 hft hj hN hcn
      cases hf0 : ((f : Int) != 0) with
      | false =>
        have Hno : Aside0 (inP s sps[i] = false) := ⟨by rw [Hft.out]; unfold inP; have h : f = 0 := (by simpa using hf0); simp; omega⟩
        gi_wp2
        go_roundw
        case rel => exact ⟨i + 1, j + 2, by omega, by have := Hj.out; omega, by simp, ⟨by rw [take_no hlt Hno.out]; exact HO.out⟩, HI, HB⟩
        case measure => simp [intOf]; omega
      | true =>
        have hf1 : f ≠ 0 := fun e => by rw [e] at hf0; cases hf0
        have Hf1 := Aside0.mk hf1
        clear hf1
        cases ht0 : ((t : Int) != (s.size : Int)) with
        | false =>
          have Hno : Aside0 (inP s sps[i] = false) := ⟨by rw [Hft.out]; unfold inP; have h : (t : Int) = (s.size : Int) := (by simpa [bne] using ht0); simp; omega⟩
          gi_wp2
          go_roundw
          case rel => exact ⟨i + 1, j + 2, by omega, by have := Hj.out; omega, by simp, ⟨by rw [take_no hlt Hno.out]; exact HO.out⟩, HI, HB⟩
          case measure => simp [intOf]; omega
        | true =>
          have Hin : Aside0 (inP s sps[i] = true) := ⟨by rw [Hft.out]; unfold inP; have h : ¬ (t : Int) = (s.size : Int) := (fun e => by rw [e] at ht0; simp at ht0); have h2 := Hf1.out; simp; omega⟩
          gi_wp2
          refine hi_start 12 (fun W_ => W_ = wr.drew) hfo ?_
          refine hi_pure 0 (some 29) (v := ?_) (L' := #[true, false, false, false, false, false, false, false, false, false, false, false, false, false, false]) (a' := ?_) rfl rfl rfl (by kernel_rfl) (fun _ _ _ h => h) (fun _ => rfl) (fun _ => rfl) (Or.inl ⟨by rfl, ?_⟩) ?_ ?_
          rotate_left 2
          · intro w_
            go_simp
            try with_reducible rfl
          · simp only [Act.put, List.setIfInBounds_toArray, List.set_cons_zero, List.set_cons_succ, i64_w, i32_w]
            rfl
          refine hi_take 1 (some 30) (v := ?_) (L' := #[true, true, false, false, false, false, false, false, false, false, false, false, false, false, false]) (a' := ?_) rfl rfl rfl (by kernel_rfl) (fun _ _ _ h => h) (fun _ => rfl) rfl (Or.inl ⟨by rfl, ?_⟩) ?_ ?_
          rotate_left 2
          · rintro w_ rfl
            go_simp
            try with_reducible rfl
          · simp only [Act.put, List.setIfInBounds_toArray, List.set_cons_zero, List.set_cons_succ, i64_w, i32_w]
            rfl
          refine hi_take 2 (some 31) (v := ?_) (L' := #[true, true, true, false, false, false, false, false, false, false, false, false, false, false, false]) (a' := ?_) rfl rfl rfl (by kernel_rfl) (fun _ _ _ h => h) (fun _ => rfl) rfl (Or.inl ⟨by rfl, ?_⟩) ?_ ?_
          rotate_left 2
          · rintro w_ rfl
            go_simp
            try with_reducible rfl
          · simp only [Act.put, List.setIfInBounds_toArray, List.set_cons_zero, List.set_cons_succ, i64_w, i32_w]
            rfl
          refine hi_take 3 (some 32) (v := ?_) (L' := #[true, true, true, true, false, false, false, false, false, false, false, false, false, false, false]) (a' := ?_) rfl rfl rfl (by kernel_rfl) (fun _ _ _ h => h) (fun _ => rfl) rfl (Or.inl ⟨by rfl, ?_⟩) ?_ ?_
          rotate_left 2
          · rintro w_ rfl
            go_simp
            try with_reducible rfl
          · simp only [Act.put, List.setIfInBounds_toArray, List.set_cons_zero, List.set_cons_succ, i64_w, i32_w]
            rfl
          refine hi_take 4 (some 33) (v := ?_) (L' := #[true, true, true, true, true, false, false, false, false, false, false, false, false, false, false]) (a' := ?_) rfl rfl rfl (by kernel_rfl) (fun _ _ _ h => h) (fun _ => rfl) rfl (Or.inl ⟨by rfl, ?_⟩) ?_ ?_
          rotate_left 2
          · rintro w_ rfl
            go_simp
            try with_reducible rfl
          · simp only [Act.put, List.setIfInBounds_toArray, List.set_cons_zero, List.set_cons_succ, i64_w, i32_w]
            rfl
          refine hi_take 5 (some 34) (v := ?_) (L' := #[true, true, true, true, true, true, false, false, false, false, false, false, false, false, false]) (a' := ?_) rfl rfl rfl (by kernel_rfl) (fun _ _ _ h => h) (fun _ => rfl) rfl (Or.inl ⟨by rfl, ?_⟩) ?_ ?_
          rotate_left 2
          · rintro w_ rfl
            go_simp
            try with_reducible rfl
          · simp only [Act.put, List.setIfInBounds_toArray, List.set_cons_zero, List.set_cons_succ, i64_w, i32_w]
            rfl
          refine hi_take 6 (some 35) (v := ?_) (L' := #[true, true, true, true, true, true, true, false, false, false, false, false, false, false, false]) (a' := ?_) rfl rfl rfl (by kernel_rfl) (fun _ _ _ h => h) (fun _ => rfl) rfl (Or.inl ⟨by rfl, ?_⟩) ?_ ?_
          rotate_left 2
          · rintro w_ rfl
            go_simp
            try with_reducible rfl
          · simp only [Act.put, List.setIfInBounds_toArray, List.set_cons_zero, List.set_cons_succ, i64_w, i32_w]
            rfl
          refine hi_take 7 (some 36) (v := ?_) (L' := #[true, true, true, true, true, true, true, true, false, false, false, false, false, false, false]) (a' := ?_) rfl rfl rfl (by kernel_rfl) (fun _ _ _ h => h) (fun _ => rfl) rfl (Or.inl ⟨by rfl, ?_⟩) ?_ ?_
          rotate_left 2
          · rintro w_ rfl
            go_simp
            try with_reducible rfl
          · simp only [Act.put, List.setIfInBounds_toArray, List.set_cons_zero, List.set_cons_succ, i64_w, i32_w]
            rfl
          refine hi_take 8 (some 37) (v := ?_) (L' := #[true, true, true, true, true, true, true, true, true, false, false, false, false, false, false]) (a' := ?_) rfl rfl rfl (by kernel_rfl) (fun _ _ _ h => h) (fun _ => rfl) rfl (Or.inl ⟨by rfl, ?_⟩) ?_ ?_
          rotate_left 2
          · rintro w_ rfl
            go_simp
            try with_reducible rfl
          · simp only [Act.put, List.setIfInBounds_toArray, List.set_cons_zero, List.set_cons_succ, i64_w, i32_w]
            rfl
          refine hi_take 9 (some 38) (v := ?_) (L' := #[true, true, true, true, true, true, true, true, true, true, false, false, false, false, false]) (a' := ?_) rfl rfl rfl (by kernel_rfl) (fun _ _ _ h => h) (fun _ => rfl) rfl (Or.inl ⟨by rfl, ?_⟩) ?_ ?_
          rotate_left 2
          · rintro w_ rfl
            go_simp
            try with_reducible rfl
          · simp only [Act.put, List.setIfInBounds_toArray, List.set_cons_zero, List.set_cons_succ, i64_w, i32_w]
            rfl
          refine hi_take 10 (some 39) (v := ?_) (L' := #[true, true, true, true, true, true, true, true, true, true, true, false, false, false, false]) (a' := ?_) rfl rfl rfl (by kernel_rfl) (fun _ _ _ h => h) (fun _ => rfl) rfl (Or.inl ⟨by rfl, ?_⟩) ?_ ?_
          rotate_left 2
          · rintro w_ rfl
            go_simp
            try with_reducible rfl
          · simp only [Act.put, List.setIfInBounds_toArray, List.set_cons_zero, List.set_cons_succ, i64_w, i32_w]
            rfl
          refine hi_take 11 (some 40) (v := ?_) (L' := #[true, true, true, true, true, true, true, true, true, true, true, true, false, false, false]) (a' := ?_) rfl rfl rfl (by kernel_rfl) (fun _ _ _ h => h) (fun _ => rfl) rfl (Or.inl ⟨by rfl, ?_⟩) ?_ ?_
          rotate_left 2
          · rintro w_ rfl
            go_simp
            try with_reducible rfl
          · simp only [Act.put, List.setIfInBounds_toArray, List.set_cons_zero, List.set_cons_succ, i64_w, i32_w]
            rfl
          clear c0 c1 hsl e1 e2 e3 e4
          refine hi_one 12 (L' := #[true, true, true, true, true, true, true, true, true, true, true, true, true, false, false]) rfl (by kernel_rfl) rfl (fun K hK => ?_)
          go_simp
          refine hK.out _ _ (fun h => by cases h) ?_
          clear hK K
          refine hi_one 13 (L' := #[true, true, true, true, true, true, true, true, true, true, true, true, true, true, false]) rfl (by kernel_rfl) rfl (fun K hK => ?_)
          refine (if_pos (by rfl)).mpr (opIn_append_b w.heap.size _ _ 23 9 (.string ⟨#[]⟩) 16 rfl Tryd.underlying23 Hinfo.out rfl (by decide) _ _ rfl (HO2.out.alloc _) (some ⟨wr.heap.size, 0, none⟩) 1 1 [.string (word s (f, t))] rfl rfl (news_row _ _ _) (fun e => by cases e) (fun u hu => by rw [List.mem_singleton.1 hu]; rfl) (by have := Hcount.out; unfold txts; rw [List.length_map, List.length_map]; have := List.length_filter_le (inP s) (sps.take i); rw [List.length_take] at this; omega) (by have := HB.out.size; show w.heap.size ≤ (wr.alloc _).heap.size; rw [World.size_alloc]; omega) ?_)
          intro v2 w2 hown2 hgrow2 hnear2
          have HB2 := Aside0.mk ((below_alloc HB.out.drew _).grown hgrow2 (by have := HB.out.size; show w.heap.size ≤ (wr.alloc _).heap.size; rw [World.size_alloc]; omega) (fun k e => by have := (HO2.out.lt k e).1; omega))
          have HI2 : Aside0 (B.Own w2 w.heap.size 3 (.slice (some ad) N c) (ints (flat sps))) := ⟨(HI.out.drew.alloc _).kept hgrow2 (own_types HI.out HO.out (by decide))⟩
          have HO3 : Aside0 (B.Own w2 w.heap.size 9 v2 (txts (((sps.take (i + 1)).filter (inP s)).map (word s)))) := ⟨by
            unfold txts at hown2 ⊢
            rw [take_yes hlt Hin.out, Hft.out, List.map_append, List.map_append]
            exact hown2⟩
          clear hown2 hgrow2 hnear2
          refine hK.out _ _ (fun h => by cases h) ?_
          clear hK K
          refine hi_one 14 (L' := #[true, true, true, true, true, true, true, true, true, true, true, true, true, true, true]) rfl (by kernel_rfl) rfl (fun K hK => ?_)
          go_simp
          refine hK.out _ _ (fun h => by cases h) (hi_done (by kernel_rfl) ?_ _)
          clear hK K
          gi_wp2
          go_roundw
          case rel => exact ⟨i + 1, j + 2, by omega, by have := Hj.out; omega, by simp, HO3, HI2, HB2⟩
          case measure => simp [intOf]; omega
    · have d1 : decide (j < N) = false := decide_eq_false (by omega)
      have Hall : Aside0 (inner s = ((sps.take i).filter (inP s)).map (word s)) := ⟨by rw [Hwords.out, List.take_of_length_le (by omega)]⟩
      gi_wp2
      refine bodyPost_ret (results_tmp rfl _ _ _) rfl ?_
      exact ⟨_, rfl, by rw [Hall.out]; exact HO.out, HB.out⟩
end Go.Proofs.YtfejjfbhlmjkeaaDoor.W

/- The reference's Has and Is: what they compute. -/
set_option linter.unusedVariables false
set_option linter.unusedSimpArgs false
namespace Go.Proofs.YtfejjfbhlmjkeaaDoor.W
open Go.RowKit Go.Proofs.YtfejjfbhlmjkeaaDoorW.PrintWords Go.Proofs.YtfejjfbhlmjkeaaDoorW.PrintLast Go.Proofs.YtfejjfbhlmjkeaaDoor.B

theorem refWordsS (s : ByteArray) (w : World) (hs : s.size ≤ 1100) (hD : Dec w) : Calls Tryd.prog 13 #[.string s] w fun e w' => ∃ A c, e = .returned (.slice A (words s).length c) ∧ Aside0 (ReadsS w' (.slice A (words s).length c) (words s)) ∧ Below w.heap.size w w' := by
  refine (refWords_any s w hs hD).mono ?_
  rintro e w' ⟨v, rfl, ho, hb⟩
  have hr := readsS_own (xs := words s) ho
  obtain ⟨A, c, rfl, h⟩ := hr
  exact ⟨A, c, rfl, ⟨A, c, rfl, h⟩, hb⟩
set_option maxRecDepth 20000 in
set_option maxHeartbeats 4000000 in
theorem refHas_any (s x0 : ByteArray) (w : World) (hs : s.size ≤ 1100) (hD : Dec w) : Calls Tryd.prog 20 #[.string s, .string x0] w fun e w' => e = .returned (.bool (hasB s x0)) ∧ Below w.heap.size w w' := by
  have HW := Aside0.mk (refWordsS s w hs hD)
  have hc := words_count s
  obtain ⟨ws, hws⟩ : ∃ ws, ws = words s := ⟨_, rfl⟩
  have Hh : Aside0 (hasB s x0 = ws.any fun y => y.toList == x0.toList) := ⟨by rw [hws]; rfl⟩
  have Hlen : Aside0 (ws.length ≤ 1100) := ⟨by rw [hws]; omega⟩
  rw [← hws] at HW
  clear hws hc hs hD
  go_enter Tryd.func20, Tryd.ntmps20
  go_wp2_with (go_at_call 13; refine HW.out.mono ?_; rintro e w1 ⟨A, c, rfl, HR1, hb1⟩; have HB1 := Aside0.mk hb1; clear hb1)
  clear HW
  go_loopw [10] (fun t10 wr => ∃ (i : Nat), i ≤ ws.length ∧ t10 = .int .i64 (i : Int) ∧ Aside0 (x0 ∉ ws.take i) ∧ Aside0 (ReadsS wr (.slice A ws.length c) ws) ∧ Aside0 (Below w.heap.size w wr)) (fun t10 _ => ws.length - (intOf t10).toNat)
  case atStart => exact ⟨0, Nat.zero_le _, rfl, ⟨by simp⟩, HR1, HB1⟩
  case round =>
    clear HR1 HB1
    obtain ⟨i, hi, rfl, HN, HR, HB⟩ := hrel
    by_cases hlt : i < ws.length
    · obtain ⟨x, hx⟩ : ∃ x, x = ws[i] := ⟨_, rfl⟩
      obtain ⟨A1, c1, he, h2, h3, h4⟩ := HR.out
      obtain ⟨ad, rfl, hc⟩ := h4 (by omega)
      obtain rfl : A = some ad := by simp only [Value.slice.injEq] at he; exact he.1
      have hcell : wr.cell? (ad.add i) = some (.string x) := by
        rw [hc i hlt, hx, List.getD_eq_getElem?_getD, List.getElem?_eq_getElem hlt]; rfl
      have hl11 := Hlen.out
      have d : decide ((i : Int) < (ws.length : Int)) = true := decide_eq_true (by omega)
      have Hx := Aside0.mk hx
      clear he h2 h3 h4 hc hx
      cases hxe : (x.toList == x0.toList) with
      | true =>
        have Hret : Aside0 (hasB s x0 = true) := ⟨by rw [Hh.out, ← (text_iff _ _).1 hxe, Hx.out]; exact any_true (List.getElem_mem hlt)⟩
        go_wp2_with fail
        go_ret
        exact ⟨by rw [Hret.out]; rfl, HB.out⟩
      | false =>
        have Hne := Aside0.mk (text_not hxe)
        go_wp2_with fail
        go_roundw
        case rel => exact ⟨i + 1, by omega, by simp, ⟨by
          rw [List.take_succ_eq_append_getElem hlt]
          intro hm
          exact (List.mem_append.1 hm).elim HN.out (fun hm => Hne.out (by rw [Hx.out]; exact (List.mem_singleton.1 hm).symm))⟩, HR, HB⟩
        case measure => simp [intOf]; omega
    · have d : decide ((i : Int) < (ws.length : Int)) = false := decide_eq_false (by omega)
      have Hret : Aside0 (hasB s x0 = false) := ⟨by rw [Hh.out]; have h := HN.out; rw [List.take_of_length_le (by omega)] at h; exact any_false h⟩
      go_wp2_with fail
      go_ret
      exact ⟨by rw [Hret.out]; rfl, HB.out⟩
set_option maxRecDepth 20000 in
set_option maxHeartbeats 4000000 in
theorem refIs_any (s : ByteArray) (w : World) (hs : s.size ≤ 1100) (hD : Dec w) : Calls Tryd.prog 22 #[.string s] w fun e w' => e = .returned (.bool (isWord s)) ∧ Below w.heap.size w w' := by
  have HW := Aside0.mk (refWordsS s w hs hD)
  obtain ⟨ws, hws⟩ : ∃ ws, ws = words s := ⟨_, rfl⟩
  have Hh : Aside0 (isWord s = oneB ws s) := ⟨by rw [hws]; exact is_one s⟩
  rw [← hws] at HW
  clear hws hs hD
  go_enter Tryd.func22, Tryd.ntmps22
  cases ws with
  | nil =>
    go_wp2_with (go_at_call 13; refine HW.out.mono ?_; rintro e w1 ⟨A, c, rfl, HR1, hb1⟩; have HB1 := Aside0.mk hb1; clear hb1)
    go_ret
    exact ⟨by rw [Hh.out]; rfl, HB1.out⟩
  | cons x t =>
    cases t with
    | nil =>
      cases hxe : (x.toList == s.toList) with
      | true =>
        have Hret : Aside0 (isWord s = true) := ⟨by rw [Hh.out]; exact hxe⟩
        clear Hh
        go_wp2_with (go_at_call 13; refine HW.out.mono ?_; rintro e w1 ⟨A, c, rfl, HR1, hb1⟩; have HB1 := Aside0.mk hb1; clear hb1; obtain ⟨A1, c1, he, _, _, h4⟩ := HR1.out; obtain ⟨ad, rfl, hc⟩ := h4 (by simp); obtain rfl : A = some ad := (by simp only [Value.slice.injEq] at he; exact he.1); have k0 := hc 0 (by simp); rw [show ad.add 0 = ad from rfl] at k0; have k1 : w1.cell? ad = some (.string x) := k0; clear he h4 hc k0)
        go_ret
        exact ⟨by rw [Hret.out]; rfl, HB1.out⟩
      | false =>
        have Hret : Aside0 (isWord s = false) := ⟨by rw [Hh.out]; exact hxe⟩
        clear Hh
        go_wp2_with (go_at_call 13; refine HW.out.mono ?_; rintro e w1 ⟨A, c, rfl, HR1, hb1⟩; have HB1 := Aside0.mk hb1; clear hb1; obtain ⟨A1, c1, he, _, _, h4⟩ := HR1.out; obtain ⟨ad, rfl, hc⟩ := h4 (by simp); obtain rfl : A = some ad := (by simp only [Value.slice.injEq] at he; exact he.1); have k0 := hc 0 (by simp); rw [show ad.add 0 = ad from rfl] at k0; have k1 : w1.cell? ad = some (.string x) := k0; clear he h4 hc k0)
        go_ret
        exact ⟨by rw [Hret.out]; rfl, HB1.out⟩
    | cons y t =>
      have hl : (((x :: y :: t).length : Int) == 1) = false := by
        rw [beq_eq_false_iff_ne]; simp; omega
      obtain ⟨m, hm⟩ : ∃ m, m = (x :: y :: t).length := ⟨_, rfl⟩
      rw [← hm] at hl HW
      have Hret : Aside0 (isWord s = false) := ⟨by rw [Hh.out]; rfl⟩
      clear Hh hm
      go_wp2_with (go_at_call 13; refine HW.out.mono ?_; rintro e w1 ⟨A, c, rfl, HR1, hb1⟩; have HB1 := Aside0.mk hb1; clear hb1)
      go_ret
      exact ⟨by rw [Hret.out]; rfl, HB1.out⟩
end Go.Proofs.YtfejjfbhlmjkeaaDoor.W

/- WordIs: the walk of the law. -/
set_option linter.unusedVariables false
set_option linter.unusedSimpArgs false
namespace Go.Proofs.YtfejjfbhlmjkeaaDoor.W
open Go.RowKit Go.Proofs.YtfejjfbhlmjkeaaDoorW.PrintWords Go.Proofs.YtfejjfbhlmjkeaaDoorW.PrintLast Go.Proofs.YtfejjfbhlmjkeaaDoorW.PrintMore Go.Proofs.YtfejjfbhlmjkeaaDoor.B
/-- max and min, folded. -/
def mx (x y : Int) : Int := if x < y then y else x
def mn (x y : Int) : Int := if y < x then y else x
theorem max2_mx (k k' : IntKind) (x y : Int) : Builtin.max2 (.int k x) (.int k' y) = pure (.int k (mx x y)) := max2_int k k' x y
theorem min2_mn (k k' : IntKind) (x y : Int) : Builtin.min2 (.int k x) (.int k' y) = pure (.int k (mn x y)) := min2_int k k' x y
attribute [local go_sem] max2_mx min2_mn max_two min_two

theorem refInnerS (s : ByteArray) (w : World) (hs : s.size ≤ 1100) (hD : Dec w) : Calls Tryd.prog 14 #[.string s] w fun e w' => ∃ A c, e = .returned (.slice A (inner s).length c) ∧ Aside0 (ReadsS w' (.slice A (inner s).length c) (inner s)) ∧ Below w.heap.size w w' := by
  refine (refInner_any s w hs hD).mono ?_
  rintro e w' ⟨v, rfl, ho, hb⟩
  obtain ⟨A, c, rfl, h⟩ := readsS_own (xs := inner s) ho
  exact ⟨A, c, rfl, ⟨A, c, rfl, h⟩, hb⟩
theorem inner_few (s : ByteArray) : (inner s).length ≤ s.size := by
  have h1 := inner_count s
  have h2 := spans_count s s.size 0 none (by omega)
  simp only at h2
  omega
theorem goneS (s : ByteArray) (most : Int) (w : World) (hs : s.size ≤ 1100) (hm : (s.size : Int) ≤ most) : Calls Tryd.prog 16 #[.func (.func 44) #[] #[.pointer (some ⟨w.heap.size, 0, none⟩)], .int .i64 most] (w.alloc (.cells #[.string s] 9)) fun e w' => ∃ v, e = .returned v ∧ Aside0 (ReadsS w' v (words s)) ∧ Below w.heap.size w w' := by
  refine (goneAll s most w hs hm).mono ?_
  rintro e w' ⟨v, rfl, ho, hb⟩
  exact ⟨v, rfl, ⟨readsS_own ho.out⟩, hb⟩
theorem goneSI (s : ByteArray) (most : Int) (w : World) (hs : s.size ≤ 1100) (hm : (s.size : Int) ≤ most) : Calls Tryd.prog 16 #[.func (.func 46) #[] #[.pointer (some ⟨w.heap.size, 0, none⟩)], .int .i64 most] (w.alloc (.cells #[.string s] 9)) fun e w' => ∃ v, e = .returned v ∧ Aside0 (ReadsS w' v (inner s)) ∧ Below w.heap.size w w' := by
  have hc := inner_few s
  refine (goneI (s := s) (most := most) w (by omega) (by omega)).mono ?_
  rintro e w' ⟨v, rfl, ho, hb⟩
  rw [List.take_of_length_le (by omega)] at ho
  exact ⟨v, rfl, ⟨readsS_own (xs := inner s) ho⟩, hb⟩
theorem goneN (s : ByteArray) (most : Int) (w : World) (hs : s.size ≤ 1100) (k : Nat) (hk : k = ((words s).take most.toNat).length) : Calls Tryd.prog 16 #[.func (.func 44) #[] #[.pointer (some ⟨w.heap.size, 0, none⟩)], .int .i64 most] (w.alloc (.cells #[.string s] 9)) fun e w' => ∃ A c, e = .returned (.slice A k c) ∧ Below w.heap.size w w' := by
  have hc := words_count s
  refine (goneW (s := s) (most := most) w (by omega) (by omega)).mono ?_
  rintro e w' ⟨v, rfl, ho, hb⟩
  obtain ⟨A, c, rfl, _⟩ := own_news ho
  rw [List.length_map, ← hk]
  exact ⟨A, c, rfl, hb⟩
theorem goneNI (s : ByteArray) (most : Int) (w : World) (hs : s.size ≤ 1100) (k : Nat) (hk : k = ((inner s).take most.toNat).length) : Calls Tryd.prog 16 #[.func (.func 46) #[] #[.pointer (some ⟨w.heap.size, 0, none⟩)], .int .i64 most] (w.alloc (.cells #[.string s] 9)) fun e w' => ∃ A c, e = .returned (.slice A k c) ∧ Below w.heap.size w w' := by
  have hc := inner_few s
  refine (goneI (s := s) (most := most) w (by omega) (by omega)).mono ?_
  rintro e w' ⟨v, rfl, ho, hb⟩
  obtain ⟨A, c, rfl, _⟩ := own_news ho
  rw [List.length_map, ← hk]
  exact ⟨A, c, rfl, hb⟩
theorem taken_len (l : List ByteArray) (most : Int) (k : Nat) (hk : k = (l.take most.toNat).length) : (k : Int) = mn (mx most 0) (l.length : Int) := by
  rw [hk, List.length_take]
  unfold mn mx
  split <;> split <;> omega
set_option maxRecDepth 20000 in
set_option maxHeartbeats 4000000 in
theorem wordIs_all (s x0 : ByteArray) (most : Int) (W : World) (hD : Dec W) : Calls Tryd.prog 3 #[.string s, .string x0, .int .i64 most] W fun e w' => e = .returned (.bool true) ∧ Below W.heap.size W w' := by
  go_enter Tryd.func3, Tryd.ntmps3
  by_cases h1 : (1024 : Int) < (s.size : Int)
  · have d1 : decide ((1024 : Int) < (s.size : Int)) = true := decide_eq_true h1
    clear h1
    go_wp2_with (go_at_call 12; with_reducible refine (alive_any _).mono ?_; rintro e W1 ⟨rfl, hb1⟩; have HB1 := Aside0.mk hb1; clear hb1)
    go_ret
    exact ⟨rfl, HB1.out⟩
  have d1 : decide ((1024 : Int) < (s.size : Int)) = false := decide_eq_false h1
  by_cases h2 : (1024 : Int) < (x0.size : Int)
  · have d2 : decide ((1024 : Int) < (x0.size : Int)) = true := decide_eq_true h2
    clear h1 h2
    go_wp2_with (go_at_call 12; with_reducible refine (alive_any _).mono ?_; rintro e W1 ⟨rfl, hb1⟩; have HB1 := Aside0.mk hb1; clear hb1)
    go_ret
    exact ⟨rfl, HB1.out⟩
  have d2 : decide ((1024 : Int) < (x0.size : Int)) = false := decide_eq_false h2
  have hs : s.size ≤ 1100 := by omega
  obtain ⟨n1, hn1⟩ : ∃ n1, n1 = (words s).length := ⟨_, rfl⟩
  obtain ⟨n2, hn2⟩ : ∃ n2, n2 = (inner s).length := ⟨_, rfl⟩
  obtain ⟨k1, hk1⟩ : ∃ k1, k1 = ((words s).take most.toNat).length := ⟨_, rfl⟩
  obtain ⟨k2, hk2⟩ : ∃ k2, k2 = ((inner s).take most.toNat).length := ⟨_, rfl⟩
  have t1 := taken_len (words s) most k1 hk1
  have t2 := taken_len (inner s) most k2 hk2
  rw [← hn1] at t1
  rw [← hn2] at t2
  have q1 : ((k1 : Int) == mn (mx most 0) (n1 : Int)) = true := by rw [t1]; exact beq_self_eq_true _
  have q2 : ((k2 : Int) == mn (mx most 0) (n2 : Int)) = true := by rw [t2]; exact beq_self_eq_true _
  have HRW : Aside0 (∀ w, Below W.heap.size W w → Calls Tryd.prog 13 #[.string s] w fun e w' => ∃ A c, e = .returned (.slice A n1 c) ∧ Aside0 (ReadsS w' (.slice A n1 c) (words s)) ∧ Below w.heap.size w w') := ⟨fun w hb => by rw [hn1]; exact refWordsS s w hs (hD.below hb)⟩
  have HRI : Aside0 (∀ w, Below W.heap.size W w → Calls Tryd.prog 14 #[.string s] w fun e w' => ∃ A c, e = .returned (.slice A n2 c) ∧ Aside0 (ReadsS w' (.slice A n2 c) (inner s)) ∧ Below w.heap.size w w') := ⟨fun w hb => by rw [hn2]; exact refInnerS s w hs (hD.below hb)⟩
  have HG1 := Aside0.mk (fun w => goneS s 2000 w hs (by omega))
  have HG2 := Aside0.mk (fun w => goneSI s 2000 w hs (by omega))
  have HG3 := Aside0.mk (fun w => goneN s most w hs k1 hk1)
  have HG4 := Aside0.mk (fun w => goneNI s most w hs k2 hk2)
  have HH := Aside0.mk (fun w => has_any s x0 w (by omega))
  have HRH : Aside0 (∀ w, Below W.heap.size W w → _) := ⟨fun w hb => refHas_any s x0 w hs (hD.below hb)⟩
  have HI := Aside0.mk (fun w => is_any s w (by omega))
  have HRS : Aside0 (∀ w, Below W.heap.size W w → _) := ⟨fun w hb => refIs_any s w hs (hD.below hb)⟩
  have Hc1 : Aside0 ((words s).length ≤ 4611686018427) := ⟨by have := words_count s; omega⟩
  have Hc2 : Aside0 ((inner s).length ≤ 4611686018427) := ⟨by have := inner_few s; omega⟩
  clear h1 h2 hs hn1 hn2 hk1 hk2 t1 t2 hD
  go_wp2_with (first
    | (go_at_call 12; with_reducible refine (alive_any _).mono ?_; rintro e W1 ⟨rfl, hb1⟩; have HB1 := Aside0.mk hb1; clear hb1)
    | (go_at_call 13; with_reducible refine (HRW.out _ HB1.out).mono ?_; rintro e W2 ⟨A1, c1, rfl, HR2, hb2⟩; have HB2 := Aside0.mk (below_step HB1.out hb2); clear hb2)
    | (go_at_call 14; with_reducible refine (HRI.out _ HB2.out).mono ?_; rintro e W3 ⟨A2, c2, rfl, HI3, hb3⟩; have HB3 := Aside0.mk (below_step HB2.out hb3); have HR3 := Aside0.mk (HR2.out.below hb3); clear hb3)
    | (go_at_call 17; with_reducible refine (words_any _ _).mono ?_; rintro e w1 ⟨rfl, rfl⟩)
    | (go_at_call 18; with_reducible refine (inner_any _ _).mono ?_; rintro e w1 ⟨rfl, rfl⟩)
    | (go_at_call 16; with_reducible refine (HG1.out _).mono ?_; rintro e W4 ⟨v4, rfl, HV4, hb4⟩; have HB4 := Aside0.mk (below_step HB3.out hb4); have HR4 := Aside0.mk (HR3.out.below hb4); have HI4 := Aside0.mk (HI3.out.below hb4); clear hb4)
    | (go_at_call 16; with_reducible refine (HG2.out _).mono ?_; rintro e W6 ⟨v6, rfl, HV6, hb6⟩; have HB6 := Aside0.mk (below_step HB5.out hb6); have HI6 := Aside0.mk (HI5.out.below hb6); clear hb6)
    | (go_at_call 16; with_reducible refine (HG3.out _).mono ?_; rintro e W8 ⟨A8, c8, rfl, hb8⟩; have HB8 := Aside0.mk (below_step HB7.out hb8); clear hb8)
    | (go_at_call 16; with_reducible refine (HG4.out _).mono ?_; rintro e W9 ⟨A9, c9, rfl, hb9⟩; have HB9 := Aside0.mk (below_step HB8.out hb9); clear hb9)
    | (go_at_call 15; with_reducible refine (sameAll _ _ _ rfl HV4.out HR4.out Hc1.out).mono ?_; rintro e W5 ⟨rfl, hb5⟩; have HB5 := Aside0.mk (below_step HB4.out hb5); have HI5 := Aside0.mk (HI4.out.below hb5); clear hb5)
    | (go_at_call 15; with_reducible refine (sameAll _ _ _ rfl HV6.out HI6.out Hc2.out).mono ?_; rintro e W7 ⟨rfl, hb7⟩; have HB7 := Aside0.mk (below_step HB6.out hb7); clear hb7)
    | (go_at_call 19; with_reducible refine (HH.out _).mono ?_; rintro e W10 ⟨rfl, hb10⟩; have HB10 := Aside0.mk (below_step HB9.out hb10); clear hb10)
    | (go_at_call 20; with_reducible refine (HRH.out _ HB10.out).mono ?_; rintro e W11 ⟨rfl, hb11⟩; have HB11 := Aside0.mk (below_step HB10.out hb11); clear hb11)
    | (go_at_call 21; with_reducible refine (HI.out _).mono ?_; rintro e W12 ⟨rfl, hb12⟩; have HB12 := Aside0.mk (below_step HB11.out hb12); clear hb12)
    | (go_at_call 22; with_reducible refine (HRS.out _ HB12.out).mono ?_; rintro e W13 ⟨rfl, hb13⟩; have HB13 := Aside0.mk (below_step HB12.out hb13); clear hb13))
  go_ret
  exact ⟨by simp, HB13.out⟩
end Go.Proofs.YtfejjfbhlmjkeaaDoor.W

/- The library's contracts that the claim uses, laid at this program: written by the kit's own tools, picked by a program. -/
set_option linter.unusedVariables false
namespace Go.Proofs
open Go.Shelf
def Tryd.lays197_ren : Go.Shelf.Ren := ⟨fun | 197 => 65 | 260 => 82 | n => n, fun | 9 => 9 | 21 => 21 | 3 => 3 | 4 => 4 | 5 => 5 | 105 => 91 | 119 => 118 | 0 => 0 | 46 => 99 | 139 => 121 | 138 => 120 | n => n, fun | 3 => 1 | 4 => 2 | n => n⟩
theorem Tryd.lays197 : Go.Proofs.Lays.n197 Tryd.prog Tryd.lays197_ren := {
  mixed := by kernel_rfl
  f197 := Tryd.func65.trans (congrArg some (by kernel_rfl))
  f260 := Tryd.func82.trans (congrArg some (by kernel_rfl))
  t0 := Tryd.underlying0
  a0 := Tryd.isAgg0
  z0 := Tryd.sizeOf0
  v0 := Tryd.zeroValue0
  t3 := Tryd.underlying3
  a3 := Tryd.isAgg3
  z3 := Tryd.sizeOf3
  v3 := Tryd.zeroValue3
  t4 := Tryd.underlying4
  a4 := Tryd.isAgg4
  z4 := Tryd.sizeOf4
  v4 := Tryd.zeroValue4
  t5 := Tryd.underlying5
  a5 := Tryd.isAgg5
  z5 := Tryd.sizeOf5
  v5 := Tryd.zeroValue5
  t9 := Tryd.underlying9
  a9 := Tryd.isAgg9
  z9 := Tryd.sizeOf9
  v9 := Tryd.zeroValue9
  t21 := Tryd.underlying21
  a21 := Tryd.isAgg21
  z21 := Tryd.sizeOf21
  v21 := Tryd.zeroValue21
  t46 := Tryd.underlying99
  a46 := Tryd.isAgg99
  z46 := Tryd.sizeOf99
  v46 := Tryd.zeroValue99
  t105 := Tryd.underlying91
  a105 := Tryd.isAgg91
  z105 := Tryd.sizeOf91
  v105 := Tryd.zeroValue91
  t119 := Tryd.underlying118
  a119 := Tryd.isAgg118
  z119 := Tryd.sizeOf118
  t138 := Tryd.underlying120
  a138 := Tryd.isAgg120
  z138 := Tryd.sizeOf120
  v138 := Tryd.zeroValue120
  t139 := Tryd.underlying121
  a139 := Tryd.isAgg121
  z139 := Tryd.sizeOf121
  v139 := Tryd.zeroValue121
  g3 := by kernel_rfl
  g4 := by kernel_rfl }
open Go.RowKit Go.Lib in
theorem Tryd.utf8_DecodeRuneInString (s : ByteArray) (w : World) (hT : Lib.Utf8Tabs 1 2 w) :
    Calls Tryd.prog 65 #[.string s] w fun e w' => e = .returned (.tuple #[.int .i32 (Lib.decodeGo s).1, .int .i64 (Lib.decodeGo s).2]) ∧ Below w.heap.size w w' := Any.utf8_DecodeRuneInString Tryd.lays197 s w hT
end Go.Proofs

/- The library's decoder, out of what the row lists. -/
set_option linter.unusedVariables false
namespace Go.Proofs.YtfejjfbhlmjkeaaDoor.W
open Go.RowKit Go.Shelf Go.Lib Go.Proofs
theorem u8types : U8Types Tryd.prog Tryd.lays197_ren := { Tryd.lays197 with }
theorem u8extra : U8Extra Tryd.prog Tryd.lays197_ren := ⟨by kernel_rfl, by kernel_rfl, by kernel_rfl, by kernel_rfl, by kernel_rfl, by kernel_rfl, by kernel_rfl⟩
theorem dec_of {W : World} (h3 : VarReads Tryd.prog W "unicode/utf8.first" firstData) (h4 : VarReads Tryd.prog W "unicode/utf8.acceptRanges" acceptData) : Dec W := by
  have hT := utf8Tabs_of_readsT u8types u8extra h3 h4
  intro s w' hb
  exact Tryd.utf8_DecodeRuneInString s w' (Utf8Tabs_below hT hb)
end Go.Proofs.YtfejjfbhlmjkeaaDoor.W

/- WordStands: the walk of the law. -/
set_option linter.unusedVariables false
set_option linter.unusedSimpArgs false
namespace Go.Proofs.YtfejjfbhlmjkeaaDoor.W
open Go.RowKit Go.Proofs.YtfejjfbhlmjkeaaDoorW.PrintWords Go.Proofs.YtfejjfbhlmjkeaaDoorW.PrintLast Go.Proofs.YtfejjfbhlmjkeaaDoor.B

/-- The library's search answers what it should, from this world on. -/
def Con (w : World) : Prop := ∀ (s sub : ByteArray) (w' : World), s.size < 4294967281 → Below w.heap.size w w' → Calls Tryd.prog 23 #[.string s, .string sub] w' fun e w2 => e = .returned (.bool (Lib.contains s.data.toList sub.data.toList)) ∧ w2 = w'
theorem Con.below {w w1 : World} (h : Con w) (hb : Below w.heap.size w w1) : Con w1 := fun s sub w' hs hb' => h s sub w' hs (below_step hb hb')
theorem contains_of (l sub : List UInt8) (i : Nat) (hi : i ≤ l.length) (h : Lib.occAt l sub i = true) : Lib.contains l sub = true := by
  unfold Lib.contains
  rcases Lib.index_spec l sub with ⟨_, h2⟩ | ⟨j, h1, _⟩
  · rw [h2 i hi] at h; cases h
  · rw [h1]; simp
theorem contains_word (s x : ByteArray) (h : x ∈ words s) : Lib.contains s.data.toList x.data.toList = true := by
  unfold words at h
  obtain ⟨y, hy, rfl⟩ := List.mem_map.1 h
  have hb := spans_le s s.size 0 none (by omega) (by omega) (fun f e => by cases e) y hy
  refine contains_of _ _ y.1 (by rw [size_list]; omega) ?_
  rw [word_str, data_str]
  unfold Lib.occAt
  simp [List.isPrefixOf_iff_prefix, List.take_prefix]
theorem has_true (s x : ByteArray) (h : x ∈ words s) (hs : s.size ≤ 4611686018427) (w : World) : Calls Tryd.prog 19 #[.string s, .string x] w fun e w' => e = .returned (.bool true) ∧ Below w.heap.size w w' := by
  have h1 := has_any s x w hs
  have h2 : hasB s x = true := any_true h
  rw [h2] at h1
  exact h1
theorem cat_size (a b : ByteArray) (ha : a.size ≤ 512) (hb : b.size ≤ 512) : (a ++ ⟨#[32]⟩ ++ b).size ≤ 4611686018427 := by
  have h1 : (⟨#[32]⟩ : ByteArray).size = 1 := rfl
  rw [ByteArray.size_append, ByteArray.size_append, h1]
  omega
theorem hasCat (a b x : ByteArray) (h : x ∈ words a ++ words b) (ha : a.size ≤ 512) (hb : b.size ≤ 512) (w : World) : Calls Tryd.prog 19 #[.string (a ++ ⟨#[32]⟩ ++ b), .string x] w fun e w' => e = .returned (.bool true) ∧ Below w.heap.size w w' := by
  obtain ⟨c, hc⟩ : ∃ c, c = a ++ ⟨#[32]⟩ ++ b := ⟨_, rfl⟩
  have h1 := words_cat a b
  have h2 := cat_size a b ha hb
  rw [← hc] at h1 h2 ⊢
  exact has_true c x (by rw [h1]; exact h) h2 w
theorem con_true {W w : World} (hC : Con W) (hb : Below W.heap.size W w) (s x : ByteArray) (hs : s.size ≤ 1100) (h : x ∈ words s) : Calls Tryd.prog 23 #[.string s, .string x] w fun e w' => e = .returned (.bool true) ∧ w = w' := by
  have h1 := hC s x w (by omega) hb
  rw [contains_word s x h] at h1
  refine h1.mono ?_
  rintro e w' ⟨rfl, rfl⟩
  exact ⟨rfl, rfl⟩
set_option maxRecDepth 20000 in
set_option maxHeartbeats 4000000 in
theorem wordStands_all (s x0 : ByteArray) (W : World) (hC : Con W) (hD : Dec W) : Calls Tryd.prog 4 #[.string s, .string x0] W fun e w' => e = .returned (.bool true) ∧ Below W.heap.size W w' := by
  go_enter Tryd.func4, Tryd.ntmps4
  by_cases h1 : (512 : Int) < (s.size : Int)
  · have d1 : decide ((512 : Int) < (s.size : Int)) = true := decide_eq_true h1
    clear h1
    go_wp2_with (go_at_call 12; with_reducible refine (alive_any _).mono ?_; rintro e W1 ⟨rfl, hb1⟩; have HB1 := Aside0.mk hb1; clear hb1)
    go_ret
    exact ⟨rfl, HB1.out⟩
  have d1 : decide ((512 : Int) < (s.size : Int)) = false := decide_eq_false h1
  by_cases h2 : (512 : Int) < (x0.size : Int)
  · have d2 : decide ((512 : Int) < (x0.size : Int)) = true := decide_eq_true h2
    clear h1 h2
    go_wp2_with (go_at_call 12; with_reducible refine (alive_any _).mono ?_; rintro e W1 ⟨rfl, hb1⟩; have HB1 := Aside0.mk hb1; clear hb1)
    go_ret
    exact ⟨rfl, HB1.out⟩
  have d2 : decide ((512 : Int) < (x0.size : Int)) = false := decide_eq_false h2
  have Hs : Aside0 (s.size ≤ 512) := ⟨by omega⟩
  have Hx0 : Aside0 (x0.size ≤ 512) := ⟨by omega⟩
  have Hs2 : Aside0 (s.size ≤ 1100) := ⟨by omega⟩
  have Hs3 : Aside0 (s.size ≤ 4611686018427) := ⟨by omega⟩
  have c1 : (9223372036854775807 < s.size + 1) = False := by have := Hs.out; simp; omega
  have c2 : (9223372036854775807 < s.size + 1 + x0.size) = False := by have := Hs.out; have := Hx0.out; simp; omega
  have c3 : (9223372036854775807 < x0.size + 1) = False := by have := Hx0.out; simp; omega
  have c4 : (9223372036854775807 < x0.size + 1 + s.size) = False := by have := Hs.out; have := Hx0.out; simp; omega
  have HC := Aside0.mk hC
  obtain ⟨ws, hws⟩ : ∃ ws, ws = words s := ⟨_, rfl⟩
  have HG : Aside0 (∀ w, Calls Tryd.prog 16 #[.func (.func 44) #[] #[.pointer (some ⟨w.heap.size, 0, none⟩)], .int .i64 600] (w.alloc (.cells #[.string s] 9)) fun e w' => ∃ A c, e = .returned (.slice A ws.length c) ∧ Aside0 (ReadsS w' (.slice A ws.length c) ws) ∧ Below w.heap.size w w') := ⟨fun w => by
    refine (goneS s 600 w (by omega) (by omega)).mono ?_
    rintro e w' ⟨v, rfl, hr, hb⟩
    rw [← hws] at hr
    obtain ⟨A, c, rfl, h⟩ := hr.out
    exact ⟨A, c, rfl, ⟨A, c, rfl, h⟩, hb⟩⟩
  have Hin : Aside0 (∀ x ∈ ws, x ∈ words s) := ⟨fun x hx => by rw [← hws]; exact hx⟩
  have Hlen : Aside0 (ws.length ≤ 1100) := ⟨by rw [hws]; have := words_count s; omega⟩
  have HRS : Aside0 (∀ w, Below W.heap.size W w → _) := ⟨fun w hb => refIs_any x0 w (by omega) (hD.below hb)⟩
  have Hend : Aside0 (isWord x0 = true → x0 ∈ words s ++ words x0) := ⟨fun h => by rw [words_of_is x0 h]; simp⟩
  clear h1 h2 hws hC hD
  go_wp2_with (first
    | (go_at_call 12; with_reducible refine (alive_any _).mono ?_; rintro e W1 ⟨rfl, hb1⟩; have HB1 := Aside0.mk hb1; clear hb1)
    | (go_at_call 17; with_reducible refine (words_any _ _).mono ?_; rintro e w1 ⟨rfl, rfl⟩)
    | (go_at_call 16; with_reducible refine (HG.out _).mono ?_; rintro e W2 ⟨A, c, rfl, HR2, hb2⟩; have HB2 := Aside0.mk (below_step HB1.out hb2); clear hb2))
  clear HG
  go_loopw [21] (fun t21 wr => ∃ (i : Nat), i ≤ ws.length ∧ t21 = .int .i64 (i : Int) ∧ Aside0 (ReadsS wr (.slice A ws.length c) ws) ∧ Aside0 (Below W.heap.size W wr)) (fun t21 _ => ws.length - (intOf t21).toNat)
  case atStart => exact ⟨0, Nat.zero_le _, rfl, HR2, HB2⟩
  case round =>
    clear HR2 HB2
    obtain ⟨i, hi, rfl, HR, HB⟩ := hrel
    by_cases hlt : i < ws.length
    · obtain ⟨x, hx⟩ : ∃ x, x = ws[i] := ⟨_, rfl⟩
      have hin := Hin.out x (by rw [hx]; exact List.getElem_mem hlt)
      obtain ⟨A1, c1', he, h2, h3, h4⟩ := HR.out
      obtain ⟨ad, rfl, hc⟩ := h4 (by omega)
      obtain rfl : A = some ad := by simp only [Value.slice.injEq] at he; exact he.1
      have hcell : wr.cell? (ad.add i) = some (.string x) := by
        rw [hc i hlt, hx, List.getD_eq_getElem?_getD, List.getElem?_eq_getElem hlt]; rfl
      have hl11 := Hlen.out
      have d : decide ((i : Int) < (ws.length : Int)) = true := decide_eq_true (by omega)
      have HX := Aside0.mk hin
      have HH1 := Aside0.mk (fun w => has_true s x hin Hs3.out w)
      have HH2 := Aside0.mk (fun w => hasCat s x0 x (List.mem_append_left _ hin) Hs.out Hx0.out w)
      have HH3 := Aside0.mk (fun w => hasCat x0 s x (List.mem_append_right _ hin) Hx0.out Hs.out w)
      have HCo := Aside0.mk (con_true (W := W) (w := wr) HC.out HB.out s x Hs2.out hin)
      clear he h2 h3 h4 hc hx hin
      go_wp2_with (first
        | (go_at_call 23; with_reducible refine HCo.out.mono ?_; rintro e w3 ⟨rfl, rfl⟩)
        | (go_at_call 19; with_reducible refine (HH1.out _).mono ?_; rintro e W3 ⟨rfl, hb3⟩; have HB3 := Aside0.mk (below_step HB.out hb3); have HR3 := Aside0.mk (HR.out.below hb3); clear hb3)
        | (go_at_call 19; with_reducible refine (HH2.out _).mono ?_; rintro e W4 ⟨rfl, hb4⟩; have HB4 := Aside0.mk (below_step HB3.out hb4); have HR4 := Aside0.mk (HR3.out.below hb4); clear hb4)
        | (go_at_call 19; with_reducible refine (HH3.out _).mono ?_; rintro e W5 ⟨rfl, hb5⟩; have HB5 := Aside0.mk (below_step HB4.out hb5); have HR5 := Aside0.mk (HR4.out.below hb5); clear hb5))
      go_roundw
      case rel => exact ⟨i + 1, by omega, by simp, HR5, HB5⟩
      case measure => simp [intOf]; omega
    · have d : decide ((i : Int) < (ws.length : Int)) = false := decide_eq_false (by omega)
      cases hw : isWord x0 with
      | true =>
        have HH4 := Aside0.mk (fun w => hasCat s x0 x0 (Hend.out hw) Hs.out Hx0.out w)
        have HI := HRS
        rw [hw] at HI
        clear hw HRS Hend
        go_wp2_with (first
          | (go_at_call 22; with_reducible refine (HI.out _ HB.out).mono ?_; rintro e W3 ⟨rfl, hb3⟩; have HB3 := Aside0.mk (below_step HB.out hb3); clear hb3)
          | (go_at_call 19; with_reducible refine (HH4.out _).mono ?_; rintro e W4 ⟨rfl, hb4⟩; have HB4 := Aside0.mk (below_step HB3.out hb4); clear hb4))
        go_ret
        exact ⟨rfl, HB4.out⟩
      | false =>
        have HI := HRS
        rw [hw] at HI
        clear hw HRS Hend
        go_wp2_with (go_at_call 22; with_reducible refine (HI.out _ HB.out).mono ?_; rintro e W3 ⟨rfl, hb3⟩; have HB3 := Aside0.mk (below_step HB.out hb3); clear hb3)
        go_ret
        exact ⟨rfl, HB3.out⟩
end Go.Proofs.YtfejjfbhlmjkeaaDoor.W

/- The library's contracts that the claim uses, laid at this program: written by the kit's own tools, picked by a program. -/
set_option linter.unusedVariables false
namespace Go.Proofs
open Go.Shelf
def Tryd.lays144_ren : Go.Shelf.Ren := ⟨fun | 144 => 23 | 143 => 47 | 219 => 69 | 217 => 83 | 225 => 84 | 224 => 85 | 267 => 86 | 266 => 98 | 314 => 99 | n => n, fun | 9 => 9 | 4 => 4 | 3 => 3 | 5 => 5 | 46 => 99 | 146 => 123 | 51 => 122 | n => n, fun | 1 => 0 | n => n⟩
theorem Tryd.lays144 : Go.Proofs.Lays.n144 Tryd.prog Tryd.lays144_ren := {
  mixed := by kernel_rfl
  f143 := Tryd.func47.trans (congrArg some (by kernel_rfl))
  f144 := Tryd.func23.trans (congrArg some (by kernel_rfl))
  f217 := Tryd.func83.trans (congrArg some (by kernel_rfl))
  f219 := Tryd.func69.trans (congrArg some (by kernel_rfl))
  f224 := Tryd.func85.trans (congrArg some (by kernel_rfl))
  f225 := Tryd.func84.trans (congrArg some (by kernel_rfl))
  f266 := Tryd.func98.trans (congrArg some (by kernel_rfl))
  f267 := Tryd.func86.trans (congrArg some (by kernel_rfl))
  f314 := Tryd.func99.trans (congrArg some (by kernel_rfl))
  t3 := Tryd.underlying3
  a3 := Tryd.isAgg3
  z3 := Tryd.sizeOf3
  v3 := Tryd.zeroValue3
  t4 := Tryd.underlying4
  a4 := Tryd.isAgg4
  z4 := Tryd.sizeOf4
  v4 := Tryd.zeroValue4
  t5 := Tryd.underlying5
  a5 := Tryd.isAgg5
  z5 := Tryd.sizeOf5
  v5 := Tryd.zeroValue5
  t9 := Tryd.underlying9
  a9 := Tryd.isAgg9
  z9 := Tryd.sizeOf9
  v9 := Tryd.zeroValue9
  t46 := Tryd.underlying99
  a46 := Tryd.isAgg99
  z46 := Tryd.sizeOf99
  v46 := Tryd.zeroValue99
  t51 := Tryd.underlying122
  a51 := Tryd.isAgg122
  z51 := Tryd.sizeOf122
  v51 := Tryd.zeroValue122
  t146 := Tryd.underlying123
  a146 := Tryd.isAgg123
  z146 := Tryd.sizeOf123
  v146 := Tryd.zeroValue123
  g1 := by kernel_rfl }
open Go.RowKit Go.Lib in
theorem Tryd.strings_Contains (s sub : ByteArray) (m : Int) (w : World) (hs : s.size < 4294967281) (hm : w.cell? ⟨0, 0, none⟩ = some (.int .i64 m)) :
    Calls Tryd.prog 23 #[.string s, .string sub] w fun e w' => e = .returned (.bool (Lib.contains s.data.toList sub.data.toList)) ∧ w' = w := Any.strings_Contains Tryd.lays144 s sub m w hs hm
end Go.Proofs

/- The wrap of a row that lists variables, the world's shape handed on: the kit's two wraps in one. -/
namespace Go.Proofs.YtfejjfbhlmjkeaaDoor.Sh
open Go
variable {H : Type} {enc : TypeId × Value → H}
theorem returnsInHanded_of_change_and_shaped {a : Assume} {C : Checked} {os : Os} {f : FuncId} {fn : Func} {s : ChangeSpec} {conds : List PathCond} {apart fresh handsOn again : Bool} {X : World → Array Value → Prop}
    (hX : ∀ (w w' : World) (args : Array Value), w.heap = w'.heap → X w args → X w' args)
    (own : ownKnob C.prog.godebug = none) (started : os.Started) (noInit : C.prog.inits.idxOf? f = none) (hfn : C.prog.funcs[f]? = some fn)
    (witness : ∃ (w : World) (tape : Tape) (i : Input), w.os = os ∧ (w.forCall tape i).Shaped C.prog ∧ i.vars = [] ∧ Input.okWide C.prog (w.forCall tape i) .any w.heap.size f i ∧
      ((s.pre enc C.prog fn conds apart (w.forCall tape i).memory i.args ∧ X (w.forCall tape i).memory i.args) ∧ sizedMet enc C.prog fn (OpenSpec.ofChange s) apart (w.forCall tape i).memory i.args) ∧ a.holds C.prog (lone (Frame.enter C.prog f i.args .normal) [] (w.forCall tape i)))
    (contract : ∀ (W : World) (base : Nat) (args : Array Value) (ds gs : List (DataW H)) (before : List MemPlace),
      (∀ (j : Nat) t v, fn.params[j]? = some t → args[j]? = some v → Value.okWide C.prog W .any base t v) →
      DataW.Whole enc C.prog fn.params.toList s.vars apart W args.toList ds gs before →
      conds.all (PathCond.test C.prog ⟨fn.params.toList, ds, s.plain.varTypes C.prog, gs⟩) = true →
      W.ShapedOpen C.prog → X W args →
      a.holds C.prog (lone (Frame.enter C.prog f args .normal) [] W) →
      Calls C.prog f args W fun e W' => ∃ v, e = .returned v ∧ s.post enc C.prog fn apart fresh handsOn again W args v W') :
    ReturnsInHanded a C os f .any (fun w args => (s.pre enc C.prog fn conds apart w args ∧ X w args) ∧ sizedMet enc C.prog fn (OpenSpec.ofChange s) apart w args) (s.post enc C.prog fn apart fresh handsOn again) := by
  refine returnsInHanded_of_calls own started noInit witness ?_
  intro w tape i _ hsh _ hok hpre hholds
  obtain ⟨_, _, _, fn', hfn', _, _, _, _, hval⟩ := hok
  have e : fn' = fn := Option.some.inj (hfn'.symm.trans hfn)
  subst e
  obtain ⟨⟨⟨ds, gs, before, hw, hc⟩, hx⟩, hz⟩ := hpre
  have hw' := DataW.Whole.of_heap (w' := w.forCall tape i) (by rfl) hw
  refine (contract (w.forCall tape i) w.heap.size i.args ds gs before hval hw' hc hsh (hX _ _ _ (by rfl) hx) hholds).mono fun e W' ⟨v, he, hp⟩ => ?_
  subst he
  exact ChangeSpec.post_blind hp
end Go.Proofs.YtfejjfbhlmjkeaaDoor.Sh

/- The library's search, out of the world's shape. -/
set_option linter.unusedVariables false
namespace Go.Proofs.YtfejjfbhlmjkeaaDoor.W
open Go.RowKit Go.Shelf Go.Lib Go.Proofs Go.Proofs.YtfejjfbhlmjkeaaDoorW.PrintWords
theorem con_of {W : World} (h : W.ShapedOpen Tryd.prog) : Con W := by
  obtain ⟨m, hm⟩ := cell_of_shapedOpen_int (P := Tryd.prog) (g := 0) (t := 3) (zero := #[.int .i64 0]) h (of_decide_eq_true (by kernel_rfl)) (by kernel_rfl) rfl (by kernel_rfl) (by kernel_rfl) Tryd.underlying3
  intro s sub w' hs hb
  exact Tryd.strings_Contains s sub m w' hs (pw_cell_below hb hm)
end Go.Proofs.YtfejjfbhlmjkeaaDoor.W
