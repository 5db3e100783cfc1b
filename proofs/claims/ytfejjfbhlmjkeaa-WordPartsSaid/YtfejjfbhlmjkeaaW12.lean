/- WordParts: the walk of the law. -/
import Derived.Test.YtfejjfbhlmjkeaaW11
set_option linter.unusedVariables false
set_option linter.unusedSimpArgs false
namespace Go.Proofs.Ytfejjfbhlmjkeaa.W
open Go.RowKit Go.Shelf Go.Proofs.YtfejjfbhlmjkeaaW.PrintWords Go.Proofs.YtfejjfbhlmjkeaaW.PrintLast Go.Proofs.Ytfejjfbhlmjkeaa.B Go.Proofs.Ytfejjfbhlmjkeaa.It

theorem spans_count (s : ByteArray) : ∀ (n pos : Nat) (fr : Option Nat), s.size - pos ≤ n → (spansFrom s pos fr).length ≤ (s.size - pos) + (match fr with | some _ => 1 | none => 0) := by
  intro n
  induction n with
  | zero =>
    intro pos fr h
    rw [spansFrom_end (by omega)]
    cases fr <;> simp
  | succ n ih =>
    intro pos fr h
    by_cases hp : pos < s.size
    · have hw := Lib.decode_width_pos s pos hp
      cases hl : letter ((Utf8.decode s pos).1 : Int) with
      | true =>
        rw [spansFrom_is hp hl]
        have := ih (pos + (Utf8.decode s pos).2) (some (fr.getD pos)) (by omega)
        simp only at this
        cases fr <;> simp only <;> omega
      | false =>
        have := ih (pos + (Utf8.decode s pos).2) none (by omega)
        simp only at this
        cases fr with
        | none => rw [spansFrom_none hp hl]; simp only; omega
        | some f => rw [spansFrom_some hp hl, List.length_cons]; simp only; omega
    · rw [spansFrom_end hp]
      cases fr <;> simp
theorem words_count (s : ByteArray) : (words s).length ≤ s.size := by
  unfold words
  rw [List.length_map]
  have := spans_count s s.size 0 none (by omega)
  simpa using this
theorem words_cat (a b : ByteArray) : words (a ++ ⟨#[32]⟩ ++ b) = words a ++ words b := by
  rw [← words_blank]
  congr 1
  apply ByteArray.ext
  unfold str
  apply Array.ext'
  simp [ByteArray.data_append]
theorem own_news {w : World} {base : Nat} {e : TypeId} {v : Value} {xs : List Value} (h : B.Own w base e v xs) : ∃ A c, v = .slice A xs.length c ∧ (∀ ad, A = some ad → ∀ j u, xs[j]? = some u → w.cell? (ad.add j) = some u) ∧ (A = none → xs = []) := by
  have h' := h
  rcases h with ⟨rfl, rfl⟩ | ⟨g, cap, cur, fz, rfl, h2⟩
  · exact ⟨none, 0, rfl, (fun ad e => by cases e), fun _ => rfl⟩
  · exact ⟨_, cap, rfl, (fun ad e => by cases e; exact h'.cells rfl), fun e => by cases e⟩
/-- All the words of a text, gone over. -/
theorem goneAll (s : ByteArray) (most : Int) (w : World) (hs : s.size ≤ 1100) (hm : (s.size : Int) ≤ most) : Calls Try.prog 16 #[.func (.func 48) #[] #[.pointer (some ⟨w.heap.size, 0, none⟩)], .int .i64 most] (w.alloc (.cells #[.string s] 9)) fun e w' => ∃ v, e = .returned v ∧ Aside0 (B.Own w' w.heap.size 9 v ((words s).map .string)) ∧ Below w.heap.size w w' := by
  have hc := words_count s
  refine (goneW (s := s) (most := most) w (by omega) (by omega)).mono ?_
  rintro e w' ⟨v, rfl, ho, hb⟩
  rw [List.take_of_length_le (by omega)] at ho
  exact ⟨v, rfl, ⟨ho⟩, hb⟩
/-- The words of a word. -/
theorem goneOne (x : ByteArray) (hx : words x = [x]) (hz : x.size ≤ 1100) (w : World) : Calls Try.prog 16 #[.func (.func 48) #[] #[.pointer (some ⟨w.heap.size, 0, none⟩)], .int .i64 9] (w.alloc (.cells #[.string x] 9)) fun e w' => ∃ v, e = .returned v ∧ Aside0 (ReadsS w' v [x]) ∧ Below w.heap.size w w' := by
  refine (goneW (s := x) (most := 9) w (by omega) (by rw [hx]; exact Nat.le_of_ble_eq_true rfl)).mono ?_
  rintro e w' ⟨v, rfl, ho, hb⟩
  rw [hx] at ho
  exact ⟨v, rfl, ⟨readsS_own (xs := [x]) ho⟩, hb⟩
theorem sameOne (x : ByteArray) (w : World) (v : Value) (h : ReadsS w v [x]) : Calls Try.prog 18 #[v, .slice (some ⟨w.heap.size, 0, none⟩) 1 1] (w.alloc (.cells #[.string x] 9)) fun e w' => e = .returned (.bool true) ∧ Below w.heap.size w w' := by
  refine (same_any (h.below (below_alloc (Below.refl _ _) _)) (readsS_new w 9 [x] (by simp)) (by simp)).mono ?_
  rintro e w' ⟨rfl, hb⟩
  rw [(sameB_iff _ _).2 rfl]
  exact ⟨rfl, below_step (below_alloc (Below.refl _ w) _) hb⟩
theorem sameAll {xs ys : List ByteArray} (w : World) (v0 v1 : Value) (hxy : xs = ys) (h0 : ReadsS w v0 xs) (h1 : ReadsS w v1 ys) (hm : xs.length ≤ 4611686018427) : Calls Try.prog 18 #[v0, v1] w fun e w' => e = .returned (.bool true) ∧ Below w.heap.size w w' := by
  have h := same_any h0 h1 hm
  rw [(sameB_iff _ _).2 hxy] at h
  exact h
theorem isTrue (x : ByteArray) (hx : words x = [x]) (hz : x.size ≤ 1100) (w : World) : Calls Try.prog 15 #[.string x] w fun e w' => e = .returned (.bool true) ∧ Below w.heap.size w w' := by
  have h := is_any x w (by omega)
  rw [isWord_of x hx] at h
  exact h
theorem word_size (s x : ByteArray) (h : x ∈ words s) : x.size ≤ s.size := by
  unfold words at h
  obtain ⟨y, hy, rfl⟩ := List.mem_map.1 h
  unfold word
  rw [ByteArray.size_extract]
  omega
set_option maxRecDepth 20000 in
set_option maxHeartbeats 4000000 in
theorem wordParts_all (a b : ByteArray) (W : World) (ha : a.size ≤ 140737488351232) (hb : b.size ≤ 140737488351232) : Calls Try.prog 4 #[.string a, .string b] W fun e w' => e = .returned (.bool true) ∧ Below W.heap.size W w' := by
  go_enter Try.func4, Try.ntmps4
  by_cases h1 : (512 : Int) < (a.size : Int)
  · have d1 : decide ((512 : Int) < (a.size : Int)) = true := decide_eq_true h1
    clear h1
    go_wp2_with (go_at_call 12; with_reducible refine (alive_any _).mono ?_; rintro e W1 ⟨rfl, hb1⟩; have HB1 := Aside0.mk hb1; clear hb1)
    go_ret
    exact ⟨rfl, HB1.out⟩
  have d1 : decide ((512 : Int) < (a.size : Int)) = false := decide_eq_false h1
  by_cases h2 : (512 : Int) < (b.size : Int)
  · have d2 : decide ((512 : Int) < (b.size : Int)) = true := decide_eq_true h2
    clear h1 h2
    go_wp2_with (go_at_call 12; with_reducible refine (alive_any _).mono ?_; rintro e W1 ⟨rfl, hb1⟩; have HB1 := Aside0.mk hb1; clear hb1)
    go_ret
    exact ⟨rfl, HB1.out⟩
  have d2 : decide ((512 : Int) < (b.size : Int)) = false := decide_eq_false h2
  have Ha : Aside0 (a.size ≤ 512) := ⟨by omega⟩
  have Hb : Aside0 (b.size ≤ 512) := ⟨by omega⟩
  have Hinfo := Aside0.mk (show (Try.prog.info? 9).map (fun i => (i.zero, i.size, i.bytes)) = some (some (.string ⟨#[]⟩), 1, 16) by rfl)
  have HGa := Aside0.mk (fun w => goneAll a 600 w (by have := Ha.out; omega) (by have := Ha.out; omega))
  have HGb := Aside0.mk (fun w => goneAll b 600 w (by have := Hb.out; omega) (by have := Hb.out; omega))
  have Hla := Aside0.mk (words_count a)
  have Hlb := Aside0.mk (words_count b)
  have HGc := Aside0.mk (fun w => goneAll (a ++ ⟨#[32]⟩ ++ b) 2000 w (by have := Ha.out; have := Hb.out; simp only [ByteArray.size_append]; have : (⟨#[32]⟩ : ByteArray).size = 1 := rfl; omega) (by have := Ha.out; have := Hb.out; simp only [ByteArray.size_append]; have : (⟨#[32]⟩ : ByteArray).size = 1 := rfl; omega))
  have Hcat := Aside0.mk (words_cat a b)
  have Hlc : Aside0 ((words (a ++ ⟨#[32]⟩ ++ b)).length ≤ 4611686018427) := ⟨by have := Ha.out; have := Hb.out; have := Hla.out; have := Hlb.out; rw [Hcat.out, List.length_append]; omega⟩
  have Hlx : Aside0 (((words a).map Value.string ++ (words b).map Value.string).length = (words a).length + (words b).length) := ⟨by simp⟩
  have c1 : (9223372036854775807 < a.size + 1) = False := by have := Ha.out; simp; omega
  have c2 : (9223372036854775807 < a.size + 1 + b.size) = False := by have := Ha.out; have := Hb.out; simp; omega
  clear h1 h2 ha hb
  go_wp2_with (first
    | (go_at_call 12; with_reducible refine (alive_any _).mono ?_; rintro e W1 ⟨rfl, hb1⟩; have HB1 := Aside0.mk hb1; clear hb1)
    | (go_at_call 17; with_reducible refine (words_any _ _).mono ?_; rintro e w1 ⟨rfl, rfl⟩)
    | (go_at_call 16; with_reducible refine (HGa.out _).mono ?_; rintro e W2 ⟨v2, rfl, HO2, hb2⟩; have HB2 := Aside0.mk (below_step HB1.out hb2); have HS2 := Aside0.mk hb2.size; clear hb2)
    | (go_at_call 16; with_reducible refine (HGb.out _).mono ?_; rintro e W3 ⟨v3, rfl, HO3, hb3⟩; have HB3 := Aside0.mk (below_step HB2.out hb3); have HS3 := Aside0.mk hb3.size; have HO23 := Aside0.mk (HO2.out.below hb3); clear hb3; obtain ⟨A3, c3, rfl, hn3, hz3⟩ := own_news HO3.out; have HN3 := Aside0.mk hn3; have HZ3 := Aside0.mk hz3; clear hn3 hz3)
    | (at_builtin; refine wpList_append_b W1.heap.size rfl _ _ 25 9 (.string ⟨#[]⟩) 16 rfl Try.underlying25 Hinfo.out rfl (by decide) _ _ rfl HO23.out A3 (words b).length c3 ((words b).map Value.string) rfl (List.length_map ..) HN3.out HZ3.out (fun u hu => by obtain ⟨_, _, rfl⟩ := List.mem_map.1 hu; rfl) (by have := Hla.out; have := Hlb.out; have := Ha.out; have := Hb.out; rw [List.length_map]; omega) (by have := HS2.out; have := HS3.out; omega) ?_; intro v4 W4 hown4 hgrow4 hnear4; obtain ⟨A4, c4, rfl, _, _⟩ := own_news hown4; rw [Hlx.out, ← List.map_append] at hown4; have HO4 := Aside0.mk hown4; have HB4 := Aside0.mk (HB3.out.grown hgrow4 HB3.out.size (fun k e => by have := (HO23.out.lt k e).1; have := HB1.out.size; omega)); clear hown4 hgrow4 hnear4)
    | (go_at_call 16; with_reducible refine (HGc.out _).mono ?_; rintro e W5 ⟨v5, rfl, HO5, hb5⟩; have HB5 := Aside0.mk (below_step HB4.out hb5); have HO45 := Aside0.mk (HO4.out.below hb5); clear hb5)
    | (go_at_call 18; refine (sameAll _ _ _ Hcat.out (readsS_own HO5.out) (readsS_own HO45.out) Hlc.out).mono ?_; rintro e W6 ⟨rfl, hb6⟩; have HB6 := Aside0.mk (below_step HB5.out hb6); have HO6 := Aside0.mk (HO45.out.below hb6); clear hb6))
  obtain ⟨ws, hws⟩ : ∃ ws, ws = words a ++ words b := ⟨_, rfl⟩
  have hlen : (words a).length + (words b).length = ws.length := by rw [hws, List.length_append]
  have HR6 := Aside0.mk (readsS_own HO6.out)
  rw [← hws, hlen] at HR6
  have Hw : Aside0 (∀ x ∈ ws, words x = [x] ∧ x.size ≤ 1100) := ⟨fun x hx => by
    rw [hws] at hx
    rcases List.mem_append.1 hx with h | h
    · exact ⟨words_word _ _ h, by have := word_size _ _ h; have := Ha.out; omega⟩
    · exact ⟨words_word _ _ h, by have := word_size _ _ h; have := Hb.out; omega⟩⟩
  have Hlen : Aside0 (ws.length ≤ 1100) := ⟨by have := Hla.out; have := Hlb.out; have := Ha.out; have := Hb.out; omega⟩
  have hlenI : ((words a).length : Int) + ((words b).length : Int) = (ws.length : Int) := by omega
  simp only [hlen, hlenI]
  clear hws hlen hlenI HGa HGb HGc Hcat Hlc Hla Hlb HO2 HO3 HO23 HN3 HZ3 HO4 HO45 HO5 HO6 HB1 HB2 HB3 HB4 HB5 Hlx c1 c2
  go_loopw [36] (fun t36 wr => ∃ (i : Nat), i ≤ ws.length ∧ t36 = .int .i64 (i : Int) ∧ Aside0 (ReadsS wr (.slice A4 ws.length c4) ws) ∧ Aside0 (Below W.heap.size W wr)) (fun t36 _ => ws.length - (intOf t36).toNat)
  case atStart => exact ⟨0, Nat.zero_le _, rfl, HR6, HB6⟩
  case round =>
    clear HR6 HB6
    obtain ⟨i, hi, rfl, HR, HB⟩ := hrel
    by_cases hlt : i < ws.length
    · obtain ⟨x, hx⟩ : ∃ x, x = ws[i] := ⟨_, rfl⟩
      obtain ⟨hx1, hx2⟩ := Hw.out x (by rw [hx]; exact List.getElem_mem hlt)
      obtain ⟨A, c, he, h2, h3, h4⟩ := HR.out
      obtain ⟨ad, rfl, hc⟩ := h4 (by omega)
      obtain ⟨rfl, -, -⟩ : A4 = some ad ∧ True ∧ True := by cases he; exact ⟨rfl, trivial, trivial⟩
      have hcell : wr.cell? (ad.add i) = some (.string x) := by
        rw [hc i hlt, hx, List.getD_eq_getElem?_getD, List.getElem?_eq_getElem hlt]; rfl
      have HX1 := Aside0.mk hx1
      have HX2 := Aside0.mk hx2
      have hl11 := Hlen.out
      have d : decide ((i : Int) < (ws.length : Int)) = true := decide_eq_true (by omega)
      clear hx hx1 hx2 he h2 h3 h4 hc
      go_wp2_with (first
        | (go_at_call 15; with_reducible refine (isTrue _ HX1.out HX2.out _).mono ?_; rintro e W7 ⟨rfl, hb7⟩; have HB7 := Aside0.mk (below_step HB.out hb7); have HR7 := Aside0.mk (HR.out.below hb7); clear hb7)
        | (go_at_call 17; with_reducible refine (words_any _ _).mono ?_; rintro e w1 ⟨rfl, rfl⟩)
        | (go_at_call 16; with_reducible refine (goneOne _ HX1.out HX2.out _).mono ?_; rintro e W8 ⟨v8, rfl, HS8, hb8⟩; have HB8 := Aside0.mk (below_step HB7.out hb8); have HR8 := Aside0.mk (HR7.out.below hb8); clear hb8)
        | (go_at_call 18; with_reducible refine (sameOne _ _ _ HS8.out).mono ?_; rintro e W9 ⟨rfl, hb9⟩; have HB9 := Aside0.mk (below_step HB8.out hb9); have HR9 := Aside0.mk (HR8.out.below hb9); clear hb9))
      go_roundw
      case rel => exact ⟨i + 1, by omega, by simp, HR9, HB9⟩
      case measure => simp [intOf]; omega
    · have d : decide ((i : Int) < (ws.length : Int)) = false := decide_eq_false (by omega)
      go_wp2_with fail
      go_ret
      exact ⟨rfl, HB.out⟩
end Go.Proofs.Ytfejjfbhlmjkeaa.W
