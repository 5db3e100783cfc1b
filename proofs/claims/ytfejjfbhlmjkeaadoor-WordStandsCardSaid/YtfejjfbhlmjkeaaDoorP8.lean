/- WordStands: the walk of the law. -/
import Derived.Test.YtfejjfbhlmjkeaaDoorP6
import Derived.Lib.IndexMore
set_option linter.unusedVariables false
set_option linter.unusedSimpArgs false
namespace Go.Proofs.YtfejjfbhlmjkeaaDoor.W
open Go.RowKit Go.Proofs.YtfejjfbhlmjkeaaDoorW.PrintWords Go.Proofs.YtfejjfbhlmjkeaaDoorW.PrintLast Go.Proofs.YtfejjfbhlmjkeaaDoor.B

/-- The library's search answers what it should, from this world on. -/
def Con (w : World) : Prop := ∀ (s sub : ByteArray) (w' : World), s.size < 4294967281 → Below w.heap.size w w' → Calls Tryd.prog 23 #[.string s, .string sub] w' fun e w2 => e = .returned (.bool (Lib.contains s.data.toList sub.data.toList)) ∧ w2 = w'
theorem Con.below {w w1 : World} (h : Con w) (hb : Below w.heap.size w w1) : Con w1 := fun s sub w' hs hb' => h s sub w' hs (below_step hb hb')
theorem contains_of (l sub : List UInt8) (i : Nat) (hi : i ≤ l.length) (h : Lib.occAt l sub i = true) : Lib.contains l sub = true := by
  unfold Lib.contains
  rcases Lib.index_spec l sub with ⟨_, h2⟩ | ⟨j, h1, _⟩
  · rw [h2 i hi] at h; cases h
  · rw [h1]; simp
theorem contains_word (s x : ByteArray) (h : x ∈ words s) : Lib.contains s.data.toList x.data.toList = true := by
  unfold words at h
  obtain ⟨y, hy, rfl⟩ := List.mem_map.1 h
  have hb := spans_le s s.size 0 none (by omega) (by omega) (fun f e => by cases e) y hy
  refine contains_of _ _ y.1 (by rw [size_list]; omega) ?_
  rw [word_str, data_str]
  unfold Lib.occAt
  simp [List.isPrefixOf_iff_prefix, List.take_prefix]
theorem has_true (s x : ByteArray) (h : x ∈ words s) (hs : s.size ≤ 4611686018427) (w : World) : Calls Tryd.prog 19 #[.string s, .string x] w fun e w' => e = .returned (.bool true) ∧ Below w.heap.size w w' := by
  have h1 := has_any s x w hs
  have h2 : hasB s x = true := any_true h
  rw [h2] at h1
  exact h1
theorem cat_size (a b : ByteArray) (ha : a.size ≤ 512) (hb : b.size ≤ 512) : (a ++ ⟨#[32]⟩ ++ b).size ≤ 4611686018427 := by
  have h1 : (⟨#[32]⟩ : ByteArray).size = 1 := rfl
  rw [ByteArray.size_append, ByteArray.size_append, h1]
  omega
theorem hasCat (a b x : ByteArray) (h : x ∈ words a ++ words b) (ha : a.size ≤ 512) (hb : b.size ≤ 512) (w : World) : Calls Tryd.prog 19 #[.string (a ++ ⟨#[32]⟩ ++ b), .string x] w fun e w' => e = .returned (.bool true) ∧ Below w.heap.size w w' := by
  obtain ⟨c, hc⟩ : ∃ c, c = a ++ ⟨#[32]⟩ ++ b := ⟨_, rfl⟩
  have h1 := words_cat a b
  have h2 := cat_size a b ha hb
  rw [← hc] at h1 h2 ⊢
  exact has_true c x (by rw [h1]; exact h) h2 w
theorem con_true {W w : World} (hC : Con W) (hb : Below W.heap.size W w) (s x : ByteArray) (hs : s.size ≤ 1100) (h : x ∈ words s) : Calls Tryd.prog 23 #[.string s, .string x] w fun e w' => e = .returned (.bool true) ∧ w = w' := by
  have h1 := hC s x w (by omega) hb
  rw [contains_word s x h] at h1
  refine h1.mono ?_
  rintro e w' ⟨rfl, rfl⟩
  exact ⟨rfl, rfl⟩
set_option maxRecDepth 20000 in
set_option maxHeartbeats 4000000 in
theorem wordStands_all (s x0 : ByteArray) (W : World) (hC : Con W) (hD : Dec W) : Calls Tryd.prog 4 #[.string s, .string x0] W fun e w' => e = .returned (.bool true) ∧ Below W.heap.size W w' := by
  go_enter Tryd.func4, Tryd.ntmps4
  by_cases h1 : (512 : Int) < (s.size : Int)
  · have d1 : decide ((512 : Int) < (s.size : Int)) = true := decide_eq_true h1
    clear h1
    go_wp2_with (go_at_call 12; with_reducible refine (alive_any _).mono ?_; rintro e W1 ⟨rfl, hb1⟩; have HB1 := Aside0.mk hb1; clear hb1)
    go_ret
    exact ⟨rfl, HB1.out⟩
  have d1 : decide ((512 : Int) < (s.size : Int)) = false := decide_eq_false h1
  by_cases h2 : (512 : Int) < (x0.size : Int)
  · have d2 : decide ((512 : Int) < (x0.size : Int)) = true := decide_eq_true h2
    clear h1 h2
    go_wp2_with (go_at_call 12; with_reducible refine (alive_any _).mono ?_; rintro e W1 ⟨rfl, hb1⟩; have HB1 := Aside0.mk hb1; clear hb1)
    go_ret
    exact ⟨rfl, HB1.out⟩
  have d2 : decide ((512 : Int) < (x0.size : Int)) = false := decide_eq_false h2
  have Hs : Aside0 (s.size ≤ 512) := ⟨by omega⟩
  have Hx0 : Aside0 (x0.size ≤ 512) := ⟨by omega⟩
  have Hs2 : Aside0 (s.size ≤ 1100) := ⟨by omega⟩
  have Hs3 : Aside0 (s.size ≤ 4611686018427) := ⟨by omega⟩
  have c1 : (9223372036854775807 < s.size + 1) = False := by have := Hs.out; simp; omega
  have c2 : (9223372036854775807 < s.size + 1 + x0.size) = False := by have := Hs.out; have := Hx0.out; simp; omega
  have c3 : (9223372036854775807 < x0.size + 1) = False := by have := Hx0.out; simp; omega
  have c4 : (9223372036854775807 < x0.size + 1 + s.size) = False := by have := Hs.out; have := Hx0.out; simp; omega
  have HC := Aside0.mk hC
  obtain ⟨ws, hws⟩ : ∃ ws, ws = words s := ⟨_, rfl⟩
  have HG : Aside0 (∀ w, Calls Tryd.prog 16 #[.func (.func 44) #[] #[.pointer (some ⟨w.heap.size, 0, none⟩)], .int .i64 600] (w.alloc (.cells #[.string s] 9)) fun e w' => ∃ A c, e = .returned (.slice A ws.length c) ∧ Aside0 (ReadsS w' (.slice A ws.length c) ws) ∧ Below w.heap.size w w') := ⟨fun w => by
    refine (goneS s 600 w (by omega) (by omega)).mono ?_
    rintro e w' ⟨v, rfl, hr, hb⟩
    rw [← hws] at hr
    obtain ⟨A, c, rfl, h⟩ := hr.out
    exact ⟨A, c, rfl, ⟨A, c, rfl, h⟩, hb⟩⟩
  have Hin : Aside0 (∀ x ∈ ws, x ∈ words s) := ⟨fun x hx => by rw [← hws]; exact hx⟩
  have Hlen : Aside0 (ws.length ≤ 1100) := ⟨by rw [hws]; have := words_count s; omega⟩
  have HRS : Aside0 (∀ w, Below W.heap.size W w → _) := ⟨fun w hb => refIs_any x0 w (by omega) (hD.below hb)⟩
  have Hend : Aside0 (isWord x0 = true → x0 ∈ words s ++ words x0) := ⟨fun h => by rw [words_of_is x0 h]; simp⟩
  clear h1 h2 hws hC hD
  go_wp2_with (first
    | (go_at_call 12; with_reducible refine (alive_any _).mono ?_; rintro e W1 ⟨rfl, hb1⟩; have HB1 := Aside0.mk hb1; clear hb1)
    | (go_at_call 17; with_reducible refine (words_any _ _).mono ?_; rintro e w1 ⟨rfl, rfl⟩)
    | (go_at_call 16; with_reducible refine (HG.out _).mono ?_; rintro e W2 ⟨A, c, rfl, HR2, hb2⟩; have HB2 := Aside0.mk (below_step HB1.out hb2); clear hb2))
  clear HG
  go_loopw [21] (fun t21 wr => ∃ (i : Nat), i ≤ ws.length ∧ t21 = .int .i64 (i : Int) ∧ Aside0 (ReadsS wr (.slice A ws.length c) ws) ∧ Aside0 (Below W.heap.size W wr)) (fun t21 _ => ws.length - (intOf t21).toNat)
  case atStart => exact ⟨0, Nat.zero_le _, rfl, HR2, HB2⟩
  case round =>
    clear HR2 HB2
    obtain ⟨i, hi, rfl, HR, HB⟩ := hrel
    by_cases hlt : i < ws.length
    · obtain ⟨x, hx⟩ : ∃ x, x = ws[i] := ⟨_, rfl⟩
      have hin := Hin.out x (by rw [hx]; exact List.getElem_mem hlt)
      obtain ⟨A1, c1', he, h2, h3, h4⟩ := HR.out
      obtain ⟨ad, rfl, hc⟩ := h4 (by omega)
      obtain rfl : A = some ad := by simp only [Value.slice.injEq] at he; exact he.1
      have hcell : wr.cell? (ad.add i) = some (.string x) := by
        rw [hc i hlt, hx, List.getD_eq_getElem?_getD, List.getElem?_eq_getElem hlt]; rfl
      have hl11 := Hlen.out
      have d : decide ((i : Int) < (ws.length : Int)) = true := decide_eq_true (by omega)
      have HX := Aside0.mk hin
      have HH1 := Aside0.mk (fun w => has_true s x hin Hs3.out w)
      have HH2 := Aside0.mk (fun w => hasCat s x0 x (List.mem_append_left _ hin) Hs.out Hx0.out w)
      have HH3 := Aside0.mk (fun w => hasCat x0 s x (List.mem_append_right _ hin) Hx0.out Hs.out w)
      have HCo := Aside0.mk (con_true (W := W) (w := wr) HC.out HB.out s x Hs2.out hin)
      clear he h2 h3 h4 hc hx hin
      go_wp2_with (first
        | (go_at_call 23; with_reducible refine HCo.out.mono ?_; rintro e w3 ⟨rfl, rfl⟩)
        | (go_at_call 19; with_reducible refine (HH1.out _).mono ?_; rintro e W3 ⟨rfl, hb3⟩; have HB3 := Aside0.mk (below_step HB.out hb3); have HR3 := Aside0.mk (HR.out.below hb3); clear hb3)
        | (go_at_call 19; with_reducible refine (HH2.out _).mono ?_; rintro e W4 ⟨rfl, hb4⟩; have HB4 := Aside0.mk (below_step HB3.out hb4); have HR4 := Aside0.mk (HR3.out.below hb4); clear hb4)
        | (go_at_call 19; with_reducible refine (HH3.out _).mono ?_; rintro e W5 ⟨rfl, hb5⟩; have HB5 := Aside0.mk (below_step HB4.out hb5); have HR5 := Aside0.mk (HR4.out.below hb5); clear hb5))
      go_roundw
      case rel => exact ⟨i + 1, by omega, by simp, HR5, HB5⟩
      case measure => simp [intOf]; omega
    · have d : decide ((i : Int) < (ws.length : Int)) = false := decide_eq_false (by omega)
      cases hw : isWord x0 with
      | true =>
        have HH4 := Aside0.mk (fun w => hasCat s x0 x0 (Hend.out hw) Hs.out Hx0.out w)
        have HI := HRS
        rw [hw] at HI
        clear hw HRS Hend
        go_wp2_with (first
          | (go_at_call 22; with_reducible refine (HI.out _ HB.out).mono ?_; rintro e W3 ⟨rfl, hb3⟩; have HB3 := Aside0.mk (below_step HB.out hb3); clear hb3)
          | (go_at_call 19; with_reducible refine (HH4.out _).mono ?_; rintro e W4 ⟨rfl, hb4⟩; have HB4 := Aside0.mk (below_step HB3.out hb4); clear hb4))
        go_ret
        exact ⟨rfl, HB4.out⟩
      | false =>
        have HI := HRS
        rw [hw] at HI
        clear hw HRS Hend
        go_wp2_with (go_at_call 22; with_reducible refine (HI.out _ HB.out).mono ?_; rintro e W3 ⟨rfl, hb3⟩; have HB3 := Aside0.mk (below_step HB.out hb3); clear hb3)
        go_ret
        exact ⟨rfl, HB3.out⟩
end Go.Proofs.YtfejjfbhlmjkeaaDoor.W
