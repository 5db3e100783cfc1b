/- Places: what it computes. -/
import Derived.Test.YtfejjfbhlmjkeaaDoorP1
import Derived.Shelf.Unicode.DecodeAny
set_option linter.unusedVariables false
set_option linter.unusedSimpArgs false
namespace Go.Proofs.YtfejjfbhlmjkeaaDoor.W
open Go.RowKit Go.Proofs.YtfejjfbhlmjkeaaDoorW.PrintWords Go.Proofs.YtfejjfbhlmjkeaaDoorW.PrintLast Go.Proofs.YtfejjfbhlmjkeaaDoor.B Go.Proofs.YtfejjfbhlmjkeaaDoor.WL

/-- The library's decoder answers what it should, from this world on. -/
def Dec (w : World) : Prop := ∀ (s : ByteArray) (w' : World), Below w.heap.size w w' → Calls Tryd.prog 65 #[.string s] w' fun e w2 => e = .returned (.tuple #[.int .i32 (Lib.decodeGo s).1, .int .i64 (Lib.decodeGo s).2]) ∧ Below w'.heap.size w' w2
theorem Dec.below {w w1 : World} (h : Dec w) (hb : Below w.heap.size w w1) : Dec w1 := fun s w' hb' => h s w' (below_step hb hb')
theorem dec_tail (s : ByteArray) (pos : Nat) (h : pos < s.size) : Lib.decodeGo (s.extract pos s.size) = Utf8.decode s pos := by
  unfold Lib.decodeGo
  have hz : (s.extract pos s.size).size ≠ 0 := by rw [ByteArray.size_extract]; omega
  simp only [hz, if_false]
  rw [Lib.tail_decode, Nat.add_zero]
theorem dec_le (s : ByteArray) (pos : Nat) (h : pos < s.size) : pos + (Utf8.decode s pos).2 ≤ s.size := by
  have hd := Lib.decodeL_drop s pos
  have hne : s.data.toList.drop pos ≠ [] := fun e => by have h1 := congrArg List.length e; rw [List.length_drop, size_list, List.length_nil] at h1; omega
  have hw := Lib.decodeL_le _ hne
  rw [List.length_drop, size_list, hd] at hw
  omega
/-- Numbers as cells. -/
def ints (l : List Nat) : List Value := l.map fun (n : Nat) => Value.int .i64 (n : Int)
theorem ints_one (l : List Nat) : ∀ u ∈ ints l, u.oneCell' = true := by
  intro u hu
  obtain ⟨n, _, rfl⟩ := List.mem_map.1 hu
  rfl
set_option maxRecDepth 20000 in
set_option maxHeartbeats 4000000 in
theorem places_any (s : ByteArray) (w : World) (hs : s.size ≤ 1100) (hD : Dec w) : Calls Tryd.prog 43 #[.string s] w fun e w' => ∃ v, e = .returned v ∧ B.Own w' w.heap.size 3 v (ints (pl s 0 false)) ∧ Below w.heap.size w w' := by
  obtain ⟨all, hall⟩ : ∃ all, all = pl s 0 false := ⟨_, rfl⟩
  have Hall := Aside0.mk hall
  have HD := Aside0.mk hD
  have Hs := Aside0.mk hs
  have Hinfo := Aside0.mk (show (Tryd.prog.info? 3).map (fun i => (i.zero, i.size, i.bytes)) = some (some (.int .i64 0), 1, 8) by rfl)
  rw [← hall]
  clear hall hD hs
  go_enter Tryd.func43, Tryd.ntmps43
  go_wp2_with fail
  go_loopw [3, 4, 5] (fun t3 t4 t5 wr => ∃ (pos : Nat) (op : Bool) (done : List Nat), pos ≤ s.size ∧ t5 = .int .i64 (pos : Int) ∧ t4 = .bool op ∧ Aside0 (done ++ pl s pos op = all) ∧ Aside0 (done.length ≤ pos) ∧ Aside0 (B.Own wr w.heap.size 3 t3 (ints done)) ∧ Aside0 (Below w.heap.size w wr)) (fun _ _ t5 _ => s.size - (intOf t5).toNat)
  case atStart => exact ⟨0, false, [], Nat.zero_le _, rfl, rfl, ⟨by rw [Hall.out]; rfl⟩, ⟨Nat.le_refl _⟩, ⟨Own.nil _ _ _⟩, ⟨Below.refl _ _⟩⟩
  case round =>
    obtain ⟨pos, op, done, hpos, rfl, rfl, Hd, Hl, HO, HB⟩ := hrel
    by_cases hp : pos < s.size
    · have d1 : decide (pos < s.size) = true := decide_eq_true hp
      have Hp := Aside0.mk hp
      obtain ⟨c, k, hck⟩ : ∃ c k, Utf8.decode s pos = (c, k) := ⟨_, _, rfl⟩
      have hk1 := Lib.decode_width_pos s pos hp
      have hk2 := dec_le s pos hp
      have hs1 := Hs.out
      rw [hck] at hk1 hk2
      simp only at hk1 hk2
      have Hck := Aside0.mk hck
      have Hdt := Aside0.mk (dec_tail s pos hp)
      have Hk := Aside0.mk (And.intro hk1 hk2)
      have HDr := Aside0.mk (HD.out (s.extract pos s.size) wr HB.out)
      rw [Hdt.out, Hck.out] at HDr
      cases hlo : (letter (c : Int) == op) with
      | true =>
        have Hlo := Aside0.mk hlo
        clear hck hp
        go_wp2_with (first
          | (go_at_call 65; refine HDr.out.mono ?_; rintro e w1 ⟨rfl, hb1⟩; have HB1 := Aside0.mk (below_step HB.out hb1); have HO1 := Aside0.mk (HO.out.below hb1); clear hb1)
          | (go_at_call 66; with_reducible refine (refLetter_any _ _).mono ?_; rintro e w3 ⟨rfl, rfl⟩))
        go_roundw
        case rel => exact ⟨pos + k, op, done, Hk.out.2, by simp, rfl, ⟨by rw [← Hd.out, pl_same Hp.out (by rw [Hck.out]; have h := Hlo.out; cases op <;> cases hl : letter (c : Int) <;> simp_all), Hck.out]⟩, ⟨by have := Hl.out; omega⟩, HO1, HB1⟩
        case measure => simp [intOf]; omega
      | false =>
        have Hlo := Aside0.mk hlo
        clear hck hp
        go_wp2_with (first
          | (go_at_call 65; refine HDr.out.mono ?_; rintro e w1 ⟨rfl, hb1⟩; have HB1 := Aside0.mk (below_step HB.out hb1); have HO1 := Aside0.mk (HO.out.below hb1); clear hb1)
          | (go_at_call 66; with_reducible refine (refLetter_any _ _).mono ?_; rintro e w3 ⟨rfl, rfl⟩)
          | (at_builtin; refine wpList_append_b w.heap.size rfl _ _ 33 3 (.int .i64 0) 8 rfl Tryd.underlying33 Hinfo.out rfl (by decide) _ _ rfl (HO1.out.alloc _) (some ⟨w1.heap.size, 0, none⟩) 1 1 (ints [pos]) rfl rfl (news_row _ _ _) (fun e => by cases e) (ints_one _) (by have := Hl.out; unfold ints; rw [List.length_map]; omega) (by have := HB1.out.size; rw [World.size_alloc]; omega) ?_; intro v2 w2 hown2 hgrow2 hnear2; have HO2 := Aside0.mk hown2; have HB2 := Aside0.mk ((below_alloc HB1.out _).grown hgrow2 (by have := HB1.out.size; rw [World.size_alloc]; omega) (fun k e => by have := (HO1.out.lt k e).1; omega)); clear hown2 hgrow2 hnear2))
        go_roundw
        case rel => exact ⟨pos + k, !op, done ++ [pos], Hk.out.2, by simp, rfl, ⟨by rw [← Hd.out, pl_turn Hp.out (by rw [Hck.out]; have h := Hlo.out; cases op <;> cases hl : letter (c : Int) <;> simp_all), Hck.out]; simp⟩, ⟨by have := Hl.out; have := Hk.out.1; rw [List.length_append, List.length_singleton]; omega⟩, ⟨by have h := HO2.out; unfold ints at h ⊢; rw [List.map_append]; exact h⟩, HB2⟩
        case measure => simp [intOf]; omega
    · have d1 : decide (pos < s.size) = false := decide_eq_false hp
      have hall := Hd.out
      rw [pl_end hp] at hall
      have hs1 := Hs.out
      cases op with
      | false =>
        have Hall2 : Aside0 (done = all) := ⟨by simpa using hall⟩
        clear hall hp
        go_wp2_with fail
        go_ret
        exact ⟨_, rfl, by rw [← Hall2.out]; exact HO.out, HB.out⟩
      | true =>
        have Hall2 : Aside0 (done ++ [s.size] = all) := ⟨by simpa using hall⟩
        clear hall hp
        go_wp2_with (at_builtin; refine wpList_append_b w.heap.size rfl _ _ 33 3 (.int .i64 0) 8 rfl Tryd.underlying33 Hinfo.out rfl (by decide) _ _ rfl (HO.out.alloc _) (some ⟨wr.heap.size, 0, none⟩) 1 1 (ints [s.size]) rfl rfl (news_row _ _ _) (fun e => by cases e) (ints_one _) (by have := Hl.out; unfold ints; rw [List.length_map]; omega) (by have := HB.out.size; rw [World.size_alloc]; omega) ?_; intro v2 w2 hown2 hgrow2 hnear2; have HO2 := Aside0.mk hown2; have HB2 := Aside0.mk ((below_alloc HB.out _).grown hgrow2 (by have := HB.out.size; rw [World.size_alloc]; omega) (fun k e => by have := (HO.out.lt k e).1; omega)); clear hown2 hgrow2 hnear2)
        go_ret
        exact ⟨_, rfl, by rw [← Hall2.out]; have h := HO2.out; unfold ints at h ⊢; rw [List.map_append]; exact h, HB2.out⟩
end Go.Proofs.YtfejjfbhlmjkeaaDoor.W
