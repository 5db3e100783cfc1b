/- What the laws of words ask first: that the program answers what the document tells of four texts. -/
import Derived.Test.YtfejjfbhlmjkeaaDoorW9
set_option linter.unusedVariables false
set_option linter.unusedSimpArgs false
namespace Go.Proofs.YtfejjfbhlmjkeaaDoor.W
open Go.RowKit Go.Shelf Go.Proofs.YtfejjfbhlmjkeaaDoorW.PrintWords Go.Proofs.YtfejjfbhlmjkeaaDoorW.PrintLast Go.Proofs.YtfejjfbhlmjkeaaDoor.B Go.Proofs.YtfejjfbhlmjkeaaDoor.It
attribute [local go_sem] Oper.semAt_some

def s0 : ByteArray := ⟨#[97, 98, 45, 99, 100, 32, 55]⟩
theorem spans_s0 : spansFrom s0 0 none = [(0, 2), (3, 5), (6, 7)] := by rw [← spansC_eq s0 7 0 none (Nat.le_refl _)]; kernel_rfl
theorem words_s0 : words s0 = [⟨#[97, 98]⟩, ⟨#[99, 100]⟩, ⟨#[55]⟩] := by unfold words; rw [spans_s0]; kernel_rfl
theorem inner_s0 : inner s0 = [⟨#[99, 100]⟩] := by unfold inner; rw [spans_s0]; kernel_rfl
theorem has_s1 : hasB ⟨#[97, 32, 98]⟩ ⟨#[98]⟩ = true := by
  unfold hasB words
  rw [← spansC_eq _ 3 0 none (Nat.le_refl _)]
  exact any_true (by
    have : List.map (word ⟨#[97, 32, 98]⟩) (spansC ⟨#[97, 32, 98]⟩ 3 0 none) = [⟨#[97]⟩, ⟨#[98]⟩] := by kernel_rfl
    rw [this]
    exact List.mem_cons_of_mem _ (List.mem_cons_self ..))
theorem is_s2 : isWord ⟨#[195, 169, 95, 49]⟩ = true := by
  unfold isWord
  rw [← spansC_eq _ 4 0 none (Nat.le_refl _)]
  kernel_rfl
theorem enters48 : ∀ args w, (callFunc 44 args).run Tryd.prog w = .ok (.enter 44 args) w := enters_of Tryd.func44 (by kernel_rfl) rfl
theorem enters75 : ∀ args w, (callFunc 46 args).run Tryd.prog w = .ok (.enter 46 args) w := enters_of Tryd.func46 (by kernel_rfl) rfl
theorem seqOf_inner {w : World} {bs : Nat} {s : ByteArray} (hb : Boxed w bs 9 (.string s)) (hs : s.size ≤ 4611686018427) : SeqOf 46 bs (inner s) w :=
  fun n hn G M hM W hB n₀ => inner_seq n hn bs s G M hM W ((hB.block bs hb.lt).trans hb) hs n₀
/-- What is gone over, of the words of a text, and of its inner words. -/
theorem goneW {s : ByteArray} {most : Int} (w : World) (hs : s.size ≤ 4611686018427) (hl : (words s).length ≤ 1000000) : Calls Tryd.prog 16 #[.func (.func 44) #[] #[.pointer (some ⟨w.heap.size, 0, none⟩)], .int .i64 most] (w.alloc (.cells #[.string s] 9)) fun e w' => ∃ v, e = .returned v ∧ B.Own w' w.heap.size 9 v (((words s).take most.toNat).map .string) ∧ Below w.heap.size w w' := by
  refine (gone_any 44 w.heap.size (words s) most _ enters48 (by simp) (seqOf_words (Boxed.new w _ _) hs) hl).mono ?_
  rintro e w' ⟨v, rfl, ho, hb⟩
  exact ⟨v, rfl, ho.weaken (by simp), below_step (below_alloc (Below.refl _ w) _) hb⟩
theorem goneI {s : ByteArray} {most : Int} (w : World) (hs : s.size ≤ 4611686018427) (hl : (inner s).length ≤ 1000000) : Calls Tryd.prog 16 #[.func (.func 46) #[] #[.pointer (some ⟨w.heap.size, 0, none⟩)], .int .i64 most] (w.alloc (.cells #[.string s] 9)) fun e w' => ∃ v, e = .returned v ∧ B.Own w' w.heap.size 9 v (((inner s).take most.toNat).map .string) ∧ Below w.heap.size w w' := by
  refine (gone_any 46 w.heap.size (inner s) most _ enters75 (by simp) (seqOf_inner (Boxed.new w _ _) hs) hl).mono ?_
  rintro e w' ⟨v, rfl, ho, hb⟩
  exact ⟨v, rfl, ho.weaken (by simp), below_step (below_alloc (Below.refl _ w) _) hb⟩
theorem sameA (w : World) (v : Value) (h : ReadsS w v ([⟨#[97, 98]⟩, ⟨#[99, 100]⟩, ⟨#[55]⟩] : List ByteArray)) : Calls Tryd.prog 15 #[v, .slice (some ⟨w.heap.size, 0, none⟩) 3 3] (w.alloc (.cells #[.string ⟨#[97, 98]⟩, .string ⟨#[99, 100]⟩, .string ⟨#[55]⟩] 9)) fun e w' => e = .returned (.bool true) ∧ Below w.heap.size w w' := by
  refine (same_any (h.below (below_alloc (Below.refl _ _) _)) (readsS_new w 9 [⟨#[97, 98]⟩, ⟨#[99, 100]⟩, ⟨#[55]⟩] (by decide)) (by decide)).mono ?_
  rintro e w' ⟨rfl, hb⟩
  rw [(sameB_iff _ _).2 rfl]
  exact ⟨rfl, below_step (below_alloc (Below.refl _ w) _) hb⟩
theorem sameI (w : World) (v : Value) (h : ReadsS w v ([⟨#[99, 100]⟩] : List ByteArray)) : Calls Tryd.prog 15 #[v, .slice (some ⟨w.heap.size, 0, none⟩) 1 1] (w.alloc (.cells #[.string ⟨#[99, 100]⟩] 9)) fun e w' => e = .returned (.bool true) ∧ Below w.heap.size w w' := by
  refine (same_any (h.below (below_alloc (Below.refl _ _) _)) (readsS_new w 9 [⟨#[99, 100]⟩] (by decide)) (by decide)).mono ?_
  rintro e w' ⟨rfl, hb⟩
  rw [(sameB_iff _ _).2 rfl]
  exact ⟨rfl, below_step (below_alloc (Below.refl _ w) _) hb⟩
theorem goneA (w : World) : Calls Tryd.prog 16 #[.func (.func 44) #[] #[.pointer (some ⟨w.heap.size, 0, none⟩)], .int .i64 9] (w.alloc (.cells #[.string ⟨#[97, 98, 45, 99, 100, 32, 55]⟩] 9)) fun e w' => ∃ v, e = .returned v ∧ Aside0 (ReadsS w' v ([⟨#[97, 98]⟩, ⟨#[99, 100]⟩, ⟨#[55]⟩] : List ByteArray)) ∧ Below w.heap.size w w' := by
  refine (goneW (s := s0) (most := 9) w (by decide) (by rw [words_s0]; decide)).mono ?_
  rintro e w' ⟨v, rfl, ho, hb⟩
  rw [words_s0] at ho
  exact ⟨v, rfl, ⟨readsS_own (xs := [⟨#[97, 98]⟩, ⟨#[99, 100]⟩, ⟨#[55]⟩]) ho⟩, hb⟩
theorem goneB (w : World) : Calls Tryd.prog 16 #[.func (.func 46) #[] #[.pointer (some ⟨w.heap.size, 0, none⟩)], .int .i64 9] (w.alloc (.cells #[.string ⟨#[97, 98, 45, 99, 100, 32, 55]⟩] 9)) fun e w' => ∃ v, e = .returned v ∧ Aside0 (ReadsS w' v ([⟨#[99, 100]⟩] : List ByteArray)) ∧ Below w.heap.size w w' := by
  refine (goneI (s := s0) (most := 9) w (by decide) (by rw [inner_s0]; decide)).mono ?_
  rintro e w' ⟨v, rfl, ho, hb⟩
  rw [inner_s0] at ho
  exact ⟨v, rfl, ⟨readsS_own (xs := [⟨#[99, 100]⟩]) ho⟩, hb⟩
theorem hasA (w : World) : Calls Tryd.prog 19 #[.string ⟨#[97, 32, 98]⟩, .string ⟨#[98]⟩] w fun e w' => e = .returned (.bool true) ∧ Below w.heap.size w w' := by
  have h := has_any ⟨#[97, 32, 98]⟩ ⟨#[98]⟩ w (by decide)
  rw [has_s1] at h
  exact h
theorem isA (w : World) : Calls Tryd.prog 21 #[.string ⟨#[195, 169, 95, 49]⟩] w fun e w' => e = .returned (.bool true) ∧ Below w.heap.size w w' := by
  have h := is_any ⟨#[195, 169, 95, 49]⟩ w (by decide)
  rw [is_s2] at h
  exact h
set_option maxRecDepth 20000 in
set_option maxHeartbeats 4000000 in
theorem alive_any (w : World) : Calls Tryd.prog 12 #[] w fun e w' => e = .returned (.bool true) ∧ Below w.heap.size w w' := by
  go_enter Tryd.func12, Tryd.ntmps12
  go_wp2_with (first
    | (go_at_call 17; with_reducible refine (words_any _ _).mono ?_; rintro e w1 ⟨rfl, rfl⟩)
    | (go_at_call 18; with_reducible refine (inner_any _ _).mono ?_; rintro e w1 ⟨rfl, rfl⟩)
    | (go_at_call 16; with_reducible refine (goneA _).mono ?_; rintro e W2 ⟨v2, rfl, HR2, hb2⟩; have HB2 := Aside0.mk hb2; clear hb2)
    | (go_at_call 16; with_reducible refine (goneB _).mono ?_; rintro e W4 ⟨v4, rfl, HR4, hb4⟩; have HB4 := Aside0.mk (below_step HB3.out hb4); clear hb4)
    | (go_at_call 15; with_reducible refine (sameA _ _ HR2.out).mono ?_; rintro e W3 ⟨rfl, hb3⟩; have HB3 := Aside0.mk (below_step HB2.out hb3); clear hb3)
    | (go_at_call 15; with_reducible refine (sameI _ _ HR4.out).mono ?_; rintro e W5 ⟨rfl, hb5⟩; have HB5 := Aside0.mk (below_step HB4.out hb5); clear hb5)
    | (go_at_call 19; with_reducible refine (hasA _).mono ?_; rintro e W6 ⟨rfl, hb6⟩; have HB6 := Aside0.mk (below_step HB5.out hb6); clear hb6)
    | (go_at_call 21; with_reducible refine (isA _).mono ?_; rintro e W7 ⟨rfl, hb7⟩; have HB7 := Aside0.mk (below_step HB6.out hb7); clear hb7))
  go_ret
  exact ⟨rfl, HB7.out⟩
end Go.Proofs.YtfejjfbhlmjkeaaDoor.W
