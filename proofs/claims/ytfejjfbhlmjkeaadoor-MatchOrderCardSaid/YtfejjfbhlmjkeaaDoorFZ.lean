/- Texts of this claim, made one by a program: each begins with a comment of its own. -/
import Derived.Test.YtfejjfbhlmjkeaaDoorPMatchNotx0
import Derived.Test.YtfejjfbhlmjkeaaDoorW9
import Derived.Test.YtfejjfbhlmjkeaaDoorMZ
/- Printed walks of some functions, picked by a program out of what the kit's tool printed. -/
namespace Go.Proofs.YtfejjfbhlmjkeaaDoor.PMatchNot
open Go.RowKit Go.Proofs.YtfejjfbhlmjkeaaDoorW.PrintWords Go.Proofs.YtfejjfbhlmjkeaaDoorW.PrintLast Go.Proofs.YtfejjfbhlmjkeaaDoorW.PrintMore
attribute [local go_sem] max2_int min2_int max_two min_two max_three min_three max_four min_four   -- for this text's walks alone
set_option linter.unusedVariables false
set_option linter.unusedSimpArgs false







/-! ### record_Value: function 56 -/
def record_Value.l0 : Nat → ByteArray → List (S78) → Int → Int → Option (ByteArray × Bool)
  | 0, _, _, _, _ => none
  | k + 1, x1, x9, x10, x11 => if x11 < x10 then (if 0 ≤ x11 then (if x11 < (x9.length : Int) then (if ((rd_T78 x9 x11).f0).toList = x1.toList then (some ((rd_T78 x9 x11).f1, true)) else (record_Value.l0 k x1 x9 x10 (wrap64 (x11 + 1)))) else (none)) else (none)) else (some ((⟨#[]⟩ : ByteArray), false))
def record_Value.f (k : Nat) (a0_0 : Int) (l0_1 : List (S78)) (a0_2 : ByteArray) (a1 : ByteArray) : Option (ByteArray × Bool) := record_Value.l0 k a1 l0_1 (l0_1.length : Int) 0
theorem record_Value.mono_l : ∀ k, (∀ y0 y1 y2 y3, LeO (record_Value.l0 k y0 y1 y2 y3) (record_Value.l0 (k + 1) y0 y1 y2 y3))
  | 0 => fun _ _ _ _ r h => by simp [record_Value.l0] at h
  | k + 1 => by
    have ih0 := record_Value.mono_l k
    · intro y0 y1 y2 y3
      unfold record_Value.l0
      repeat' first
      | (with_reducible exact ih0 _ _ _ _)
      | (with_reducible exact LeO.refl _)
      | (with_reducible exact LeO.none _)
      | (with_reducible refine LeO.ite ?_ ?_)
      | (with_reducible refine LeO.bind ?_ (fun _ => ?_))
      | exact ih0 _ _ _ _
      | exact LeO.none _
      | refine LeO.ite ?_ ?_
      | refine LeO.bind ?_ (fun _ => ?_)
theorem record_Value.mono : ∀ a0 a1 a2 a3 k, LeO (record_Value.f k a0 a1 a2 a3) (record_Value.f (k + 1) a0 a1 a2 a3) := by
  intro a0 a1 a2 a3 k
  have ih0 := record_Value.mono_l k
  unfold record_Value.f
  repeat' first
      | (with_reducible exact ih0 _ _ _ _)
      | (with_reducible exact LeO.refl _)
      | (with_reducible exact LeO.none _)
      | (with_reducible refine LeO.ite ?_ ?_)
      | (with_reducible refine LeO.bind ?_ (fun _ => ?_))
      | exact ih0 _ _ _ _
      | exact LeO.none _
      | refine LeO.ite ?_ ?_
      | refine LeO.bind ?_ (fun _ => ?_)
set_option maxHeartbeats 8000000 in
set_option maxRecDepth 100000 in
theorem record_Value.calls (k : Nat) (a0_0 : Int) (A0_1 : Option Addr) (c0_1 : Nat) (l0_1 : List (S78)) (a0_2 : ByteArray) (a1 : ByteArray) (r1 : ByteArray) (r2 : Bool) (w : World) (hr0_1 : Kd.C k78 w A0_1 l0_1.length l0_1) (hc0_1 : l0_1.length ≤ c0_1) (h : record_Value.f k a0_0 l0_1 a0_2 a1 = some (r1, r2)) :
    Calls Tryd.prog 56 #[.agg #[.int .i64 a0_0, .slice A0_1 l0_1.length c0_1, .string a0_2], .string a1] w fun e w' => e = .returned (.tuple #[.string r1, .bool r2]) ∧ Below w.heap.size w w' := by
  have hu44 := Tryd.underlying44
  have hu78 := Tryd.underlying78
  have HR0_1 := Aside0.mk hr0_1
  have HC0_1 := Aside0.mk hc0_1
  clear hr0_1 hc0_1
  have HB := Aside0.mk (Below.refl w.heap.size w)
  have H : (record_Value.l0 k a1 l0_1 (l0_1.length : Int) 0) = some (r1, r2) := h
  clear h
  have H' := Aside0.mk H
  clear H
  go_enter Tryd.func56, Tryd.ntmps56
  go_wp2_with (first | ((with_reducible refine gate_dst (N := 2) rfl ?_); refine box_event ?hg (N := 2) ?hd (cs := #[.int .i64 a0_0, .slice A0_1 l0_1.length c0_1, .string a0_2]) (t := 44) ?hr ?_; (case hd => rfl); (case hg => rfl); (case hr => first | (go_simp; done) | (go_simp; rfl)); intro gb106 hg w3 hbox hb; have n0_ := Aside0.mk (below_step (by repeat (first | (with_reducible first | exact HB.out | apply below_alloc | apply pw_below_drewN | apply below_drew1) | exact HB.out)) hb); have n1_ := Aside0.mk (hbox); have n2_ := Aside0.mk ((by rw [hg]; exact (below_size (by repeat (first | (with_reducible first | exact HB.out | apply below_alloc | apply pw_below_drewN | apply below_drew1) | exact HB.out))) : w.heap.size ≤ gb106)); have n3_ := Aside0.mk ((by rw [hg]; exact (below_size (by repeat (first | (with_reducible first | exact HB.out | apply below_alloc | apply pw_below_drewN | apply below_drew1) | exact HB.out))) : w.heap.size ≤ gb106)); clear HB; have HB := n0_; have BK106 := n1_; have GW106 := n2_; have GE106 := n3_; clear n0_ n1_ n2_ n3_; clear hb hbox hg; have hcz4_0 : w3.cell? ⟨gb106, 0, none⟩ = some (.int .i64 a0_0) := (blk_cell BK106.out 0).trans rfl; have hcz4_1 : w3.cell? ⟨gb106, 1, none⟩ = some (.slice A0_1 l0_1.length c0_1) := (blk_cell BK106.out 1).trans rfl; have hcz4_2 : w3.cell? ⟨gb106, 2, none⟩ = some (.string a0_2) := (blk_cell BK106.out 2).trans rfl; have hfz4_0 := blk_frozen BK106.out 0; have hfz4_1 := blk_frozen BK106.out 1; have hfz4_2 := blk_frozen BK106.out 2))
  go_loopg [11] k (fun kq v11 w' => ∃ (x11_1 : Int), v11 = .int .i64 x11_1 ∧ Aside0 (record_Value.l0 kq a1 l0_1 (l0_1.length : Int) x11_1 = some (r1, r2)) ∧ Aside0 (kq ≤ k) ∧ Aside0 (w'.heap[gb106]? = some (.cells #[.int .i64 a0_0, (.slice A0_1 l0_1.length c0_1), .string a0_2] 44 (0, 0))) ∧ Aside0 (Below w.heap.size w w'))
  case atStart => exact ⟨(0), (by first | rfl | (simp; done) | (simp [*]; done)), H', ⟨Nat.le_refl _⟩, ⟨by (with_reducible repeat (first | refine blk_drewN ?_ _ | refine blk_drew ?_ | refine blk_alloc ?_ _)); exact BK106.out⟩, ⟨by repeat (first | (with_reducible first | exact HB.out | apply below_alloc | apply pw_below_drewN | apply below_drew1 | refine below_set ?_ GE106.out) | exact HB.out)⟩⟩
  case round =>
    clear H'
    try clear p2
    try clear hcz4_0
    try clear hcz4_1
    try clear hcz4_2
    try clear hfz4_0
    try clear hfz4_1
    try clear hfz4_2
    obtain ⟨x11_1, rfl, HA, HK1, BK106, HB⟩ := hrel
    cases gk with
    | zero => exact absurd HA.out (by simp [record_Value.l0])
    | succ k1 =>
      have H := HA.out
      clear HA
      simp only [record_Value.l0] at H
      by_cases c5 : x11_1 < (l0_1.length : Int)
      · rw [if_pos c5] at H
        have c5b0 : decide (x11_1 < (l0_1.length : Int)) = true := decide_eq_true c5
        clear c5
        by_cases c6 : 0 ≤ x11_1
        · rw [if_pos c6] at H
          have c6b0 : decide (0 ≤ x11_1) = true := decide_eq_true c6
          clear c6
          by_cases c7 : x11_1 < (l0_1.length : Int)
          · rw [if_pos c7] at H
            have c7b0 : decide (x11_1 < (l0_1.length : Int)) = true := decide_eq_true c7
            clear c7
            by_cases c8 : ((rd_T78 l0_1 x11_1).f0).toList = a1.toList
            · rw [if_pos c8] at H
              have c8b0 : (((rd_T78 l0_1 x11_1).f0).toList == a1.toList) = true := beq_iff_eq.mpr c8
              have c8b1 : (((rd_T78 l0_1 x11_1).f0).toList != a1.toList) = false := bne_eq_false_iff_eq.mpr c8
              clear c8
              simp only [Option.some.injEq, Prod.mk.injEq] at H
              obtain ⟨rfl, rfl⟩ := H
              have p107 : 0 ≤ (x11_1 : Int) := of_decide_eq_true (by first | (with_reducible assumption) | assumption)
              have q107 : x11_1 < (l0_1.length : Int) := of_decide_eq_true (by first | (with_reducible assumption) | assumption)
              obtain ⟨ad107, e107, hx107_0, hx107_1⟩ := at_T78 HR0_1.out x11_1 p107 q107
              cases e107
              replace hx107_0 := (HB.out.cell (World.block_lt_of_cell? w _ hx107_0)).trans hx107_0
              replace hx107_1 := (HB.out.cell (World.block_lt_of_cell? w _ hx107_1)).trans hx107_1
              replace p107 := eq_true p107
              replace q107 := eq_true q107
              go_wp2_with (first | ((with_reducible refine gate_dst (N := 7) rfl ?_); refine box_event ?hg (N := 7) ?hd (cs := #[.string (⟨#[]⟩ : ByteArray), .string (⟨#[]⟩ : ByteArray)]) (t := 78) ?hr ?_; (case hd => rfl); (case hg => rfl); (case hr => first | (go_simp; done) | (go_simp; rfl)); intro gb108 hg w9 hbox hb; have n0_ := Aside0.mk (blk_below (g := gb106) (o := .cells #[.int .i64 a0_0, .slice (some ad107) l0_1.length c0_1, .string a0_2] 44 (0, 0)) (by (with_reducible repeat (first | refine blk_drewN ?_ _ | refine blk_drew ?_ | refine blk_alloc ?_ _)); exact BK106.out) hb); have n1_ := Aside0.mk (below_step (by repeat (first | (with_reducible first | exact HB.out | apply below_alloc | apply pw_below_drewN | apply below_drew1 | refine below_set ?_ GE106.out) | exact HB.out)) hb); have n2_ := Aside0.mk (hbox); have n3_ := Aside0.mk ((by rw [hg]; exact (below_size (by repeat (first | (with_reducible first | exact HB.out | apply below_alloc | apply pw_below_drewN | apply below_drew1 | refine below_set ?_ GE106.out) | exact HB.out))) : w.heap.size ≤ gb108)); have n4_ := Aside0.mk ((by rw [hg]; exact (below_size (by repeat (first | (with_reducible first | exact HB.out | apply below_alloc | apply pw_below_drewN | apply below_drew1 | refine below_set ?_ GE106.out) | exact HB.out))) : w.heap.size ≤ gb108)); have n5_ := Aside0.mk ((by rw [hg]; exact Nat.ne_of_lt (blk_lt (g := gb106) (o := .cells #[.int .i64 a0_0, .slice (some ad107) l0_1.length c0_1, .string a0_2] 44 (0, 0)) (by (with_reducible repeat (first | refine blk_drewN ?_ _ | refine blk_drew ?_ | refine blk_alloc ?_ _)); exact BK106.out)) : gb106 ≠ gb108)); have n6_ := Aside0.mk ((by rw [hg]; exact Nat.ne_of_gt (blk_lt (g := gb106) (o := .cells #[.int .i64 a0_0, .slice (some ad107) l0_1.length c0_1, .string a0_2] 44 (0, 0)) (by (with_reducible repeat (first | refine blk_drewN ?_ _ | refine blk_drew ?_ | refine blk_alloc ?_ _)); exact BK106.out)) : gb108 ≠ gb106)); clear BK106; clear HB; have BK106 := n0_; have HB := n1_; have BK108 := n2_; have GW108 := n3_; have GE108 := n4_; have NB106_108 := n5_; have NB108_106 := n6_; clear n0_ n1_ n2_ n3_ n4_ n5_ n6_; clear hb hbox hg; have hnb10 := NB108_106.out; have hnc10 := NB106_108.out; have hcz11_0 : w9.cell? ⟨gb108, 0, none⟩ = some (.string (⟨#[]⟩ : ByteArray)) := (blk_cell BK108.out 0).trans rfl; have hcz11_1 : w9.cell? ⟨gb108, 1, none⟩ = some (.string (⟨#[]⟩ : ByteArray)) := (blk_cell BK108.out 1).trans rfl; have hfz11_0 := blk_frozen BK108.out 0; have hfz11_1 := blk_frozen BK108.out 1))
              go_ret2
              exact ⟨by first | rfl | (simp [errW_none, errW_some] <;> rfl) | (simp [*, errW_none, errW_some] <;> rfl), by repeat (first | (with_reducible first | exact HB.out | apply below_alloc | apply pw_below_drewN | apply below_drew1 | refine below_set ?_ GE106.out | refine below_set ?_ GE108.out) | exact HB.out)⟩
            · rw [if_neg c8] at H
              have c8b0 : (((rd_T78 l0_1 x11_1).f0).toList == a1.toList) = false := beq_eq_false_iff_ne.mpr c8
              have c8b1 : (((rd_T78 l0_1 x11_1).f0).toList != a1.toList) = true := bne_iff_ne.mpr c8
              have H' := Aside0.mk H
              clear H
              have p107 : 0 ≤ (x11_1 : Int) := of_decide_eq_true (by first | (with_reducible assumption) | assumption)
              have q107 : x11_1 < (l0_1.length : Int) := of_decide_eq_true (by first | (with_reducible assumption) | assumption)
              obtain ⟨ad107, e107, hx107_0, hx107_1⟩ := at_T78 HR0_1.out x11_1 p107 q107
              cases e107
              replace hx107_0 := (HB.out.cell (World.block_lt_of_cell? w _ hx107_0)).trans hx107_0
              replace hx107_1 := (HB.out.cell (World.block_lt_of_cell? w _ hx107_1)).trans hx107_1
              replace p107 := eq_true p107
              replace q107 := eq_true q107
              go_wp2_with (first | ((with_reducible refine gate_dst (N := 7) rfl ?_); refine box_event ?hg (N := 7) ?hd (cs := #[.string (⟨#[]⟩ : ByteArray), .string (⟨#[]⟩ : ByteArray)]) (t := 78) ?hr ?_; (case hd => rfl); (case hg => rfl); (case hr => first | (go_simp; done) | (go_simp; rfl)); intro gb108 hg w12 hbox hb; have n0_ := Aside0.mk (blk_below (g := gb106) (o := .cells #[.int .i64 a0_0, .slice (some ad107) l0_1.length c0_1, .string a0_2] 44 (0, 0)) (by (with_reducible repeat (first | refine blk_drewN ?_ _ | refine blk_drew ?_ | refine blk_alloc ?_ _)); exact BK106.out) hb); have n1_ := Aside0.mk (below_step (by repeat (first | (with_reducible first | exact HB.out | apply below_alloc | apply pw_below_drewN | apply below_drew1 | refine below_set ?_ GE106.out) | exact HB.out)) hb); have n2_ := Aside0.mk (hbox); have n3_ := Aside0.mk ((by rw [hg]; exact (below_size (by repeat (first | (with_reducible first | exact HB.out | apply below_alloc | apply pw_below_drewN | apply below_drew1 | refine below_set ?_ GE106.out) | exact HB.out))) : w.heap.size ≤ gb108)); have n4_ := Aside0.mk ((by rw [hg]; exact (below_size (by repeat (first | (with_reducible first | exact HB.out | apply below_alloc | apply pw_below_drewN | apply below_drew1 | refine below_set ?_ GE106.out) | exact HB.out))) : w.heap.size ≤ gb108)); have n5_ := Aside0.mk ((by rw [hg]; exact Nat.ne_of_lt (blk_lt (g := gb106) (o := .cells #[.int .i64 a0_0, .slice (some ad107) l0_1.length c0_1, .string a0_2] 44 (0, 0)) (by (with_reducible repeat (first | refine blk_drewN ?_ _ | refine blk_drew ?_ | refine blk_alloc ?_ _)); exact BK106.out)) : gb106 ≠ gb108)); have n6_ := Aside0.mk ((by rw [hg]; exact Nat.ne_of_gt (blk_lt (g := gb106) (o := .cells #[.int .i64 a0_0, .slice (some ad107) l0_1.length c0_1, .string a0_2] 44 (0, 0)) (by (with_reducible repeat (first | refine blk_drewN ?_ _ | refine blk_drew ?_ | refine blk_alloc ?_ _)); exact BK106.out)) : gb108 ≠ gb106)); clear BK106; clear HB; have BK106 := n0_; have HB := n1_; have BK108 := n2_; have GW108 := n3_; have GE108 := n4_; have NB106_108 := n5_; have NB108_106 := n6_; clear n0_ n1_ n2_ n3_ n4_ n5_ n6_; clear hb hbox hg; have hnb13 := NB108_106.out; have hnc13 := NB106_108.out; have hcz14_0 : w12.cell? ⟨gb108, 0, none⟩ = some (.string (⟨#[]⟩ : ByteArray)) := (blk_cell BK108.out 0).trans rfl; have hcz14_1 : w12.cell? ⟨gb108, 1, none⟩ = some (.string (⟨#[]⟩ : ByteArray)) := (blk_cell BK108.out 1).trans rfl; have hfz14_0 := blk_frozen BK108.out 0; have hfz14_1 := blk_frozen BK108.out 1))
              go_roundg k1
              case measure => have := HK1.out; omega
              case rel => exact ⟨(wrap64 (x11_1 + 1)), (by first | rfl | (simp; done) | (simp [*]; done)), H', ⟨by have := HK1.out; omega⟩, ⟨by (with_reducible repeat (first | refine blk_drewN ?_ _ | refine blk_drew ?_ | refine blk_alloc ?_ _)); refine blk_far ?_ NB106_108.out _; (with_reducible repeat (first | refine blk_drewN ?_ _ | refine blk_drew ?_ | refine blk_alloc ?_ _)); refine blk_far ?_ NB106_108.out _; (with_reducible repeat (first | refine blk_drewN ?_ _ | refine blk_drew ?_ | refine blk_alloc ?_ _)); exact BK106.out⟩, ⟨by repeat (first | (with_reducible first | exact HB.out | apply below_alloc | apply pw_below_drewN | apply below_drew1 | refine below_set ?_ GE106.out | refine below_set ?_ GE108.out) | exact HB.out)⟩⟩
          · rw [if_neg c7] at H
            exact absurd H (by simp)
        · rw [if_neg c6] at H
          exact absurd H (by simp)
      · rw [if_neg c5] at H
        have c5b0 : decide (x11_1 < (l0_1.length : Int)) = false := decide_eq_false c5
        clear c5
        simp only [Option.some.injEq, Prod.mk.injEq] at H
        obtain ⟨rfl, rfl⟩ := H
        go_wp2
        go_ret2
        exact ⟨by first | rfl | (simp [errW_none, errW_some] <;> rfl) | (simp [*, errW_none, errW_some] <;> rfl), by repeat (first | (with_reducible first | exact HB.out | apply below_alloc | apply pw_below_drewN | apply below_drew1 | refine below_set ?_ GE106.out) | exact HB.out)⟩

/-! ### match_Label: function 31 -/
def match_Label.f (k : Nat) (a0_0 : ByteArray) (a0_1 : Bool) (a0_2 : ByteArray) (a1_0 : Int) (l1_1 : List (S78)) (a1_2 : ByteArray) : Option (Bool) := (record_Value.f k a1_0 l1_1 a1_2 a0_0).bind fun bt111 => (some ((bt111.1.toList == a0_2.toList) != a0_1))
theorem match_Label.mono : ∀ a0 a1 a2 a3 a4 a5 k, LeO (match_Label.f k a0 a1 a2 a3 a4 a5) (match_Label.f (k + 1) a0 a1 a2 a3 a4 a5) := by
  intro a0 a1 a2 a3 a4 a5 k
  unfold match_Label.f
  repeat' first
      | (with_reducible exact record_Value.mono _ _ _ _ _)
      | (with_reducible exact LeO.refl _)
      | (with_reducible exact LeO.none _)
      | (with_reducible refine LeO.ite ?_ ?_)
      | (with_reducible refine LeO.bind ?_ (fun _ => ?_))
      | exact record_Value.mono _ _ _ _ _
      | exact LeO.none _
      | refine LeO.ite ?_ ?_
      | refine LeO.bind ?_ (fun _ => ?_)
set_option maxHeartbeats 8000000 in
set_option maxRecDepth 100000 in
theorem match_Label.calls (k : Nat) (a0_0 : ByteArray) (a0_1 : Bool) (a0_2 : ByteArray) (a1_0 : Int) (A1_1 : Option Addr) (c1_1 : Nat) (l1_1 : List (S78)) (a1_2 : ByteArray) (r : Bool) (w : World) (hr1_1 : Kd.C k78 w A1_1 l1_1.length l1_1) (hc1_1 : l1_1.length ≤ c1_1) (h : match_Label.f k a0_0 a0_1 a0_2 a1_0 l1_1 a1_2 = some r) :
    Calls Tryd.prog 31 #[.agg #[.string a0_0, .bool a0_1, .string a0_2], .agg #[.int .i64 a1_0, .slice A1_1 l1_1.length c1_1, .string a1_2]] w fun e w' => e = .returned (.bool r) ∧ Below w.heap.size w w' := by
  have hu51 := Tryd.underlying51
  have hu44 := Tryd.underlying44
  have HR1_1 := Aside0.mk hr1_1
  have HC1_1 := Aside0.mk hc1_1
  clear hr1_1 hc1_1
  have HB := Aside0.mk (Below.refl w.heap.size w)
  have H : ((record_Value.f k a1_0 l1_1 a1_2 a0_0).bind fun bt111 => (some ((bt111.1.toList == a0_2.toList) != a0_1))) = some r := h
  clear h
  replace H := Option.bind_eq_some_iff.mp H
  obtain ⟨⟨t111, t112⟩, A30, H⟩ := H
  replace H : (some ((t111.toList == a0_2.toList) != a0_1)) = some r := H
  have A3 := Aside0.mk A30
  clear A30
  obtain rfl := Option.some.inj H
  go_enter Tryd.func31, Tryd.ntmps31
  go_wp2_with (first | ((with_reducible refine gate_dst (N := 2) rfl ?_); refine box_event ?hg (N := 2) ?hd (cs := #[.string a0_0, .bool a0_1, .string a0_2]) (t := 51) ?hr ?_; (case hd => rfl); (case hg => rfl); (case hr => first | (go_simp; done) | (go_simp; rfl)); intro gb109 hg w4 hbox hb; have n0_ := Aside0.mk (below_step (by repeat (first | (with_reducible first | exact HB.out | apply below_alloc | apply pw_below_drewN | apply below_drew1) | exact HB.out)) hb); have n1_ := Aside0.mk (hbox); have n2_ := Aside0.mk ((by rw [hg]; exact (below_size (by repeat (first | (with_reducible first | exact HB.out | apply below_alloc | apply pw_below_drewN | apply below_drew1) | exact HB.out))) : w.heap.size ≤ gb109)); have n3_ := Aside0.mk ((by rw [hg]; exact (below_size (by repeat (first | (with_reducible first | exact HB.out | apply below_alloc | apply pw_below_drewN | apply below_drew1) | exact HB.out))) : w.heap.size ≤ gb109)); clear HB; have HB := n0_; have BK109 := n1_; have GW109 := n2_; have GE109 := n3_; clear n0_ n1_ n2_ n3_; clear hb hbox hg) | ((with_reducible refine gate_dst (N := 3) rfl ?_); refine box_event ?hg (N := 3) ?hd (cs := #[.int .i64 a1_0, .slice A1_1 l1_1.length c1_1, .string a1_2]) (t := 44) ?hr ?_; (case hd => rfl); (case hg => rfl); (case hr => first | (go_simp; done) | (go_simp; rfl)); intro gb110 hg w5 hbox hb; have n0_ := Aside0.mk (blk_below (g := gb109) (o := .cells #[.string a0_0, .bool a0_1, .string a0_2] 51 (0, 0)) (by (with_reducible repeat (first | refine blk_drewN ?_ _ | refine blk_drew ?_ | refine blk_alloc ?_ _)); exact BK109.out) hb); have n1_ := Aside0.mk (below_step (by repeat (first | (with_reducible first | exact HB.out | apply below_alloc | apply pw_below_drewN | apply below_drew1 | refine below_set ?_ GE109.out) | exact HB.out)) hb); have n2_ := Aside0.mk (hbox); have n3_ := Aside0.mk ((by rw [hg]; exact (below_size (by repeat (first | (with_reducible first | exact HB.out | apply below_alloc | apply pw_below_drewN | apply below_drew1 | refine below_set ?_ GE109.out) | exact HB.out))) : w.heap.size ≤ gb110)); have n4_ := Aside0.mk ((by rw [hg]; exact (below_size (by repeat (first | (with_reducible first | exact HB.out | apply below_alloc | apply pw_below_drewN | apply below_drew1 | refine below_set ?_ GE109.out) | exact HB.out))) : w.heap.size ≤ gb110)); have n5_ := Aside0.mk ((by rw [hg]; exact Nat.ne_of_lt (blk_lt (g := gb109) (o := .cells #[.string a0_0, .bool a0_1, .string a0_2] 51 (0, 0)) (by (with_reducible repeat (first | refine blk_drewN ?_ _ | refine blk_drew ?_ | refine blk_alloc ?_ _)); exact BK109.out)) : gb109 ≠ gb110)); have n6_ := Aside0.mk ((by rw [hg]; exact Nat.ne_of_gt (blk_lt (g := gb109) (o := .cells #[.string a0_0, .bool a0_1, .string a0_2] 51 (0, 0)) (by (with_reducible repeat (first | refine blk_drewN ?_ _ | refine blk_drew ?_ | refine blk_alloc ?_ _)); exact BK109.out)) : gb110 ≠ gb109)); clear BK109; clear HB; have BK109 := n0_; have HB := n1_; have BK110 := n2_; have GW110 := n3_; have GE110 := n4_; have NB109_110 := n5_; have NB110_109 := n6_; clear n0_ n1_ n2_ n3_ n4_ n5_ n6_; clear hb hbox hg; have hnb6 := NB110_109.out; have hnc6 := NB109_110.out; have hcz7_0 : w5.cell? ⟨gb110, 0, none⟩ = some (.int .i64 a1_0) := (blk_cell BK110.out 0).trans rfl; have hcz7_1 : w5.cell? ⟨gb110, 1, none⟩ = some (.slice A1_1 l1_1.length c1_1) := (blk_cell BK110.out 1).trans rfl; have hcz7_2 : w5.cell? ⟨gb110, 2, none⟩ = some (.string a1_2) := (blk_cell BK110.out 2).trans rfl; have hfz7_0 := blk_frozen BK110.out 0; have hfz7_1 := blk_frozen BK110.out 1; have hfz7_2 := blk_frozen BK110.out 2; have hcz8_0 : w5.cell? ⟨gb109, 0, none⟩ = some (.string a0_0) := (blk_cell BK109.out 0).trans rfl; have hcz8_1 : w5.cell? ⟨gb109, 1, none⟩ = some (.bool a0_1) := (blk_cell BK109.out 1).trans rfl; have hcz8_2 : w5.cell? ⟨gb109, 2, none⟩ = some (.string a0_2) := (blk_cell BK109.out 2).trans rfl; have hfz8_0 := blk_frozen BK109.out 0; have hfz8_1 := blk_frozen BK109.out 1; have hfz8_2 := blk_frozen BK109.out 2) | ((with_reducible refine gate_callee (f := 56) rfl ?_); refine goesL_ (some 11) rfl rfl Tryd.func56 (by kernel_rfl) rfl #[.agg #[.int .i64 a1_0, .slice A1_1 l1_1.length c1_1, .string a1_2], .string a0_0] rfl (by (try simp only [List.map_toArray, List.map_cons, List.map_nil]); first | done | rfl | (simp only [List.length_drop, List.length_take]; rfl)) ?_; (with_reducible refine (record_Value.calls k a1_0 _ _ l1_1 a1_2 a0_0 t111 t112 _ ?side1 ?side2 A3.out).mono ?_); (case side1 => repeat (first | exact (Kd.C_below HR1_1.out HB.out) | (with_reducible refine Kd.C_alloc ?_ _) | (with_reducible refine Kd.C_drewN ?_ _) | (with_reducible refine Kd.C_drew ?_))); (case side2 => exact HC1_1.out); rintro e w9 ⟨rfl, hb⟩; refine ⟨_, rfl, ?_⟩; have n0_ := Aside0.mk (blk_below (g := gb109) (o := .cells #[.string a0_0, .bool a0_1, .string a0_2] 51 (0, 0)) (by (with_reducible repeat (first | refine blk_drewN ?_ _ | refine blk_drew ?_ | refine blk_alloc ?_ _)); exact BK109.out) hb); have n1_ := Aside0.mk (blk_below (g := gb110) (o := .cells #[.int .i64 a1_0, .slice A1_1 l1_1.length c1_1, .string a1_2] 44 (0, 0)) (by (with_reducible repeat (first | refine blk_drewN ?_ _ | refine blk_drew ?_ | refine blk_alloc ?_ _)); exact BK110.out) hb); have n2_ := Aside0.mk (below_step (by repeat (first | (with_reducible first | exact HB.out | apply below_alloc | apply pw_below_drewN | apply below_drew1 | refine below_set ?_ GE109.out | refine below_set ?_ GE110.out) | exact HB.out)) hb); clear BK109; clear BK110; clear HB; have BK109 := n0_; have BK110 := n1_; have HB := n2_; clear n0_ n1_ n2_; (try clear hb); (try clear hb2); (try clear hk); (try clear hi); have hcz10_0 : w9.cell? ⟨gb109, 0, none⟩ = some (.string a0_0) := (blk_cell BK109.out 0).trans rfl; have hcz10_1 : w9.cell? ⟨gb109, 1, none⟩ = some (.bool a0_1) := (blk_cell BK109.out 1).trans rfl; have hcz10_2 : w9.cell? ⟨gb109, 2, none⟩ = some (.string a0_2) := (blk_cell BK109.out 2).trans rfl; have hfz10_0 := blk_frozen BK109.out 0; have hfz10_1 := blk_frozen BK109.out 1; have hfz10_2 := blk_frozen BK109.out 2))
  go_ret
  exact ⟨by first | rfl | (simp [errW_none, errW_some] <;> rfl) | (simp [*, errW_none, errW_some] <;> rfl), by repeat (first | (with_reducible first | exact HB.out | apply below_alloc | apply pw_below_drewN | apply below_drew1 | refine below_set ?_ GE109.out | refine below_set ?_ GE110.out) | exact HB.out)⟩


/-- A state of type 73 at block g of W; what its slices lead to came in by w0. -/
def IsS73 (w0 W : World) (g : Nat) (f0 : List Int) (f1 : Int) : Prop := ∃ A0 c0, W.heap[g]? = some (.cells #[.slice A0 f0.length c0, .int .i64 f1] 73 (0, 0)) ∧ w0.heap.size ≤ g ∧ Kd.C (Kd.int .i64) w0 A0 f0.length f0
theorem IsS73.grown {w0 W : World} {g : Nat} {f0 : List Int} {f1 : Int} {W1 : World} {row : Option Nat} (h : IsS73 w0 W g f0 f1) (hw : W.grownBy W1 row) (hne : some g ≠ row) : IsS73 w0 W1 g f0 f1 := by
  obtain ⟨A0, c0, hb, hg, hr0⟩ := h
  exact ⟨A0, c0, blk_grown hb hw hne, hg, hr0⟩
theorem IsS73.own_neN {w0 W : World} {g : Nat} {f0 : List Int} {f1 : Int} {α : Type} {d : Kd α} {e : Nat} {base : Nat} {ok : Nat → Prop} {v : Value} {xs : List α} (h : IsS73 w0 W g f0 f1) (ho : Kd.N d e W base ok v xs) (ht : e ≠ 73) : some g ≠ v.ownBlock := by
  obtain ⟨A0, c0, hb, hg, hr0⟩ := h
  exact Kd.N_ne ho hb ht
theorem IsS73.fresh {w0 W : World} {g : Nat} {f0 : List Int} {f1 : Int} (h : IsS73 w0 W g f0 f1) : ∀ k, W.heap.size ≤ k → k ≠ g := by
  obtain ⟨A0, c0, hb, hg, hr0⟩ := h
  exact Kd.freshB hb
theorem IsS73.kept {w0 W : World} {g : Nat} {f0 : List Int} {f1 : Int} {W1 : World} {S : Nat → Prop} (h : IsS73 w0 W g f0 f1) (hk : Kept W W1 S) (hne : ¬ S g) : IsS73 w0 W1 g f0 f1 := by
  obtain ⟨A0, c0, hb, hg, hr0⟩ := h
  exact ⟨A0, c0, blk_kept hb hk hne, hg, hr0⟩
theorem IsS73.below {w0 W : World} {g : Nat} {f0 : List Int} {f1 : Int} {W1 : World} (h : IsS73 w0 W g f0 f1) (hw : Below W.heap.size W W1) : IsS73 w0 W1 g f0 f1 := h.grown (grown_of_below hw none) (by simp)
theorem IsS73.alloc {w0 W : World} {g : Nat} {f0 : List Int} {f1 : Int} (h : IsS73 w0 W g f0 f1) (o : Obj) : IsS73 w0 (W.alloc o) g f0 f1 := h.below (below_alloc (Below.refl _ _) o)
theorem IsS73.drewN {w0 W : World} {g : Nat} {f0 : List Int} {f1 : Int} (h : IsS73 w0 W g f0 f1) (m : Nat) : IsS73 w0 (W.drewN m) g f0 f1 := h
theorem IsS73.drew {w0 W : World} {g : Nat} {f0 : List Int} {f1 : Int} (h : IsS73 w0 W g f0 f1) : IsS73 w0 W.drew g f0 f1 := h
theorem IsS73.at_ {w0 W : World} {g : Nat} {f0 : List Int} {f1 : Int} {w' : World} {m : Nat} (hq : W.drewN m = w') (h : IsS73 w0 W g f0 f1) : IsS73 w0 w' g f0 f1 := by subst hq; exact IsS73.drewN h m
theorem IsS73.apart {w0 W : World} {g : Nat} {f0 : List Int} {f1 : Int} {α : Type} {d : Kd α} {e : Nat} {base : Nat} {ok : Nat → Prop} {v : Value} {xs : List α} (h : IsS73 w0 W g f0 f1) (ho : d.R e W base ok v xs) (ht : ∀ q, q ∈ e :: d.E → q ≠ 73) : d.R e W base (fun k => ok k ∧ k ≠ g) v xs := by
  obtain ⟨A0, c0, hb, hg, hr0⟩ := h
  exact Kd.R_types ho hb ht
theorem IsS73.own_ne {w0 W : World} {g : Nat} {f0 : List Int} {f1 : Int} {α : Type} {d : Kd α} {e : Nat} {base : Nat} {ok : Nat → Prop} {v : Value} {xs : List α} (h : IsS73 w0 W g f0 f1) (ho : d.R e W base ok v xs) (ht : e ≠ 73) : some g ≠ v.ownBlock := by
  obtain ⟨A0, c0, hb, hg, hr0⟩ := h
  exact Kd.R_ne ho hb ht
theorem IsS73.apartQ {w0 W : World} {g : Nat} {f0 : List Int} {f1 : Int} {α : Type} {d : Kd α} {e : Nat} {base : Nat} {ok : Nat → Prop} {v : Value} {xs : List α} (h : IsS73 w0 W g f0 f1) (ho : d.Q e W base ok v xs) (ht : ∀ q, q ∈ e :: d.E → q ≠ 73) : d.Q e W base (fun k => ok k ∧ k ≠ g) v xs := by
  obtain ⟨A0, c0, hb, hg, hr0⟩ := h
  exact Kd.Q_types ho hb ht
theorem IsS73.own_neQ {w0 W : World} {g : Nat} {f0 : List Int} {f1 : Int} {α : Type} {d : Kd α} {e : Nat} {base : Nat} {ok : Nat → Prop} {v : Value} {xs : List α} (h : IsS73 w0 W g f0 f1) (ho : d.Q e W base ok v xs) (ht : e ≠ 73) : some g ≠ v.ownBlock := by
  obtain ⟨A0, c0, hb, hg, hr0⟩ := h
  exact Kd.Q_ne ho hb ht
theorem IsS73.apartS {w0 W : World} {g : Nat} {f0 : List Int} {f1 : Int} {α : Type} {d : Kd α} {e : Nat} {base : Nat} {ok : Nat → Prop} {v : Value} {xs : List α} (h : IsS73 w0 W g f0 f1) (ho : d.S e W base ok v xs) (ht : ∀ q, q ∈ e :: d.E → q ≠ 73) : d.S e W base (fun k => ok k ∧ k ≠ g) v xs := by
  obtain ⟨A0, c0, hb, hg, hr0⟩ := h
  exact Kd.S_types ho hb ht
theorem IsS73.own_neS {w0 W : World} {g : Nat} {f0 : List Int} {f1 : Int} {α : Type} {d : Kd α} {e : Nat} {base : Nat} {ok : Nat → Prop} {v : Value} {xs : List α} (h : IsS73 w0 W g f0 f1) (ho : d.S e W base ok v xs) (ht : e ≠ 73) : some g ≠ v.ownBlock := by
  obtain ⟨A0, c0, hb, hg, hr0⟩ := h
  exact Kd.S_ne ho hb ht
theorem IsS73.lt {w0 W : World} {g : Nat} {f0 : List Int} {f1 : Int} (h : IsS73 w0 W g f0 f1) : g < W.heap.size := by
  obtain ⟨A0, c0, hb, hg, hr0⟩ := h
  exact blk_lt hb
theorem IsS73.ge {w0 W : World} {g : Nat} {f0 : List Int} {f1 : Int} (h : IsS73 w0 W g f0 f1) : w0.heap.size ≤ g := by
  obtain ⟨A0, c0, hb, hg, hr0⟩ := h
  exact hg
theorem IsS73.ne_blk {w0 W : World} {g : Nat} {f0 : List Int} {f1 : Int} {a : Nat} {cs : Array Value} {t : TypeId} {fr : Nat × Nat} (h : IsS73 w0 W g f0 f1) (hb2 : W.heap[a]? = some (.cells cs t fr)) (ht : t ≠ 73) : g ≠ a := by
  obtain ⟨A0, c0, hb, hg, hr0⟩ := h
  rintro rfl
  rw [hb] at hb2
  injection hb2 with hb2
  injection hb2 with _ ht2
  exact ht ht2.symm
theorem IsS73.far {w0 W : World} {g : Nat} {f0 : List Int} {f1 : Int} {p : Addr} (h : IsS73 w0 W g f0 f1) (hne : g ≠ p.block) (u : Value) : IsS73 w0 (W.setCell p u) g f0 f1 := by
  obtain ⟨A0, c0, hb, hg, hr0⟩ := h
  exact ⟨A0, c0, blk_far hb hne u, hg, hr0⟩
theorem cellS73_0 {W : World} {g : Nat} {A0 : Option Addr} {c0 : Nat} {f0 : List Int} {f1 : Int} (h : W.heap[g]? = some (.cells #[.slice A0 f0.length c0, .int .i64 f1] 73 (0, 0))) : W.cell? ⟨g, 0, none⟩ = some (.slice A0 f0.length c0) := (blk_cell h 0).trans rfl
theorem cellS73_1 {W : World} {g : Nat} {A0 : Option Addr} {c0 : Nat} {f0 : List Int} {f1 : Int} (h : W.heap[g]? = some (.cells #[.slice A0 f0.length c0, .int .i64 f1] 73 (0, 0))) : W.cell? ⟨g, 1, none⟩ = some (.int .i64 f1) := (blk_cell h 1).trans rfl
theorem IsS73.set_1 {w0 W : World} {g : Nat} {f0 : List Int} {f1 : Int} (h : IsS73 w0 W g f0 f1) (x : Int) : IsS73 w0 (W.setCell ⟨g, 1, none⟩ (.int .i64 x)) g f0 x := by
  obtain ⟨A0, c0, hb, hg, hr0⟩ := h
  exact ⟨A0, c0, by simpa using blk_set hb 1 (.int .i64 x), hg, hr0⟩
theorem IsS73.new (w0 W : World) (A0 : Option Addr) (c0 : Nat) (f0 : List Int) (f1 : Int) (hB : Below w0.heap.size w0 W) (hr0 : Kd.C (Kd.int .i64) w0 A0 f0.length f0) : IsS73 w0 (W.alloc (.cells #[.slice A0 f0.length c0, .int .i64 f1] 73)) W.heap.size f0 f1 := ⟨A0, c0, by simpa using heap_alloc_new W _, hB.size, hr0⟩

/-! ### magpieref06_Source_Next: function 55 -/
def magpieref06_Source_Next.f (s0_0 : List Int) (s0_1 : Int) (a1 : Int) : Option (Int × Int) := if s0_1 ≥ (s0_0.length : Int) then (some (0, s0_1)) else (if 0 ≤ (wrap64 ((wrap64 (s0_1 + 1)) - 1)) then (if (wrap64 ((wrap64 (s0_1 + 1)) - 1)) < (s0_0.length : Int) then (if (IntKind.u64.wrap (a1)) = 0 then (none) else (some (wrap64 (Int.tmod (IntKind.u64.wrap (rd s0_0 (wrap64 ((wrap64 (s0_1 + 1)) - 1)))) (IntKind.u64.wrap (a1))), wrap64 (s0_1 + 1)))) else (none)) else (none))
set_option maxHeartbeats 8000000 in
set_option maxRecDepth 100000 in
theorem magpieref06_Source_Next.calls (g : Nat) (s0_0 : List Int) (s0_1 : Int) (a1 : Int) (r1 : Int) (r2 : Int) (w0 w : World) (hI : IsS73 w0 w g s0_0 s0_1) (hB : Below w0.heap.size w0 w) (h : magpieref06_Source_Next.f s0_0 s0_1 a1 = some (r1, r2)) :
    Calls Tryd.prog 55 #[.pointer (some ⟨g, 0, none⟩), .int .i64 a1] w fun e w' => e = .returned (.int .i64 r1) ∧ IsS73 w0 w' g s0_0 r2 ∧ Below w0.heap.size w0 w' ∧ KeepBut w w' g none := by
  have HI0 := Aside0.mk hI
  have HK := Aside0.mk (KeepBut.refl w g none)
  have HL := Aside0.mk hB.size
  clear hI
  have HW0 := Aside0.mk hB.size
  have HB := Aside0.mk hB
  clear hB
  have H : (if s0_1 ≥ (s0_0.length : Int) then (some (0, s0_1)) else (if 0 ≤ (wrap64 ((wrap64 (s0_1 + 1)) - 1)) then (if (wrap64 ((wrap64 (s0_1 + 1)) - 1)) < (s0_0.length : Int) then (if (IntKind.u64.wrap (a1)) = 0 then (none) else (some (wrap64 (Int.tmod (IntKind.u64.wrap (rd s0_0 (wrap64 ((wrap64 (s0_1 + 1)) - 1)))) (IntKind.u64.wrap (a1))), wrap64 (s0_1 + 1)))) else (none)) else (none))) = some (r1, r2) := h
  clear h
  by_cases c3 : s0_1 ≥ (s0_0.length : Int)
  · rw [if_pos c3] at H
    have c3b0 : decide ((s0_0.length : Int) ≤ s0_1) = true := decide_eq_true c3
    clear c3
    simp only [Option.some.injEq, Prod.mk.injEq] at H
    obtain ⟨rfl, rfl⟩ := H
    obtain ⟨ASz4_0, cSz4_0, HGz4, hgz4, HSz4_0⟩ := HI0.out
    have hcz4_0 := cellS73_0 HGz4
    have hcz4_1 := cellS73_1 HGz4
    have hfz4_1 := blk_frozen HGz4 1
    clear HGz4 hgz4
    go_enter Tryd.func55, Tryd.ntmps55
    go_wp2
    repeat (go_quiet (fail); try go_wp2)
    go_ret
    exact ⟨by first | rfl | (simp [errW_none, errW_some] <;> rfl) | (simp [*, errW_none, errW_some] <;> rfl), by repeat (first | (with_reducible first | exact HI0.out | apply IsS73.alloc | apply IsS73.drewN | apply IsS73.drew | apply IsS73.set_1) | exact HI0.out), by repeat (first | (with_reducible first | exact HB.out | apply below_alloc | apply pw_below_drewN | apply below_drew1 | refine below_set ?_ (IsS73.ge HI0.out)) | exact HB.out), by repeat (first | (with_reducible first | exact HK.out | apply KeepBut.set_ | apply keep_drewN | apply keep_drew | apply keep_alloc) | exact HK.out)⟩
  · rw [if_neg c3] at H
    have c3b0 : decide ((s0_0.length : Int) ≤ s0_1) = false := decide_eq_false c3
    clear c3
    obtain ⟨ji5, hji5⟩ : ∃ j_ : Int, (wrap64 ((wrap64 (s0_1 + 1)) - 1)) = j_ := ⟨_, rfl⟩
    replace H : (if 0 ≤ (ji5) then (if (ji5) < (s0_0.length : Int) then (if (IntKind.u64.wrap (a1)) = 0 then (none) else (some (wrap64 (Int.tmod (IntKind.u64.wrap (rd s0_0 (ji5))) (IntKind.u64.wrap (a1))), wrap64 (s0_1 + 1)))) else (none)) else (none)) = some (r1, r2) := by first | (rw [hji5] at H; exact H) | (simp only [hji5] at H ⊢; exact H)
    have hji5w : (IntKind.i64.wrap ((wrap64 (s0_1 + 1)) - 1)) = ji5 := (i64_w _).trans hji5
    by_cases c6 : 0 ≤ (ji5)
    · rw [if_pos c6] at H
      have c6b0 : decide (0 ≤ (ji5)) = true := decide_eq_true c6
      clear c6
      by_cases c7 : (ji5) < (s0_0.length : Int)
      · rw [if_pos c7] at H
        have c7b0 : decide ((ji5) < (s0_0.length : Int)) = true := decide_eq_true c7
        clear c7
        by_cases c8 : (IntKind.u64.wrap (a1)) = 0
        · rw [if_pos c8] at H
          exact absurd H (by simp)
        · rw [if_neg c8] at H
          have c8b0 : ((IntKind.u64.wrap (a1)) == 0) = false := beq_eq_false_iff_ne.mpr c8
          have c8b1 : ((IntKind.u64.wrap (a1)) != 0) = true := bne_iff_ne.mpr c8
          simp only [Option.some.injEq, Prod.mk.injEq] at H
          obtain ⟨rfl, rfl⟩ := H
          obtain ⟨ASz9_0, cSz9_0, HGz9, hgz9, HSz9_0⟩ := HI0.out
          have hcz9_0 := cellS73_0 HGz9
          have hcz9_1 := cellS73_1 HGz9
          have hfz9_1 := blk_frozen HGz9 1
          clear HGz9 hgz9
          have p114 : 0 ≤ ((ji5) : Int) := of_decide_eq_true (by first | (with_reducible assumption) | assumption)
          have q114 : (ji5) < (s0_0.length : Int) := of_decide_eq_true (by first | (with_reducible assumption) | assumption)
          obtain ⟨ad114, e114, hx114_0⟩ := Kd.at_int HSz9_0 (ji5) p114 q114
          cases e114
          have hn114_0 : ad114.block ≠ g := Nat.ne_of_lt (Nat.lt_of_lt_of_le (by have := World.block_lt_of_cell? _ _ hx114_0; first | rwa [add_block] at this | exact this) (IsS73.ge HI0.out))
          replace hx114_0 := pw_cell_below HB.out hx114_0
          replace hx114_0 := (cell_far (p := ⟨g, 1, none⟩) (by first | (rw [add_block]; exact hn114_0) | (show (Addr.add _ _).block ≠ _; rw [add_block]; exact hn114_0) | exact hn114_0) (.int .i64 (wrap64 (s0_1 + 1)))).trans hx114_0
          (try have hy114_0 := fun (n_ : Nat) => (show (((w.drewN n_).setCell ⟨g, 1, none⟩ (.int .i64 (wrap64 (s0_1 + 1))))).cell? _ = some _ from hx114_0))
          clear hn114_0
          replace p114 := eq_true p114
          replace q114 := eq_true q114
          go_enter Tryd.func55, Tryd.ntmps55
          go_wp2
          repeat (go_quiet (fail); try go_wp2)
          go_ret
          exact ⟨by first | rfl | (simp [errW_none, errW_some] <;> rfl) | (simp only [← hji5]; first | rfl | (simp [errW_none, errW_some] <;> rfl)) | (simp [*, errW_none, errW_some] <;> rfl), by repeat (first | (with_reducible first | exact HI0.out | apply IsS73.alloc | apply IsS73.drewN | apply IsS73.drew | apply IsS73.set_1) | exact HI0.out), by repeat (first | (with_reducible first | exact HB.out | apply below_alloc | apply pw_below_drewN | apply below_drew1 | refine below_set ?_ (IsS73.ge HI0.out)) | exact HB.out), by repeat (first | (with_reducible first | exact HK.out | apply KeepBut.set_ | apply keep_drewN | apply keep_drew | apply keep_alloc) | exact HK.out)⟩
      · rw [if_neg c7] at H
        exact absurd H (by simp)
    · rw [if_neg c6] at H
      exact absurd H (by simp)

/-! ### magpieref06_Source_Text: function 70 -/
def magpieref06_Source_Text.f (s0_0 : List Int) (s0_1 : Int) : Option (ByteArray × Int) := (some (([(⟨#[103, 101, 116]⟩ : ByteArray), (⟨#[101, 114, 114]⟩ : ByteArray), (⟨#[97]⟩ : ByteArray), (⟨#[98]⟩ : ByteArray), (⟨#[111, 107, 32, 50, 48, 48]⟩ : ByteArray), (⟨#[120, 45, 121]⟩ : ByteArray), (⟨#[32, 97, 32]⟩ : ByteArray), (⟨#[]⟩ : ByteArray), (⟨#[195, 169]⟩ : ByteArray), (⟨#[107, 61, 103, 101, 116]⟩ : ByteArray), (⟨#[97, 34, 98]⟩ : ByteArray), (⟨#[105, 100, 95, 55]⟩ : ByteArray)] : List ByteArray) : List ByteArray)).bind fun y115 => ((magpieref06_Source_Next.f s0_0 s0_1 12).bind fun bt118 => (if 0 ≤ bt118.1 then (if bt118.1 < (y115.length : Int) then (some (rdOf ByteArray.empty y115 bt118.1, bt118.2)) else (none)) else (none)))
set_option maxHeartbeats 8000000 in
set_option maxRecDepth 100000 in
theorem magpieref06_Source_Text.calls (g : Nat) (s0_0 : List Int) (s0_1 : Int) (r1 : ByteArray) (r2 : Int) (w0 w : World) (hI : IsS73 w0 w g s0_0 s0_1) (hB : Below w0.heap.size w0 w) (h : magpieref06_Source_Text.f s0_0 s0_1 = some (r1, r2)) :
    Calls Tryd.prog 70 #[.pointer (some ⟨g, 0, none⟩)] w fun e w' => e = .returned (.string r1) ∧ IsS73 w0 w' g s0_0 r2 ∧ Below w0.heap.size w0 w' ∧ KeepBut w w' g none := by
  have HI0 := Aside0.mk hI
  have HK := Aside0.mk (KeepBut.refl w g none)
  have HL := Aside0.mk hB.size
  clear hI
  have HW0 := Aside0.mk hB.size
  have HB := Aside0.mk hB
  clear hB
  have H : ((some (([(⟨#[103, 101, 116]⟩ : ByteArray), (⟨#[101, 114, 114]⟩ : ByteArray), (⟨#[97]⟩ : ByteArray), (⟨#[98]⟩ : ByteArray), (⟨#[111, 107, 32, 50, 48, 48]⟩ : ByteArray), (⟨#[120, 45, 121]⟩ : ByteArray), (⟨#[32, 97, 32]⟩ : ByteArray), (⟨#[]⟩ : ByteArray), (⟨#[195, 169]⟩ : ByteArray), (⟨#[107, 61, 103, 101, 116]⟩ : ByteArray), (⟨#[97, 34, 98]⟩ : ByteArray), (⟨#[105, 100, 95, 55]⟩ : ByteArray)] : List ByteArray) : List ByteArray)).bind fun y115 => ((magpieref06_Source_Next.f s0_0 s0_1 12).bind fun bt118 => (if 0 ≤ bt118.1 then (if bt118.1 < (y115.length : Int) then (some (rdOf ByteArray.empty y115 bt118.1, bt118.2)) else (none)) else (none)))) = some (r1, r2) := h
  clear h
  obtain ⟨y115, hy115⟩ : ∃ y_ : List ByteArray, y_ = (([(⟨#[103, 101, 116]⟩ : ByteArray), (⟨#[101, 114, 114]⟩ : ByteArray), (⟨#[97]⟩ : ByteArray), (⟨#[98]⟩ : ByteArray), (⟨#[111, 107, 32, 50, 48, 48]⟩ : ByteArray), (⟨#[120, 45, 121]⟩ : ByteArray), (⟨#[32, 97, 32]⟩ : ByteArray), (⟨#[]⟩ : ByteArray), (⟨#[195, 169]⟩ : ByteArray), (⟨#[107, 61, 103, 101, 116]⟩ : ByteArray), (⟨#[97, 34, 98]⟩ : ByteArray), (⟨#[105, 100, 95, 55]⟩ : ByteArray)] : List ByteArray)) := ⟨_, rfl⟩
  replace H : ((magpieref06_Source_Next.f s0_0 s0_1 12).bind fun bt118 => (if 0 ≤ bt118.1 then (if bt118.1 < (y115.length : Int) then (some (rdOf ByteArray.empty y115 bt118.1, bt118.2)) else (none)) else (none))) = some (r1, r2) := by first | (rw [hy115]; with_reducible exact H) | (have H2_ := (Option.bind_some _ _).symm.trans H; rw [hy115]; with_reducible exact H2_) | (have H2_ := (Option.bind_some _ _).symm.trans H; with_reducible exact H2_) | with_reducible exact H | (rw [hy115]; exact H) | exact H
  have Ny115 := Aside0.mk hy115
  clear hy115
  replace H := Option.bind_eq_some_iff.mp H
  obtain ⟨⟨t118, t119⟩, A20, H⟩ := H
  replace H : (if 0 ≤ t118 then (if t118 < (y115.length : Int) then (some (rdOf ByteArray.empty y115 t118, t119)) else (none)) else (none)) = some (r1, r2) := H
  have A2 := Aside0.mk A20
  clear A20
  by_cases c3 : 0 ≤ t118
  · rw [if_pos c3] at H
    have c3b0 : decide (0 ≤ t118) = true := decide_eq_true c3
    clear c3
    by_cases c4 : t118 < (y115.length : Int)
    · rw [if_pos c4] at H
      have c4b0 : decide (t118 < (y115.length : Int)) = true := decide_eq_true c4
      clear c4
      simp only [Option.some.injEq, Prod.mk.injEq] at H
      obtain ⟨rfl, rfl⟩ := H
      go_enter Tryd.func70, Tryd.ntmps70
      go_wp2_with (first | ((with_reducible refine gate_dst (N := 3) rfl ?_); refine Kd.R_lit Kd.string _ 9 ?hg (N := 3) ?hd (xs := ([(⟨#[103, 101, 116]⟩ : ByteArray), (⟨#[101, 114, 114]⟩ : ByteArray), (⟨#[97]⟩ : ByteArray), (⟨#[98]⟩ : ByteArray), (⟨#[111, 107, 32, 50, 48, 48]⟩ : ByteArray), (⟨#[120, 45, 121]⟩ : ByteArray), (⟨#[32, 97, 32]⟩ : ByteArray), (⟨#[]⟩ : ByteArray), (⟨#[195, 169]⟩ : ByteArray), (⟨#[107, 61, 103, 101, 116]⟩ : ByteArray), (⟨#[97, 34, 98]⟩ : ByteArray), (⟨#[105, 100, 95, 55]⟩ : ByteArray)] : List ByteArray)) (inner := [.string (⟨#[103, 101, 116]⟩ : ByteArray), .string (⟨#[101, 114, 114]⟩ : ByteArray), .string (⟨#[97]⟩ : ByteArray), .string (⟨#[98]⟩ : ByteArray), .string (⟨#[111, 107, 32, 50, 48, 48]⟩ : ByteArray), .string (⟨#[120, 45, 121]⟩ : ByteArray), .string (⟨#[32, 97, 32]⟩ : ByteArray), .string (⟨#[]⟩ : ByteArray), .string (⟨#[195, 169]⟩ : ByteArray), .string (⟨#[107, 61, 103, 101, 116]⟩ : ByteArray), .string (⟨#[97, 34, 98]⟩ : ByteArray), .string (⟨#[105, 100, 95, 55]⟩ : ByteArray)]) (ok := fun _ => True) (okp := fun _ => True) ?hr ?hp (fun _ hk => hk) trivial (Below.refl _ _) (Nat.le_refl _) (by simp) ?_; (case hd => rfl); (case hg => rfl); (case hr => first | (go_simp; done) | (go_simp; rfl)); (case hp => exact (Reps.one (show Kd.M Kd.string _ _ _ (⟨#[103, 101, 116]⟩ : ByteArray) [.string (⟨#[103, 101, 116]⟩ : ByteArray)] from rfl) (Reps.one (show Kd.M Kd.string _ _ _ (⟨#[101, 114, 114]⟩ : ByteArray) [.string (⟨#[101, 114, 114]⟩ : ByteArray)] from rfl) (Reps.one (show Kd.M Kd.string _ _ _ (⟨#[97]⟩ : ByteArray) [.string (⟨#[97]⟩ : ByteArray)] from rfl) (Reps.one (show Kd.M Kd.string _ _ _ (⟨#[98]⟩ : ByteArray) [.string (⟨#[98]⟩ : ByteArray)] from rfl) (Reps.one (show Kd.M Kd.string _ _ _ (⟨#[111, 107, 32, 50, 48, 48]⟩ : ByteArray) [.string (⟨#[111, 107, 32, 50, 48, 48]⟩ : ByteArray)] from rfl) (Reps.one (show Kd.M Kd.string _ _ _ (⟨#[120, 45, 121]⟩ : ByteArray) [.string (⟨#[120, 45, 121]⟩ : ByteArray)] from rfl) (Reps.one (show Kd.M Kd.string _ _ _ (⟨#[32, 97, 32]⟩ : ByteArray) [.string (⟨#[32, 97, 32]⟩ : ByteArray)] from rfl) (Reps.one (show Kd.M Kd.string _ _ _ (⟨#[]⟩ : ByteArray) [.string (⟨#[]⟩ : ByteArray)] from rfl) (Reps.one (show Kd.M Kd.string _ _ _ (⟨#[195, 169]⟩ : ByteArray) [.string (⟨#[195, 169]⟩ : ByteArray)] from rfl) (Reps.one (show Kd.M Kd.string _ _ _ (⟨#[107, 61, 103, 101, 116]⟩ : ByteArray) [.string (⟨#[107, 61, 103, 101, 116]⟩ : ByteArray)] from rfl) (Reps.one (show Kd.M Kd.string _ _ _ (⟨#[97, 34, 98]⟩ : ByteArray) [.string (⟨#[97, 34, 98]⟩ : ByteArray)] from rfl) (Reps.one (show Kd.M Kd.string _ _ _ (⟨#[105, 100, 95, 55]⟩ : ByteArray) [.string (⟨#[105, 100, 95, 55]⟩ : ByteArray)] from rfl) (Reps.none _ _)))))))))))))); intro v116 w5 ho6 hb hg_ hnew_; clear hg_ hnew_; (first | rw [← Ny115.out] at ho6 | (simp only [Int.reduceToNat] at ho6; rw [← Ny115.out] at ho6)); have n0_ := Aside0.mk (Kd.R_lower ho6 (keep_size (w := w) (g := g) (row := none) (by repeat (first | (with_reducible first | exact HK.out | apply KeepBut.set_ | apply keep_drewN | apply keep_drew | apply keep_alloc) | exact HK.out)))); have n1_ := Aside0.mk (IsS73.below (by repeat (first | (with_reducible first | exact HI0.out | apply IsS73.alloc | apply IsS73.drewN | apply IsS73.drew | apply IsS73.set_1) | exact HI0.out)) hb); have n2_ := Aside0.mk (KeepBut.trans (by repeat (first | (with_reducible first | exact HK.out | apply KeepBut.set_ | apply keep_drewN | apply keep_drew | apply keep_alloc) | exact HK.out)) (KeepBut.of_below hb g none) (.inl rfl)); have n3_ := Aside0.mk (below_step (by repeat (first | (with_reducible first | exact HB.out | apply below_alloc | apply pw_below_drewN | apply below_drew1 | refine below_set ?_ (IsS73.ge HI0.out)) | exact HB.out)) hb); clear HI0; clear HK; clear HB; have HO117 := n0_; have HI0 := n1_; have HK := n2_; have HB := n3_; clear n0_ n1_ n2_ n3_; clear hb ho6) | ((with_reducible refine gate_callee (f := 55) rfl ?_); refine goesL_ (some 5) rfl rfl Tryd.func55 (by kernel_rfl) rfl #[.pointer (some ⟨g, 0, none⟩), .int .i64 12] rfl (by (try simp only [List.map_toArray, List.map_cons, List.map_nil]); first | done | rfl | (simp only [List.length_drop, List.length_take]; rfl)) ?_; (with_reducible refine (magpieref06_Source_Next.calls g s0_0 s0_1 12 t118 t119 w0 _ ?side1 ?side2 A2.out).mono ?_); (case side1 => repeat (first | (with_reducible first | exact HI0.out | apply IsS73.alloc | apply IsS73.drewN | apply IsS73.drew | apply IsS73.set_1) | exact HI0.out)); (case side2 => repeat (first | (with_reducible first | exact HB.out | apply below_alloc | apply pw_below_drewN | apply below_drew1 | refine below_set ?_ (IsS73.ge HI0.out)) | exact HB.out)); rintro e w7 ⟨rfl, hi, hb, hk⟩; refine ⟨_, rfl, ?_⟩; have n0_ := Aside0.mk (Kd.R_mono (Kd.R_keep (IsS73.apart (show IsS73 w0 _ g s0_0 s0_1 from by repeat (first | (with_reducible first | exact HI0.out | apply IsS73.alloc | apply IsS73.drewN | apply IsS73.drew | apply IsS73.set_1) | exact HI0.out)) (by (with_reducible repeat (first | apply Kd.R_alloc | apply Kd.R_drewN | apply Kd.R_drew)); exact HO117.out) (by decide)) hk (fun _ h => h.2)) (fun _ h => h.1)); have n1_ := Aside0.mk (KeepBut.trans (by repeat (first | (with_reducible first | exact HK.out | apply KeepBut.set_ | apply keep_drewN | apply keep_drew | apply keep_alloc) | exact HK.out)) hk (.inl rfl)); have n2_ := Aside0.mk (hb); have n3_ := Aside0.mk (hi); clear HO117; clear HK; clear HB; clear HI0; have HO117 := n0_; have HK := n1_; have HB := n2_; have HI0 := n3_; clear n0_ n1_ n2_ n3_; (try clear hb); (try clear hb2); (try clear hk); (try clear hi); obtain ⟨Ao8, co8, eo8⟩ := Kd.R_slice HO117.out; subst eo8; have p120 : 0 ≤ (t118 : Int) := of_decide_eq_true (by first | (with_reducible assumption) | assumption); have q120 : t118 < (y115.length : Int) := of_decide_eq_true (by first | (with_reducible assumption) | assumption); obtain ⟨ad120, e120, hx120_0⟩ := Kd.at_string (Kd.R_reads' HO117.out).2.2 t118 p120 q120; cases e120; replace p120 := eq_true p120; replace q120 := eq_true q120))
      go_ret
      exact ⟨by first | rfl | (simp [errW_none, errW_some] <;> rfl) | (simp [*, errW_none, errW_some] <;> rfl), by repeat (first | (with_reducible first | exact HI0.out | apply IsS73.alloc | apply IsS73.drewN | apply IsS73.drew | apply IsS73.set_1) | exact HI0.out), by repeat (first | (with_reducible first | exact HB.out | apply below_alloc | apply pw_below_drewN | apply below_drew1 | refine below_set ?_ (IsS73.ge HI0.out)) | exact HB.out), by repeat (first | (with_reducible first | exact HK.out | apply KeepBut.set_ | apply keep_drewN | apply keep_drew | apply keep_alloc) | exact HK.out)⟩
    · rw [if_neg c4] at H
      exact absurd H (by simp)
  · rw [if_neg c3] at H
    exact absurd H (by simp)

/-! ### magpieref06_Source_Make: function 48 -/
mutual
def magpieref06_Source_Make.j0 : Nat → Int → Int → List Int → Int → Option (Int × ByteArray × ByteArray × (List (S36)) × Int)
  | 0, _, _, _, _ => none
  | k + 1, x1, x5, x1000, x1001 => (magpieref06_Source_Next.f x1000 x1001 x5).bind fun bt122 => (if bt122.1 = 0 then (magpieref06_Source_Make.j1 k x1 bt122.1 (bt122.1 == 0) x1000 bt122.2) else (magpieref06_Source_Make.j1 k x1 bt122.1 (bt122.1 == 1) x1000 bt122.2))
def magpieref06_Source_Make.j1 : Nat → Int → Int → Bool → List Int → Int → Option (Int × ByteArray × ByteArray × (List (S36)) × Int)
  | 0, _, _, _, _, _ => none
  | k + 1, x1, x12, x13, x1000, x1001 => if x13 = true then ((magpieref06_Source_Text.f x1000 x1001).bind fun bt124 => (some (3, (⟨#[]⟩ : ByteArray), bt124.1, ([] : List (S36)), bt124.2))) else (if x12 = 2 then ((magpieref06_Source_Text.f x1000 x1001).bind fun bt126 => (some (4, (⟨#[]⟩ : ByteArray), bt126.1, ([] : List (S36)), bt126.2))) else (if x12 = 3 then ((some (([(⟨#[107]⟩ : ByteArray), (⟨#[97]⟩ : ByteArray), (⟨#[105, 100]⟩ : ByteArray)] : List ByteArray) : List ByteArray)).bind fun y128 => ((magpieref06_Source_Next.f x1000 x1001 3).bind fun bt131 => (if 0 ≤ bt131.1 then (if bt131.1 < (y128.length : Int) then ((magpieref06_Source_Text.f x1000 bt131.2).bind fun bt134 => (some (5, rdOf ByteArray.empty y128 bt131.1, bt134.1, ([] : List (S36)), bt134.2))) else (none)) else (none)))) else (if x12 = 4 then ((magpieref06_Source_Next.f x1000 x1001 2).bind fun bt136 => (some (wrap64 (1 + bt136.1), (⟨#[]⟩ : ByteArray), (⟨#[]⟩ : ByteArray), ([] : List (S36)), bt136.2))) else (if x12 = 5 then ((magpieref06_Source_Make.f k x1000 x1001 (wrap64 (x1 - 1))).bind fun bt138 => (some (6, (⟨#[]⟩ : ByteArray), (⟨#[]⟩ : ByteArray), (([(⟨bt138.1, bt138.2.1, bt138.2.2.1, bt138.2.2.2.1⟩ : S36)] : List (S36))), bt138.2.2.2.2))) else ((magpieref06_Source_Next.f x1000 x1001 2).bind fun bt148 => ((magpieref06_Source_Next.f x1000 bt148.2 2).bind fun bt151 => (magpieref06_Source_Make.l0 k x1 (wrap64 (2 + bt151.1)) x1000 bt151.2 (wrap64 (7 + bt148.1)) (⟨#[]⟩ : ByteArray) (⟨#[]⟩ : ByteArray) ([] : List (S36)))))))))
def magpieref06_Source_Make.l0 : Nat → Int → Int → List Int → Int → Int → ByteArray → ByteArray → List (S36) → Option (Int × ByteArray × ByteArray × (List (S36)) × Int)
  | 0, _, _, _, _, _, _, _, _ => none
  | k + 1, x1, x7, x1000, x1001, x151000, x151001, x151002, x151003 => if x7 > 0 then ((magpieref06_Source_Make.f k x1000 x1001 (wrap64 (x1 - 1))).bind fun bt153 => (if x151003.length < 2199023255552 then (magpieref06_Source_Make.l0 k x1 (wrap64 (x7 - 1)) x1000 bt153.2.2.2.2 x151000 x151001 x151002 (x151003 ++ [(⟨bt153.1, bt153.2.1, bt153.2.2.1, bt153.2.2.2.1⟩ : S36)])) else (none))) else (some (x151000, x151001, x151002, x151003, x1001))
def magpieref06_Source_Make.f : Nat → List Int → Int → Int → Option (Int × ByteArray × ByteArray × (List (S36)) × Int)
  | 0, _, _, _ => none
  | k + 1, s0_0, s0_1, a1 => if a1 ≤ 0 then (magpieref06_Source_Make.j0 k a1 5 s0_0 s0_1) else (magpieref06_Source_Make.j0 k a1 8 s0_0 s0_1)
end
theorem magpieref06_Source_Make.mono_l : ∀ k, (∀ y0 y1 y2, LeO (magpieref06_Source_Make.f k y0 y1 y2) (magpieref06_Source_Make.f (k + 1) y0 y1 y2)) ∧ (∀ y0 y1 y2 y3, LeO (magpieref06_Source_Make.j0 k y0 y1 y2 y3) (magpieref06_Source_Make.j0 (k + 1) y0 y1 y2 y3)) ∧ (∀ y0 y1 y2 y3 y4, LeO (magpieref06_Source_Make.j1 k y0 y1 y2 y3 y4) (magpieref06_Source_Make.j1 (k + 1) y0 y1 y2 y3 y4)) ∧ (∀ y0 y1 y2 y3 y4 y5 y6 y7, LeO (magpieref06_Source_Make.l0 k y0 y1 y2 y3 y4 y5 y6 y7) (magpieref06_Source_Make.l0 (k + 1) y0 y1 y2 y3 y4 y5 y6 y7))
  | 0 => ⟨fun _ _ _ r h => by simp [magpieref06_Source_Make.f] at h, fun _ _ _ _ r h => by simp [magpieref06_Source_Make.j0] at h, fun _ _ _ _ _ r h => by simp [magpieref06_Source_Make.j1] at h, fun _ _ _ _ _ _ _ _ r h => by simp [magpieref06_Source_Make.l0] at h⟩
  | k + 1 => by
    obtain ⟨ih0, ih1, ih2, ih3⟩ := magpieref06_Source_Make.mono_l k
    refine ⟨?_, ?_, ?_, ?_⟩
    · intro y0 y1 y2
      unfold magpieref06_Source_Make.f
      repeat' first
      | (with_reducible exact ih0 _ _ _)
      | (with_reducible exact ih1 _ _ _ _)
      | (with_reducible exact ih2 _ _ _ _ _)
      | (with_reducible exact ih3 _ _ _ _ _ _ _ _)
      | (with_reducible exact LeO.refl _)
      | (with_reducible exact LeO.none _)
      | (with_reducible refine LeO.ite ?_ ?_)
      | (with_reducible refine LeO.bind ?_ (fun _ => ?_))
      | exact ih0 _ _ _
      | exact ih1 _ _ _ _
      | exact ih2 _ _ _ _ _
      | exact ih3 _ _ _ _ _ _ _ _
      | exact LeO.none _
      | refine LeO.ite ?_ ?_
      | refine LeO.bind ?_ (fun _ => ?_)
    · intro y0 y1 y2 y3
      unfold magpieref06_Source_Make.j0
      repeat' first
      | (with_reducible exact ih0 _ _ _)
      | (with_reducible exact ih1 _ _ _ _)
      | (with_reducible exact ih2 _ _ _ _ _)
      | (with_reducible exact ih3 _ _ _ _ _ _ _ _)
      | (with_reducible exact LeO.refl _)
      | (with_reducible exact LeO.none _)
      | (with_reducible refine LeO.ite ?_ ?_)
      | (with_reducible refine LeO.bind ?_ (fun _ => ?_))
      | exact ih0 _ _ _
      | exact ih1 _ _ _ _
      | exact ih2 _ _ _ _ _
      | exact ih3 _ _ _ _ _ _ _ _
      | exact LeO.none _
      | refine LeO.ite ?_ ?_
      | refine LeO.bind ?_ (fun _ => ?_)
    · intro y0 y1 y2 y3 y4
      unfold magpieref06_Source_Make.j1
      repeat' first
      | (with_reducible exact ih0 _ _ _)
      | (with_reducible exact ih1 _ _ _ _)
      | (with_reducible exact ih2 _ _ _ _ _)
      | (with_reducible exact ih3 _ _ _ _ _ _ _ _)
      | (with_reducible exact LeO.refl _)
      | (with_reducible exact LeO.none _)
      | (with_reducible refine LeO.ite ?_ ?_)
      | (with_reducible refine LeO.bind ?_ (fun _ => ?_))
      | exact ih0 _ _ _
      | exact ih1 _ _ _ _
      | exact ih2 _ _ _ _ _
      | exact ih3 _ _ _ _ _ _ _ _
      | exact LeO.none _
      | refine LeO.ite ?_ ?_
      | refine LeO.bind ?_ (fun _ => ?_)
    · intro y0 y1 y2 y3 y4 y5 y6 y7
      unfold magpieref06_Source_Make.l0
      repeat' first
      | (with_reducible exact ih0 _ _ _)
      | (with_reducible exact ih1 _ _ _ _)
      | (with_reducible exact ih2 _ _ _ _ _)
      | (with_reducible exact ih3 _ _ _ _ _ _ _ _)
      | (with_reducible exact LeO.refl _)
      | (with_reducible exact LeO.none _)
      | (with_reducible refine LeO.ite ?_ ?_)
      | (with_reducible refine LeO.bind ?_ (fun _ => ?_))
      | exact ih0 _ _ _
      | exact ih1 _ _ _ _
      | exact ih2 _ _ _ _ _
      | exact ih3 _ _ _ _ _ _ _ _
      | exact LeO.none _
      | refine LeO.ite ?_ ?_
      | refine LeO.bind ?_ (fun _ => ?_)
theorem magpieref06_Source_Make.mono : ∀ a0 a1 a2 k, LeO (magpieref06_Source_Make.f k a0 a1 a2) (magpieref06_Source_Make.f (k + 1) a0 a1 a2) := by
  intro a0 a1 a2 k
  obtain ⟨ih0, ih1, ih2, ih3⟩ := magpieref06_Source_Make.mono_l k
  exact ih0 a0 a1 a2
def magpieref06_Source_Make.T11 : Bool × List (List Nat × List Nat) := (true, [([], []), ([], []), ([1], [1]), ([0, 2], [0, 2]), ([3], [3]), ([], []), ([5, 2], [5]), ([4, 6], [4, 6]), ([7, 6, 0, 1, 2, 3, 4, 5, 6, 7], [7])])
def magpieref06_Source_Make.B11 : List Nat := [0, 0, 2, 7, 15, 0, 38, 127, 255]
theorem magpieref06_Source_Make.tab11 : rtab .any (opsOf Tryd.f48 11) = magpieref06_Source_Make.T11 := by kernel_rfl
theorem magpieref06_Source_Make.bits11 : waitsOk magpieref06_Source_Make.T11.2 magpieref06_Source_Make.B11 = true := by kernel_rfl
def magpieref06_Source_Make.T20 : Bool × List (List Nat × List Nat) := (true, [([], []), ([0], [0]), ([], []), ([], []), ([3], [3]), ([2, 4], [2, 4]), ([5], [5]), ([1, 6, 5], [1, 6]), ([0, 1, 2, 3, 4, 5, 6, 7], []), ([8, 7, 7, 0, 1, 2, 3, 4, 5, 6, 7], [7, 8])])
def magpieref06_Source_Make.B20 : List Nat := [0, 1, 0, 0, 8, 28, 60, 127, 255, 511]
theorem magpieref06_Source_Make.tab20 : rtab .any (opsOf Tryd.f48 20) = magpieref06_Source_Make.T20 := by kernel_rfl
theorem magpieref06_Source_Make.bits20 : waitsOk magpieref06_Source_Make.T20.2 magpieref06_Source_Make.B20 = true := by kernel_rfl
set_option maxHeartbeats 8000000 in
set_option maxRecDepth 100000 in
theorem magpieref06_Source_Make.calls (k : Nat) : ∀ (g : Nat) (s0_0 : List Int) (s0_1 : Int) (a1 : Int) (r1 : Int) (r2 : ByteArray) (r3 : ByteArray) (r4 : List (S36)) (r5 : Int) (w0 w : World) (hI : IsS73 w0 w g s0_0 s0_1) (hB : Below w0.heap.size w0 w) (h : magpieref06_Source_Make.f k s0_0 s0_1 a1 = some (r1, r2, r3, r4, r5)),
    Calls Tryd.prog 48 #[.pointer (some ⟨g, 0, none⟩), .int .i64 a1] w fun e w' => ∃ v3_ : Value, e = .returned (.agg #[.int .i64 r1, .string r2, .string r3, v3_]) ∧ Kd.N k36 36 w' w.heap.size (fun k_ => (w.heap.size ≤ k_)) v3_ r4 ∧ IsS73 w0 w' g s0_0 r5 ∧ Below w0.heap.size w0 w' ∧ KeepBut w w' g none := by
  induction k using Nat.strongRecOn with
  | _ k ih =>
  intro g s0_0 s0_1 a1 r1 r2 r3 r4 r5 w0 w hI hB h
  cases k with
  | zero => exact absurd h (by simp [magpieref06_Source_Make.f])
  | succ k =>
  simp only [magpieref06_Source_Make.f] at h
  have hu36 := Tryd.underlying36
  have HI0 := Aside0.mk hI
  have HK := Aside0.mk (KeepBut.refl w g none)
  have HL := Aside0.mk hB.size
  clear hI
  have HW0 := Aside0.mk hB.size
  have HB := Aside0.mk hB
  clear hB
  have H : (if a1 ≤ 0 then (magpieref06_Source_Make.j0 k a1 5 s0_0 s0_1) else (magpieref06_Source_Make.j0 k a1 8 s0_0 s0_1)) = some (r1, r2, r3, r4, r5) := h
  clear h
  have HC3 := Aside0.mk H
  clear H
  go_enter Tryd.func48, Tryd.ntmps48
  go_upto_if 9 with (first | ((with_reducible refine gate_dst (N := 4) rfl ?_); refine box_event ?hg (N := 4) ?hd (cs := #[.int .i64 0, .string (⟨#[]⟩ : ByteArray), .string (⟨#[]⟩ : ByteArray), .slice none 0 0]) (t := 36) ?hr ?_; (case hd => rfl); (case hg => rfl); (case hr => first | (go_simp; done) | (go_simp; rfl)); intro gb121 hg w4 hbox hb; have n0_ := Aside0.mk (IsS73.below (by repeat (first | (with_reducible first | exact HI0.out | apply IsS73.alloc | apply IsS73.drewN | apply IsS73.drew | apply IsS73.set_1) | exact HI0.out)) hb); have n1_ := Aside0.mk (KeepBut.trans (by repeat (first | (with_reducible first | exact HK.out | apply KeepBut.set_ | apply keep_drewN | apply keep_drew | apply keep_alloc) | exact HK.out)) (KeepBut.of_below hb g none) (.inl rfl)); have n2_ := Aside0.mk (below_step (by repeat (first | (with_reducible first | exact HB.out | apply below_alloc | apply pw_below_drewN | apply below_drew1 | refine below_set ?_ (IsS73.ge HI0.out)) | exact HB.out)) hb); have n3_ := Aside0.mk (hbox); have n4_ := Aside0.mk ((by rw [hg]; exact (keep_size (w := w) (g := g) (row := none) (by repeat (first | (with_reducible first | exact HK.out | apply KeepBut.set_ | apply keep_drewN | apply keep_drew | apply keep_alloc) | exact HK.out))) : w.heap.size ≤ gb121)); have n5_ := Aside0.mk ((Nat.le_trans HW0.out (by rw [hg]; exact (keep_size (w := w) (g := g) (row := none) (by repeat (first | (with_reducible first | exact HK.out | apply KeepBut.set_ | apply keep_drewN | apply keep_drew | apply keep_alloc) | exact HK.out))) : w.heap.size ≤ gb121) : w0.heap.size ≤ gb121)); have n6_ := Aside0.mk ((by rw [hg]; exact Nat.ne_of_lt (IsS73.lt (show IsS73 w0 _ g s0_0 s0_1 from by repeat (first | (with_reducible first | exact HI0.out | apply IsS73.alloc | apply IsS73.drewN | apply IsS73.drew | apply IsS73.set_1) | exact HI0.out))) : g ≠ gb121)); have n7_ := Aside0.mk ((by rw [hg]; exact Nat.ne_of_gt (IsS73.lt (show IsS73 w0 _ g s0_0 s0_1 from by repeat (first | (with_reducible first | exact HI0.out | apply IsS73.alloc | apply IsS73.drewN | apply IsS73.drew | apply IsS73.set_1) | exact HI0.out))) : gb121 ≠ g)); clear HI0; clear HK; clear HB; have HI0 := n0_; have HK := n1_; have HB := n2_; have BK121 := n3_; have GW121 := n4_; have GE121 := n5_; have NB0_121 := n6_; have NB121_0 := n7_; clear n0_ n1_ n2_ n3_ n4_ n5_ n6_ n7_; clear hb hbox hg))
  (try simp only [Act.put, List.setIfInBounds_toArray, List.set_cons_zero, List.set_cons_succ])
  go_cut [5] (fun v5 wc => ∃ (kq : Nat) (x5_2 : Int), v5 = .int .i64 x5_2 ∧ Aside0 (magpieref06_Source_Make.j0 kq a1 x5_2 s0_0 s0_1 = some (r1, r2, r3, r4, r5)) ∧ Aside0 (kq ≤ k) ∧ Aside0 (wc.heap[gb121]? = some (.cells #[.int .i64 0, .string (⟨#[]⟩ : ByteArray), .string (⟨#[]⟩ : ByteArray), (.slice none 0 0)] 36 (0, 0))) ∧ Aside0 (IsS73 w0 wc g s0_0 s0_1) ∧ Aside0 (KeepBut w wc g none) ∧ Aside0 (Below w0.heap.size w0 wc))
  case first =>
    have H := HC3.out
    clear HC3
    by_cases c5 : a1 ≤ 0
    · rw [if_pos c5] at H
      have c5b0 : decide (a1 ≤ 0) = true := decide_eq_true c5
      clear c5
      (first | rw [c5b0] | (simp only [i64_w, i32_w]; rw [c5b0]) | skip)
      have H' := Aside0.mk H
      clear H
      go_wp2
      go_meet
      case rel => exact ⟨_, (5), (by first | rfl | (simp; done) | (simp [*]; done)), H', ⟨by first | omega | exact Nat.le_refl _⟩, ⟨by (with_reducible repeat (first | refine blk_drewN ?_ _ | refine blk_drew ?_ | refine blk_alloc ?_ _)); exact BK121.out⟩, ⟨by repeat (first | (with_reducible first | exact HI0.out | apply IsS73.alloc | apply IsS73.drewN | apply IsS73.drew | apply IsS73.set_1 | refine IsS73.far ?_ NB0_121.out _) | exact HI0.out)⟩, ⟨by repeat (first | (with_reducible first | exact HK.out | apply KeepBut.set_ | apply keep_drewN | apply keep_drew | apply keep_alloc | refine keep_far ?_ GW121.out _) | exact HK.out)⟩, ⟨by repeat (first | (with_reducible first | exact HB.out | apply below_alloc | apply pw_below_drewN | apply below_drew1 | refine below_set ?_ (IsS73.ge HI0.out) | refine below_set ?_ GE121.out) | exact HB.out)⟩⟩
    · rw [if_neg c5] at H
      have c5b0 : decide (a1 ≤ 0) = false := decide_eq_false c5
      clear c5
      (first | rw [c5b0] | (simp only [i64_w, i32_w]; rw [c5b0]) | skip)
      have H' := Aside0.mk H
      clear H
      go_wp2
      go_meet
      case rel => exact ⟨_, (8), (by first | rfl | (simp; done) | (simp [*]; done)), H', ⟨by first | omega | exact Nat.le_refl _⟩, ⟨by (with_reducible repeat (first | refine blk_drewN ?_ _ | refine blk_drew ?_ | refine blk_alloc ?_ _)); exact BK121.out⟩, ⟨by repeat (first | (with_reducible first | exact HI0.out | apply IsS73.alloc | apply IsS73.drewN | apply IsS73.drew | apply IsS73.set_1 | refine IsS73.far ?_ NB0_121.out _) | exact HI0.out)⟩, ⟨by repeat (first | (with_reducible first | exact HK.out | apply KeepBut.set_ | apply keep_drewN | apply keep_drew | apply keep_alloc | refine keep_far ?_ GW121.out _) | exact HK.out)⟩, ⟨by repeat (first | (with_reducible first | exact HB.out | apply below_alloc | apply pw_below_drewN | apply below_drew1 | refine below_set ?_ (IsS73.ge HI0.out) | refine below_set ?_ GE121.out) | exact HB.out)⟩⟩
  case rest =>
    clear HC3
    try clear p2
    try clear c4
    try clear c5
    try clear c5b0
    obtain ⟨kq, x5_2, rfl, HA, HJ2, BK121, HI0, HK, HB⟩ := hcut
    cases kq with
    | zero => exact absurd HA.out (by simp [magpieref06_Source_Make.j0])
    | succ kj2 =>
      have H := HA.out
      clear HA
      simp only [magpieref06_Source_Make.j0] at H
      replace H := Option.bind_eq_some_iff.mp H
      obtain ⟨⟨t122, t123⟩, A60, H⟩ := H
      replace H : (if t122 = 0 then (magpieref06_Source_Make.j1 kj2 a1 t122 (t122 == 0) s0_0 t123) else (magpieref06_Source_Make.j1 kj2 a1 t122 (t122 == 1) s0_0 t123)) = some (r1, r2, r3, r4, r5) := H
      have A6 := Aside0.mk A60
      clear A60
      have HC7 := Aside0.mk H
      clear H
      go_upto_if 13 with (first | ((with_reducible refine gate_callee (f := 55) rfl ?_); refine goesL_ (some 12) rfl rfl Tryd.func55 (by kernel_rfl) rfl #[.pointer (some ⟨g, 0, none⟩), .int .i64 x5_2] rfl (by (try simp only [List.map_toArray, List.map_cons, List.map_nil]); first | done | rfl | (simp only [List.length_drop, List.length_take]; rfl)) ?_; (with_reducible refine (magpieref06_Source_Next.calls g s0_0 s0_1 x5_2 t122 t123 w0 _ ?side1 ?side2 A6.out).mono ?_); (case side1 => repeat (first | (with_reducible first | exact HI0.out | apply IsS73.alloc | apply IsS73.drewN | apply IsS73.drew | apply IsS73.set_1 | refine IsS73.far ?_ NB0_121.out _) | exact HI0.out)); (case side2 => repeat (first | (with_reducible first | exact HB.out | apply below_alloc | apply pw_below_drewN | apply below_drew1 | refine below_set ?_ (IsS73.ge HI0.out) | refine below_set ?_ GE121.out) | exact HB.out)); rintro e w8 ⟨rfl, hi, hb, hk⟩; refine ⟨_, rfl, ?_⟩; have n0_ := Aside0.mk (KeepBut.blk hk (g' := gb121) (o := .cells #[.int .i64 0, .string (⟨#[]⟩ : ByteArray), .string (⟨#[]⟩ : ByteArray), .slice none 0 0] 36 (0, 0)) (by (with_reducible repeat (first | refine blk_drewN ?_ _ | refine blk_drew ?_ | refine blk_alloc ?_ _)); exact BK121.out) NB121_0.out (by simp)); have n1_ := Aside0.mk (KeepBut.trans (by repeat (first | (with_reducible first | exact HK.out | apply KeepBut.set_ | apply keep_drewN | apply keep_drew | apply keep_alloc | refine keep_far ?_ GW121.out _) | exact HK.out)) hk (.inl rfl)); have n2_ := Aside0.mk (hb); have n3_ := Aside0.mk (hi); clear BK121; clear HK; clear HB; clear HI0; have BK121 := n0_; have HK := n1_; have HB := n2_; have HI0 := n3_; clear n0_ n1_ n2_ n3_; (try clear hb); (try clear hb2); (try clear hk); (try clear hi)))
      (try simp only [Act.put, List.setIfInBounds_toArray, List.set_cons_zero, List.set_cons_succ])
      go_cut [13] (fun v13 wc => ∃ (kq : Nat) (x13_6 : Bool), v13 = .bool x13_6 ∧ Aside0 (magpieref06_Source_Make.j1 kq a1 t122 x13_6 s0_0 t123 = some (r1, r2, r3, r4, r5)) ∧ Aside0 (kq ≤ kj2) ∧ Aside0 (wc.heap[gb121]? = some (.cells #[.int .i64 0, .string (⟨#[]⟩ : ByteArray), .string (⟨#[]⟩ : ByteArray), (.slice none 0 0)] 36 (0, 0))) ∧ Aside0 (IsS73 w0 wc g s0_0 t123) ∧ Aside0 (KeepBut w wc g none) ∧ Aside0 (Below w0.heap.size w0 wc))
      case first =>
        have H := HC7.out
        clear HC7
        by_cases c9 : t122 = 0
        · rw [if_pos c9] at H
          have c9b0 : (t122 == 0) = true := beq_iff_eq.mpr c9
          have c9b1 : (t122 != 0) = false := bne_eq_false_iff_eq.mpr c9
          clear c9
          (first | rw [c9b0] | (simp only [i64_w, i32_w]; rw [c9b0]) | skip)
          have H' := Aside0.mk H
          clear H
          go_wp2
          go_meet
          case rel => exact ⟨_, ((t122 == 0)), (by first | rfl | (simp; done) | (simp [*]; done)), H', ⟨by have := HJ2.out; first | omega | exact Nat.le_refl _⟩, ⟨by (with_reducible repeat (first | refine blk_drewN ?_ _ | refine blk_drew ?_ | refine blk_alloc ?_ _)); exact BK121.out⟩, ⟨by repeat (first | (with_reducible first | exact HI0.out | apply IsS73.alloc | apply IsS73.drewN | apply IsS73.drew | apply IsS73.set_1 | refine IsS73.far ?_ NB0_121.out _) | exact HI0.out)⟩, ⟨by repeat (first | (with_reducible first | exact HK.out | apply KeepBut.set_ | apply keep_drewN | apply keep_drew | apply keep_alloc | refine keep_far ?_ GW121.out _) | exact HK.out)⟩, ⟨by repeat (first | (with_reducible first | exact HB.out | apply below_alloc | apply pw_below_drewN | apply below_drew1 | refine below_set ?_ (IsS73.ge HI0.out) | refine below_set ?_ GE121.out) | exact HB.out)⟩⟩
        · rw [if_neg c9] at H
          have c9b0 : (t122 == 0) = false := beq_eq_false_iff_ne.mpr c9
          have c9b1 : (t122 != 0) = true := bne_iff_ne.mpr c9
          (first | rw [c9b0] | (simp only [i64_w, i32_w]; rw [c9b0]) | skip)
          have H' := Aside0.mk H
          clear H
          go_wp2
          go_meet
          case rel => exact ⟨_, ((t122 == 1)), (by first | rfl | (simp; done) | (simp [*]; done)), H', ⟨by have := HJ2.out; first | omega | exact Nat.le_refl _⟩, ⟨by (with_reducible repeat (first | refine blk_drewN ?_ _ | refine blk_drew ?_ | refine blk_alloc ?_ _)); exact BK121.out⟩, ⟨by repeat (first | (with_reducible first | exact HI0.out | apply IsS73.alloc | apply IsS73.drewN | apply IsS73.drew | apply IsS73.set_1 | refine IsS73.far ?_ NB0_121.out _) | exact HI0.out)⟩, ⟨by repeat (first | (with_reducible first | exact HK.out | apply KeepBut.set_ | apply keep_drewN | apply keep_drew | apply keep_alloc | refine keep_far ?_ GW121.out _) | exact HK.out)⟩, ⟨by repeat (first | (with_reducible first | exact HB.out | apply below_alloc | apply pw_below_drewN | apply below_drew1 | refine below_set ?_ (IsS73.ge HI0.out) | refine below_set ?_ GE121.out) | exact HB.out)⟩⟩
      case rest =>
        clear HC7
        try clear p2
        try clear c4
        try clear c5
        try clear c5b0
        try clear c9
        try clear c9b0
        try clear c9b1
        try clear p2
        obtain ⟨kq, x13_6, rfl, HA, HJ6, BK121, HI0, HK, HB⟩ := hcut
        cases kq with
        | zero => exact absurd HA.out (by simp [magpieref06_Source_Make.j1])
        | succ kj6 =>
          have H := HA.out
          clear HA
          simp only [magpieref06_Source_Make.j1] at H
          by_cases c10 : x13_6 = true
          · subst c10
            have H1 : ((magpieref06_Source_Text.f s0_0 t123).bind fun bt124 => (some (3, (⟨#[]⟩ : ByteArray), bt124.1, ([] : List (S36)), bt124.2))) = some (r1, r2, r3, r4, r5) := by rw [if_pos rfl] at H; exact H
            clear H
            have H := H1
            clear H1
            replace H := Option.bind_eq_some_iff.mp H
            obtain ⟨⟨t124, t125⟩, A110, H⟩ := H
            replace H : (some (3, (⟨#[]⟩ : ByteArray), t124, ([] : List (S36)), t125)) = some (r1, r2, r3, r4, r5) := H
            have A11 := Aside0.mk A110
            clear A110
            simp only [Option.some.injEq, Prod.mk.injEq] at H
            obtain ⟨rfl, rfl, rfl, rfl, rfl⟩ := H
            go_wp2_with (first | ((with_reducible refine gate_callee (f := 70) rfl ?_); refine goesL_ (some 17) rfl rfl Tryd.func70 (by kernel_rfl) rfl #[.pointer (some ⟨g, 0, none⟩)] rfl (by (try simp only [List.map_toArray, List.map_cons, List.map_nil]); first | done | rfl | (simp only [List.length_drop, List.length_take]; rfl)) ?_; (with_reducible refine (magpieref06_Source_Text.calls g s0_0 t123 t124 t125 w0 _ ?side1 ?side2 A11.out).mono ?_); (case side1 => repeat (first | (with_reducible first | exact HI0.out | apply IsS73.alloc | apply IsS73.drewN | apply IsS73.drew | apply IsS73.set_1 | refine IsS73.far ?_ NB0_121.out _) | exact HI0.out)); (case side2 => repeat (first | (with_reducible first | exact HB.out | apply below_alloc | apply pw_below_drewN | apply below_drew1 | refine below_set ?_ (IsS73.ge HI0.out) | refine below_set ?_ GE121.out) | exact HB.out)); rintro e w12 ⟨rfl, hi, hb, hk⟩; refine ⟨_, rfl, ?_⟩; have n0_ := Aside0.mk (KeepBut.blk hk (g' := gb121) (o := .cells #[.int .i64 0, .string (⟨#[]⟩ : ByteArray), .string (⟨#[]⟩ : ByteArray), .slice none 0 0] 36 (0, 0)) (by (with_reducible repeat (first | refine blk_drewN ?_ _ | refine blk_drew ?_ | refine blk_alloc ?_ _)); exact BK121.out) NB121_0.out (by simp)); have n1_ := Aside0.mk (KeepBut.trans (by repeat (first | (with_reducible first | exact HK.out | apply KeepBut.set_ | apply keep_drewN | apply keep_drew | apply keep_alloc | refine keep_far ?_ GW121.out _) | exact HK.out)) hk (.inl rfl)); have n2_ := Aside0.mk (hb); have n3_ := Aside0.mk (hi); clear BK121; clear HK; clear HB; clear HI0; have BK121 := n0_; have HK := n1_; have HB := n2_; have HI0 := n3_; clear n0_ n1_ n2_ n3_; (try clear hb); (try clear hb2); (try clear hk); (try clear hi); have hnb13 := NB121_0.out; have hnc13 := NB0_121.out; have hcz14_0 : w12.cell? ⟨gb121, 0, none⟩ = some (.int .i64 0) := (blk_cell BK121.out 0).trans rfl; have hcz14_1 : w12.cell? ⟨gb121, 1, none⟩ = some (.string (⟨#[]⟩ : ByteArray)) := (blk_cell BK121.out 1).trans rfl; have hcz14_2 : w12.cell? ⟨gb121, 2, none⟩ = some (.string (⟨#[]⟩ : ByteArray)) := (blk_cell BK121.out 2).trans rfl; have hcz14_3 : w12.cell? ⟨gb121, 3, none⟩ = some (.slice none 0 0) := (blk_cell BK121.out 3).trans rfl; have hfz14_0 := blk_frozen BK121.out 0; have hfz14_1 := blk_frozen BK121.out 1; have hfz14_2 := blk_frozen BK121.out 2; have hfz14_3 := blk_frozen BK121.out 3))
            refine bodyPost_ret (results_cell_row rfl _ _ gb121 36 #[.int .i64 3, .string (⟨#[]⟩ : ByteArray), .string t124, .slice none 0 0] (0, 0) _ rfl (by (with_reducible repeat (first | refine blk_drewN ?_ _ | refine blk_drew ?_ | refine blk_alloc ?_ _)); refine blk_put (cs := #[.int .i64 3, .string (⟨#[]⟩ : ByteArray), .string t124, .slice none 0 0]) ?_ 3 _ rfl; (with_reducible repeat (first | refine blk_drewN ?_ _ | refine blk_drew ?_ | refine blk_alloc ?_ _)); refine blk_put (cs := #[.int .i64 3, .string (⟨#[]⟩ : ByteArray), .string (⟨#[]⟩ : ByteArray), .slice none 0 0]) ?_ 2 _ rfl; (with_reducible repeat (first | refine blk_drewN ?_ _ | refine blk_drew ?_ | refine blk_alloc ?_ _)); refine blk_put (cs := #[.int .i64 3, .string (⟨#[]⟩ : ByteArray), .string (⟨#[]⟩ : ByteArray), .slice none 0 0]) ?_ 1 _ rfl; (with_reducible repeat (first | refine blk_drewN ?_ _ | refine blk_drew ?_ | refine blk_alloc ?_ _)); refine blk_put (cs := #[.int .i64 0, .string (⟨#[]⟩ : ByteArray), .string (⟨#[]⟩ : ByteArray), .slice none 0 0]) ?_ 0 _ rfl; (with_reducible repeat (first | refine blk_drewN ?_ _ | refine blk_drew ?_ | refine blk_alloc ?_ _)); exact BK121.out) Tryd.underlying36 rfl (by kernel_rfl)) rfl ?_
            exact ⟨_, by first | rfl | (simp [errW_none, errW_some] <;> rfl) | (simp [*, errW_none, errW_some] <;> rfl), by first | exact Kd.R_nil _ _ _ _ _ | exact Kd.N_nil _ _ _ _ _ | exact Kd.V_nil _ _ _ _ _ | exact Kd.Q_nil _ _ _ _ _ | exact Kd.S_nil _ _ _ _ _, by repeat (first | (with_reducible first | exact HI0.out | apply IsS73.alloc | apply IsS73.drewN | apply IsS73.drew | apply IsS73.set_1 | refine IsS73.far ?_ NB0_121.out _) | exact HI0.out), by repeat (first | (with_reducible first | exact HB.out | apply below_alloc | apply pw_below_drewN | apply below_drew1 | refine below_set ?_ (IsS73.ge HI0.out) | refine below_set ?_ GE121.out) | exact HB.out), by repeat (first | (with_reducible first | exact HK.out | apply KeepBut.set_ | apply keep_drewN | apply keep_drew | apply keep_alloc | refine keep_far ?_ GW121.out _) | exact HK.out)⟩
          · replace c10 := Bool.eq_false_iff.mpr c10
            subst c10
            have H1 : (if t122 = 2 then ((magpieref06_Source_Text.f s0_0 t123).bind fun bt126 => (some (4, (⟨#[]⟩ : ByteArray), bt126.1, ([] : List (S36)), bt126.2))) else (if t122 = 3 then ((some (([(⟨#[107]⟩ : ByteArray), (⟨#[97]⟩ : ByteArray), (⟨#[105, 100]⟩ : ByteArray)] : List ByteArray) : List ByteArray)).bind fun y128 => ((magpieref06_Source_Next.f s0_0 t123 3).bind fun bt131 => (if 0 ≤ bt131.1 then (if bt131.1 < (y128.length : Int) then ((magpieref06_Source_Text.f s0_0 bt131.2).bind fun bt134 => (some (5, rdOf ByteArray.empty y128 bt131.1, bt134.1, ([] : List (S36)), bt134.2))) else (none)) else (none)))) else (if t122 = 4 then ((magpieref06_Source_Next.f s0_0 t123 2).bind fun bt136 => (some (wrap64 (1 + bt136.1), (⟨#[]⟩ : ByteArray), (⟨#[]⟩ : ByteArray), ([] : List (S36)), bt136.2))) else (if t122 = 5 then ((magpieref06_Source_Make.f kj6 s0_0 t123 (wrap64 (a1 - 1))).bind fun bt138 => (some (6, (⟨#[]⟩ : ByteArray), (⟨#[]⟩ : ByteArray), (([(⟨bt138.1, bt138.2.1, bt138.2.2.1, bt138.2.2.2.1⟩ : S36)] : List (S36))), bt138.2.2.2.2))) else ((magpieref06_Source_Next.f s0_0 t123 2).bind fun bt148 => ((magpieref06_Source_Next.f s0_0 bt148.2 2).bind fun bt151 => (magpieref06_Source_Make.l0 kj6 a1 (wrap64 (2 + bt151.1)) s0_0 bt151.2 (wrap64 (7 + bt148.1)) (⟨#[]⟩ : ByteArray) (⟨#[]⟩ : ByteArray) ([] : List (S36))))))))) = some (r1, r2, r3, r4, r5) := by rw [if_neg (show ¬ (false = true) by decide)] at H; exact H
            clear H
            have H := H1
            clear H1
            by_cases c15 : t122 = 2
            · rw [if_pos c15] at H
              have c15b0 : (t122 == 2) = true := beq_iff_eq.mpr c15
              have c15b1 : (t122 != 2) = false := bne_eq_false_iff_eq.mpr c15
              clear c15
              replace H := Option.bind_eq_some_iff.mp H
              obtain ⟨⟨t126, t127⟩, A160, H⟩ := H
              replace H : (some (4, (⟨#[]⟩ : ByteArray), t126, ([] : List (S36)), t127)) = some (r1, r2, r3, r4, r5) := H
              have A16 := Aside0.mk A160
              clear A160
              simp only [Option.some.injEq, Prod.mk.injEq] at H
              obtain ⟨rfl, rfl, rfl, rfl, rfl⟩ := H
              go_wp2_with (first | ((with_reducible refine gate_callee (f := 70) rfl ?_); refine goesL_ (some 22) rfl rfl Tryd.func70 (by kernel_rfl) rfl #[.pointer (some ⟨g, 0, none⟩)] rfl (by (try simp only [List.map_toArray, List.map_cons, List.map_nil]); first | done | rfl | (simp only [List.length_drop, List.length_take]; rfl)) ?_; (with_reducible refine (magpieref06_Source_Text.calls g s0_0 t123 t126 t127 w0 _ ?side1 ?side2 A16.out).mono ?_); (case side1 => repeat (first | (with_reducible first | exact HI0.out | apply IsS73.alloc | apply IsS73.drewN | apply IsS73.drew | apply IsS73.set_1 | refine IsS73.far ?_ NB0_121.out _) | exact HI0.out)); (case side2 => repeat (first | (with_reducible first | exact HB.out | apply below_alloc | apply pw_below_drewN | apply below_drew1 | refine below_set ?_ (IsS73.ge HI0.out) | refine below_set ?_ GE121.out) | exact HB.out)); rintro e w17 ⟨rfl, hi, hb, hk⟩; refine ⟨_, rfl, ?_⟩; have n0_ := Aside0.mk (KeepBut.blk hk (g' := gb121) (o := .cells #[.int .i64 0, .string (⟨#[]⟩ : ByteArray), .string (⟨#[]⟩ : ByteArray), .slice none 0 0] 36 (0, 0)) (by (with_reducible repeat (first | refine blk_drewN ?_ _ | refine blk_drew ?_ | refine blk_alloc ?_ _)); exact BK121.out) NB121_0.out (by simp)); have n1_ := Aside0.mk (KeepBut.trans (by repeat (first | (with_reducible first | exact HK.out | apply KeepBut.set_ | apply keep_drewN | apply keep_drew | apply keep_alloc | refine keep_far ?_ GW121.out _) | exact HK.out)) hk (.inl rfl)); have n2_ := Aside0.mk (hb); have n3_ := Aside0.mk (hi); clear BK121; clear HK; clear HB; clear HI0; have BK121 := n0_; have HK := n1_; have HB := n2_; have HI0 := n3_; clear n0_ n1_ n2_ n3_; (try clear hb); (try clear hb2); (try clear hk); (try clear hi); have hnb18 := NB121_0.out; have hnc18 := NB0_121.out; have hcz19_0 : w17.cell? ⟨gb121, 0, none⟩ = some (.int .i64 0) := (blk_cell BK121.out 0).trans rfl; have hcz19_1 : w17.cell? ⟨gb121, 1, none⟩ = some (.string (⟨#[]⟩ : ByteArray)) := (blk_cell BK121.out 1).trans rfl; have hcz19_2 : w17.cell? ⟨gb121, 2, none⟩ = some (.string (⟨#[]⟩ : ByteArray)) := (blk_cell BK121.out 2).trans rfl; have hcz19_3 : w17.cell? ⟨gb121, 3, none⟩ = some (.slice none 0 0) := (blk_cell BK121.out 3).trans rfl; have hfz19_0 := blk_frozen BK121.out 0; have hfz19_1 := blk_frozen BK121.out 1; have hfz19_2 := blk_frozen BK121.out 2; have hfz19_3 := blk_frozen BK121.out 3))
              refine bodyPost_ret (results_cell_row rfl _ _ gb121 36 #[.int .i64 4, .string (⟨#[]⟩ : ByteArray), .string t126, .slice none 0 0] (0, 0) _ rfl (by (with_reducible repeat (first | refine blk_drewN ?_ _ | refine blk_drew ?_ | refine blk_alloc ?_ _)); refine blk_put (cs := #[.int .i64 4, .string (⟨#[]⟩ : ByteArray), .string t126, .slice none 0 0]) ?_ 3 _ rfl; (with_reducible repeat (first | refine blk_drewN ?_ _ | refine blk_drew ?_ | refine blk_alloc ?_ _)); refine blk_put (cs := #[.int .i64 4, .string (⟨#[]⟩ : ByteArray), .string (⟨#[]⟩ : ByteArray), .slice none 0 0]) ?_ 2 _ rfl; (with_reducible repeat (first | refine blk_drewN ?_ _ | refine blk_drew ?_ | refine blk_alloc ?_ _)); refine blk_put (cs := #[.int .i64 4, .string (⟨#[]⟩ : ByteArray), .string (⟨#[]⟩ : ByteArray), .slice none 0 0]) ?_ 1 _ rfl; (with_reducible repeat (first | refine blk_drewN ?_ _ | refine blk_drew ?_ | refine blk_alloc ?_ _)); refine blk_put (cs := #[.int .i64 0, .string (⟨#[]⟩ : ByteArray), .string (⟨#[]⟩ : ByteArray), .slice none 0 0]) ?_ 0 _ rfl; (with_reducible repeat (first | refine blk_drewN ?_ _ | refine blk_drew ?_ | refine blk_alloc ?_ _)); exact BK121.out) Tryd.underlying36 rfl (by kernel_rfl)) rfl ?_
              exact ⟨_, by first | rfl | (simp [errW_none, errW_some] <;> rfl) | (simp [*, errW_none, errW_some] <;> rfl), by first | exact Kd.R_nil _ _ _ _ _ | exact Kd.N_nil _ _ _ _ _ | exact Kd.V_nil _ _ _ _ _ | exact Kd.Q_nil _ _ _ _ _ | exact Kd.S_nil _ _ _ _ _, by repeat (first | (with_reducible first | exact HI0.out | apply IsS73.alloc | apply IsS73.drewN | apply IsS73.drew | apply IsS73.set_1 | refine IsS73.far ?_ NB0_121.out _) | exact HI0.out), by repeat (first | (with_reducible first | exact HB.out | apply below_alloc | apply pw_below_drewN | apply below_drew1 | refine below_set ?_ (IsS73.ge HI0.out) | refine below_set ?_ GE121.out) | exact HB.out), by repeat (first | (with_reducible first | exact HK.out | apply KeepBut.set_ | apply keep_drewN | apply keep_drew | apply keep_alloc | refine keep_far ?_ GW121.out _) | exact HK.out)⟩
            · rw [if_neg c15] at H
              have c15b0 : (t122 == 2) = false := beq_eq_false_iff_ne.mpr c15
              have c15b1 : (t122 != 2) = true := bne_iff_ne.mpr c15
              by_cases c20 : t122 = 3
              · rw [if_pos c20] at H
                have c20b0 : (t122 == 3) = true := beq_iff_eq.mpr c20
                have c20b1 : (t122 != 3) = false := bne_eq_false_iff_eq.mpr c20
                clear c20
                obtain ⟨y128, hy128⟩ : ∃ y_ : List ByteArray, y_ = (([(⟨#[107]⟩ : ByteArray), (⟨#[97]⟩ : ByteArray), (⟨#[105, 100]⟩ : ByteArray)] : List ByteArray)) := ⟨_, rfl⟩
                replace H : ((magpieref06_Source_Next.f s0_0 t123 3).bind fun bt131 => (if 0 ≤ bt131.1 then (if bt131.1 < (y128.length : Int) then ((magpieref06_Source_Text.f s0_0 bt131.2).bind fun bt134 => (some (5, rdOf ByteArray.empty y128 bt131.1, bt134.1, ([] : List (S36)), bt134.2))) else (none)) else (none))) = some (r1, r2, r3, r4, r5) := by first | (rw [hy128]; with_reducible exact H) | (have H2_ := (Option.bind_some _ _).symm.trans H; rw [hy128]; with_reducible exact H2_) | (have H2_ := (Option.bind_some _ _).symm.trans H; with_reducible exact H2_) | with_reducible exact H | (rw [hy128]; exact H) | exact H
                have Ny128 := Aside0.mk hy128
                clear hy128
                replace H := Option.bind_eq_some_iff.mp H
                obtain ⟨⟨t131, t132⟩, A210, H⟩ := H
                replace H : (if 0 ≤ t131 then (if t131 < (y128.length : Int) then ((magpieref06_Source_Text.f s0_0 t132).bind fun bt134 => (some (5, rdOf ByteArray.empty y128 t131, bt134.1, ([] : List (S36)), bt134.2))) else (none)) else (none)) = some (r1, r2, r3, r4, r5) := H
                have A21 := Aside0.mk A210
                clear A210
                by_cases c22 : 0 ≤ t131
                · rw [if_pos c22] at H
                  have c22b0 : decide (0 ≤ t131) = true := decide_eq_true c22
                  clear c22
                  by_cases c23 : t131 < (y128.length : Int)
                  · rw [if_pos c23] at H
                    have c23b0 : decide (t131 < (y128.length : Int)) = true := decide_eq_true c23
                    clear c23
                    replace H := Option.bind_eq_some_iff.mp H
                    obtain ⟨⟨t134, t135⟩, A240, H⟩ := H
                    replace H : (some (5, rdOf ByteArray.empty y128 t131, t134, ([] : List (S36)), t135)) = some (r1, r2, r3, r4, r5) := H
                    have A24 := Aside0.mk A240
                    clear A240
                    simp only [Option.some.injEq, Prod.mk.injEq] at H
                    obtain ⟨rfl, rfl, rfl, rfl, rfl⟩ := H
                    try go_wp2
                    have pi133 : (0 ≤ (t131 : Int)) = True := eq_true (of_decide_eq_true (by first | (with_reducible assumption) | assumption))
                    have qi133 : (t131 < (y128.length : Int)) = True := eq_true (of_decide_eq_true (by first | (with_reducible assumption) | assumption))
                    have n0_ := Aside0.mk (blk_drew BK121.out)
                    have n1_ := Aside0.mk (IsS73.drew HI0.out)
                    have n2_ := Aside0.mk (keep_drew HK.out)
                    have n3_ := Aside0.mk (below_drew1 HB.out)
                    clear BK121
                    clear HI0
                    clear HK
                    clear HB
                    have BK121 := n0_
                    have HI0 := n1_
                    have HK := n2_
                    have HB := n3_
                    clear n0_ n1_ n2_ n3_
                    refine start_ (n := 9) (S := fun w' => True) (ds := []) #[false, false, false, false, false, false, false, false, false] (by kernel_rfl) rfl rfl trivial (fun hHeld => ?_); refine with_tabW magpieref06_Source_Make.tab11 magpieref06_Source_Make.bits11 (fun HT_ HW_ => ?_)
                    generalize wc.drew = w25 at BK121 HI0 HK HB hHeld ⊢
                    refine pure_ (i := 1) (N := some 27) (v := ?_) (a' := ?_) #[false, true, false, false, false, false, false, false, false] rfl rfl (any_of HT_.out (by kernel_rfl)) (fun _ _ _ h => h) (Or.inl ⟨by rfl, ?_⟩) ?_ ?_
                    rotate_left
                    · intro w'
                      go_simp
                      with_reducible rfl
                    rotate_left
                    · simp only [Act.put, List.setIfInBounds_toArray, List.set_cons_zero, List.set_cons_succ, i64_w, i32_w]
                      rfl
                    refine pure_ (i := 5) (N := some 31) (v := ?_) (a' := ?_) #[false, true, false, false, false, true, false, false, false] rfl rfl (any_of HT_.out (by kernel_rfl)) (fun _ _ _ h => h) (Or.inl ⟨by rfl, ?_⟩) ?_ ?_
                    rotate_left
                    · intro w'
                      go_simp
                      with_reducible rfl
                    rotate_left
                    · simp only [Act.put, List.setIfInBounds_toArray, List.set_cons_zero, List.set_cons_succ, i64_w, i32_w]
                      rfl
                    refine inv_at [0, 2, 3, 4, 6, 7, 8] (fun a0_ b a w' => ∃ (v129 : Value) (adz_v129 : Addr) (m3_ : Value), a = putSel a0_ b [(0, 26, v129), (2, 28, .int .i64 t131), (3, 29, m3_), (4, 30, .string (rdOf ByteArray.empty y128 t131)), (6, 32, .string t134), (7, 33, .agg #[.int .i64 5, .string (rdOf ByteArray.empty y128 t131), .string t134, .slice none 0 0])] ∧ (b 8 = false → w'.heap[gb121]? = some (.cells #[.int .i64 0, .string (⟨#[]⟩ : ByteArray), .string (⟨#[]⟩ : ByteArray), .slice none 0 0] 36 (0, 0))) ∧ (b 2 = false → IsS73 w0 w' g s0_0 t123) ∧ (KeepBut w w' g none) ∧ (Below w0.heap.size w0 w') ∧ (b 0 = true → Kd.R Kd.string 9 w' w.heap.size (fun k_ => (w.heap.size ≤ k_)) v129 y128) ∧ (b 0 = true → ∃ c_, (v129 : Value) = .slice (some adz_v129) y128.length c_) ∧ (b 2 = true → b 6 = false → IsS73 w0 w' g s0_0 t132) ∧ (b 6 = true → IsS73 w0 w' g s0_0 t135) ∧ (b 8 = true → w'.heap[gb121]? = some (.cells #[.int .i64 5, .string (rdOf ByteArray.empty y128 t131), .string t134, .slice none 0 0] 36 (0, 0))) ∧ (b 3 = true → (m3_ : Value) = .pointer (some (adz_v129.add (t131).toNat)))) HT_.out HW_.out (by kernel_rfl) (by kernel_rfl) ?_ ?_ ?_
                    · exact ⟨.bool false, ⟨0, 0, none⟩, .bool false, by simp only [putSel, Bool.false_eq_true, if_false], fun _ => BK121.out, fun _ => HI0.out, HK.out, HB.out, fun h_ => absurd h_ (by decide), fun h_ => absurd h_ (by decide), fun h_ => absurd h_ (by decide), fun h_ => absurd h_ (by decide), fun h_ => absurd h_ (by decide), fun h_ => absurd h_ (by decide)⟩
                    · skip
                      clear BK121 HB HI0 HK
                      refine steps_cons ?_ ?_
                      · rintro b a w' ⟨v129, adz_v129, m3_, ha, Q_BK121, Q_HI0, Q_HK, Q_HB, Q_HO130, Q_HA_HO130, Q_HI0_e2, Q_HI0_e6, Q_BK121_e8, Q_X3_⟩ hb_ hon hoff
                        refine ⟨_, rfl, fun K hK => ?_⟩
                        replace ha := Aside0.mk ha
                        have BK121 := Aside0.mk (Q_BK121 (hoff 8 (by kernel_rfl)))
                        have HK := Aside0.mk Q_HK
                        have HB := Aside0.mk Q_HB
                        refine Kd.R_lit_step Kd.string _ 9 ?hg (N := 26) ?hd (xs := ([(⟨#[107]⟩ : ByteArray), (⟨#[97]⟩ : ByteArray), (⟨#[105, 100]⟩ : ByteArray)] : List ByteArray)) (inner := [.string (⟨#[107]⟩ : ByteArray), .string (⟨#[97]⟩ : ByteArray), .string (⟨#[105, 100]⟩ : ByteArray)]) (ok := fun _ => True) (okp := fun _ => True) ?hr ?hp (fun _ hk => hk) trivial (Below.refl _ _) (Nat.le_refl _) (by simp) ?_; (case hd => rfl); (case hg => rfl); (case hr => first | (go_simp; done) | (go_simp; rfl)); (case hp => exact (Reps.one (show Kd.M Kd.string _ _ _ (⟨#[107]⟩ : ByteArray) [.string (⟨#[107]⟩ : ByteArray)] from rfl) (Reps.one (show Kd.M Kd.string _ _ _ (⟨#[97]⟩ : ByteArray) [.string (⟨#[97]⟩ : ByteArray)] from rfl) (Reps.one (show Kd.M Kd.string _ _ _ (⟨#[105, 100]⟩ : ByteArray) [.string (⟨#[105, 100]⟩ : ByteArray)] from rfl) (Reps.none _ _)))))
                        intro v129 w26 ho27 hb hg_ hnew_
                        clear hg_ hnew_
                        (first | rw [← Ny128.out] at ho27 | (simp only [Int.reduceToNat] at ho27; rw [← Ny128.out] at ho27))
                        have n0_ := Aside0.mk (Kd.R_lower (Kd.R_newM (M := fun k_ => (w.heap.size ≤ k_)) ho27 (keep_size (w := w) (g := g) (row := none) (by repeat (first | (with_reducible first | exact HK.out | apply KeepBut.set_ | apply keep_drewN | apply keep_drew | apply keep_alloc | refine keep_far ?_ GW121.out _) | exact HK.out))) (fun k_ h_ => h_)) (keep_size (w := w) (g := g) (row := none) (by repeat (first | (with_reducible first | exact HK.out | apply KeepBut.set_ | apply keep_drewN | apply keep_drew | apply keep_alloc | refine keep_far ?_ GW121.out _) | exact HK.out))))
                        have n1_ := Aside0.mk (blk_below (g := gb121) (o := .cells #[.int .i64 0, .string (⟨#[]⟩ : ByteArray), .string (⟨#[]⟩ : ByteArray), .slice none 0 0] 36 (0, 0)) (by (with_reducible repeat (first | refine blk_drewN ?_ _ | refine blk_drew ?_ | refine blk_alloc ?_ _)); exact BK121.out) hb)
                        have n3_ := Aside0.mk (KeepBut.trans (by repeat (first | (with_reducible first | exact HK.out | apply KeepBut.set_ | apply keep_drewN | apply keep_drew | apply keep_alloc | refine keep_far ?_ GW121.out _) | exact HK.out)) (KeepBut.of_below hb g none) (.inl rfl))
                        have n4_ := Aside0.mk (below_step (by repeat (first | (with_reducible first | exact HB.out | apply below_alloc | apply pw_below_drewN | apply below_drew1 | refine below_set ?_ GE121.out) | exact HB.out)) hb)
                        have z_HI0 := fun (h0_ : b 2 = false) => (show IsS73 w0 w26 g s0_0 t123 from by first | exact (IsS73.below (by repeat (first | (with_reducible first | exact (Q_HI0 h0_) | apply IsS73.alloc | apply IsS73.drewN | apply IsS73.drew | apply IsS73.set_1 | refine IsS73.far ?_ NB0_121.out _) | exact (Q_HI0 h0_))) hb))
                        have z_HI0_e2 := fun (h0_ : b 2 = true) (h1_ : b 6 = false) => (show IsS73 w0 w26 g s0_0 t132 from by first | exact (IsS73.below (by repeat (first | (with_reducible first | exact (Q_HI0_e2 h0_ h1_) | apply IsS73.alloc | apply IsS73.drewN | apply IsS73.drew | apply IsS73.set_1 | refine IsS73.far ?_ NB0_121.out _) | exact (Q_HI0_e2 h0_ h1_))) hb))
                        have z_HI0_e6 := fun (h0_ : b 6 = true) => (show IsS73 w0 w26 g s0_0 t135 from by first | exact (IsS73.below (by repeat (first | (with_reducible first | exact (Q_HI0_e6 h0_) | apply IsS73.alloc | apply IsS73.drewN | apply IsS73.drew | apply IsS73.set_1 | refine IsS73.far ?_ NB0_121.out _) | exact (Q_HI0_e6 h0_))) hb))
                        clear BK121
                        clear HK
                        clear HB
                        have HO130 := n0_
                        have BK121 := n1_
                        have HK := n3_
                        have HB := n4_
                        clear n0_ n1_ n3_ n4_
                        clear hb ho27
                        obtain ⟨Ao28, co28, eo28⟩ := Kd.R_slice HO130.out
                        subst eo28
                        obtain ⟨ado28, fo28, _⟩ := Kd.at_string (Kd.R_reads' HO130.out).2.2 0 (by decide) (by rw [Ny128.out]; simp)
                        cases fo28
                        refine hK.out _ _ ⟨.slice (some ado28) y128.length co28, ado28, m3_, (by rw [ha.out]; exact putSel_upk 0 hb_ rfl rfl rfl), fun _ => (by (with_reducible repeat (first | refine blk_drewN ?_ _ | refine blk_drew ?_ | refine blk_alloc ?_ _)); exact BK121.out), z_HI0, (by repeat (first | (with_reducible first | exact HK.out | apply KeepBut.set_ | apply keep_drewN | apply keep_drew | apply keep_alloc | refine keep_far ?_ GW121.out _) | exact HK.out)), (by repeat (first | (with_reducible first | exact HB.out | apply below_alloc | apply pw_below_drewN | apply below_drew1 | refine below_set ?_ GE121.out) | exact HB.out)), fun _ => (by (with_reducible repeat (first | apply Kd.R_alloc | apply Kd.R_drewN | apply Kd.R_drew)); exact Kd.R_mono HO130.out (fun _ hk => hk.1)), fun _ => ⟨_, rfl⟩, z_HI0_e2, z_HI0_e6, fun h0_ => absurd ((hoff 8 (by kernel_rfl)).symm.trans h0_) (by decide), fun h0_ => absurd ((hoff 3 (by kernel_rfl)).symm.trans h0_) (by decide)⟩
                      refine steps_cons ?_ ?_
                      · rintro b a w' ⟨v129, adz_v129, m3_, ha, Q_BK121, Q_HI0, Q_HK, Q_HB, Q_HO130, Q_HA_HO130, Q_HI0_e2, Q_HI0_e6, Q_BK121_e8, Q_X3_⟩ hb_ hon hoff
                        refine ⟨_, rfl, fun K hK => ?_⟩
                        have e27 : a.tmps[27]? = some (.pointer (some ⟨g, 0, none⟩)) := by rw [ha]; exact (putSel_off rfl).trans rfl
                        replace ha := Aside0.mk ha
                        have BK121 := Aside0.mk (Q_BK121 (hoff 8 (by kernel_rfl)))
                        have HI0 := Aside0.mk (Q_HI0 hb_)
                        have HK := Aside0.mk Q_HK
                        have HB := Aside0.mk Q_HB
                        refine goes_ Tryd.func55 (by kernel_rfl) rfl #[.pointer (some ⟨g, 0, none⟩), .int .i64 3] (by rfl) rfl rfl (by first | (simp only [List.map_toArray, List.map_cons, List.map_nil, Act.eval, Array.getD_eq_getD_getElem?, Option.getD_some, e27]; done) | (simp only [List.map_toArray, List.map_cons, List.map_nil, Act.eval, Array.getD_eq_getD_getElem?, Option.getD_some, e27]; rfl)) ?_
                        with_reducible refine (magpieref06_Source_Next.calls g s0_0 t123 3 t131 t132 w0 _ ?side1 ?side2 A21.out).mono ?_
                        (case side1 => repeat (first | (with_reducible first | exact HI0.out | apply IsS73.alloc | apply IsS73.drewN | apply IsS73.drew | apply IsS73.set_1 | refine IsS73.far ?_ NB0_121.out _) | exact HI0.out))
                        (case side2 => repeat (first | (with_reducible first | exact HB.out | apply below_alloc | apply pw_below_drewN | apply below_drew1 | refine below_set ?_ (IsS73.ge HI0.out) | refine below_set ?_ GE121.out) | exact HB.out))
                        rintro e w26 ⟨rfl, hi, hb, hk⟩
                        refine ⟨_, rfl, ?_⟩
                        have n0_ := Aside0.mk (KeepBut.blk hk (g' := gb121) (o := .cells #[.int .i64 0, .string (⟨#[]⟩ : ByteArray), .string (⟨#[]⟩ : ByteArray), .slice none 0 0] 36 (0, 0)) (by (with_reducible repeat (first | refine blk_drewN ?_ _ | refine blk_drew ?_ | refine blk_alloc ?_ _)); exact BK121.out) NB121_0.out (by simp))
                        have n1_ := Aside0.mk (KeepBut.trans (by repeat (first | (with_reducible first | exact HK.out | apply KeepBut.set_ | apply keep_drewN | apply keep_drew | apply keep_alloc | refine keep_far ?_ GW121.out _) | exact HK.out)) hk (.inl rfl))
                        have n2_ := Aside0.mk (hb)
                        have n3_ := Aside0.mk (hi)
                        have z_HO130 := fun (h0_ : b 0 = true) => (show Kd.R Kd.string 9 w26 w.heap.size (fun k_ => (w.heap.size ≤ k_)) v129 y128 from by first | exact (Kd.R_mono (Kd.R_keep (IsS73.apart (show IsS73 w0 _ g s0_0 t123 from by repeat (first | (with_reducible first | exact HI0.out | apply IsS73.alloc | apply IsS73.drewN | apply IsS73.drew | apply IsS73.set_1 | refine IsS73.far ?_ NB0_121.out _) | exact HI0.out)) (by (with_reducible repeat (first | apply Kd.R_alloc | apply Kd.R_drewN | apply Kd.R_drew)); exact (Q_HO130 h0_)) (by decide)) hk (fun _ h => h.2)) (fun _ h => h.1)) | exact Kd.R_mono (Kd.R_mono (Kd.R_keep (IsS73.apart (show IsS73 w0 _ g s0_0 t123 from by repeat (first | (with_reducible first | exact HI0.out | apply IsS73.alloc | apply IsS73.drewN | apply IsS73.drew | apply IsS73.set_1 | refine IsS73.far ?_ NB0_121.out _) | exact HI0.out)) (by (with_reducible repeat (first | apply Kd.R_alloc | apply Kd.R_drewN | apply Kd.R_drew)); exact (Q_HO130 h0_)) (by decide)) hk (fun _ h => h.2)) (fun _ h => h.1)) (fun _ h_ => by first | trivial | exact h_ | exact h_.1))
                        clear BK121
                        clear HK
                        clear HB
                        clear HI0
                        have BK121 := n0_
                        have HK := n1_
                        have HB := n2_
                        have HI0 := n3_
                        clear n0_ n1_ n2_ n3_
                        (try clear hb)
                        (try clear hb2)
                        (try clear hk)
                        (try clear hi)
                        refine hK.out _ _ ⟨v129, adz_v129, m3_, (by rw [ha.out]; exact putSel_upk 1 hb_ rfl rfl rfl), fun _ => (by (with_reducible repeat (first | refine blk_drewN ?_ _ | refine blk_drew ?_ | refine blk_alloc ?_ _)); exact BK121.out), fun h0_ => absurd ((up_self b 2).symm.trans h0_) (by decide), (by repeat (first | (with_reducible first | exact HK.out | apply KeepBut.set_ | apply keep_drewN | apply keep_drew | apply keep_alloc | refine keep_far ?_ GW121.out _) | exact HK.out)), (by repeat (first | (with_reducible first | exact HB.out | apply below_alloc | apply pw_below_drewN | apply below_drew1 | refine below_set ?_ (IsS73.ge HI0.out) | refine below_set ?_ GE121.out) | exact HB.out)), z_HO130, Q_HA_HO130, fun _ _ => (by repeat (first | (with_reducible first | exact HI0.out | apply IsS73.alloc | apply IsS73.drewN | apply IsS73.drew | apply IsS73.set_1 | refine IsS73.far ?_ NB0_121.out _) | exact HI0.out)), fun h0_ => absurd ((hoff 6 (by kernel_rfl)).symm.trans h0_) (by decide), fun h0_ => absurd ((hoff 8 (by kernel_rfl)).symm.trans h0_) (by decide), fun h0_ => absurd ((hoff 3 (by kernel_rfl)).symm.trans h0_) (by decide)⟩
                      refine steps_cons ?_ ?_
                      · rintro b a w' ⟨v129, adz_v129, m3_, ha, Q_BK121, Q_HI0, Q_HK, Q_HB, Q_HO130, Q_HA_HO130, Q_HI0_e2, Q_HI0_e6, Q_BK121_e8, Q_X3_⟩ hb_ hon hoff
                        refine ⟨_, rfl, fun K hK => ?_⟩
                        have e26 : a.tmps[26]? = some (v129) := by rw [ha]; exact putSel_on (e := (0, 26, v129)) 0 rfl rfl (hon 0 (by kernel_rfl)) rfl
                        have e28 : a.tmps[28]? = some (.int .i64 t131) := by rw [ha]; exact putSel_on (e := (2, 28, .int .i64 t131)) 1 rfl rfl (hon 2 (by kernel_rfl)) rfl
                        replace ha := Aside0.mk ha
                        have BK121 := Aside0.mk (Q_BK121 (hoff 8 (by kernel_rfl)))
                        have HK := Aside0.mk Q_HK
                        have HB := Aside0.mk Q_HB
                        have HO130 := Aside0.mk (Q_HO130 (hon 0 (by kernel_rfl)))
                        have HA_HO130 := Aside0.mk (Q_HA_HO130 (hon 0 (by kernel_rfl)))
                        obtain ⟨c_, hv_⟩ := HA_HO130.out
                        rw [hv_] at e26
                        refine value_ (w1 := w') (v := .pointer (some (adz_v129.add (t131).toNat))) (by rfl) rfl ?_ ?_
                        · go_simp
                          (try simp only [i64_w])
                          try rfl
                        refine hK.out _ _ ⟨v129, adz_v129, (.pointer (some (adz_v129.add (t131).toNat))), (by rw [ha.out]; exact putSel_upk 2 hb_ rfl rfl rfl), Q_BK121, fun h0_ => absurd ((hon 2 (by kernel_rfl)).symm.trans h0_) (by decide), Q_HK, Q_HB, Q_HO130, Q_HA_HO130, Q_HI0_e2, Q_HI0_e6, fun h0_ => absurd ((hoff 8 (by kernel_rfl)).symm.trans h0_) (by decide), fun _ => rfl⟩
                      refine steps_cons ?_ ?_
                      · rintro b a w' ⟨v129, adz_v129, m3_, ha, Q_BK121, Q_HI0, Q_HK, Q_HB, Q_HO130, Q_HA_HO130, Q_HI0_e2, Q_HI0_e6, Q_BK121_e8, Q_X3_⟩ hb_ hon hoff
                        refine ⟨_, rfl, fun K hK => ?_⟩
                        have e29 : a.tmps[29]? = some (m3_) := by rw [ha]; exact putSel_on (e := (3, 29, m3_)) 2 rfl rfl (hon 3 (by kernel_rfl)) rfl
                        rw [Q_X3_ (hon 3 (by kernel_rfl))] at e29
                        replace ha := Aside0.mk ha
                        have BK121 := Aside0.mk (Q_BK121 (hoff 8 (by kernel_rfl)))
                        have HK := Aside0.mk Q_HK
                        have HB := Aside0.mk Q_HB
                        have HO130 := Aside0.mk (Q_HO130 (hon 0 (by kernel_rfl)))
                        have HA_HO130 := Aside0.mk (Q_HA_HO130 (hon 0 (by kernel_rfl)))
                        obtain ⟨c_, hv_⟩ := HA_HO130.out
                        have hF_ := HO130.out
                        rw [hv_] at hF_
                        obtain ⟨ad_, ea_, hx_⟩ := Kd.at_string (Kd.R_reads' hF_).2.2 t131 (of_eq_true pi133) (of_eq_true qi133)
                        cases ea_
                        refine value_ (w1 := w') (v := .string (rdOf ByteArray.empty y128 t131)) (by rfl) rfl ?_ ?_
                        · go_simp
                          (try simp only [i64_w])
                          try rfl
                        refine hK.out _ _ ⟨v129, adz_v129, m3_, (by rw [ha.out]; exact putSel_upk 3 hb_ rfl rfl rfl), Q_BK121, fun h0_ => absurd ((hon 2 (by kernel_rfl)).symm.trans h0_) (by decide), Q_HK, Q_HB, Q_HO130, Q_HA_HO130, Q_HI0_e2, Q_HI0_e6, fun h0_ => absurd ((hoff 8 (by kernel_rfl)).symm.trans h0_) (by decide), Q_X3_⟩
                      refine steps_cons ?_ ?_
                      · rintro b a w' ⟨v129, adz_v129, m3_, ha, Q_BK121, Q_HI0, Q_HK, Q_HB, Q_HO130, Q_HA_HO130, Q_HI0_e2, Q_HI0_e6, Q_BK121_e8, Q_X3_⟩ hb_ hon hoff
                        refine ⟨_, rfl, fun K hK => ?_⟩
                        have e31 : a.tmps[31]? = some (.pointer (some ⟨g, 0, none⟩)) := by rw [ha]; exact (putSel_off rfl).trans rfl
                        replace ha := Aside0.mk ha
                        have BK121 := Aside0.mk (Q_BK121 (hoff 8 (by kernel_rfl)))
                        have HK := Aside0.mk Q_HK
                        have HB := Aside0.mk Q_HB
                        have HI0 := Aside0.mk (Q_HI0_e2 (hon 2 (by kernel_rfl)) hb_)
                        refine goes_ Tryd.func70 (by kernel_rfl) rfl #[.pointer (some ⟨g, 0, none⟩)] (by rfl) rfl rfl (by first | (simp only [List.map_toArray, List.map_cons, List.map_nil, Act.eval, Array.getD_eq_getD_getElem?, Option.getD_some, e31]; done) | (simp only [List.map_toArray, List.map_cons, List.map_nil, Act.eval, Array.getD_eq_getD_getElem?, Option.getD_some, e31]; rfl)) ?_
                        with_reducible refine (magpieref06_Source_Text.calls g s0_0 t132 t134 t135 w0 _ ?side1 ?side2 A24.out).mono ?_
                        (case side1 => repeat (first | (with_reducible first | exact HI0.out | apply IsS73.alloc | apply IsS73.drewN | apply IsS73.drew | apply IsS73.set_1 | refine IsS73.far ?_ NB0_121.out _) | exact HI0.out))
                        (case side2 => repeat (first | (with_reducible first | exact HB.out | apply below_alloc | apply pw_below_drewN | apply below_drew1 | refine below_set ?_ (IsS73.ge HI0.out) | refine below_set ?_ GE121.out) | exact HB.out))
                        rintro e w28 ⟨rfl, hi, hb, hk⟩
                        refine ⟨_, rfl, ?_⟩
                        have n0_ := Aside0.mk (KeepBut.blk hk (g' := gb121) (o := .cells #[.int .i64 0, .string (⟨#[]⟩ : ByteArray), .string (⟨#[]⟩ : ByteArray), .slice none 0 0] 36 (0, 0)) (by (with_reducible repeat (first | refine blk_drewN ?_ _ | refine blk_drew ?_ | refine blk_alloc ?_ _)); exact BK121.out) NB121_0.out (by simp))
                        have n1_ := Aside0.mk (KeepBut.trans (by repeat (first | (with_reducible first | exact HK.out | apply KeepBut.set_ | apply keep_drewN | apply keep_drew | apply keep_alloc | refine keep_far ?_ GW121.out _) | exact HK.out)) hk (.inl rfl))
                        have n2_ := Aside0.mk (hb)
                        have n3_ := Aside0.mk (hi)
                        have z_HO130 := fun (h0_ : b 0 = true) => (show Kd.R Kd.string 9 w28 w.heap.size (fun k_ => (w.heap.size ≤ k_)) v129 y128 from by first | exact (Kd.R_mono (Kd.R_keep (IsS73.apart (show IsS73 w0 _ g s0_0 t132 from by repeat (first | (with_reducible first | exact HI0.out | apply IsS73.alloc | apply IsS73.drewN | apply IsS73.drew | apply IsS73.set_1 | refine IsS73.far ?_ NB0_121.out _) | exact HI0.out)) (by (with_reducible repeat (first | apply Kd.R_alloc | apply Kd.R_drewN | apply Kd.R_drew)); exact (Q_HO130 h0_)) (by decide)) hk (fun _ h => h.2)) (fun _ h => h.1)) | exact Kd.R_mono (Kd.R_mono (Kd.R_keep (IsS73.apart (show IsS73 w0 _ g s0_0 t132 from by repeat (first | (with_reducible first | exact HI0.out | apply IsS73.alloc | apply IsS73.drewN | apply IsS73.drew | apply IsS73.set_1 | refine IsS73.far ?_ NB0_121.out _) | exact HI0.out)) (by (with_reducible repeat (first | apply Kd.R_alloc | apply Kd.R_drewN | apply Kd.R_drew)); exact (Q_HO130 h0_)) (by decide)) hk (fun _ h => h.2)) (fun _ h => h.1)) (fun _ h_ => by first | trivial | exact h_ | exact h_.1))
                        clear BK121
                        clear HK
                        clear HB
                        clear HI0
                        have BK121 := n0_
                        have HK := n1_
                        have HB := n2_
                        have HI0 := n3_
                        clear n0_ n1_ n2_ n3_
                        (try clear hb)
                        (try clear hb2)
                        (try clear hk)
                        (try clear hi)
                        refine hK.out _ _ ⟨v129, adz_v129, m3_, (by rw [ha.out]; exact putSel_upk 4 hb_ rfl rfl rfl), fun _ => (by (with_reducible repeat (first | refine blk_drewN ?_ _ | refine blk_drew ?_ | refine blk_alloc ?_ _)); exact BK121.out), fun h0_ => absurd ((hon 2 (by kernel_rfl)).symm.trans h0_) (by decide), (by repeat (first | (with_reducible first | exact HK.out | apply KeepBut.set_ | apply keep_drewN | apply keep_drew | apply keep_alloc | refine keep_far ?_ GW121.out _) | exact HK.out)), (by repeat (first | (with_reducible first | exact HB.out | apply below_alloc | apply pw_below_drewN | apply below_drew1 | refine below_set ?_ (IsS73.ge HI0.out) | refine below_set ?_ GE121.out) | exact HB.out)), z_HO130, Q_HA_HO130, fun _ h1_ => absurd ((up_self b 6).symm.trans h1_) (by decide), fun _ => (by repeat (first | (with_reducible first | exact HI0.out | apply IsS73.alloc | apply IsS73.drewN | apply IsS73.drew | apply IsS73.set_1 | refine IsS73.far ?_ NB0_121.out _) | exact HI0.out)), fun h0_ => absurd ((hoff 8 (by kernel_rfl)).symm.trans h0_) (by decide), Q_X3_⟩
                      refine steps_cons ?_ ?_
                      · rintro b a w' ⟨v129, adz_v129, m3_, ha, Q_BK121, Q_HI0, Q_HK, Q_HB, Q_HO130, Q_HA_HO130, Q_HI0_e2, Q_HI0_e6, Q_BK121_e8, Q_X3_⟩ hb_ hon hoff
                        refine ⟨_, rfl, fun K hK => ?_⟩
                        have e30 : a.tmps[30]? = some (.string (rdOf ByteArray.empty y128 t131)) := by rw [ha]; exact putSel_on (e := (4, 30, .string (rdOf ByteArray.empty y128 t131))) 3 rfl rfl (hon 4 (by kernel_rfl)) rfl
                        have e32 : a.tmps[32]? = some (.string t134) := by rw [ha]; exact putSel_on (e := (6, 32, .string t134)) 4 rfl rfl (hon 6 (by kernel_rfl)) rfl
                        replace ha := Aside0.mk ha
                        have BK121 := Aside0.mk (Q_BK121 (hoff 8 (by kernel_rfl)))
                        have HK := Aside0.mk Q_HK
                        have HB := Aside0.mk Q_HB
                        have HO130 := Aside0.mk (Q_HO130 (hon 0 (by kernel_rfl)))
                        have HA_HO130 := Aside0.mk (Q_HA_HO130 (hon 0 (by kernel_rfl)))
                        have HI0 := Aside0.mk (Q_HI0_e6 (hon 6 (by kernel_rfl)))
                        refine value_ (w1 := w') (v := .agg #[.int .i64 5, .string (rdOf ByteArray.empty y128 t131), .string t134, .slice none 0 0]) (by rfl) rfl ?_ ?_
                        · go_simp
                          (try simp only [i64_w])
                          try rfl
                        refine hK.out _ _ ⟨v129, adz_v129, m3_, (by rw [ha.out]; exact putSel_upk 5 hb_ rfl rfl rfl), Q_BK121, fun h0_ => absurd ((hon 2 (by kernel_rfl)).symm.trans h0_) (by decide), Q_HK, Q_HB, Q_HO130, Q_HA_HO130, fun _ h1_ => absurd ((hon 6 (by kernel_rfl)).symm.trans h1_) (by decide), Q_HI0_e6, fun h0_ => absurd ((hoff 8 (by kernel_rfl)).symm.trans h0_) (by decide), Q_X3_⟩
                      refine steps_cons ?_ ?_
                      · rintro b a w' ⟨v129, adz_v129, m3_, ha, Q_BK121, Q_HI0, Q_HK, Q_HB, Q_HO130, Q_HA_HO130, Q_HI0_e2, Q_HI0_e6, Q_BK121_e8, Q_X3_⟩ hb_ hon hoff
                        refine ⟨_, rfl, fun K hK => ?_⟩
                        have e4 : a.tmps[4]? = some (.pointer (some ⟨gb121, 0, none⟩)) := by rw [ha]; exact (putSel_off rfl).trans rfl
                        have e33 : a.tmps[33]? = some (.agg #[.int .i64 5, .string (rdOf ByteArray.empty y128 t131), .string t134, .slice none 0 0]) := by rw [ha]; exact putSel_on (e := (7, 33, .agg #[.int .i64 5, .string (rdOf ByteArray.empty y128 t131), .string t134, .slice none 0 0])) 5 rfl rfl (hon 7 (by kernel_rfl)) rfl
                        replace ha := Aside0.mk ha
                        have BK121 := Aside0.mk (Q_BK121 hb_)
                        have HK := Aside0.mk Q_HK
                        have HB := Aside0.mk Q_HB
                        have HO130 := Aside0.mk (Q_HO130 (hon 0 (by kernel_rfl)))
                        have HA_HO130 := Aside0.mk (Q_HA_HO130 (hon 0 (by kernel_rfl)))
                        have HI0 := Aside0.mk (Q_HI0_e6 (hon 6 (by kernel_rfl)))
                        obtain ⟨co32, eo32⟩ := HA_HO130.out
                        clear HA_HO130
                        subst eo32
                        have hs33 : w'.cell? ⟨gb121, 0, none⟩ = some (.int .i64 0) := (blk_cell BK121.out 0).trans rfl
                        have hfs33 := blk_frozen BK121.out 0
                        have hs34 : w'.cell? ⟨gb121, 1, none⟩ = some (.string (⟨#[]⟩ : ByteArray)) := (blk_cell BK121.out 1).trans rfl
                        have hfs34 := blk_frozen BK121.out 1
                        have hs35 : w'.cell? ⟨gb121, 2, none⟩ = some (.string (⟨#[]⟩ : ByteArray)) := (blk_cell BK121.out 2).trans rfl
                        have hfs35 := blk_frozen BK121.out 2
                        have hs36 : w'.cell? ⟨gb121, 3, none⟩ = some (.slice none 0 0) := (blk_cell BK121.out 3).trans rfl
                        have hfs36 := blk_frozen BK121.out 3
                        refine skip_ (w1 := ?_) (by rfl) rfl ?_ ?_
                        rotate_left
                        · go_simp
                          rfl
                        refine hK.out _ _ ⟨.slice (some adz_v129) y128.length co32, adz_v129, m3_, (by rw [ha.out]; exact putSel_none (v := undef) rfl), fun h0_ => absurd ((up_self b 8).symm.trans h0_) (by decide), fun h0_ => absurd ((hon 2 (by kernel_rfl)).symm.trans h0_) (by decide), (by repeat (first | (with_reducible first | exact HK.out | apply KeepBut.set_ | apply keep_drewN | apply keep_drew | apply keep_alloc | refine keep_far ?_ GW121.out _) | exact HK.out)), (by repeat (first | (with_reducible first | exact HB.out | apply below_alloc | apply pw_below_drewN | apply below_drew1 | refine below_set ?_ (IsS73.ge HI0.out) | refine below_set ?_ GE121.out) | exact HB.out)), fun _ => (by (with_reducible repeat (first | apply Kd.R_alloc | apply Kd.R_drewN | apply Kd.R_drew)); exact Kd.R_mono (Kd.R_far (p := ⟨gb121, 3, none⟩) (Kd.R_far (p := ⟨gb121, 2, none⟩) (Kd.R_far (p := ⟨gb121, 1, none⟩) (Kd.R_far (p := ⟨gb121, 0, none⟩) (Kd.R_types HO130.out BK121.out (by decide)) (fun _ hk => hk.2) (.int .i64 5)) (fun _ hk => hk.2) (.string (rdOf ByteArray.empty y128 t131))) (fun _ hk => hk.2) (.string t134)) (fun _ hk => hk.2) (.slice none 0 0)) (fun _ hk => hk.1)), fun _ => ⟨_, rfl⟩, fun _ h1_ => absurd ((hon 6 (by kernel_rfl)).symm.trans h1_) (by decide), fun _ => (by repeat (first | (with_reducible first | exact HI0.out | apply IsS73.alloc | apply IsS73.drewN | apply IsS73.drew | apply IsS73.set_1 | refine IsS73.far ?_ NB0_121.out _) | exact HI0.out)), fun _ => (by (with_reducible repeat (first | refine blk_drewN ?_ _ | refine blk_drew ?_ | refine blk_alloc ?_ _)); refine blk_put (cs := #[.int .i64 5, .string (rdOf ByteArray.empty y128 t131), .string t134, .slice none 0 0]) ?_ 3 _ rfl; (with_reducible repeat (first | refine blk_drewN ?_ _ | refine blk_drew ?_ | refine blk_alloc ?_ _)); refine blk_put (cs := #[.int .i64 5, .string (rdOf ByteArray.empty y128 t131), .string (⟨#[]⟩ : ByteArray), .slice none 0 0]) ?_ 2 _ rfl; (with_reducible repeat (first | refine blk_drewN ?_ _ | refine blk_drew ?_ | refine blk_alloc ?_ _)); refine blk_put (cs := #[.int .i64 5, .string (⟨#[]⟩ : ByteArray), .string (⟨#[]⟩ : ByteArray), .slice none 0 0]) ?_ 1 _ rfl; (with_reducible repeat (first | refine blk_drewN ?_ _ | refine blk_drew ?_ | refine blk_alloc ?_ _)); refine blk_put (cs := #[.int .i64 0, .string (⟨#[]⟩ : ByteArray), .string (⟨#[]⟩ : ByteArray), .slice none 0 0]) ?_ 0 _ rfl; (with_reducible repeat (first | refine blk_drewN ?_ _ | refine blk_drew ?_ | refine blk_alloc ?_ _)); exact BK121.out), Q_X3_⟩
                      exact steps_nil
                    rintro b a w35 hall ⟨v129, adz_v129, m3_, ha, Q_BK121, Q_HI0, Q_HK, Q_HB, Q_HO130, Q_HA_HO130, Q_HI0_e2, Q_HI0_e6, Q_BK121_e8, Q_X3_⟩
                    clear BK121 HB HI0 HK
                    have hb0_ := hall 0 (by kernel_rfl)
                    have hb2_ := hall 2 (by kernel_rfl)
                    have hb3_ := hall 3 (by kernel_rfl)
                    have hb4_ := hall 4 (by kernel_rfl)
                    have hb6_ := hall 6 (by kernel_rfl)
                    have hb7_ := hall 7 (by kernel_rfl)
                    have hb8_ := hall 8 (by kernel_rfl)
                    subst ha
                    obtain rfl := Q_X3_ hb3_
                    simp only [putSel, hb0_, hb2_, hb3_, hb4_, hb6_, hb7_, hb8_, if_true, Act.put, List.setIfInBounds_toArray, List.set_cons_zero, List.set_cons_succ]
                    clear Q_BK121
                    clear Q_HI0
                    have HK := Aside0.mk Q_HK
                    clear Q_HK
                    have HB := Aside0.mk Q_HB
                    clear Q_HB
                    have HO130 := Aside0.mk (Q_HO130 hb0_)
                    clear Q_HO130
                    have HA_HO130 := Aside0.mk (Q_HA_HO130 hb0_)
                    clear Q_HA_HO130
                    clear Q_HI0_e2
                    have HI0 := Aside0.mk (Q_HI0_e6 hb6_)
                    clear Q_HI0_e6
                    have BK121 := Aside0.mk (Q_BK121_e8 hb8_)
                    clear Q_BK121_e8
                    clear hall hb0_ hb2_ hb3_ hb4_ hb6_ hb7_ hb8_
                    obtain ⟨co36, eo36⟩ := HA_HO130.out
                    clear HA_HO130
                    subst eo36
                    try go_wp2
                    refine bodyPost_ret (results_cell_row rfl _ _ gb121 36 #[.int .i64 5, .string (rdOf ByteArray.empty y128 t131), .string t134, .slice none 0 0] (0, 0) _ rfl (by (with_reducible repeat (first | refine blk_drewN ?_ _ | refine blk_drew ?_ | refine blk_alloc ?_ _)); exact BK121.out) Tryd.underlying36 rfl (by kernel_rfl)) rfl ?_
                    exact ⟨_, by first | rfl | (simp [errW_none, errW_some] <;> rfl) | (simp [*, errW_none, errW_some] <;> rfl), by first | exact Kd.R_nil _ _ _ _ _ | exact Kd.N_nil _ _ _ _ _ | exact Kd.V_nil _ _ _ _ _ | exact Kd.Q_nil _ _ _ _ _ | exact Kd.S_nil _ _ _ _ _, by repeat (first | (with_reducible first | exact HI0.out | apply IsS73.alloc | apply IsS73.drewN | apply IsS73.drew | apply IsS73.set_1 | refine IsS73.far ?_ NB0_121.out _) | exact HI0.out), by repeat (first | (with_reducible first | exact HB.out | apply below_alloc | apply pw_below_drewN | apply below_drew1 | refine below_set ?_ (IsS73.ge HI0.out) | refine below_set ?_ GE121.out) | exact HB.out), by repeat (first | (with_reducible first | exact HK.out | apply KeepBut.set_ | apply keep_drewN | apply keep_drew | apply keep_alloc | refine keep_far ?_ GW121.out _) | exact HK.out)⟩
                  · rw [if_neg c23] at H
                    exact absurd H (by simp)
                · rw [if_neg c22] at H
                  exact absurd H (by simp)
              · rw [if_neg c20] at H
                have c20b0 : (t122 == 3) = false := beq_eq_false_iff_ne.mpr c20
                have c20b1 : (t122 != 3) = true := bne_iff_ne.mpr c20
                by_cases c37 : t122 = 4
                · rw [if_pos c37] at H
                  have c37b0 : (t122 == 4) = true := beq_iff_eq.mpr c37
                  have c37b1 : (t122 != 4) = false := bne_eq_false_iff_eq.mpr c37
                  clear c37
                  replace H := Option.bind_eq_some_iff.mp H
                  obtain ⟨⟨t136, t137⟩, A380, H⟩ := H
                  replace H : (some (wrap64 (1 + t136), (⟨#[]⟩ : ByteArray), (⟨#[]⟩ : ByteArray), ([] : List (S36)), t137)) = some (r1, r2, r3, r4, r5) := H
                  have A38 := Aside0.mk A380
                  clear A380
                  simp only [Option.some.injEq, Prod.mk.injEq] at H
                  obtain ⟨rfl, rfl, rfl, rfl, rfl⟩ := H
                  go_wp2_with (first | ((with_reducible refine gate_callee (f := 55) rfl ?_); refine goesL_ (some 37) rfl rfl Tryd.func55 (by kernel_rfl) rfl #[.pointer (some ⟨g, 0, none⟩), .int .i64 2] rfl (by (try simp only [List.map_toArray, List.map_cons, List.map_nil]); first | done | rfl | (simp only [List.length_drop, List.length_take]; rfl)) ?_; (with_reducible refine (magpieref06_Source_Next.calls g s0_0 t123 2 t136 t137 w0 _ ?side1 ?side2 A38.out).mono ?_); (case side1 => repeat (first | (with_reducible first | exact HI0.out | apply IsS73.alloc | apply IsS73.drewN | apply IsS73.drew | apply IsS73.set_1 | refine IsS73.far ?_ NB0_121.out _) | exact HI0.out)); (case side2 => repeat (first | (with_reducible first | exact HB.out | apply below_alloc | apply pw_below_drewN | apply below_drew1 | refine below_set ?_ (IsS73.ge HI0.out) | refine below_set ?_ GE121.out) | exact HB.out)); rintro e w39 ⟨rfl, hi, hb, hk⟩; refine ⟨_, rfl, ?_⟩; have n0_ := Aside0.mk (KeepBut.blk hk (g' := gb121) (o := .cells #[.int .i64 0, .string (⟨#[]⟩ : ByteArray), .string (⟨#[]⟩ : ByteArray), .slice none 0 0] 36 (0, 0)) (by (with_reducible repeat (first | refine blk_drewN ?_ _ | refine blk_drew ?_ | refine blk_alloc ?_ _)); exact BK121.out) NB121_0.out (by simp)); have n1_ := Aside0.mk (KeepBut.trans (by repeat (first | (with_reducible first | exact HK.out | apply KeepBut.set_ | apply keep_drewN | apply keep_drew | apply keep_alloc | refine keep_far ?_ GW121.out _) | exact HK.out)) hk (.inl rfl)); have n2_ := Aside0.mk (hb); have n3_ := Aside0.mk (hi); clear BK121; clear HK; clear HB; clear HI0; have BK121 := n0_; have HK := n1_; have HB := n2_; have HI0 := n3_; clear n0_ n1_ n2_ n3_; (try clear hb); (try clear hb2); (try clear hk); (try clear hi); have hnb40 := NB121_0.out; have hnc40 := NB0_121.out; have hcz41_0 : w39.cell? ⟨gb121, 0, none⟩ = some (.int .i64 0) := (blk_cell BK121.out 0).trans rfl; have hcz41_1 : w39.cell? ⟨gb121, 1, none⟩ = some (.string (⟨#[]⟩ : ByteArray)) := (blk_cell BK121.out 1).trans rfl; have hcz41_2 : w39.cell? ⟨gb121, 2, none⟩ = some (.string (⟨#[]⟩ : ByteArray)) := (blk_cell BK121.out 2).trans rfl; have hcz41_3 : w39.cell? ⟨gb121, 3, none⟩ = some (.slice none 0 0) := (blk_cell BK121.out 3).trans rfl; have hfz41_0 := blk_frozen BK121.out 0; have hfz41_1 := blk_frozen BK121.out 1; have hfz41_2 := blk_frozen BK121.out 2; have hfz41_3 := blk_frozen BK121.out 3))
                  refine bodyPost_ret (results_cell_row rfl _ _ gb121 36 #[.int .i64 (wrap64 (1 + t136)), .string (⟨#[]⟩ : ByteArray), .string (⟨#[]⟩ : ByteArray), .slice none 0 0] (0, 0) _ rfl (by (with_reducible repeat (first | refine blk_drewN ?_ _ | refine blk_drew ?_ | refine blk_alloc ?_ _)); refine blk_put (cs := #[.int .i64 (wrap64 (1 + t136)), .string (⟨#[]⟩ : ByteArray), .string (⟨#[]⟩ : ByteArray), .slice none 0 0]) ?_ 3 _ rfl; (with_reducible repeat (first | refine blk_drewN ?_ _ | refine blk_drew ?_ | refine blk_alloc ?_ _)); refine blk_put (cs := #[.int .i64 (wrap64 (1 + t136)), .string (⟨#[]⟩ : ByteArray), .string (⟨#[]⟩ : ByteArray), .slice none 0 0]) ?_ 2 _ rfl; (with_reducible repeat (first | refine blk_drewN ?_ _ | refine blk_drew ?_ | refine blk_alloc ?_ _)); refine blk_put (cs := #[.int .i64 (wrap64 (1 + t136)), .string (⟨#[]⟩ : ByteArray), .string (⟨#[]⟩ : ByteArray), .slice none 0 0]) ?_ 1 _ rfl; (with_reducible repeat (first | refine blk_drewN ?_ _ | refine blk_drew ?_ | refine blk_alloc ?_ _)); refine blk_put (cs := #[.int .i64 0, .string (⟨#[]⟩ : ByteArray), .string (⟨#[]⟩ : ByteArray), .slice none 0 0]) ?_ 0 _ rfl; (with_reducible repeat (first | refine blk_drewN ?_ _ | refine blk_drew ?_ | refine blk_alloc ?_ _)); exact BK121.out) Tryd.underlying36 rfl (by kernel_rfl)) rfl ?_
                  exact ⟨_, by first | rfl | (simp [errW_none, errW_some] <;> rfl) | (simp [*, errW_none, errW_some] <;> rfl), by first | exact Kd.R_nil _ _ _ _ _ | exact Kd.N_nil _ _ _ _ _ | exact Kd.V_nil _ _ _ _ _ | exact Kd.Q_nil _ _ _ _ _ | exact Kd.S_nil _ _ _ _ _, by repeat (first | (with_reducible first | exact HI0.out | apply IsS73.alloc | apply IsS73.drewN | apply IsS73.drew | apply IsS73.set_1 | refine IsS73.far ?_ NB0_121.out _) | exact HI0.out), by repeat (first | (with_reducible first | exact HB.out | apply below_alloc | apply pw_below_drewN | apply below_drew1 | refine below_set ?_ (IsS73.ge HI0.out) | refine below_set ?_ GE121.out) | exact HB.out), by repeat (first | (with_reducible first | exact HK.out | apply KeepBut.set_ | apply keep_drewN | apply keep_drew | apply keep_alloc | refine keep_far ?_ GW121.out _) | exact HK.out)⟩
                · rw [if_neg c37] at H
                  have c37b0 : (t122 == 4) = false := beq_eq_false_iff_ne.mpr c37
                  have c37b1 : (t122 != 4) = true := bne_iff_ne.mpr c37
                  by_cases c42 : t122 = 5
                  · rw [if_pos c42] at H
                    have c42b0 : (t122 == 5) = true := beq_iff_eq.mpr c42
                    have c42b1 : (t122 != 5) = false := bne_eq_false_iff_eq.mpr c42
                    clear c42
                    replace H := Option.bind_eq_some_iff.mp H
                    obtain ⟨⟨t138, t139, t140, t141, t144⟩, A430, H⟩ := H
                    replace H : (some (6, (⟨#[]⟩ : ByteArray), (⟨#[]⟩ : ByteArray), (([(⟨t138, t139, t140, t141⟩ : S36)] : List (S36))), t144)) = some (r1, r2, r3, r4, r5) := H
                    have A43 := Aside0.mk A430
                    clear A430
                    obtain ⟨y145, hy145⟩ : ∃ y_ : List (S36), y_ = (([(⟨t138, t139, t140, t141⟩ : S36)] : List (S36))) := ⟨_, rfl⟩
                    replace H : (some (6, (⟨#[]⟩ : ByteArray), (⟨#[]⟩ : ByteArray), y145, t144)) = some (r1, r2, r3, r4, r5) := by first | (rw [hy145]; with_reducible exact H) | (have H2_ := (Option.bind_some _ _).symm.trans H; rw [hy145]; with_reducible exact H2_) | (have H2_ := (Option.bind_some _ _).symm.trans H; with_reducible exact H2_) | with_reducible exact H | (rw [hy145]; exact H) | exact H
                    have Ny145 := Aside0.mk hy145
                    clear hy145
                    simp only [Option.some.injEq, Prod.mk.injEq] at H
                    obtain ⟨rfl, rfl, rfl, rfl, rfl⟩ := H
                    go_wp2_with (first | ((with_reducible refine gate_callee (f := 48) rfl ?_); refine goesL_ (some 45) rfl rfl Tryd.func48 (by kernel_rfl) rfl #[.pointer (some ⟨g, 0, none⟩), .int .i64 (wrap64 (a1 - 1))] rfl (by (try simp only [List.map_toArray, List.map_cons, List.map_nil]); first | done | rfl | (simp only [List.length_drop, List.length_take]; rfl)) ?_; (with_reducible refine (ih kj6 (by have := HJ2.out; have := HJ6.out; omega) g s0_0 t123 (wrap64 (a1 - 1)) t138 t139 t140 t141 t144 w0 _ ?side1 ?side2 A43.out).mono ?_); (case side1 => repeat (first | (with_reducible first | exact HI0.out | apply IsS73.alloc | apply IsS73.drewN | apply IsS73.drew | apply IsS73.set_1 | refine IsS73.far ?_ NB0_121.out _) | exact HI0.out)); (case side2 => repeat (first | (with_reducible first | exact HB.out | apply below_alloc | apply pw_below_drewN | apply below_drew1 | refine below_set ?_ (IsS73.ge HI0.out) | refine below_set ?_ GE121.out) | exact HB.out)); rintro e w44 ⟨v142, rfl, ho0, hi, hb, hk⟩; refine ⟨_, rfl, ?_⟩; have n0_ := Aside0.mk (KeepBut.blk hk (g' := gb121) (o := .cells #[.int .i64 0, .string (⟨#[]⟩ : ByteArray), .string (⟨#[]⟩ : ByteArray), .slice none 0 0] 36 (0, 0)) (by (with_reducible repeat (first | refine blk_drewN ?_ _ | refine blk_drew ?_ | refine blk_alloc ?_ _)); exact BK121.out) NB121_0.out (by simp)); have n1_ := Aside0.mk (Kd.N_lower (Kd.N_mono (ok' := fun k_ => (w.heap.size ≤ k_) ∧ k_ ≠ gb121 ∧ k_ ≠ g) ho0 (fun k_ hk_ => ⟨(Nat.le_trans (keep_size (w := w) (g := g) (row := none) (by repeat (first | (with_reducible first | exact HK.out | apply KeepBut.set_ | apply keep_drewN | apply keep_drew | apply keep_alloc | refine keep_far ?_ GW121.out _) | exact HK.out))) hk_), (Kd.freshB (g := gb121) (o := .cells #[.int .i64 0, .string (⟨#[]⟩ : ByteArray), .string (⟨#[]⟩ : ByteArray), .slice none 0 0] 36 (0, 0)) (by (with_reducible repeat (first | refine blk_drewN ?_ _ | refine blk_drew ?_ | refine blk_alloc ?_ _)); exact BK121.out) k_ hk_), (IsS73.fresh (by repeat (first | (with_reducible first | exact HI0.out | apply IsS73.alloc | apply IsS73.drewN | apply IsS73.drew | apply IsS73.set_1 | refine IsS73.far ?_ NB0_121.out _) | exact HI0.out)) k_ hk_)⟩)) (keep_size (w := w) (g := g) (row := none) (by repeat (first | (with_reducible first | exact HK.out | apply KeepBut.set_ | apply keep_drewN | apply keep_drew | apply keep_alloc | refine keep_far ?_ GW121.out _) | exact HK.out)))); have n2_ := Aside0.mk (KeepBut.trans (by repeat (first | (with_reducible first | exact HK.out | apply KeepBut.set_ | apply keep_drewN | apply keep_drew | apply keep_alloc | refine keep_far ?_ GW121.out _) | exact HK.out)) hk (.inl rfl)); have n3_ := Aside0.mk (hb); have n4_ := Aside0.mk (hi); clear BK121; clear HK; clear HB; clear HI0; have BK121 := n0_; have HO143 := n1_; have HK := n2_; have HB := n3_; have HI0 := n4_; clear n0_ n1_ n2_ n3_ n4_; (try clear hb); (try clear hb2); (try clear hk); (try clear hi); (try clear ho0); obtain ⟨Ao45, co45, eo45⟩ := Kd.N_slice HO143.out; subst eo45) | ((with_reducible refine gate_dst (N := 46) rfl ?_); refine Kd.N_lit k36 _ 36 ?hg (N' := 46) ?hd (xs := ([(⟨t138, t139, t140, t141⟩ : S36)] : List (S36))) (inner := [.int .i64 t138, .string t139, .string t140, .slice Ao45 t141.length co45]) (ok := (fun k_ => (w.heap.size ≤ k_) ∧ k_ ≠ gb121 ∧ k_ ≠ g)) (okp := (fun k_ => (w.heap.size ≤ k_) ∧ k_ ≠ gb121 ∧ k_ ≠ g)) ?hr ?hp (fun _ hk => hk) ((show ∀ k_, w44.heap.size ≤ k_ → (fun k_ => (w.heap.size ≤ k_) ∧ k_ ≠ gb121 ∧ k_ ≠ g) k_ from fun k_ hk => ⟨(Nat.le_trans (keep_size (w := w) (g := g) (row := none) (by repeat (first | (with_reducible first | exact HK.out | apply KeepBut.set_ | apply keep_drewN | apply keep_drew | apply keep_alloc | refine keep_far ?_ GW121.out _) | exact HK.out))) hk), Kd.freshB (g := gb121) (o := .cells #[.int .i64 0, .string (⟨#[]⟩ : ByteArray), .string (⟨#[]⟩ : ByteArray), .slice none 0 0] 36 (0, 0)) (by (with_reducible repeat (first | refine blk_drewN ?_ _ | refine blk_drew ?_ | refine blk_alloc ?_ _)); exact BK121.out) k_ hk, IsS73.fresh (by repeat (first | (with_reducible first | exact HI0.out | apply IsS73.alloc | apply IsS73.drewN | apply IsS73.drew | apply IsS73.set_1 | refine IsS73.far ?_ NB0_121.out _) | exact HI0.out)) k_ hk⟩) _ (Nat.le_refl _)) (Below.refl _ _) (Nat.le_refl _) (by simp) ?_; (case hd => rfl); (case hg => rfl); (case hr => first | (go_simp; done) | (go_simp; rfl)); (case hp => exact (Reps.c4 (show Kd.FK k36 _ _ (⟨t138, t139, t140, t141⟩ : S36) [.int .i64 t138, .string t139, .string t140, .slice Ao45 t141.length co45] from (k36_mkF _ _ (⟨t138, t139, t140, t141⟩ : S36) (Kd.N_reads' (Kd.N_mono (ok' := (fun k_ => (w.heap.size ≤ k_) ∧ k_ ≠ gb121 ∧ k_ ≠ g)) (HO143.out) (fun k_ hk => ⟨hk.1, ⟨hk.2.1, hk.2.2⟩⟩))).2.1 (Kd.N_F (Kd.N_mono (ok' := (fun k_ => (w.heap.size ≤ k_) ∧ k_ ≠ gb121 ∧ k_ ≠ g)) (HO143.out) (fun k_ hk => ⟨hk.1, ⟨hk.2.1, hk.2.2⟩⟩))))) (Reps.none _ _))); intro v146 w46 ho47 hb hg_ hnew_; clear hg_ hnew_; (first | rw [← Ny145.out] at ho47 | (simp only [Int.reduceToNat] at ho47; rw [← Ny145.out] at ho47)); have n0_ := Aside0.mk (Kd.N_lower ho47 (keep_size (w := w) (g := g) (row := none) (by repeat (first | (with_reducible first | exact HK.out | apply KeepBut.set_ | apply keep_drewN | apply keep_drew | apply keep_alloc | refine keep_far ?_ GW121.out _) | exact HK.out)))); have n1_ := Aside0.mk (blk_below (g := gb121) (o := .cells #[.int .i64 0, .string (⟨#[]⟩ : ByteArray), .string (⟨#[]⟩ : ByteArray), .slice none 0 0] 36 (0, 0)) (by (with_reducible repeat (first | refine blk_drewN ?_ _ | refine blk_drew ?_ | refine blk_alloc ?_ _)); exact BK121.out) hb); have n2_ := Aside0.mk (IsS73.below (by repeat (first | (with_reducible first | exact HI0.out | apply IsS73.alloc | apply IsS73.drewN | apply IsS73.drew | apply IsS73.set_1 | refine IsS73.far ?_ NB0_121.out _) | exact HI0.out)) hb); have n3_ := Aside0.mk (KeepBut.trans (by repeat (first | (with_reducible first | exact HK.out | apply KeepBut.set_ | apply keep_drewN | apply keep_drew | apply keep_alloc | refine keep_far ?_ GW121.out _) | exact HK.out)) (KeepBut.of_below hb g none) (.inl rfl)); have n4_ := Aside0.mk (below_step (by repeat (first | (with_reducible first | exact HB.out | apply below_alloc | apply pw_below_drewN | apply below_drew1 | refine below_set ?_ (IsS73.ge HI0.out) | refine below_set ?_ GE121.out) | exact HB.out)) hb); clear BK121; clear HI0; clear HK; clear HB; clear HO143; have HO147 := n0_; have BK121 := n1_; have HI0 := n2_; have HK := n3_; have HB := n4_; clear n0_ n1_ n2_ n3_ n4_; clear hb ho47; obtain ⟨Ao48, co48, eo48⟩ := Kd.N_slice HO147.out; subst eo48; have hnb49 := NB121_0.out; have hnc49 := NB0_121.out; have hcz50_0 : w46.cell? ⟨gb121, 0, none⟩ = some (.int .i64 0) := (blk_cell BK121.out 0).trans rfl; have hcz50_1 : w46.cell? ⟨gb121, 1, none⟩ = some (.string (⟨#[]⟩ : ByteArray)) := (blk_cell BK121.out 1).trans rfl; have hcz50_2 : w46.cell? ⟨gb121, 2, none⟩ = some (.string (⟨#[]⟩ : ByteArray)) := (blk_cell BK121.out 2).trans rfl; have hcz50_3 : w46.cell? ⟨gb121, 3, none⟩ = some (.slice none 0 0) := (blk_cell BK121.out 3).trans rfl; have hfz50_0 := blk_frozen BK121.out 0; have hfz50_1 := blk_frozen BK121.out 1; have hfz50_2 := blk_frozen BK121.out 2; have hfz50_3 := blk_frozen BK121.out 3))
                    refine bodyPost_ret (results_cell_row rfl _ _ gb121 36 #[.int .i64 6, .string (⟨#[]⟩ : ByteArray), .string (⟨#[]⟩ : ByteArray), .slice Ao48 y145.length co48] (0, 0) _ rfl (by (with_reducible repeat (first | refine blk_drewN ?_ _ | refine blk_drew ?_ | refine blk_alloc ?_ _)); refine blk_put (cs := #[.int .i64 6, .string (⟨#[]⟩ : ByteArray), .string (⟨#[]⟩ : ByteArray), .slice none 0 0]) ?_ 3 _ rfl; (with_reducible repeat (first | refine blk_drewN ?_ _ | refine blk_drew ?_ | refine blk_alloc ?_ _)); refine blk_put (cs := #[.int .i64 6, .string (⟨#[]⟩ : ByteArray), .string (⟨#[]⟩ : ByteArray), .slice none 0 0]) ?_ 2 _ rfl; (with_reducible repeat (first | refine blk_drewN ?_ _ | refine blk_drew ?_ | refine blk_alloc ?_ _)); refine blk_put (cs := #[.int .i64 6, .string (⟨#[]⟩ : ByteArray), .string (⟨#[]⟩ : ByteArray), .slice none 0 0]) ?_ 1 _ rfl; (with_reducible repeat (first | refine blk_drewN ?_ _ | refine blk_drew ?_ | refine blk_alloc ?_ _)); refine blk_put (cs := #[.int .i64 0, .string (⟨#[]⟩ : ByteArray), .string (⟨#[]⟩ : ByteArray), .slice none 0 0]) ?_ 0 _ rfl; (with_reducible repeat (first | refine blk_drewN ?_ _ | refine blk_drew ?_ | refine blk_alloc ?_ _)); exact BK121.out) Tryd.underlying36 rfl (by kernel_rfl)) rfl ?_
                    exact ⟨_, by first | rfl | (simp [errW_none, errW_some] <;> rfl) | (simp [*, errW_none, errW_some] <;> rfl), by (with_reducible repeat (first | apply Kd.N_alloc | apply Kd.N_drewN | apply Kd.N_drew)); exact Kd.N_mono (Kd.N_far (p := ⟨gb121, 3, none⟩) (Kd.N_far (p := ⟨gb121, 2, none⟩) (Kd.N_far (p := ⟨gb121, 1, none⟩) (Kd.N_far (p := ⟨gb121, 0, none⟩) (Kd.N_mono HO147.out (fun k_ hk => (⟨hk, hk.2.1⟩ : _ ∧ k_ ≠ gb121))) (fun _ hk => hk.2) (.int .i64 6)) (fun _ hk => hk.2) (.string (⟨#[]⟩ : ByteArray))) (fun _ hk => hk.2) (.string (⟨#[]⟩ : ByteArray))) (fun _ hk => hk.2) (.slice Ao48 y145.length co48)) (fun _ hk => hk.1.1), by repeat (first | (with_reducible first | exact HI0.out | apply IsS73.alloc | apply IsS73.drewN | apply IsS73.drew | apply IsS73.set_1 | refine IsS73.far ?_ NB0_121.out _) | exact HI0.out), by repeat (first | (with_reducible first | exact HB.out | apply below_alloc | apply pw_below_drewN | apply below_drew1 | refine below_set ?_ (IsS73.ge HI0.out) | refine below_set ?_ GE121.out) | exact HB.out), by repeat (first | (with_reducible first | exact HK.out | apply KeepBut.set_ | apply keep_drewN | apply keep_drew | apply keep_alloc | refine keep_far ?_ GW121.out _) | exact HK.out)⟩
                  · rw [if_neg c42] at H
                    have c42b0 : (t122 == 5) = false := beq_eq_false_iff_ne.mpr c42
                    have c42b1 : (t122 != 5) = true := bne_iff_ne.mpr c42
                    replace H := Option.bind_eq_some_iff.mp H
                    obtain ⟨⟨t148, t149⟩, A510, H⟩ := H
                    replace H : ((magpieref06_Source_Next.f s0_0 t149 2).bind fun bt151 => (magpieref06_Source_Make.l0 kj6 a1 (wrap64 (2 + bt151.1)) s0_0 bt151.2 (wrap64 (7 + t148)) (⟨#[]⟩ : ByteArray) (⟨#[]⟩ : ByteArray) ([] : List (S36)))) = some (r1, r2, r3, r4, r5) := H
                    have A51 := Aside0.mk A510
                    clear A510
                    replace H := Option.bind_eq_some_iff.mp H
                    obtain ⟨⟨t151, t152⟩, A520, H⟩ := H
                    replace H : (magpieref06_Source_Make.l0 kj6 a1 (wrap64 (2 + t151)) s0_0 t152 (wrap64 (7 + t148)) (⟨#[]⟩ : ByteArray) (⟨#[]⟩ : ByteArray) ([] : List (S36))) = some (r1, r2, r3, r4, r5) := H
                    have A52 := Aside0.mk A520
                    clear A520
                    have H' := Aside0.mk H
                    clear H
                    go_wp2_with (first | ((with_reducible refine gate_callee (f := 55) rfl ?_); refine goesL_ (some 49) rfl rfl Tryd.func55 (by kernel_rfl) rfl #[.pointer (some ⟨g, 0, none⟩), .int .i64 2] rfl (by (try simp only [List.map_toArray, List.map_cons, List.map_nil]); first | done | rfl | (simp only [List.length_drop, List.length_take]; rfl)) ?_; (with_reducible refine (magpieref06_Source_Next.calls g s0_0 t123 2 t148 t149 w0 _ ?side1 ?side2 A51.out).mono ?_); (case side1 => repeat (first | (with_reducible first | exact HI0.out | apply IsS73.alloc | apply IsS73.drewN | apply IsS73.drew | apply IsS73.set_1 | refine IsS73.far ?_ NB0_121.out _) | exact HI0.out)); (case side2 => repeat (first | (with_reducible first | exact HB.out | apply below_alloc | apply pw_below_drewN | apply below_drew1 | refine below_set ?_ (IsS73.ge HI0.out) | refine below_set ?_ GE121.out) | exact HB.out)); rintro e w53 ⟨rfl, hi, hb, hk⟩; refine ⟨_, rfl, ?_⟩; have n0_ := Aside0.mk (KeepBut.blk hk (g' := gb121) (o := .cells #[.int .i64 0, .string (⟨#[]⟩ : ByteArray), .string (⟨#[]⟩ : ByteArray), .slice none 0 0] 36 (0, 0)) (by (with_reducible repeat (first | refine blk_drewN ?_ _ | refine blk_drew ?_ | refine blk_alloc ?_ _)); exact BK121.out) NB121_0.out (by simp)); have n1_ := Aside0.mk (KeepBut.trans (by repeat (first | (with_reducible first | exact HK.out | apply KeepBut.set_ | apply keep_drewN | apply keep_drew | apply keep_alloc | refine keep_far ?_ GW121.out _) | exact HK.out)) hk (.inl rfl)); have n2_ := Aside0.mk (hb); have n3_ := Aside0.mk (hi); clear BK121; clear HK; clear HB; clear HI0; have BK121 := n0_; have HK := n1_; have HB := n2_; have HI0 := n3_; clear n0_ n1_ n2_ n3_; (try clear hb); (try clear hb2); (try clear hk); (try clear hi)) | ((with_reducible refine gate_dst (N := 6) rfl ?_); refine box_event ?hg (N := 6) ?hd (cs := #[.int .i64 0, .string (⟨#[]⟩ : ByteArray), .string (⟨#[]⟩ : ByteArray), .slice none 0 0]) (t := 36) ?hr ?_; (case hd => rfl); (case hg => rfl); (case hr => first | (go_simp; done) | (go_simp; rfl)); intro gb150 hg w54 hbox hb; have n0_ := Aside0.mk (blk_below (g := gb121) (o := .cells #[.int .i64 0, .string (⟨#[]⟩ : ByteArray), .string (⟨#[]⟩ : ByteArray), .slice none 0 0] 36 (0, 0)) (by (with_reducible repeat (first | refine blk_drewN ?_ _ | refine blk_drew ?_ | refine blk_alloc ?_ _)); exact BK121.out) hb); have n1_ := Aside0.mk (IsS73.below (by repeat (first | (with_reducible first | exact HI0.out | apply IsS73.alloc | apply IsS73.drewN | apply IsS73.drew | apply IsS73.set_1 | refine IsS73.far ?_ NB0_121.out _) | exact HI0.out)) hb); have n2_ := Aside0.mk (KeepBut.trans (by repeat (first | (with_reducible first | exact HK.out | apply KeepBut.set_ | apply keep_drewN | apply keep_drew | apply keep_alloc | refine keep_far ?_ GW121.out _) | exact HK.out)) (KeepBut.of_below hb g none) (.inl rfl)); have n3_ := Aside0.mk (below_step (by repeat (first | (with_reducible first | exact HB.out | apply below_alloc | apply pw_below_drewN | apply below_drew1 | refine below_set ?_ (IsS73.ge HI0.out) | refine below_set ?_ GE121.out) | exact HB.out)) hb); have n4_ := Aside0.mk (hbox); have n5_ := Aside0.mk ((by rw [hg]; exact (keep_size (w := w) (g := g) (row := none) (by repeat (first | (with_reducible first | exact HK.out | apply KeepBut.set_ | apply keep_drewN | apply keep_drew | apply keep_alloc | refine keep_far ?_ GW121.out _) | exact HK.out))) : w.heap.size ≤ gb150)); have n6_ := Aside0.mk ((Nat.le_trans HW0.out (by rw [hg]; exact (keep_size (w := w) (g := g) (row := none) (by repeat (first | (with_reducible first | exact HK.out | apply KeepBut.set_ | apply keep_drewN | apply keep_drew | apply keep_alloc | refine keep_far ?_ GW121.out _) | exact HK.out))) : w.heap.size ≤ gb150) : w0.heap.size ≤ gb150)); have n7_ := Aside0.mk ((by rw [hg]; exact Nat.ne_of_lt (blk_lt (g := gb121) (o := .cells #[.int .i64 0, .string (⟨#[]⟩ : ByteArray), .string (⟨#[]⟩ : ByteArray), .slice none 0 0] 36 (0, 0)) (by (with_reducible repeat (first | refine blk_drewN ?_ _ | refine blk_drew ?_ | refine blk_alloc ?_ _)); exact BK121.out)) : gb121 ≠ gb150)); have n8_ := Aside0.mk ((by rw [hg]; exact Nat.ne_of_gt (blk_lt (g := gb121) (o := .cells #[.int .i64 0, .string (⟨#[]⟩ : ByteArray), .string (⟨#[]⟩ : ByteArray), .slice none 0 0] 36 (0, 0)) (by (with_reducible repeat (first | refine blk_drewN ?_ _ | refine blk_drew ?_ | refine blk_alloc ?_ _)); exact BK121.out)) : gb150 ≠ gb121)); have n9_ := Aside0.mk ((by rw [hg]; exact Nat.ne_of_lt (IsS73.lt (show IsS73 w0 _ g s0_0 t149 from by repeat (first | (with_reducible first | exact HI0.out | apply IsS73.alloc | apply IsS73.drewN | apply IsS73.drew | apply IsS73.set_1 | refine IsS73.far ?_ NB0_121.out _) | exact HI0.out))) : g ≠ gb150)); have n10_ := Aside0.mk ((by rw [hg]; exact Nat.ne_of_gt (IsS73.lt (show IsS73 w0 _ g s0_0 t149 from by repeat (first | (with_reducible first | exact HI0.out | apply IsS73.alloc | apply IsS73.drewN | apply IsS73.drew | apply IsS73.set_1 | refine IsS73.far ?_ NB0_121.out _) | exact HI0.out))) : gb150 ≠ g)); clear BK121; clear HI0; clear HK; clear HB; have BK121 := n0_; have HI0 := n1_; have HK := n2_; have HB := n3_; have BK150 := n4_; have GW150 := n5_; have GE150 := n6_; have NB121_150 := n7_; have NB150_121 := n8_; have NB0_150 := n9_; have NB150_0 := n10_; clear n0_ n1_ n2_ n3_ n4_ n5_ n6_ n7_ n8_ n9_ n10_; clear hb hbox hg; have hnb55 := NB150_121.out; have hnc55 := NB121_150.out; have hnb56 := NB150_0.out; have hnc56 := NB0_150.out; have hcz57_0 : w54.cell? ⟨gb150, 0, none⟩ = some (.int .i64 0) := (blk_cell BK150.out 0).trans rfl; have hcz57_1 : w54.cell? ⟨gb150, 1, none⟩ = some (.string (⟨#[]⟩ : ByteArray)) := (blk_cell BK150.out 1).trans rfl; have hcz57_2 : w54.cell? ⟨gb150, 2, none⟩ = some (.string (⟨#[]⟩ : ByteArray)) := (blk_cell BK150.out 2).trans rfl; have hcz57_3 : w54.cell? ⟨gb150, 3, none⟩ = some (.slice none 0 0) := (blk_cell BK150.out 3).trans rfl; have hfz57_0 := blk_frozen BK150.out 0; have hfz57_1 := blk_frozen BK150.out 1; have hfz57_2 := blk_frozen BK150.out 2; have hfz57_3 := blk_frozen BK150.out 3) | ((with_reducible refine gate_callee (f := 55) rfl ?_); refine goesL_ (some 53) rfl rfl Tryd.func55 (by kernel_rfl) rfl #[.pointer (some ⟨g, 0, none⟩), .int .i64 2] rfl (by (try simp only [List.map_toArray, List.map_cons, List.map_nil]); first | done | rfl | (simp only [List.length_drop, List.length_take]; rfl)) ?_; (with_reducible refine (magpieref06_Source_Next.calls g s0_0 t149 2 t151 t152 w0 _ ?side1 ?side2 A52.out).mono ?_); (case side1 => repeat (first | (with_reducible first | exact HI0.out | apply IsS73.alloc | apply IsS73.drewN | apply IsS73.drew | apply IsS73.set_1 | refine IsS73.far ?_ NB0_121.out _ | refine IsS73.far ?_ NB0_150.out _) | exact HI0.out)); (case side2 => repeat (first | (with_reducible first | exact HB.out | apply below_alloc | apply pw_below_drewN | apply below_drew1 | refine below_set ?_ (IsS73.ge HI0.out) | refine below_set ?_ GE121.out | refine below_set ?_ GE150.out) | exact HB.out)); rintro e w58 ⟨rfl, hi, hb, hk⟩; refine ⟨_, rfl, ?_⟩; have n0_ := Aside0.mk (KeepBut.blk hk (g' := gb121) (o := .cells #[.int .i64 0, .string (⟨#[]⟩ : ByteArray), .string (⟨#[]⟩ : ByteArray), .slice none 0 0] 36 (0, 0)) (by (with_reducible repeat (first | refine blk_drewN ?_ _ | refine blk_drew ?_ | refine blk_alloc ?_ _)); refine blk_far ?_ NB121_150.out _; (with_reducible repeat (first | refine blk_drewN ?_ _ | refine blk_drew ?_ | refine blk_alloc ?_ _)); refine blk_far ?_ NB121_150.out _; (with_reducible repeat (first | refine blk_drewN ?_ _ | refine blk_drew ?_ | refine blk_alloc ?_ _)); refine blk_far ?_ NB121_150.out _; (with_reducible repeat (first | refine blk_drewN ?_ _ | refine blk_drew ?_ | refine blk_alloc ?_ _)); refine blk_far ?_ NB121_150.out _; (with_reducible repeat (first | refine blk_drewN ?_ _ | refine blk_drew ?_ | refine blk_alloc ?_ _)); exact BK121.out) NB121_0.out (by simp)); have n1_ := Aside0.mk (KeepBut.blk hk (g' := gb150) (o := .cells #[.int .i64 (wrap64 (7 + t148)), .string (⟨#[]⟩ : ByteArray), .string (⟨#[]⟩ : ByteArray), .slice none 0 0] 36 (0, 0)) (by (with_reducible repeat (first | refine blk_drewN ?_ _ | refine blk_drew ?_ | refine blk_alloc ?_ _)); refine blk_put (cs := #[.int .i64 (wrap64 (7 + t148)), .string (⟨#[]⟩ : ByteArray), .string (⟨#[]⟩ : ByteArray), .slice none 0 0]) ?_ 3 _ rfl; (with_reducible repeat (first | refine blk_drewN ?_ _ | refine blk_drew ?_ | refine blk_alloc ?_ _)); refine blk_put (cs := #[.int .i64 (wrap64 (7 + t148)), .string (⟨#[]⟩ : ByteArray), .string (⟨#[]⟩ : ByteArray), .slice none 0 0]) ?_ 2 _ rfl; (with_reducible repeat (first | refine blk_drewN ?_ _ | refine blk_drew ?_ | refine blk_alloc ?_ _)); refine blk_put (cs := #[.int .i64 (wrap64 (7 + t148)), .string (⟨#[]⟩ : ByteArray), .string (⟨#[]⟩ : ByteArray), .slice none 0 0]) ?_ 1 _ rfl; (with_reducible repeat (first | refine blk_drewN ?_ _ | refine blk_drew ?_ | refine blk_alloc ?_ _)); refine blk_put (cs := #[.int .i64 0, .string (⟨#[]⟩ : ByteArray), .string (⟨#[]⟩ : ByteArray), .slice none 0 0]) ?_ 0 _ rfl; (with_reducible repeat (first | refine blk_drewN ?_ _ | refine blk_drew ?_ | refine blk_alloc ?_ _)); exact BK150.out) NB150_0.out (by simp)); have n2_ := Aside0.mk (KeepBut.trans (by repeat (first | (with_reducible first | exact HK.out | apply KeepBut.set_ | apply keep_drewN | apply keep_drew | apply keep_alloc | refine keep_far ?_ GW121.out _ | refine keep_far ?_ GW150.out _) | exact HK.out)) hk (.inl rfl)); have n3_ := Aside0.mk (hb); have n4_ := Aside0.mk (hi); clear BK121; clear BK150; clear HK; clear HB; clear HI0; have BK121 := n0_; have BK150 := n1_; have HK := n2_; have HB := n3_; have HI0 := n4_; clear n0_ n1_ n2_ n3_ n4_; (try clear hb); (try clear hb2); (try clear hk); (try clear hi)))
                    go_loopg [7] kj6 (fun kq v7 w' => ∃ (x7_3 : Int) (x1001_3 : Int) (x151003_3 : List (S36)) (u151003 : Value), v7 = .int .i64 x7_3 ∧ Aside0 (magpieref06_Source_Make.l0 kq a1 x7_3 s0_0 x1001_3 (wrap64 (7 + t148)) (⟨#[]⟩ : ByteArray) (⟨#[]⟩ : ByteArray) x151003_3 = some (r1, r2, r3, r4, r5)) ∧ Aside0 (kq ≤ kj6) ∧ Aside0 (Kd.N k36 36 w' w.heap.size (fun k_ => (w.heap.size ≤ k_) ∧ k_ ≠ gb121 ∧ k_ ≠ gb150 ∧ k_ ≠ g) u151003 x151003_3) ∧ Aside0 (w'.heap[gb121]? = some (.cells #[.int .i64 0, .string (⟨#[]⟩ : ByteArray), .string (⟨#[]⟩ : ByteArray), (.slice none 0 0)] 36 (0, 0))) ∧ Aside0 (w'.heap[gb150]? = some (.cells #[.int .i64 (wrap64 (7 + t148)), .string (⟨#[]⟩ : ByteArray), .string (⟨#[]⟩ : ByteArray), u151003] 36 (0, 0))) ∧ Aside0 (IsS73 w0 w' g s0_0 x1001_3) ∧ Aside0 (KeepBut w w' g none) ∧ Aside0 (Below w0.heap.size w0 w'))
                    case atStart => exact ⟨(wrap64 (2 + t151)), (t152), (([] : List (S36))), (.slice none 0 0), (by first | rfl | (simp; done) | (simp [*]; done)), H', ⟨Nat.le_refl _⟩, ⟨by first | exact Kd.R_nil _ _ _ _ _ | exact Kd.N_nil _ _ _ _ _ | exact Kd.V_nil _ _ _ _ _ | exact Kd.Q_nil _ _ _ _ _ | exact Kd.S_nil _ _ _ _ _⟩, ⟨by (with_reducible repeat (first | refine blk_drewN ?_ _ | refine blk_drew ?_ | refine blk_alloc ?_ _)); exact BK121.out⟩, ⟨by (with_reducible repeat (first | refine blk_drewN ?_ _ | refine blk_drew ?_ | refine blk_alloc ?_ _)); exact BK150.out⟩, ⟨by repeat (first | (with_reducible first | exact HI0.out | apply IsS73.alloc | apply IsS73.drewN | apply IsS73.drew | apply IsS73.set_1 | refine IsS73.far ?_ NB0_121.out _ | refine IsS73.far ?_ NB0_150.out _) | exact HI0.out)⟩, ⟨by repeat (first | (with_reducible first | exact HK.out | apply KeepBut.set_ | apply keep_drewN | apply keep_drew | apply keep_alloc | refine keep_far ?_ GW121.out _ | refine keep_far ?_ GW150.out _) | exact HK.out)⟩, ⟨by repeat (first | (with_reducible first | exact HB.out | apply below_alloc | apply pw_below_drewN | apply below_drew1 | refine below_set ?_ (IsS73.ge HI0.out) | refine below_set ?_ GE121.out | refine below_set ?_ GE150.out) | exact HB.out)⟩⟩
                    case round =>
                      clear H'
                      try clear c1
                      try clear qi1
                      try clear c2
                      try clear p2
                      try clear c3
                      try clear c4
                      try clear c5
                      try clear c5b0
                      try clear p6
                      try clear c7
                      try clear c9
                      try clear c9b0
                      try clear c9b1
                      try clear c10
                      try clear c13
                      try clear qi13
                      try clear c15
                      try clear c15b0
                      try clear c15b1
                      try clear c18
                      try clear c20
                      try clear c20b0
                      try clear c20b1
                      try clear c22
                      try clear c22b0
                      try clear c23
                      try clear c23b0
                      try clear c37
                      try clear c37b0
                      try clear c37b1
                      try clear c40
                      try clear c42
                      try clear c42b0
                      try clear c42b1
                      try clear c48
                      try clear c49
                      try clear c55
                      try clear c56
                      try clear hcz14_0
                      try clear hcz14_1
                      try clear hcz14_2
                      try clear hcz14_3
                      try clear hcz19_0
                      try clear hcz19_1
                      try clear hcz19_2
                      try clear hcz19_3
                      try clear hcz41_0
                      try clear hcz41_1
                      try clear hcz41_2
                      try clear hcz41_3
                      try clear hcz50_0
                      try clear hcz50_1
                      try clear hcz50_2
                      try clear hcz50_3
                      try clear hcz57_0
                      try clear hcz57_1
                      try clear hcz57_2
                      try clear hcz57_3
                      try clear hfz14_0
                      try clear hfz14_1
                      try clear hfz14_2
                      try clear hfz14_3
                      try clear hfz19_0
                      try clear hfz19_1
                      try clear hfz19_2
                      try clear hfz19_3
                      try clear hfz41_0
                      try clear hfz41_1
                      try clear hfz41_2
                      try clear hfz41_3
                      try clear hfz50_0
                      try clear hfz50_1
                      try clear hfz50_2
                      try clear hfz50_3
                      try clear hfz57_0
                      try clear hfz57_1
                      try clear hfz57_2
                      try clear hfz57_3
                      try clear p2
                      obtain ⟨x7_3, x1001_3, x151003_3, u151003, rfl, HA, HK3, HO_151003, BK121, BK150, HI0, HK, HB⟩ := hrel
                      cases gk with
                      | zero => exact absurd HA.out (by simp [magpieref06_Source_Make.l0])
                      | succ k3 =>
                        have H := HA.out
                        clear HA
                        simp only [magpieref06_Source_Make.l0] at H
                        by_cases c59 : x7_3 > 0
                        · rw [if_pos c59] at H
                          have c59b0 : decide (0 < x7_3) = true := decide_eq_true c59
                          clear c59
                          replace H := Option.bind_eq_some_iff.mp H
                          obtain ⟨⟨t153, t154, t155, t156, t159⟩, A600, H⟩ := H
                          replace H : (if x151003_3.length < 2199023255552 then (magpieref06_Source_Make.l0 k3 a1 (wrap64 (x7_3 - 1)) s0_0 t159 (wrap64 (7 + t148)) (⟨#[]⟩ : ByteArray) (⟨#[]⟩ : ByteArray) (x151003_3 ++ [(⟨t153, t154, t155, t156⟩ : S36)])) else (none)) = some (r1, r2, r3, r4, r5) := H
                          have A60 := Aside0.mk A600
                          clear A600
                          by_cases c61 : x151003_3.length < 2199023255552
                          · rw [if_pos c61] at H
                            have LMc61 := Aside0.mk c61
                            clear c61
                            obtain ⟨y160, hy160⟩ : ∃ y_ : List (S36), y_ = (x151003_3 ++ [(⟨t153, t154, t155, t156⟩ : S36)]) := ⟨_, rfl⟩
                            replace H : (magpieref06_Source_Make.l0 k3 a1 (wrap64 (x7_3 - 1)) s0_0 t159 (wrap64 (7 + t148)) (⟨#[]⟩ : ByteArray) (⟨#[]⟩ : ByteArray) y160) = some (r1, r2, r3, r4, r5) := by first | (rw [hy160]; with_reducible exact H) | (have H2_ := (Option.bind_some _ _).symm.trans H; rw [hy160]; with_reducible exact H2_) | (have H2_ := (Option.bind_some _ _).symm.trans H; with_reducible exact H2_) | with_reducible exact H | (rw [hy160]; exact H) | exact H
                            have Ny160 := Aside0.mk hy160
                            clear hy160
                            have H' := Aside0.mk H
                            clear H
                            try go_wp2
                            have n0_ := Aside0.mk (Kd.N_drew HO_151003.out)
                            have n1_ := Aside0.mk (blk_drew BK121.out)
                            have n2_ := Aside0.mk (blk_drew BK150.out)
                            have n3_ := Aside0.mk (IsS73.drew HI0.out)
                            have n4_ := Aside0.mk (keep_drew HK.out)
                            have n5_ := Aside0.mk (below_drew1 HB.out)
                            clear HO_151003
                            clear BK121
                            clear BK150
                            clear HI0
                            clear HK
                            clear HB
                            have HO_151003 := n0_
                            have BK121 := n1_
                            have BK150 := n2_
                            have HI0 := n3_
                            have HK := n4_
                            have HB := n5_
                            clear n0_ n1_ n2_ n3_ n4_ n5_
                            refine start_ (n := 10) (S := fun w' => w'.cell? ⟨gb150, 0, none⟩ = some (.int .i64 (wrap64 (7 + t148))) ∧ w'.cell? ⟨gb150, 1, none⟩ = some (.string (⟨#[]⟩ : ByteArray)) ∧ w'.cell? ⟨gb150, 2, none⟩ = some (.string (⟨#[]⟩ : ByteArray)) ∧ w'.cell? ⟨gb150, 3, none⟩ = some (u151003)) (ds := [9]) #[false, false, false, false, false, false, false, false, false, false] (by kernel_rfl) rfl rfl ⟨(blk_cell BK150.out 0).trans rfl, (blk_cell BK150.out 1).trans rfl, (blk_cell BK150.out 2).trans rfl, (blk_cell BK150.out 3).trans rfl⟩ (fun hHeld => ?_); refine with_tabW magpieref06_Source_Make.tab20 magpieref06_Source_Make.bits20 (fun HT_ HW_ => ?_)
                            generalize wr.drew = w62 at HO_151003 BK121 BK150 HI0 HK HB hHeld ⊢
                            refine pure_ (i := 0) (N := some 59) (v := ?_) (a' := ?_) #[true, false, false, false, false, false, false, false, false, false] rfl rfl (any_of HT_.out (by kernel_rfl)) (fun _ _ _ h => h) (Or.inl ⟨by rfl, ?_⟩) ?_ ?_
                            rotate_left
                            · intro w'
                              go_simp
                              with_reducible rfl
                            rotate_left
                            · simp only [Act.put, List.setIfInBounds_toArray, List.set_cons_zero, List.set_cons_succ, i64_w, i32_w]
                              rfl
                            refine pure_ (i := 2) (N := some 61) (v := ?_) (a' := ?_) #[true, false, true, false, false, false, false, false, false, false] rfl rfl (any_of HT_.out (by kernel_rfl)) (fun _ _ _ h => h) (Or.inl ⟨by rfl, ?_⟩) ?_ ?_
                            rotate_left
                            · intro w'
                              go_simp
                              with_reducible rfl
                            rotate_left
                            · simp only [Act.put, List.setIfInBounds_toArray, List.set_cons_zero, List.set_cons_succ, i64_w, i32_w]
                              rfl
                            refine pure_ (i := 3) (N := some 62) (v := ?_) (a' := ?_) #[true, false, true, true, false, false, false, false, false, false] rfl rfl (any_of HT_.out (by kernel_rfl)) (fun _ _ _ h => h) (Or.inl ⟨by rfl, ?_⟩) ?_ ?_
                            rotate_left
                            · intro w'
                              go_simp
                              with_reducible rfl
                            rotate_left
                            · simp only [Act.put, List.setIfInBounds_toArray, List.set_cons_zero, List.set_cons_succ, i64_w, i32_w]
                              rfl
                            refine pure_ (i := 4) (N := some 63) (v := ?_) (a' := ?_) #[true, false, true, true, true, false, false, false, false, false] rfl rfl (any_of HT_.out (by kernel_rfl)) (fun _ _ _ h => h) (Or.inl ⟨by rfl, ?_⟩) ?_ ?_
                            rotate_left
                            · intro w'
                              go_simp
                              with_reducible rfl
                            rotate_left
                            · simp only [Act.put, List.setIfInBounds_toArray, List.set_cons_zero, List.set_cons_succ, i64_w, i32_w]
                              rfl
                            refine take_ (i := 1) (N := some 60) (v := ?_) (a' := ?_) #[true, true, true, true, true, false, false, false, false, false] rfl rfl (take_ofW HT_.out HW_.out (by kernel_rfl)) (fun _ _ _ h => h) (Or.inl ⟨by rfl, ?_⟩) hHeld ?_ ?_
                            rotate_left
                            · rintro w' ⟨s0, s1, s2, s3⟩
                              go_simp
                              with_reducible rfl
                            rotate_left
                            · simp only [Act.put, List.setIfInBounds_toArray, List.set_cons_zero, List.set_cons_succ, i64_w, i32_w]
                              rfl
                            refine one_ (i := 5) (N := some 64) #[true, true, true, true, true, true, false, false, false, false] rfl rfl (one_of HT_.out (by kernel_rfl)) (by decide) (fun K hK => ?_)
                            refine goes_ Tryd.func48 (by kernel_rfl) rfl #[.pointer (some ⟨g, 0, none⟩), .int .i64 (wrap64 (a1 - 1))] (by rfl) rfl rfl (by (try simp only [List.map_toArray, List.map_cons, List.map_nil]); first | done | rfl | (simp only [List.length_drop, List.length_take]; rfl)) ?_
                            with_reducible refine (ih k3 (by have := HJ2.out; have := HJ6.out; have := HK3.out; omega) g s0_0 x1001_3 (wrap64 (a1 - 1)) t153 t154 t155 t156 t159 w0 _ ?side1 ?side2 A60.out).mono ?_
                            (case side1 => repeat (first | (with_reducible first | exact HI0.out | apply IsS73.alloc | apply IsS73.drewN | apply IsS73.drew | apply IsS73.set_1 | refine IsS73.far ?_ NB0_121.out _ | refine IsS73.far ?_ NB0_150.out _) | exact HI0.out))
                            (case side2 => repeat (first | (with_reducible first | exact HB.out | apply below_alloc | apply pw_below_drewN | apply below_drew1 | refine below_set ?_ (IsS73.ge HI0.out) | refine below_set ?_ GE121.out | refine below_set ?_ GE150.out) | exact HB.out))
                            rintro e w63 ⟨v157, rfl, ho0, hi, hb, hk⟩
                            refine ⟨_, rfl, ?_⟩
                            have n0_ := Aside0.mk (Kd.N_mono (Kd.N_told (Kd.N_oldK (Kd.N_mono (ok := fun k_ => (((w.heap.size ≤ k_)) ∧ (k_ ≠ gb121 ∧ (k_ ≠ gb150 ∧ k_ ≠ g)))) (by (with_reducible repeat (first | apply Kd.N_alloc | apply Kd.N_drewN | apply Kd.N_drew)); exact HO_151003.out) (fun k_ hk_ => (⟨hk_, hk_.2.2.2⟩ : _ ∧ k_ ≠ g))) hk) (Kd.N_base ho0)) (fun _ h_ => h_.1))
                            have n1_ := Aside0.mk (KeepBut.blk hk (g' := gb121) (o := .cells #[.int .i64 0, .string (⟨#[]⟩ : ByteArray), .string (⟨#[]⟩ : ByteArray), .slice none 0 0] 36 (0, 0)) (by (with_reducible repeat (first | refine blk_drewN ?_ _ | refine blk_drew ?_ | refine blk_alloc ?_ _)); exact BK121.out) NB121_0.out (by simp))
                            have n2_ := Aside0.mk (KeepBut.blk hk (g' := gb150) (o := .cells #[.int .i64 (wrap64 (7 + t148)), .string (⟨#[]⟩ : ByteArray), .string (⟨#[]⟩ : ByteArray), u151003] 36 (0, 0)) (by (with_reducible repeat (first | refine blk_drewN ?_ _ | refine blk_drew ?_ | refine blk_alloc ?_ _)); exact BK150.out) NB150_0.out (by simp))
                            have n3_ := Aside0.mk (Kd.N_lower (Kd.N_mono (ok' := fun k_ => (w.heap.size ≤ k_) ∧ some k_ ≠ (u151003 : Value).ownBlock ∧ k_ ≠ gb121 ∧ k_ ≠ gb150 ∧ k_ ≠ g) ho0 (fun k_ hk_ => ⟨(Nat.le_trans (keep_size (w := w) (g := g) (row := none) (by repeat (first | (with_reducible first | exact HK.out | apply KeepBut.set_ | apply keep_drewN | apply keep_drew | apply keep_alloc | refine keep_far ?_ GW121.out _ | refine keep_far ?_ GW150.out _) | exact HK.out))) hk_), (Kd.fresh' (Kd.N_lt (by (with_reducible repeat (first | apply Kd.N_alloc | apply Kd.N_drewN | apply Kd.N_drew)); exact HO_151003.out)) k_ hk_), (Kd.freshB (g := gb121) (o := .cells #[.int .i64 0, .string (⟨#[]⟩ : ByteArray), .string (⟨#[]⟩ : ByteArray), .slice none 0 0] 36 (0, 0)) (by (with_reducible repeat (first | refine blk_drewN ?_ _ | refine blk_drew ?_ | refine blk_alloc ?_ _)); exact BK121.out) k_ hk_), (Kd.freshB (g := gb150) (o := .cells #[.int .i64 (wrap64 (7 + t148)), .string (⟨#[]⟩ : ByteArray), .string (⟨#[]⟩ : ByteArray), u151003] 36 (0, 0)) (by (with_reducible repeat (first | refine blk_drewN ?_ _ | refine blk_drew ?_ | refine blk_alloc ?_ _)); exact BK150.out) k_ hk_), (IsS73.fresh (by repeat (first | (with_reducible first | exact HI0.out | apply IsS73.alloc | apply IsS73.drewN | apply IsS73.drew | apply IsS73.set_1 | refine IsS73.far ?_ NB0_121.out _ | refine IsS73.far ?_ NB0_150.out _) | exact HI0.out)) k_ hk_)⟩)) (keep_size (w := w) (g := g) (row := none) (by repeat (first | (with_reducible first | exact HK.out | apply KeepBut.set_ | apply keep_drewN | apply keep_drew | apply keep_alloc | refine keep_far ?_ GW121.out _ | refine keep_far ?_ GW150.out _) | exact HK.out))))
                            have n4_ := Aside0.mk (KeepBut.trans (by repeat (first | (with_reducible first | exact HK.out | apply KeepBut.set_ | apply keep_drewN | apply keep_drew | apply keep_alloc | refine keep_far ?_ GW121.out _ | refine keep_far ?_ GW150.out _) | exact HK.out)) hk (.inl rfl))
                            have n5_ := Aside0.mk (hb)
                            have n6_ := Aside0.mk (hi)
                            clear HO_151003
                            clear BK121
                            clear BK150
                            clear HK
                            clear HB
                            clear HI0
                            have HO_151003 := n0_
                            have BK121 := n1_
                            have BK150 := n2_
                            have HO158 := n3_
                            have HK := n4_
                            have HB := n5_
                            have HI0 := n6_
                            clear n0_ n1_ n2_ n3_ n4_ n5_ n6_
                            (try clear hb)
                            (try clear hb2)
                            (try clear hk)
                            (try clear hi)
                            (try clear ho0)
                            obtain ⟨Ao65, co65, eo65⟩ := Kd.N_slice HO158.out
                            (first | subst eo65 | (injection eo65 with f1_ f2_ f3_; have f4_ := f1_.symm; have f5_ := f3_.symm; clear f1_ f2_ f3_; subst f4_; subst f5_))
                            refine hK.out _ _ ⟨(blk_cell BK150.out 0).trans rfl, (blk_cell BK150.out 1).trans rfl, (blk_cell BK150.out 2).trans rfl, (blk_cell BK150.out 3).trans rfl⟩ (fun hHeld => ?_)
                            clear hK K
                            refine norm_ (a' := ?_) ?_ ?_
                            rotate_left
                            · show Act.put _ (some 64) _ = _
                              simp only [Act.put, List.setIfInBounds_toArray, List.set_cons_zero, List.set_cons_succ, i64_w, i32_w]
                              rfl
                            refine one_ (i := 6) (N := some 65) #[true, true, true, true, true, true, true, false, false, false] rfl rfl (one_of HT_.out (by kernel_rfl)) (by decide) (fun K hK => ?_)
                            refine value_ (w1 := ?_) (v := ?_) (by rfl) rfl ?_ ?_
                            rotate_left 2
                            · go_simp
                              constructor
                              · rfl
                              · rfl
                            refine hK.out _ _ ⟨(blk_cell (blk_alloc BK150.out _) 0).trans rfl, (blk_cell (blk_alloc BK150.out _) 1).trans rfl, (blk_cell (blk_alloc BK150.out _) 2).trans rfl, (blk_cell (blk_alloc BK150.out _) 3).trans rfl⟩ (fun hHeld => ?_)
                            clear hK K
                            refine norm_ (a' := ?_) ?_ ?_
                            rotate_left
                            · show Act.put _ (some 65) _ = _
                              simp only [Act.put, List.setIfInBounds_toArray, List.set_cons_zero, List.set_cons_succ, i64_w, i32_w]
                              rfl
                            refine one_ (i := 7) (N := some 66) #[true, true, true, true, true, true, true, true, false, false] rfl rfl (one_of HT_.out (by kernel_rfl)) (by decide) (fun K hK => ?_)
                            refine Kd.N_append_step k36 w.heap.size (by rfl) (.tmp 60) (.tmp 65) 34 36 (.agg #[(.int .i64 0), (.string ⟨#[]⟩), (.string ⟨#[]⟩), (.slice none 0 0)]) 64 rfl Tryd.underlying34 info36 rfl (by decide) (by omega) u151003 x151003_3 (⟨t153, t154, t155, t156⟩ : S36) [.int .i64 t153, .string t154, .string t155, .slice Ao65 t156.length co65] (fun k_ => (w.heap.size ≤ k_) ∧ k_ ≠ gb121 ∧ k_ ≠ gb150 ∧ k_ ≠ g) (fun k_ => ((fun k_ => (w.heap.size ≤ k_) ∧ k_ ≠ gb121 ∧ k_ ≠ gb150 ∧ k_ ≠ g)) k_ ∧ some k_ ≠ (u151003 : Value).ownBlock) rfl rfl ?aP (fun _ hk => hk) ?aF ?aO (Below.refl _ _) ?aS ?aL ?_
                            (case aP => exact (k36_mkF _ _ (⟨t153, t154, t155, t156⟩ : S36) (Kd.N_reads' (Kd.N_mono (ok' := (fun k_ => ((fun k_ => (w.heap.size ≤ k_) ∧ k_ ≠ gb121 ∧ k_ ≠ gb150 ∧ k_ ≠ g)) k_ ∧ some k_ ≠ (u151003 : Value).ownBlock)) (HO158.out) (fun k_ hk => ⟨⟨hk.1, ⟨hk.2.2.1, ⟨hk.2.2.2.1, hk.2.2.2.2⟩⟩⟩, hk.2.1⟩))).2.1 (Kd.N_F (Kd.N_mono (ok' := (fun k_ => ((fun k_ => (w.heap.size ≤ k_) ∧ k_ ≠ gb121 ∧ k_ ≠ gb150 ∧ k_ ≠ g)) k_ ∧ some k_ ≠ (u151003 : Value).ownBlock)) (HO158.out) (fun k_ hk => ⟨⟨hk.1, ⟨hk.2.2.1, ⟨hk.2.2.2.1, hk.2.2.2.2⟩⟩⟩, hk.2.1⟩)))))
                            (case aF => exact (fun k_ hk => ⟨(Nat.le_trans (keep_size (w := w) (g := g) (row := none) (by repeat (first | (with_reducible first | exact HK.out | apply KeepBut.set_ | apply keep_drewN | apply keep_drew | apply keep_alloc | refine keep_far ?_ GW121.out _ | refine keep_far ?_ GW150.out _) | exact HK.out))) hk), Kd.freshB (g := gb121) (o := .cells #[.int .i64 0, .string (⟨#[]⟩ : ByteArray), .string (⟨#[]⟩ : ByteArray), .slice none 0 0] 36 (0, 0)) (by (with_reducible repeat (first | refine blk_drewN ?_ _ | refine blk_drew ?_ | refine blk_alloc ?_ _)); exact BK121.out) k_ hk, Kd.freshB (g := gb150) (o := .cells #[.int .i64 (wrap64 (7 + t148)), .string (⟨#[]⟩ : ByteArray), .string (⟨#[]⟩ : ByteArray), u151003] 36 (0, 0)) (by (with_reducible repeat (first | refine blk_drewN ?_ _ | refine blk_drew ?_ | refine blk_alloc ?_ _)); exact BK150.out) k_ hk, IsS73.fresh (by repeat (first | (with_reducible first | exact HI0.out | apply IsS73.alloc | apply IsS73.drewN | apply IsS73.drew | apply IsS73.set_1 | refine IsS73.far ?_ NB0_121.out _ | refine IsS73.far ?_ NB0_150.out _) | exact HI0.out)) k_ hk⟩))
                            (case aO => exact (by (with_reducible repeat (first | apply Kd.N_alloc | apply Kd.N_drewN | apply Kd.N_drew)); exact Kd.N_mono HO_151003.out (fun _ hk => ⟨hk.1.1, ⟨hk.1.2.1, ⟨hk.1.2.2.1, hk.1.2.2.2⟩⟩⟩)))
                            (case aS => exact (keep_size (w := w) (g := g) (row := none) (by repeat (first | (with_reducible first | exact HK.out | apply KeepBut.set_ | apply keep_drewN | apply keep_drew | apply keep_alloc | refine keep_far ?_ GW121.out _ | refine keep_far ?_ GW150.out _) | exact HK.out))))
                            (case aL => have := LMc61.out; omega)
                            intro v161 w64 ho hb hg hat
                            rw [← Ny160.out] at ho
                            have n0_ := Aside0.mk (blk_grown (g := gb121) (o := .cells #[.int .i64 0, .string (⟨#[]⟩ : ByteArray), .string (⟨#[]⟩ : ByteArray), .slice none 0 0] 36 (0, 0)) (by (with_reducible repeat (first | refine blk_drewN ?_ _ | refine blk_drew ?_ | refine blk_alloc ?_ _)); exact BK121.out) hg (Kd.N_away HO_151003.out (fun _ hk => hk.1.2.1)))
                            have n1_ := Aside0.mk (blk_grown (g := gb150) (o := .cells #[.int .i64 (wrap64 (7 + t148)), .string (⟨#[]⟩ : ByteArray), .string (⟨#[]⟩ : ByteArray), u151003] 36 (0, 0)) (by (with_reducible repeat (first | refine blk_drewN ?_ _ | refine blk_drew ?_ | refine blk_alloc ?_ _)); exact BK150.out) hg (Kd.N_away HO_151003.out (fun _ hk => hk.1.2.2.1)))
                            have n2_ := Aside0.mk (IsS73.grown (by repeat (first | (with_reducible first | exact HI0.out | apply IsS73.alloc | apply IsS73.drewN | apply IsS73.drew | apply IsS73.set_1 | refine IsS73.far ?_ NB0_121.out _ | refine IsS73.far ?_ NB0_150.out _) | exact HI0.out)) hg (IsS73.own_neN HI0.out HO_151003.out (by decide)))
                            have n3_ := Aside0.mk (below_weaken (by repeat (first | (with_reducible first | exact HB.out | apply below_alloc | apply pw_below_drewN | apply below_drew1 | refine below_set ?_ (IsS73.ge HI0.out) | refine below_set ?_ GE121.out | refine below_set ?_ GE150.out) | exact HB.out)) HL.out hb)
                            have n4_ := Aside0.mk (KeepBut.trans (by repeat (first | (with_reducible first | exact HK.out | apply KeepBut.set_ | apply keep_drewN | apply keep_drew | apply keep_alloc | refine keep_far ?_ GW121.out _ | refine keep_far ?_ GW150.out _) | exact HK.out)) (KeepBut.of_grown hg g) (Kd.N_base2 HO_151003.out))
                            have n5_ := Aside0.mk (ho)
                            clear BK121
                            clear BK150
                            clear HI0
                            clear HB
                            clear HK
                            clear HO_151003
                            clear HO158
                            have BK121 := n0_
                            have BK150 := n1_
                            have HI0 := n2_
                            have HB := n3_
                            have HK := n4_
                            have HO162 := n5_
                            clear n0_ n1_ n2_ n3_ n4_ n5_
                            clear ho hb hg hat
                            obtain ⟨Ao66, co66, eo66⟩ := Kd.N_slice HO162.out
                            (first | subst eo66 | (injection eo66 with f1_ f2_ f3_; have f4_ := f1_.symm; have f5_ := f3_.symm; clear f1_ f2_ f3_; subst f4_; subst f5_))
                            refine hK.out _ _ ⟨(blk_cell BK150.out 0).trans rfl, (blk_cell BK150.out 1).trans rfl, (blk_cell BK150.out 2).trans rfl, (blk_cell BK150.out 3).trans rfl⟩ (fun hHeld => ?_)
                            clear hK K
                            refine norm_ (a' := ?_) ?_ ?_
                            rotate_left
                            · show Act.put _ (some 66) _ = _
                              simp only [Act.put, List.setIfInBounds_toArray, List.set_cons_zero, List.set_cons_succ, i64_w, i32_w]
                              rfl
                            refine pure_ (i := 8) (N := some 67) (v := ?_) (a' := ?_) #[true, true, true, true, true, true, true, true, true, false] rfl rfl (any_of HT_.out (by kernel_rfl)) (fun _ _ _ h => h) (Or.inl ⟨by rfl, ?_⟩) ?_ ?_
                            rotate_left
                            · intro w'
                              go_simp
                              with_reducible rfl
                            rotate_left
                            · simp only [Act.put, List.setIfInBounds_toArray, List.set_cons_zero, List.set_cons_succ, i64_w, i32_w]
                              rfl
                            refine last_ (i := 9) (N := none) #[true, true, true, true, true, true, true, true, true, true] rfl rfl (one_of HT_.out (by kernel_rfl)) (by decide) (fun K hK => ?_)
                            have hs67 : w64.cell? ⟨gb150, 3, none⟩ = some (u151003) := (blk_cell BK150.out 3).trans rfl
                            have hfs67 := blk_frozen BK150.out 3
                            have hns67_0 := NB121_150.out
                            have hms67_0 := NB150_121.out
                            refine skip_ (w1 := ?_) (by rfl) rfl ?_ ?_
                            rotate_left
                            · go_simp
                              rfl
                            refine hK.out _ _ ?_
                            clear hK K
                            refine done_ (done_of HT_.out (by kernel_rfl)) ?_
                            try go_wp2
                            go_roundg k3
                            case measure => have := HJ2.out; have := HJ6.out; have := HK3.out; omega
                            case rel => exact ⟨(wrap64 (x7_3 - 1)), (t159), (y160), (.slice Ao66 y160.length co66), (by first | rfl | (simp; done) | (simp [*]; done)), H', ⟨by have := HJ2.out; have := HJ6.out; have := HK3.out; omega⟩, ⟨by (with_reducible repeat (first | apply Kd.N_alloc | apply Kd.N_drewN | apply Kd.N_drew)); exact Kd.N_mono (Kd.N_far (p := ⟨gb150, 3, none⟩) (Kd.N_mono HO162.out (fun k_ hk => (⟨hk, hk.2.2.1⟩ : _ ∧ k_ ≠ gb150))) (fun _ hk => hk.2) (.slice Ao66 y160.length co66)) (fun _ hk => ⟨hk.1.1, ⟨hk.1.2.1, ⟨hk.1.2.2.1, hk.1.2.2.2⟩⟩⟩)⟩, ⟨by (with_reducible repeat (first | refine blk_drewN ?_ _ | refine blk_drew ?_ | refine blk_alloc ?_ _)); refine blk_far ?_ NB121_150.out _; (with_reducible repeat (first | refine blk_drewN ?_ _ | refine blk_drew ?_ | refine blk_alloc ?_ _)); exact BK121.out⟩, ⟨by (with_reducible repeat (first | refine blk_drewN ?_ _ | refine blk_drew ?_ | refine blk_alloc ?_ _)); refine blk_put (cs := #[.int .i64 (wrap64 (7 + t148)), .string (⟨#[]⟩ : ByteArray), .string (⟨#[]⟩ : ByteArray), u151003]) ?_ 3 _ rfl; (with_reducible repeat (first | refine blk_drewN ?_ _ | refine blk_drew ?_ | refine blk_alloc ?_ _)); exact BK150.out⟩, ⟨by repeat (first | (with_reducible first | exact HI0.out | apply IsS73.alloc | apply IsS73.drewN | apply IsS73.drew | apply IsS73.set_1 | refine IsS73.far ?_ NB0_121.out _ | refine IsS73.far ?_ NB0_150.out _) | exact HI0.out)⟩, ⟨by repeat (first | (with_reducible first | exact HK.out | apply KeepBut.set_ | apply keep_drewN | apply keep_drew | apply keep_alloc | refine keep_far ?_ GW121.out _ | refine keep_far ?_ GW150.out _) | exact HK.out)⟩, ⟨by repeat (first | (with_reducible first | exact HB.out | apply below_alloc | apply pw_below_drewN | apply below_drew1 | refine below_set ?_ (IsS73.ge HI0.out) | refine below_set ?_ GE121.out | refine below_set ?_ GE150.out) | exact HB.out)⟩⟩
                          · rw [if_neg c61] at H
                            exact absurd H (by simp)
                        · rw [if_neg c59] at H
                          have c59b0 : decide (0 < x7_3) = false := decide_eq_false c59
                          clear c59
                          simp only [Option.some.injEq, Prod.mk.injEq] at H
                          obtain ⟨rfl, rfl, rfl, rfl, rfl⟩ := H
                          have hnb68 := NB150_121.out
                          have hnc68 := NB121_150.out
                          have hnb69 := NB150_0.out
                          have hnc69 := NB0_150.out
                          have hcz70_0 : wr.cell? ⟨gb150, 0, none⟩ = some (.int .i64 (wrap64 (7 + t148))) := (blk_cell BK150.out 0).trans rfl
                          have hcz70_1 : wr.cell? ⟨gb150, 1, none⟩ = some (.string (⟨#[]⟩ : ByteArray)) := (blk_cell BK150.out 1).trans rfl
                          have hcz70_2 : wr.cell? ⟨gb150, 2, none⟩ = some (.string (⟨#[]⟩ : ByteArray)) := (blk_cell BK150.out 2).trans rfl
                          have hcz70_3 : wr.cell? ⟨gb150, 3, none⟩ = some (u151003) := (blk_cell BK150.out 3).trans rfl
                          have hfz70_0 := blk_frozen BK150.out 0
                          have hfz70_1 := blk_frozen BK150.out 1
                          have hfz70_2 := blk_frozen BK150.out 2
                          have hfz70_3 := blk_frozen BK150.out 3
                          have hnb71 := NB121_0.out
                          have hnc71 := NB0_121.out
                          have hcz72_0 : wr.cell? ⟨gb121, 0, none⟩ = some (.int .i64 0) := (blk_cell BK121.out 0).trans rfl
                          have hcz72_1 : wr.cell? ⟨gb121, 1, none⟩ = some (.string (⟨#[]⟩ : ByteArray)) := (blk_cell BK121.out 1).trans rfl
                          have hcz72_2 : wr.cell? ⟨gb121, 2, none⟩ = some (.string (⟨#[]⟩ : ByteArray)) := (blk_cell BK121.out 2).trans rfl
                          have hcz72_3 : wr.cell? ⟨gb121, 3, none⟩ = some (.slice none 0 0) := (blk_cell BK121.out 3).trans rfl
                          have hfz72_0 := blk_frozen BK121.out 0
                          have hfz72_1 := blk_frozen BK121.out 1
                          have hfz72_2 := blk_frozen BK121.out 2
                          have hfz72_3 := blk_frozen BK121.out 3
                          obtain ⟨Ao73, co73, eo73⟩ := Kd.N_slice HO_151003.out
                          subst eo73
                          go_wp2
                          refine bodyPost_ret (results_cell_row rfl _ _ gb121 36 #[.int .i64 (wrap64 (7 + t148)), .string (⟨#[]⟩ : ByteArray), .string (⟨#[]⟩ : ByteArray), .slice Ao73 x151003_3.length co73] (0, 0) _ rfl (by (with_reducible repeat (first | refine blk_drewN ?_ _ | refine blk_drew ?_ | refine blk_alloc ?_ _)); refine blk_put (cs := #[.int .i64 (wrap64 (7 + t148)), .string (⟨#[]⟩ : ByteArray), .string (⟨#[]⟩ : ByteArray), .slice none 0 0]) ?_ 3 _ rfl; (with_reducible repeat (first | refine blk_drewN ?_ _ | refine blk_drew ?_ | refine blk_alloc ?_ _)); refine blk_put (cs := #[.int .i64 (wrap64 (7 + t148)), .string (⟨#[]⟩ : ByteArray), .string (⟨#[]⟩ : ByteArray), .slice none 0 0]) ?_ 2 _ rfl; (with_reducible repeat (first | refine blk_drewN ?_ _ | refine blk_drew ?_ | refine blk_alloc ?_ _)); refine blk_put (cs := #[.int .i64 (wrap64 (7 + t148)), .string (⟨#[]⟩ : ByteArray), .string (⟨#[]⟩ : ByteArray), .slice none 0 0]) ?_ 1 _ rfl; (with_reducible repeat (first | refine blk_drewN ?_ _ | refine blk_drew ?_ | refine blk_alloc ?_ _)); refine blk_put (cs := #[.int .i64 0, .string (⟨#[]⟩ : ByteArray), .string (⟨#[]⟩ : ByteArray), .slice none 0 0]) ?_ 0 _ rfl; (with_reducible repeat (first | refine blk_drewN ?_ _ | refine blk_drew ?_ | refine blk_alloc ?_ _)); exact BK121.out) Tryd.underlying36 rfl (by kernel_rfl)) rfl ?_
                          exact ⟨_, by first | rfl | (simp [errW_none, errW_some] <;> rfl) | (simp [*, errW_none, errW_some] <;> rfl), by (with_reducible repeat (first | apply Kd.N_alloc | apply Kd.N_drewN | apply Kd.N_drew)); exact Kd.N_mono (Kd.N_far (p := ⟨gb121, 3, none⟩) (Kd.N_far (p := ⟨gb121, 2, none⟩) (Kd.N_far (p := ⟨gb121, 1, none⟩) (Kd.N_far (p := ⟨gb121, 0, none⟩) (Kd.N_mono HO_151003.out (fun k_ hk => (⟨hk, hk.2.1⟩ : _ ∧ k_ ≠ gb121))) (fun _ hk => hk.2) (.int .i64 (wrap64 (7 + t148)))) (fun _ hk => hk.2) (.string (⟨#[]⟩ : ByteArray))) (fun _ hk => hk.2) (.string (⟨#[]⟩ : ByteArray))) (fun _ hk => hk.2) (.slice Ao73 x151003_3.length co73)) (fun _ hk => hk.1.1), by repeat (first | (with_reducible first | exact HI0.out | apply IsS73.alloc | apply IsS73.drewN | apply IsS73.drew | apply IsS73.set_1 | refine IsS73.far ?_ NB0_121.out _ | refine IsS73.far ?_ NB0_150.out _) | exact HI0.out), by repeat (first | (with_reducible first | exact HB.out | apply below_alloc | apply pw_below_drewN | apply below_drew1 | refine below_set ?_ (IsS73.ge HI0.out) | refine below_set ?_ GE121.out | refine below_set ?_ GE150.out) | exact HB.out), by repeat (first | (with_reducible first | exact HK.out | apply KeepBut.set_ | apply keep_drewN | apply keep_drew | apply keep_alloc | refine keep_far ?_ GW121.out _ | refine keep_far ?_ GW150.out _) | exact HK.out)⟩

end Go.Proofs.YtfejjfbhlmjkeaaDoor.PMatchNot

/- Filters made of numbers: that Make answers one, of how many parts, and how deep; plain laws. -/
set_option linter.unusedVariables false
set_option linter.unusedSimpArgs false
namespace Go.Proofs.YtfejjfbhlmjkeaaDoor.F
open Go.RowKit Go.Proofs.YtfejjfbhlmjkeaaDoorW.PrintWords Go.Proofs.YtfejjfbhlmjkeaaDoorW.PrintLast Go.Proofs.YtfejjfbhlmjkeaaDoorW.PrintMore Go.Proofs.YtfejjfbhlmjkeaaDoor.W Go.Proofs.YtfejjfbhlmjkeaaDoor.PMatchNot

theorem next_total (L : List Int) (at_ n : Int) (hL : L.length ≤ 300) (h0 : 0 ≤ at_) (h1 : at_ ≤ L.length) (hn : 0 < n) (hn2 : n ≤ 100) : ∃ r at', magpieref06_Source_Next.f L at_ n = some (r, at') ∧ 0 ≤ r ∧ r < n ∧ 0 ≤ at' ∧ at' ≤ L.length := by
  unfold magpieref06_Source_Next.f
  by_cases hge : at_ ≥ (L.length : Int)
  · rw [if_pos hge]; exact ⟨0, at_, rfl, Int.le_refl _, hn, h0, h1⟩
  · have e1 : wrap64 (at_ + 1) = at_ + 1 := w64_in _ (by omega)
    have e2 : wrap64 (at_ + 1 - 1) = at_ := by rw [w64_in _ (by omega)]; omega
    rw [if_neg hge, e1, e2, if_pos h0, if_pos (by omega)]
    have e3 : IntKind.u64.wrap n = n := by simp [IntKind.wrap, IntKind.signed, IntKind.bits]; omega
    rw [e3, if_neg (by omega)]
    have hx : 0 ≤ IntKind.u64.wrap (rd L at_) := by simp [IntKind.wrap, IntKind.signed, IntKind.bits]; omega
    have hm1 := Int.tmod_nonneg n hx
    have hm2 := Int.tmod_lt_of_pos (IntKind.u64.wrap (rd L at_)) hn
    rw [w64_in _ ⟨hm1, by omega⟩]
    exact ⟨_, _, rfl, hm1, hm2, by omega, by omega⟩
theorem text_total (L : List Int) (at_ : Int) (hL : L.length ≤ 300) (h0 : 0 ≤ at_) (h1 : at_ ≤ L.length) : ∃ t at', magpieref06_Source_Text.f L at_ = some (t, at') ∧ t.size ≤ 100 ∧ 0 ≤ at' ∧ at' ≤ L.length := by
  obtain ⟨r, at', h, h2, h3, h4, h5⟩ := next_total L at_ 12 hL h0 h1 (by decide) (by decide)
  unfold magpieref06_Source_Text.f
  simp only [Option.bind_some, h]
  rw [if_pos h2, if_pos (by simpa using h3)]
  refine ⟨_, _, rfl, ?_, h4, h5⟩
  have hr : r = 0 ∨ r = 1 ∨ r = 2 ∨ r = 3 ∨ r = 4 ∨ r = 5 ∨ r = 6 ∨ r = 7 ∨ r = 8 ∨ r = 9 ∨ r = 10 ∨ r = 11 := by omega
  rcases hr with rfl | rfl | rfl | rfl | rfl | rfl | rfl | rfl | rfl | rfl | rfl | rfl <;> decide
/-- A filter of texts of so many bytes, of three kids at most, and so deep. -/
def OkT : Nat → S36 → Prop
  | 0, _ => False
  | d + 1, T => T.f1.size ≤ 100 ∧ T.f2.size ≤ 100 ∧ T.f3.length ≤ 3 ∧ ∀ k ∈ T.f3, OkT d k
theorem OkT.up : ∀ {d : Nat} {T : S36}, OkT d T → OkT (d + 1) T
  | 0, _, h => h.elim
  | d + 1, T, h => ⟨h.1, h.2.1, h.2.2.1, fun k hk => (h.2.2.2 k hk).up⟩
theorem leaf_ok (d : Nat) (op : Int) (nm tx : ByteArray) (h1 : nm.size ≤ 100) (h2 : tx.size ≤ 100) : OkT (d + 1) ⟨op, nm, tx, []⟩ := ⟨h1, h2, by simp, fun k hk => by cases hk⟩
/-- What Make answers: a filter so deep, and where the numbers stand then. -/
def Made (L : List Int) (d : Nat) (x : Option (Int × ByteArray × ByteArray × List S36 × Int)) : Prop := ∃ r1 r2 r3 r4 r5, x = some (r1, r2, r3, r4, r5) ∧ OkT (d + 1) ⟨r1, r2, r3, r4⟩ ∧ 0 ≤ r5 ∧ r5 ≤ L.length
theorem rd3 (r : Int) (h2 : 0 ≤ r) (h3 : r < 3) : (rdOf ByteArray.empty [(⟨#[107]⟩ : ByteArray), (⟨#[97]⟩ : ByteArray), (⟨#[105, 100]⟩ : ByteArray)] r).size ≤ 100 := by
  have hr : r = 0 ∨ r = 1 ∨ r = 2 := by omega
  rcases hr with rfl | rfl | rfl <;> decide
/-- The leaves. -/
theorem leaf_made (L : List Int) (hL : L.length ≤ 300) (d k : Nat) (x1 x12 at_ : Int) (b : Bool) (h0 : 0 ≤ at_) (h1 : at_ ≤ L.length) (hb : b = true ∨ x12 = 2 ∨ x12 = 3 ∨ x12 = 4) : Made L d (magpieref06_Source_Make.j1 (k + 1) x1 x12 b L at_) := by
  unfold magpieref06_Source_Make.j1
  by_cases hb1 : b = true
  · rw [if_pos hb1]
    obtain ⟨t, at', h, h2, h3, h4⟩ := text_total L at_ hL h0 h1
    rw [h]
    exact ⟨_, _, _, _, _, rfl, leaf_ok d _ _ _ (by decide) h2, h3, h4⟩
  · rw [if_neg hb1]
    by_cases h2 : x12 = 2
    · rw [if_pos h2]
      obtain ⟨t, at', h, h2, h3, h4⟩ := text_total L at_ hL h0 h1
      rw [h]
      exact ⟨_, _, _, _, _, rfl, leaf_ok d _ _ _ (by decide) h2, h3, h4⟩
    · rw [if_neg h2]
      by_cases h3 : x12 = 3
      · rw [if_pos h3]
        obtain ⟨r, at', h, g2, g3, g4, g5⟩ := next_total L at_ 3 hL h0 h1 (by decide) (by decide)
        obtain ⟨t, at2, h', g6, g7, g8⟩ := text_total L at' hL g4 g5
        simp only [Option.bind_some, h]
        rw [if_pos g2, if_pos (by simpa using g3), h']
        exact ⟨_, _, _, _, _, rfl, leaf_ok d _ _ _ (rd3 r g2 g3) g6, g7, g8⟩
      · rw [if_neg h3, if_pos (hb.elim (fun h => absurd h hb1) (fun h => h.elim (fun h => absurd h h2) (fun h => h.elim (fun h => absurd h h3) id)))]
        obtain ⟨r, at', h, g2, g3, g4, g5⟩ := next_total L at_ 2 hL h0 h1 (by decide) (by decide)
        rw [h]
        exact ⟨_, _, _, _, _, rfl, leaf_ok d _ _ _ (by decide) (by decide), g4, g5⟩
theorem row_made (L : List Int) (hL : L.length ≤ 300) (d : Nat) (hd : d ≤ 100) (a : Int) (ha : a ≤ (d : Int) + 1) (ha0 : 0 < a)
    (ih : ∀ (at_ : Int), 0 ≤ at_ → at_ ≤ L.length → ∀ k, 20 * (d + 1) ≤ k → Made L d (magpieref06_Source_Make.f k L at_ (a - 1))) (op : Int) :
    ∀ (m : Nat) (kids : List S36) (at_ : Int) (k : Nat), kids.length + m ≤ 3 → (∀ x ∈ kids, OkT (d + 1) x) → 0 ≤ at_ → at_ ≤ L.length → 20 * (d + 1) + m + 1 ≤ k → Made L (d + 1) (magpieref06_Source_Make.l0 k a (m : Int) L at_ op ⟨#[]⟩ ⟨#[]⟩ kids) := by
  intro m
  induction m with
  | zero =>
    intro kids at_ k hk hkids h0 h1 hkk
    obtain ⟨k, rfl⟩ : ∃ k', k = k' + 1 := ⟨k - 1, by omega⟩
    unfold magpieref06_Source_Make.l0
    rw [if_neg (by omega)]
    exact ⟨_, _, _, _, _, rfl, ⟨Nat.zero_le _, Nat.zero_le _, by simpa using hk, hkids⟩, h0, h1⟩
  | succ m ihm =>
    intro kids at_ k hk hkids h0 h1 hkk
    obtain ⟨k, rfl⟩ : ∃ k', k = k' + 1 := ⟨k - 1, by omega⟩
    unfold magpieref06_Source_Make.l0
    rw [if_pos (by omega), w64_in (a - 1) (by omega)]
    obtain ⟨r1, r2, r3, r4, r5, h, hok, g0, g1⟩ := ih at_ h0 h1 k (by omega)
    rw [h]
    simp only [Option.bind_some]
    rw [if_pos (by omega), w64_in _ (by omega)]
    have e : ((m + 1 : Nat) : Int) - 1 = (m : Int) := by omega
    rw [e]
    exact ihm (kids ++ [⟨r1, r2, r3, r4⟩]) r5 k (by rw [List.length_append, List.length_singleton]; omega) (fun x hx => (List.mem_append.1 hx).elim (hkids x) (fun hx => by rw [List.mem_singleton.1 hx]; exact hok)) g0 g1 (by omega)
theorem make_total (L : List Int) (hL : L.length ≤ 300) : ∀ (d : Nat), d ≤ 100 → ∀ (a : Int), a ≤ (d : Int) → ∀ (at_ : Int), 0 ≤ at_ → at_ ≤ L.length → ∀ k, 20 * (d + 1) ≤ k → Made L d (magpieref06_Source_Make.f k L at_ a) := by
  have leafs : ∀ (d k : Nat) (a at_ : Int), 0 ≤ at_ → at_ ≤ L.length → 3 ≤ k → Made L d (magpieref06_Source_Make.j0 k a 5 L at_) := by
    intro d k a at_ h0 h1 hk
    obtain ⟨k, rfl⟩ : ∃ k', k = k' + 2 := ⟨k - 2, by omega⟩
    obtain ⟨r, at', h, g2, g3, g4, g5⟩ := next_total L at_ 5 hL h0 h1 (by decide) (by decide)
    unfold magpieref06_Source_Make.j0
    rw [h]
    simp only [Option.bind_some]
    have hr : r = 0 ∨ r = 1 ∨ r = 2 ∨ r = 3 ∨ r = 4 := by omega
    by_cases hr0 : r = 0
    · rw [if_pos hr0]; exact leaf_made L hL d k a r at' _ g4 g5 (.inl (by rw [hr0]; rfl))
    · rw [if_neg hr0]
      refine leaf_made L hL d k a r at' _ g4 g5 ?_
      rcases hr with h | h | h | h | h
      · exact absurd h hr0
      · exact .inl (by rw [h]; rfl)
      · exact .inr (.inl h)
      · exact .inr (.inr (.inl h))
      · exact .inr (.inr (.inr h))
  intro d
  induction d with
  | zero =>
    intro hd a ha at_ h0 h1 k hk
    obtain ⟨k, rfl⟩ : ∃ k', k = k' + 1 := ⟨k - 1, by omega⟩
    unfold magpieref06_Source_Make.f
    rw [if_pos (by omega)]
    exact leafs 0 k a at_ h0 h1 (by omega)
  | succ d ih =>
    intro hd a ha at_ h0 h1 k hk
    have ih := ih (by omega)
    obtain ⟨k, rfl⟩ : ∃ k', k = k' + 3 := ⟨k - 3, by omega⟩
    unfold magpieref06_Source_Make.f
    by_cases ha0 : a ≤ 0
    · rw [if_pos ha0]; exact leafs (d + 1) (k + 2) a at_ h0 h1 (by omega)
    · rw [if_neg ha0]
      obtain ⟨r, at', h, g2, g3, g4, g5⟩ := next_total L at_ 8 hL h0 h1 (by decide) (by decide)
      unfold magpieref06_Source_Make.j0
      rw [h]
      simp only [Option.bind_some]
      by_cases hr0 : r = 0
      · rw [if_pos hr0]; exact leaf_made L hL (d + 1) k a r at' _ g4 g5 (.inl (by rw [hr0]; rfl))
      · rw [if_neg hr0]
        have hr : r = 1 ∨ r = 2 ∨ r = 3 ∨ r = 4 ∨ r = 5 ∨ r = 6 ∨ r = 7 := by omega
        rcases hr with hr | hr | hr | hr | hr | hr
        · exact leaf_made L hL (d + 1) k a r at' _ g4 g5 (.inl (by rw [hr]; rfl))
        · exact leaf_made L hL (d + 1) k a r at' _ g4 g5 (.inr (.inl hr))
        · exact leaf_made L hL (d + 1) k a r at' _ g4 g5 (.inr (.inr (.inl hr)))
        · exact leaf_made L hL (d + 1) k a r at' _ g4 g5 (.inr (.inr (.inr hr)))
        · subst hr
          unfold magpieref06_Source_Make.j1
          rw [if_neg (by decide), if_neg (by decide), if_neg (by decide), if_neg (by decide), if_pos rfl, w64_in (a - 1) (by omega)]
          obtain ⟨r1, r2, r3, r4, r5, h', hok, k0, k1⟩ := ih (a - 1) (by omega) at' g4 g5 k (by omega)
          rw [h']
          exact ⟨_, _, _, _, _, rfl, ⟨Nat.zero_le _, Nat.zero_le _, by simp, fun x hx => by rw [List.mem_singleton.1 hx]; exact hok⟩, k0, k1⟩
        · have hrr : r ≠ 0 ∧ r ≠ 1 ∧ r ≠ 2 ∧ r ≠ 3 ∧ r ≠ 4 ∧ r ≠ 5 := by omega
          unfold magpieref06_Source_Make.j1
          rw [if_neg (by simp; omega), if_neg hrr.2.2.1, if_neg hrr.2.2.2.1, if_neg hrr.2.2.2.2.1, if_neg hrr.2.2.2.2.2]
          obtain ⟨q, at2, h2, q1, q2, q3, q4⟩ := next_total L at' 2 hL g4 g5 (by decide) (by decide)
          obtain ⟨p, at3, h3, p1, p2, p3, p4⟩ := next_total L at2 2 hL q3 q4 (by decide) (by decide)
          simp only [Option.bind_some, h2, h3]
          obtain ⟨m, hm⟩ : ∃ m : Nat, wrap64 (2 + p) = (m : Int) ∧ m ≤ 3 := ⟨(2 + p).toNat, by rw [w64_in _ (by omega)]; omega, by omega⟩
          rw [hm.1]
          exact row_made L hL d (by omega) a (by omega) (by omega) (fun at_ h0 h1 k hk => ih (a - 1) (by omega) at_ h0 h1 k hk) _ m [] at3 k (by simpa using hm.2) (fun x hx => by cases hx) p3 p4 (by omega)
end Go.Proofs.YtfejjfbhlmjkeaaDoor.F

/- slices.ContainsFunc over a row of filters, at a predicate that is a closure of the program's. -/
set_option linter.unusedVariables false
set_option linter.unusedSimpArgs false
namespace Go.Proofs.YtfejjfbhlmjkeaaDoor.F
open Go.RowKit Go.Proofs.YtfejjfbhlmjkeaaDoorW.PrintWords Go.Proofs.YtfejjfbhlmjkeaaDoorW.PrintLast Go.Proofs.YtfejjfbhlmjkeaaDoorW.PrintMore Go.Proofs.YtfejjfbhlmjkeaaDoor.B Go.Proofs.YtfejjfbhlmjkeaaDoor.W Go.Proofs.YtfejjfbhlmjkeaaDoor.M Go.Proofs.YtfejjfbhlmjkeaaDoor.PMatchNot

/-- A filter, as a value. -/
def fv (T : S36) (A : Option Addr) (c : Nat) : Value := .agg #[.int .i64 T.f0, .string T.f1, .string T.f2, .slice A T.f3.length c]
/-- What is asked of a predicate: at each filter of the row. -/
def PB (g : Nat) (lb : Array Value) (p : S36 → Bool) (xs : List S36) (w : World) : Prop :=
  ∀ (W : World) (x : S36) (A : Option Addr) (c : Nat), x ∈ xs → Below w.heap.size w W → Kd.C k36 W A x.f3.length x.f3 → x.f3.length ≤ c → Calls Tryd.prog g (#[fv x A c] ++ lb) W fun e w' => e = .returned (.bool (p x)) ∧ Below W.heap.size W w'
theorem mem_at {xs : List S36} {i : Nat} (h : i < xs.length) : rd_T36 xs (i : Int) ∈ xs := by
  unfold rd_T36
  rw [Int.toNat_natCast, List.getD_eq_getElem?_getD, List.getElem?_eq_getElem h]
  exact List.getElem_mem h
theorem at_nat {xs : List S36} {j : Nat} (h : j < xs.length) : rd_T36 xs (j : Int) = xs[j] := by
  unfold rd_T36
  rw [Int.toNat_natCast, List.getD_eq_getElem?_getD, List.getElem?_eq_getElem h]
  rfl
set_option maxRecDepth 20000 in
set_option maxHeartbeats 2000000 in
theorem indexF (g : Nat) (lb : Array Value) (eg : ∀ args w, (callFunc g args).run Tryd.prog w = .ok (.enter g args) w) (p : S36 → Bool) (xs : List S36) (A : Option Addr) (c : Nat) (w : World) (hp : PB g lb p xs w) (hx : Kd.C k36 w A xs.length xs) (hc : xs.length ≤ c) (hm : xs.length ≤ 100) :
    Calls Tryd.prog 73 #[.slice A xs.length c, .func (.func g) #[] lb] w fun e w' => ∃ r : Int, e = .returned (.int .i64 r) ∧ (decide (0 ≤ r) = xs.any p) ∧ Below w.heap.size w w' := by
  have HP := Aside0.mk hp
  have HX := Aside0.mk hx
  have HC := Aside0.mk hc
  have HM := Aside0.mk hm
  clear hp hx hc hm
  go_enter Tryd.func73, Tryd.ntmps73
  go_wp2
  go_loopg [5, 8] xs.length (fun gg _ s8 wr => ∃ kk : Nat, kk ≤ xs.length ∧ xs.length - kk ≤ gg ∧ s8 = .int .i64 kk ∧ Aside0 (Below w.heap.size w wr) ∧ Aside0 (∀ j, j < kk → p (rd_T36 xs (j : Int)) = false))
  case atStart => exact ⟨0, Nat.zero_le _, by omega, rfl, ⟨Below.refl _ w⟩, ⟨fun j hj => absurd hj (Nat.not_lt_zero _)⟩⟩
  case round =>
    obtain ⟨kk, hkk, hg, rfl, BW, AL⟩ := hrel
    by_cases hlt : kk < xs.length
    · have hltz : (kk : Int) < (xs.length : Int) := by omega
      have hx := Kd.C_below HX.out BW.out
      obtain ⟨ad, A3, c3, hA, k0, k1, k2, k3, l3, g3⟩ := at_T36 hx (kk : Int) (by omega) hltz
      have hcall := HP.out wr _ A3 c3 (mem_at hlt) BW.out g3 l3
      clear hx g3 l3
      subst hA
      rw [Int.toNat_natCast] at k0 k1 k2 k3
      unfold fv at hcall
      generalize hy : rd_T36 xs (kk : Int) = y at k0 k1 k2 k3 hcall
      have HY := Aside0.mk hy
      clear hy
      have HN := Aside0.mk hlt
      have d1 : decide ((kk : Int) < (xs.length : Int)) = true := decide_eq_true hltz
      have d2 : decide (0 ≤ (kk : Int)) = true := decide_eq_true (by omega)
      have Hg := Aside0.mk hg
      have Hkk := Aside0.mk hkk
      clear hg hkk
      obtain ⟨y0, y1, y2, y3⟩ := y
      dsimp only at k0 k1 k2 k3 hcall
      cases hq : p ⟨y0, y1, y2, y3⟩ with
      | true =>
        rw [hq] at hcall
        have HQ := Aside0.mk hq
        clear hq
        go_wp2_with (go_at_fn g; refine hcall.mono ?_; rintro e w' ⟨rfl, hb'⟩; have HB' := Aside0.mk hb'; clear hb')
        go_ret
        refine ⟨_, rfl, ?_, below_step BW.out HB'.out⟩
        rw [List.any_eq_true.2 ⟨_, mem_at HN.out, by rw [HY.out]; exact HQ.out⟩]
        exact d2
      | false =>
        rw [hq] at hcall
        have HQ := Aside0.mk hq
        clear hq
        go_wp2_with (go_at_fn g; refine hcall.mono ?_; rintro e w' ⟨rfl, hb'⟩; have HB' := Aside0.mk hb'; clear hb')
        go_roundg (xs.length - (kk + 1))
        case measure => have := Hg.out; omega
        case rel =>
          have := HM.out
          refine ⟨kk + 1, by omega, by omega, ?_, ⟨below_step BW.out HB'.out⟩, ⟨fun j hj => ?_⟩⟩
          · rw [w64_in _ (by omega)]; rfl
          · by_cases e : j = kk
            · subst e
              rw [HY.out]; exact HQ.out
            · exact AL.out j (by omega)
    · have hltz : ¬ (kk : Int) < (xs.length : Int) := by omega
      have d1 : decide (kk < xs.length) = false := decide_eq_false hlt
      have he : kk = xs.length := by omega
      have AL2 := Aside0.mk (fun j (hj : j < xs.length) => AL.out j (by omega))
      clear AL he hltz hlt hg hkk eg
      go_wp2
      go_ret
      refine ⟨_, rfl, ?_, BW.out⟩
      have hno : xs.any p = false := by
        rw [List.any_eq_false]
        intro x hxm hpx
        obtain ⟨j, hj, rfl⟩ := List.getElem_of_mem hxm
        have := AL2.out j hj
        rw [at_nat hj] at this
        rw [this] at hpx
        cases hpx
      rw [hno]
      rfl
theorem containsF (g : Nat) (lb : Array Value) (eg : ∀ args w, (callFunc g args).run Tryd.prog w = .ok (.enter g args) w) (p : S36 → Bool) (xs : List S36) (A : Option Addr) (c : Nat) (w : World) (hp : PB g lb p xs w) (hx : Kd.C k36 w A xs.length xs) (hc : xs.length ≤ c) (hm : xs.length ≤ 100) :
    Calls Tryd.prog 52 #[.slice A xs.length c, .func (.func g) #[] lb] w fun e w' => e = .returned (.bool (xs.any p)) ∧ Below w.heap.size w w' := by
  have hI := indexF g lb eg p xs A c w hp hx hc hm
  clear eg hp hx hc hm
  obtain ⟨n, hn⟩ : ∃ n, n = xs.length := ⟨_, rfl⟩
  rw [← hn] at hI ⊢
  obtain ⟨q, hq⟩ : ∃ q, q = xs.any p := ⟨_, rfl⟩
  rw [← hq] at hI ⊢
  clear hn hq
  have HI := Aside0.mk hI
  clear hI
  go_enter Tryd.func52, Tryd.ntmps52
  go_wp2_with (go_at_call 73; refine HI.out.mono ?_; rintro e w' ⟨r, rfl, hr, hb'⟩; have HB' := Aside0.mk hb'; have HR := Aside0.mk hr; clear hb' hr)
  go_ret
  exact ⟨by rw [← HR.out]; rfl, HB'.out⟩
end Go.Proofs.YtfejjfbhlmjkeaaDoor.F

/- match.Line over trees of filters. -/
set_option linter.unusedVariables false
set_option linter.unusedSimpArgs false
namespace Go.Proofs.YtfejjfbhlmjkeaaDoor.F
open Go.RowKit Go.Shelf Go.Proofs.YtfejjfbhlmjkeaaDoor.Hi Go.Proofs.YtfejjfbhlmjkeaaDoorW.PrintWords Go.Proofs.YtfejjfbhlmjkeaaDoorW.PrintLast Go.Proofs.YtfejjfbhlmjkeaaDoorW.PrintMore Go.Proofs.YtfejjfbhlmjkeaaDoor.B Go.Proofs.YtfejjfbhlmjkeaaDoor.W Go.Proofs.YtfejjfbhlmjkeaaDoor.M Go.Proofs.YtfejjfbhlmjkeaaDoor.PMatchNot

/-- Whether a filter keeps a line. -/
def lineV (line : ByteArray) : Nat → S36 → Bool
  | 0, _ => false
  | d + 1, T => if T.f0 = 1 then true else if T.f0 = 3 then hasB line T.f2 else if T.f0 = 4 then Lib.contains line.data.toList T.f2.data.toList
    else if T.f0 = 5 then hasP line (T.f1 ++ ⟨#[61]⟩ ++ T.f2) else if T.f0 = 6 ∨ T.f0 = 7 then ((T.f3.any fun k => !lineV line d k) == (T.f0 == 6)) else if T.f0 = 8 then T.f3.any (lineV line d) else false
/-- What Line answers at filters so deep. -/
def LineAt (line : ByteArray) (W : World) (d : Nat) : Prop := ∀ (T : S36) (A : Option Addr) (c : Nat) (w : World), OkT d T → Below W.heap.size W w → Kd.C k36 w A T.f3.length T.f3 → T.f3.length ≤ c →
  Calls Tryd.prog 27 #[fv T A c, .string line] w fun e w' => e = .returned (.bool (lineV line d T)) ∧ Below w.heap.size w w'
theorem box_cell {w : World} {b : Nat} {v : Value} {t : TypeId} (h : w.heap[b]? = some (.cells #[v] t (0, 0))) : w.cell? ⟨b, 0, none⟩ = some v := by rw [blk_cell h]; rfl
theorem clo1 {line : ByteArray} {W0 : World} {d : Nat} (ih : LineAt line W0 d) (bl : Nat) (w : World) (hw : Below W0.heap.size W0 w) (hb : w.heap[bl]? = some (.cells #[.string line] 9 (0, 0))) (xs : List S36) (hx : ∀ x ∈ xs, OkT d x) :
    PB 49 #[.pointer (some ⟨bl, 0, none⟩)] (lineV line d) xs w := by
  intro W x A c hm hB hC hl
  have hlt : bl < w.heap.size := (Array.getElem?_eq_some_iff.1 hb).1
  have hcell : ∀ o : Obj, (W.alloc o).cell? ⟨bl, 0, none⟩ = some (.string line) := fun o => box_cell (((below_alloc hB o).block bl hlt).trans hb)
  have HI := Aside0.mk (fun o => ih x A c (W.alloc o) (hx x hm) (below_step hw (below_alloc hB o)) (Kd.C_below hC (below_alloc (Below.refl _ W) o)) hl)
  clear ih hw hb hx hm hB hC hl hlt
  unfold fv at HI ⊢
  obtain ⟨q, hq⟩ : ∃ q, q = lineV line d x := ⟨_, rfl⟩
  rw [← hq] at HI ⊢
  clear hq
  simp only [List.append_toArray, List.cons_append, List.nil_append]
  go_enter Tryd.func49, Tryd.ntmps49
  go_wp2_with (go_at_call 27; refine (HI.out _).mono ?_; rintro e w' ⟨rfl, hb'⟩; have HB' := Aside0.mk hb'; clear hb')
  go_ret
  exact ⟨rfl, below_step (below_alloc (Below.refl _ W) _) HB'.out⟩
theorem clo2 {line : ByteArray} {W0 : World} {d : Nat} (ih : LineAt line W0 d) (bl : Nat) (w : World) (hw : Below W0.heap.size W0 w) (hb : w.heap[bl]? = some (.cells #[.string line] 9 (0, 0))) (xs : List S36) (hx : ∀ x ∈ xs, OkT d x) :
    PB 50 #[.pointer (some ⟨bl, 0, none⟩)] (fun k => !lineV line d k) xs w := by
  intro W x A c hm hB hC hl
  have hlt : bl < w.heap.size := (Array.getElem?_eq_some_iff.1 hb).1
  have hcell : ∀ o : Obj, (W.alloc o).cell? ⟨bl, 0, none⟩ = some (.string line) := fun o => box_cell (((below_alloc hB o).block bl hlt).trans hb)
  have HI := Aside0.mk (fun o => ih x A c (W.alloc o) (hx x hm) (below_step hw (below_alloc hB o)) (Kd.C_below hC (below_alloc (Below.refl _ W) o)) hl)
  clear ih hw hb hx hm hB hC hl hlt
  unfold fv at HI ⊢
  dsimp only
  obtain ⟨q, hq⟩ : ∃ q, q = lineV line d x := ⟨_, rfl⟩
  rw [← hq] at HI ⊢
  clear hq
  simp only [List.append_toArray, List.cons_append, List.nil_append]
  go_enter Tryd.func50, Tryd.ntmps50
  go_wp2_with (go_at_call 27; refine (HI.out _).mono ?_; rintro e w' ⟨rfl, hb'⟩; have HB' := Aside0.mk hb'; clear hb')
  go_ret
  exact ⟨rfl, below_step (below_alloc (Below.refl _ W) _) HB'.out⟩
theorem eg1 : ∀ args w, (callFunc 49 args).run Tryd.prog w = .ok (.enter 49 args) w := enters_of Tryd.func49 (by kernel_rfl) rfl
theorem eg2 : ∀ args w, (callFunc 50 args).run Tryd.prog w = .ok (.enter 50 args) w := enters_of Tryd.func50 (by kernel_rfl) rfl
theorem line_at1 (t1 t2 line : ByteArray) (v3 : Value) (w : World) : Calls Tryd.prog 27 #[.agg #[.int .i64 1, .string t1, .string t2, v3], .string line] w fun e w' => e = .returned (.bool true) ∧ Below w.heap.size w w' := by
  have hmf : ∀ (fn : Fn) (first cap : Array Value) (w : World), (Instr.makeFunc fn first cap).run Tryd.prog w = .ok (.func fn first cap) w := fun _ _ _ _ => rfl
  go_enter Tryd.func27, Tryd.ntmps27
  go_wp2
  go_ret
  exact ⟨rfl, below_alloc (below_alloc (Below.refl _ w) _) _⟩
theorem line_at3 (t1 t2 line : ByteArray) (A : Option Addr) (n c : Nat) (hl : line.size ≤ 4611686018427) (w : World) : Calls Tryd.prog 27 #[.agg #[.int .i64 3, .string t1, .string t2, .slice A n c], .string line] w fun e w' => e = .returned (.bool (hasB line t2)) ∧ Below w.heap.size w w' := by
  have Hh := Aside0.mk (fun w => has_any line t2 w hl)
  go_enter Tryd.func27, Tryd.ntmps27
  go_wp2_with (go_at_call 19; with_reducible refine (Hh.out _).mono ?_; rintro e w1 ⟨rfl, hb1⟩; have HB1 := Aside0.mk hb1; clear hb1)
  go_ret
  exact ⟨rfl, below_step (below_alloc (below_alloc (Below.refl _ w) _) _) HB1.out⟩
theorem line_at4 {W w : World} (hC : Con W) (hb : Below W.heap.size W w) (t1 t2 line : ByteArray) (A : Option Addr) (n c : Nat) (hl : line.size ≤ 2000) : Calls Tryd.prog 27 #[.agg #[.int .i64 4, .string t1, .string t2, .slice A n c], .string line] w fun e w' => e = .returned (.bool (Lib.contains line.data.toList t2.data.toList)) ∧ Below w.heap.size w w' := by
  have hlt : line.size < 4294967281 := by omega
  have Hh : Aside0 (∀ w', Below w.heap.size w w' → Calls Tryd.prog 23 #[.string line, .string t2] w' fun e w2 => e = .returned (.bool (Lib.contains line.data.toList t2.data.toList)) ∧ w2 = w') := ⟨fun w' hb' => hC line t2 w' hlt (below_step hb hb')⟩
  clear hlt
  clear hC hb
  go_enter Tryd.func27, Tryd.ntmps27
  go_wp2_with (go_at_call 23; with_reducible refine (Hh.out _ (below_alloc (below_alloc (Below.refl _ w) _) _)).mono ?_; rintro e w1 ⟨rfl, hw1⟩; have HW1 := Aside0.mk hw1; clear hw1)
  go_ret
  exact ⟨rfl, by rw [HW1.out]; exact below_alloc (below_alloc (Below.refl _ w) _) _⟩
theorem line_at5 {W w : World} (hS : Spl W) (hb : Below W.heap.size W w) (t1 t2 line : ByteArray) (A : Option Addr) (n c : Nat) (hl : line.size ≤ 2000) (h1 : t1.size ≤ 100) (h2 : t2.size ≤ 100) : Calls Tryd.prog 27 #[.agg #[.int .i64 5, .string t1, .string t2, .slice A n c], .string line] w fun e w' => e = .returned (.bool (hasP line (t1 ++ ⟨#[61]⟩ ++ t2))) ∧ Below w.heap.size w w' := by
  have Hf : ∀ t, Aside0 (∀ w', Below w.heap.size w w' → Calls Tryd.prog 51 #[.string line, .string t] w' fun e w'' => e = .returned (.bool (hasP line t)) ∧ Below w'.heap.size w' w'') := fun t => ⟨fun w' hb' => field_any hS (below_step hb hb') line t hl⟩
  have Hh := Hf (t1 ++ ⟨#[61]⟩ ++ t2)
  clear Hf
  have c1 : (9223372036854775807 < t1.size + 1) = False := by simp; omega
  have c2 : (9223372036854775807 < t1.size + 1 + t2.size) = False := by simp; omega
  clear hS hb h1 h2 hl
  go_enter Tryd.func27, Tryd.ntmps27
  go_wp2_with (go_at_call 51; with_reducible refine (Hh.out _ (below_alloc (below_alloc (Below.refl _ w) _) _)).mono ?_; rintro e w1 ⟨rfl, hb1⟩; have HB1 := Aside0.mk hb1; clear hb1)
  go_ret
  exact ⟨rfl, below_step (below_alloc (below_alloc (Below.refl _ w) _) _) HB1.out⟩
theorem line_else (t0 : Int) (h : t0 ≠ 1 ∧ t0 ≠ 3 ∧ t0 ≠ 4 ∧ t0 ≠ 5 ∧ t0 ≠ 6 ∧ t0 ≠ 7 ∧ t0 ≠ 8) (t1 t2 line : ByteArray) (v3 : Value) (w : World) : Calls Tryd.prog 27 #[.agg #[.int .i64 t0, .string t1, .string t2, v3], .string line] w fun e w' => e = .returned (.bool false) ∧ Below w.heap.size w w' := by
  have hmf : ∀ (fn : Fn) (first cap : Array Value) (w : World), (Instr.makeFunc fn first cap).run Tryd.prog w = .ok (.func fn first cap) w := fun _ _ _ _ => rfl
  obtain ⟨h1, h3, h4, h5, h6, h7, h8⟩ := h
  go_enter Tryd.func27, Tryd.ntmps27
  go_wp2
  go_ret
  exact ⟨rfl, below_alloc (below_alloc (Below.refl _ w) _) _⟩
theorem boxes (w : World) (o o' : Obj) : ((w.alloc o).alloc o').heap[w.heap.size]? = (w.alloc o).heap[w.heap.size]? := (below_alloc (Below.refl _ (w.alloc o)) o').block w.heap.size (by simp)
theorem line_at8 {line : ByteArray} {W : World} {d : Nat} (ih : LineAt line W d) (t1 t2 : ByteArray) (t3 : List S36) (A : Option Addr) (c : Nat) (w : World) (hb : Below W.heap.size W w) (hk : ∀ k ∈ t3, OkT d k) (h3 : t3.length ≤ 100) (hC : Kd.C k36 w A t3.length t3) (hc : t3.length ≤ c) : Calls Tryd.prog 27 #[.agg #[.int .i64 8, .string t1, .string t2, .slice A t3.length c], .string line] w fun e w' => e = .returned (.bool (t3.any (lineV line d))) ∧ Below w.heap.size w w' := by
  have hmf : ∀ (fn : Fn) (first cap : Array Value) (w : World), (Instr.makeFunc fn first cap).run Tryd.prog w = .ok (.func fn first cap) w := fun _ _ _ _ => rfl
  have HH : ∀ o, Aside0 (Calls Tryd.prog 52 #[.slice A t3.length c, .func (.func 49) #[] #[.pointer (some ⟨w.heap.size + 1, 0, none⟩)]] ((w.alloc o).alloc (.cells #[.string line] 9)) fun e w' => e = .returned (.bool (t3.any (lineV line d))) ∧ Below ((w.alloc o).alloc (.cells #[.string line] 9)).heap.size ((w.alloc o).alloc (.cells #[.string line] 9)) w') := fun o => ⟨by
    have hbb := below_alloc (below_alloc (Below.refl _ w) o) (.cells #[.string line] 9)
    exact containsF _ _ eg1 _ t3 A c _ (clo1 ih (w.heap.size + 1) _ (below_step hb hbb) (by have := World.alloc_heap_new (w.alloc o) (.cells #[.string line] 9); simpa using this) t3 hk) (Kd.C_below hC hbb) hc h3⟩
  clear ih hb hk h3 hC hc
  obtain ⟨q, hq⟩ : ∃ q, q = t3.any (lineV line d) := ⟨_, rfl⟩
  obtain ⟨n, hn⟩ : ∃ n, n = t3.length := ⟨_, rfl⟩
  rw [← hq] at HH ⊢
  rw [← hn] at HH ⊢
  clear hq hn
  go_enter Tryd.func27, Tryd.ntmps27
  go_wp2_with (go_at_call 52; refine ((HH _).out).mono ?_; rintro e w1 ⟨rfl, hb1⟩; have HB1 := Aside0.mk hb1; clear hb1)
  go_ret
  exact ⟨rfl, below_step (below_alloc (below_alloc (Below.refl _ w) _) _) HB1.out⟩
theorem line_at67 {line : ByteArray} {W : World} {d : Nat} (ih : LineAt line W d) (t0 : Int) (ht : t0 = 6 ∨ t0 = 7) (t1 t2 : ByteArray) (t3 : List S36) (A : Option Addr) (c : Nat) (w : World) (hb : Below W.heap.size W w) (hk : ∀ k ∈ t3, OkT d k) (h3 : t3.length ≤ 100) (hC : Kd.C k36 w A t3.length t3) (hc : t3.length ≤ c) : Calls Tryd.prog 27 #[.agg #[.int .i64 t0, .string t1, .string t2, .slice A t3.length c], .string line] w fun e w' => e = .returned (.bool ((t3.any fun k => !lineV line d k) == (t0 == 6))) ∧ Below w.heap.size w w' := by
  have hmf : ∀ (fn : Fn) (first cap : Array Value) (w : World), (Instr.makeFunc fn first cap).run Tryd.prog w = .ok (.func fn first cap) w := fun _ _ _ _ => rfl
  have HH : ∀ V, Below w.heap.size w V → V.heap[w.heap.size + 1]? = some (.cells #[.string line] 9 (0, 0)) → Aside0 (Calls Tryd.prog 52 #[.slice A t3.length c, .func (.func 50) #[] #[.pointer (some ⟨w.heap.size + 1, 0, none⟩)]] V fun e w' => e = .returned (.bool (t3.any fun k => !lineV line d k)) ∧ Below V.heap.size V w') := fun V hV hbx => ⟨
    containsF _ _ eg2 _ t3 A c _ (clo2 ih (w.heap.size + 1) _ (below_step hb hV) hbx t3 hk) (Kd.C_below hC hV) hc h3⟩
  clear ih hb hk h3 hC hc
  obtain ⟨q, hq⟩ : ∃ q, q = t3.any fun k => !lineV line d k := ⟨_, rfl⟩
  obtain ⟨n, hn⟩ : ∃ n, n = t3.length := ⟨_, rfl⟩
  rw [← hq] at HH ⊢
  rw [← hn] at HH ⊢
  clear hq hn
  have d1 : decide (t0 = 1) = false := decide_eq_false (by omega)
  have d3 : decide (t0 = 3) = false := decide_eq_false (by omega)
  have d4 : decide (t0 = 4) = false := decide_eq_false (by omega)
  have d5 : decide (t0 = 5) = false := decide_eq_false (by omega)
  obtain ⟨z, hz⟩ : ∃ z, z = (t0 == 6) := ⟨_, rfl⟩
  refine (callsIn_wide (n := 9)).1 ?_
  refine callsIn_of_wp Tryd.func27 rfl trivial ?_ rfl
  simp only [Tryd.ntmps27, List.size_toArray, List.length_cons, List.length_nil, Nat.reduceAdd, Nat.reduceSub, Array.replicate_succ, Array.replicate_zero, List.push_toArray, List.append_toArray, List.nil_append, List.cons_append]
  rcases ht with rfl | rfl
  · gi_wp2_with fail
    have hbb := below_alloc (below_alloc (Below.refl _ w) (.cells #[.int .i64 6, .string t1, .string t2, .slice A n c] 36)) (.cells #[.string line] 9)
    have HBd : Aside0 (Below w.heap.size w ((w.alloc (.cells #[.int .i64 6, .string t1, .string t2, .slice A n c] 36)).alloc (.cells #[.string line] 9)).drew) := ⟨pw_below_drewN hbb 1⟩
    have HSd : Aside0 (((w.alloc (.cells #[.int .i64 6, .string t1, .string t2, .slice A n c] 36)).alloc (.cells #[.string line] 9)).drew.heap[w.heap.size]? = some (.cells #[.int .i64 6, .string t1, .string t2, .slice A n c] 36 (0, 0))) := ⟨(boxes w _ _).trans (World.alloc_heap_new w _)⟩
    have hL0 : ((w.alloc (.cells #[.int .i64 6, .string t1, .string t2, .slice A n c] 36)).alloc (.cells #[.string line] 9)).heap[w.heap.size + 1]? = some (.cells #[.string line] 9 (0, 0)) := by have := World.alloc_heap_new (w.alloc (.cells #[.int .i64 6, .string t1, .string t2, .slice A n c] 36)) (.cells #[.string line] 9); simpa using this
    have HLd : Aside0 (((w.alloc (.cells #[.int .i64 6, .string t1, .string t2, .slice A n c] 36)).alloc (.cells #[.string line] 9)).drew.heap[w.heap.size + 1]? = some (.cells #[.string line] 9 (0, 0))) := ⟨hL0⟩
    clear hL0
    clear hbb
    obtain ⟨V, hV⟩ : ∃ V, V = ((w.alloc (.cells #[.int .i64 6, .string t1, .string t2, .slice A n c] 36)).alloc (.cells #[.string line] 9)) := ⟨_, rfl⟩
    rw [← hV] at HBd HSd HLd ⊢
    have HC := HH _ HBd.out HLd.out
    clear HH HLd hV
    have Hbl : Aside0 (w.heap.size < V.drew.heap.size) := ⟨(Array.getElem?_eq_some_iff.1 HSd.out).1⟩
    have hfo : (Tryd.prog).follows .mixedOrders = true := by kernel_rfl
    obtain ⟨b, hb⟩ : ∃ b, b = w.heap.size := ⟨_, rfl⟩
    obtain ⟨bl, hbl⟩ : ∃ bl, bl = w.heap.size + 1 := ⟨_, rfl⟩
    have HBd2 : Aside0 (Below b w V.drew) := ⟨hb ▸ HBd.out⟩
    rw [← hbl] at HC ⊢
    rw [← hb] at HSd Hbl ⊢
    have HBB := Aside0.mk hb
    clear HBd hbl hb
    refine hi_start 9 (fun W_ => W_.heap[b]? = some (.cells #[.int .i64 6, .string t1, .string t2, .slice A n c] 36 (0, 0))) hfo ?_
    refine hi_pure 0 (some 38) (v := ?_) (L' := #[true, false, false, false, false, false, false, false, false]) (a' := ?_) rfl rfl rfl (by kernel_rfl) (fun _ _ _ h => h) (fun _ => rfl) (fun _ => HSd.out) (Or.inl ⟨by rfl, ?_⟩) ?_ ?_
    rotate_left 2
    · intro w_
      go_simp
      try with_reducible rfl
    · simp only [Act.put, List.setIfInBounds_toArray, List.set_cons_zero, List.set_cons_succ, i64_w, i32_w]
      rfl
    refine hi_take 1 (some 39) (v := ?_) (L' := #[true, true, false, false, false, false, false, false, false]) (a' := ?_) rfl rfl rfl (by kernel_rfl) (fun _ _ _ h => h) (fun _ => rfl) HSd.out (Or.inl ⟨by rfl, ?_⟩) ?_ ?_
    rotate_left 2
    · intro w_ hw_
      obtain ⟨k0, k1, k2, k3⟩ := cells4 hw_
      go_simp
      try with_reducible rfl
    · simp only [Act.put, List.setIfInBounds_toArray, List.set_cons_zero, List.set_cons_succ, i64_w, i32_w]
      rfl
    refine hi_pure 2 (some 40) (v := ?_) (L' := #[true, true, true, false, false, false, false, false, false]) (a' := ?_) rfl rfl rfl (by kernel_rfl) (fun _ _ _ h => h) (fun _ => rfl) (fun _ => HSd.out) (Or.inl ⟨by rfl, ?_⟩) ?_ ?_
    rotate_left 2
    · intro w_
      go_simp
      try with_reducible rfl
    · simp only [Act.put, List.setIfInBounds_toArray, List.set_cons_zero, List.set_cons_succ, i64_w, i32_w]
      rfl
    refine hi_pure 4 (some 42) (v := ?_) (L' := #[true, true, true, false, true, false, false, false, false]) (a' := ?_) rfl rfl rfl (by kernel_rfl) (fun _ _ _ h => h) (fun _ => rfl) (fun _ => HSd.out) (Or.inl ⟨by rfl, ?_⟩) ?_ ?_
    rotate_left 2
    · intro w_
      go_simp
      try with_reducible rfl
    · simp only [Act.put, List.setIfInBounds_toArray, List.set_cons_zero, List.set_cons_succ, i64_w, i32_w]
      rfl
    refine hi_take 5 (some 43) (v := ?_) (L' := #[true, true, true, false, true, true, false, false, false]) (a' := ?_) rfl rfl rfl (by kernel_rfl) (fun _ _ _ h => h) (fun _ => rfl) HSd.out (Or.inl ⟨by rfl, ?_⟩) ?_ ?_
    rotate_left 2
    · intro w_ hw_
      obtain ⟨k0, k1, k2, k3⟩ := cells4 hw_
      go_simp
      try with_reducible rfl
    · simp only [Act.put, List.setIfInBounds_toArray, List.set_cons_zero, List.set_cons_succ, i64_w, i32_w]
      rfl
    refine hi_pure 6 (some 44) (v := ?_) (L' := #[true, true, true, false, true, true, true, false, false]) (a' := ?_) rfl rfl rfl (by kernel_rfl) (fun _ _ _ h => h) (fun _ => rfl) (fun _ => HSd.out) (Or.inl ⟨by rfl, ?_⟩) ?_ ?_
    rotate_left 2
    · intro w_
      go_simp
      try with_reducible rfl
    · simp only [Act.put, List.setIfInBounds_toArray, List.set_cons_zero, List.set_cons_succ, i64_w, i32_w]
      rfl
    refine hi_one 3 (L' := #[true, true, true, true, true, true, true, false, false]) rfl (by kernel_rfl) rfl (fun K hK => ?_)
    go_simp
    gi_wp2_with (refine ⟨trivial, ?_⟩; gi_at_call 52; refine (callsIn_wide.2 HC.out).mono ?_; rintro e W3 ⟨rfl, hb_⟩)
    have HBd3 := Aside0.mk (below_step (HBB.out ▸ HBd2.out) hb_)
    have HSd3 := Aside0.mk ((hb_.block b Hbl.out).trans HSd.out)
    clear hb_
    refine hK.out _ _ (fun _ => HSd3.out) ?_
    clear hK K HC
    refine hi_pure 7 (some 45) (v := ?_) (L' := #[true, true, true, true, true, true, true, true, false]) (a' := ?_) rfl rfl rfl (by kernel_rfl) (fun _ _ _ h => h) (fun _ => rfl) (fun _ => HSd3.out) (Or.inl ⟨by rfl, ?_⟩) ?_ ?_
    rotate_left 2
    · intro w_
      go_simp
      try with_reducible rfl
    · simp only [Act.put, List.setIfInBounds_toArray, List.set_cons_zero, List.set_cons_succ, i64_w, i32_w]
      rfl
    refine hi_pure 8 (some 4) (v := ?_) (L' := #[true, true, true, true, true, true, true, true, true]) (a' := ?_) rfl rfl rfl (by kernel_rfl) (fun _ _ _ h => h) (fun _ => rfl) (fun _ => HSd3.out) (Or.inl ⟨by rfl, ?_⟩) ?_ ?_
    rotate_left 2
    · intro w_
      go_simp
      try with_reducible rfl
    · simp only [Act.put, List.setIfInBounds_toArray, List.set_cons_zero, List.set_cons_succ, i64_w, i32_w]
      rfl
    refine hi_done (by kernel_rfl) ?_ _
    gi_wp2
    refine bodyPost_ret (results_tmp rfl _ _ _) rfl ?_
    exact ⟨by cases q <;> rfl, HBd3.out⟩
  · gi_wp2_with fail
    have hbb := below_alloc (below_alloc (Below.refl _ w) (.cells #[.int .i64 7, .string t1, .string t2, .slice A n c] 36)) (.cells #[.string line] 9)
    have HBd : Aside0 (Below w.heap.size w ((w.alloc (.cells #[.int .i64 7, .string t1, .string t2, .slice A n c] 36)).alloc (.cells #[.string line] 9)).drew) := ⟨pw_below_drewN hbb 1⟩
    have HSd : Aside0 (((w.alloc (.cells #[.int .i64 7, .string t1, .string t2, .slice A n c] 36)).alloc (.cells #[.string line] 9)).drew.heap[w.heap.size]? = some (.cells #[.int .i64 7, .string t1, .string t2, .slice A n c] 36 (0, 0))) := ⟨(boxes w _ _).trans (World.alloc_heap_new w _)⟩
    have hL0 : ((w.alloc (.cells #[.int .i64 7, .string t1, .string t2, .slice A n c] 36)).alloc (.cells #[.string line] 9)).heap[w.heap.size + 1]? = some (.cells #[.string line] 9 (0, 0)) := by have := World.alloc_heap_new (w.alloc (.cells #[.int .i64 7, .string t1, .string t2, .slice A n c] 36)) (.cells #[.string line] 9); simpa using this
    have HLd : Aside0 (((w.alloc (.cells #[.int .i64 7, .string t1, .string t2, .slice A n c] 36)).alloc (.cells #[.string line] 9)).drew.heap[w.heap.size + 1]? = some (.cells #[.string line] 9 (0, 0))) := ⟨hL0⟩
    clear hL0
    clear hbb
    obtain ⟨V, hV⟩ : ∃ V, V = ((w.alloc (.cells #[.int .i64 7, .string t1, .string t2, .slice A n c] 36)).alloc (.cells #[.string line] 9)) := ⟨_, rfl⟩
    rw [← hV] at HBd HSd HLd ⊢
    have HC := HH _ HBd.out HLd.out
    clear HH HLd hV
    have Hbl : Aside0 (w.heap.size < V.drew.heap.size) := ⟨(Array.getElem?_eq_some_iff.1 HSd.out).1⟩
    have hfo : (Tryd.prog).follows .mixedOrders = true := by kernel_rfl
    obtain ⟨b, hb⟩ : ∃ b, b = w.heap.size := ⟨_, rfl⟩
    obtain ⟨bl, hbl⟩ : ∃ bl, bl = w.heap.size + 1 := ⟨_, rfl⟩
    have HBd2 : Aside0 (Below b w V.drew) := ⟨hb ▸ HBd.out⟩
    rw [← hbl] at HC ⊢
    rw [← hb] at HSd Hbl ⊢
    have HBB := Aside0.mk hb
    clear HBd hbl hb
    refine hi_start 9 (fun W_ => W_.heap[b]? = some (.cells #[.int .i64 7, .string t1, .string t2, .slice A n c] 36 (0, 0))) hfo ?_
    refine hi_pure 0 (some 38) (v := ?_) (L' := #[true, false, false, false, false, false, false, false, false]) (a' := ?_) rfl rfl rfl (by kernel_rfl) (fun _ _ _ h => h) (fun _ => rfl) (fun _ => HSd.out) (Or.inl ⟨by rfl, ?_⟩) ?_ ?_
    rotate_left 2
    · intro w_
      go_simp
      try with_reducible rfl
    · simp only [Act.put, List.setIfInBounds_toArray, List.set_cons_zero, List.set_cons_succ, i64_w, i32_w]
      rfl
    refine hi_take 1 (some 39) (v := ?_) (L' := #[true, true, false, false, false, false, false, false, false]) (a' := ?_) rfl rfl rfl (by kernel_rfl) (fun _ _ _ h => h) (fun _ => rfl) HSd.out (Or.inl ⟨by rfl, ?_⟩) ?_ ?_
    rotate_left 2
    · intro w_ hw_
      obtain ⟨k0, k1, k2, k3⟩ := cells4 hw_
      go_simp
      try with_reducible rfl
    · simp only [Act.put, List.setIfInBounds_toArray, List.set_cons_zero, List.set_cons_succ, i64_w, i32_w]
      rfl
    refine hi_pure 2 (some 40) (v := ?_) (L' := #[true, true, true, false, false, false, false, false, false]) (a' := ?_) rfl rfl rfl (by kernel_rfl) (fun _ _ _ h => h) (fun _ => rfl) (fun _ => HSd.out) (Or.inl ⟨by rfl, ?_⟩) ?_ ?_
    rotate_left 2
    · intro w_
      go_simp
      try with_reducible rfl
    · simp only [Act.put, List.setIfInBounds_toArray, List.set_cons_zero, List.set_cons_succ, i64_w, i32_w]
      rfl
    refine hi_pure 4 (some 42) (v := ?_) (L' := #[true, true, true, false, true, false, false, false, false]) (a' := ?_) rfl rfl rfl (by kernel_rfl) (fun _ _ _ h => h) (fun _ => rfl) (fun _ => HSd.out) (Or.inl ⟨by rfl, ?_⟩) ?_ ?_
    rotate_left 2
    · intro w_
      go_simp
      try with_reducible rfl
    · simp only [Act.put, List.setIfInBounds_toArray, List.set_cons_zero, List.set_cons_succ, i64_w, i32_w]
      rfl
    refine hi_take 5 (some 43) (v := ?_) (L' := #[true, true, true, false, true, true, false, false, false]) (a' := ?_) rfl rfl rfl (by kernel_rfl) (fun _ _ _ h => h) (fun _ => rfl) HSd.out (Or.inl ⟨by rfl, ?_⟩) ?_ ?_
    rotate_left 2
    · intro w_ hw_
      obtain ⟨k0, k1, k2, k3⟩ := cells4 hw_
      go_simp
      try with_reducible rfl
    · simp only [Act.put, List.setIfInBounds_toArray, List.set_cons_zero, List.set_cons_succ, i64_w, i32_w]
      rfl
    refine hi_pure 6 (some 44) (v := ?_) (L' := #[true, true, true, false, true, true, true, false, false]) (a' := ?_) rfl rfl rfl (by kernel_rfl) (fun _ _ _ h => h) (fun _ => rfl) (fun _ => HSd.out) (Or.inl ⟨by rfl, ?_⟩) ?_ ?_
    rotate_left 2
    · intro w_
      go_simp
      try with_reducible rfl
    · simp only [Act.put, List.setIfInBounds_toArray, List.set_cons_zero, List.set_cons_succ, i64_w, i32_w]
      rfl
    refine hi_one 3 (L' := #[true, true, true, true, true, true, true, false, false]) rfl (by kernel_rfl) rfl (fun K hK => ?_)
    go_simp
    gi_wp2_with (refine ⟨trivial, ?_⟩; gi_at_call 52; refine (callsIn_wide.2 HC.out).mono ?_; rintro e W3 ⟨rfl, hb_⟩)
    have HBd3 := Aside0.mk (below_step (HBB.out ▸ HBd2.out) hb_)
    have HSd3 := Aside0.mk ((hb_.block b Hbl.out).trans HSd.out)
    clear hb_
    refine hK.out _ _ (fun _ => HSd3.out) ?_
    clear hK K HC
    refine hi_pure 7 (some 45) (v := ?_) (L' := #[true, true, true, true, true, true, true, true, false]) (a' := ?_) rfl rfl rfl (by kernel_rfl) (fun _ _ _ h => h) (fun _ => rfl) (fun _ => HSd3.out) (Or.inl ⟨by rfl, ?_⟩) ?_ ?_
    rotate_left 2
    · intro w_
      go_simp
      try with_reducible rfl
    · simp only [Act.put, List.setIfInBounds_toArray, List.set_cons_zero, List.set_cons_succ, i64_w, i32_w]
      rfl
    refine hi_pure 8 (some 4) (v := ?_) (L' := #[true, true, true, true, true, true, true, true, true]) (a' := ?_) rfl rfl rfl (by kernel_rfl) (fun _ _ _ h => h) (fun _ => rfl) (fun _ => HSd3.out) (Or.inl ⟨by rfl, ?_⟩) ?_ ?_
    rotate_left 2
    · intro w_
      go_simp
      try with_reducible rfl
    · simp only [Act.put, List.setIfInBounds_toArray, List.set_cons_zero, List.set_cons_succ, i64_w, i32_w]
      rfl
    refine hi_done (by kernel_rfl) ?_ _
    gi_wp2
    refine bodyPost_ret (results_tmp rfl _ _ _) rfl ?_
    exact ⟨by cases q <;> rfl, HBd3.out⟩
theorem line_step {line : ByteArray} {W : World} (hC : Con W) (hS : Spl W) (hl : line.size ≤ 2000) {d : Nat} (ih : LineAt line W d) : LineAt line W (d + 1) := by
  intro T A c w hT hb hk hc
  obtain ⟨t0, t1, t2, t3⟩ := T
  obtain ⟨h1, h2, h3, h4⟩ := hT
  unfold fv lineV
  dsimp only at h1 h2 h3 h4 hk hc ⊢
  by_cases e1 : t0 = 1
  · rw [if_pos e1]; subst e1; exact line_at1 t1 t2 line _ w
  rw [if_neg e1]
  by_cases e3 : t0 = 3
  · rw [if_pos e3]; subst e3; exact line_at3 t1 t2 line A _ c (by omega) w
  rw [if_neg e3]
  by_cases e4 : t0 = 4
  · rw [if_pos e4]; subst e4; exact line_at4 hC hb t1 t2 line A _ c hl
  rw [if_neg e4]
  by_cases e5 : t0 = 5
  · rw [if_pos e5]; subst e5; exact line_at5 hS hb t1 t2 line A _ c hl h1 h2
  rw [if_neg e5]
  by_cases e6 : t0 = 6 ∨ t0 = 7
  · rw [if_pos e6]; exact line_at67 ih t0 e6 t1 t2 t3 A c w hb h4 (by omega) hk hc
  rw [if_neg e6]
  by_cases e8 : t0 = 8
  · rw [if_pos e8]; subst e8; exact line_at8 ih t1 t2 t3 A c w hb h4 (by omega) hk hc
  rw [if_neg e8]
  exact line_else t0 ⟨e1, e3, e4, e5, fun h => e6 (.inl h), fun h => e6 (.inr h), e8⟩ t1 t2 line _ w
theorem line_all {line : ByteArray} {W : World} (hC : Con W) (hS : Spl W) (hl : line.size ≤ 2000) : ∀ d, LineAt line W d
  | 0 => fun T A c w h => h.elim
  | d + 1 => line_step hC hS hl (line_all hC hS hl d)
end Go.Proofs.YtfejjfbhlmjkeaaDoor.F

/- A filter made of numbers: magpielaw09.filter. -/
set_option linter.unusedVariables false
set_option linter.unusedSimpArgs false
namespace Go.Proofs.YtfejjfbhlmjkeaaDoor.F
open Go.RowKit Go.Shelf Go.Proofs.YtfejjfbhlmjkeaaDoor.Hi Go.Proofs.YtfejjfbhlmjkeaaDoorW.PrintWords Go.Proofs.YtfejjfbhlmjkeaaDoorW.PrintLast Go.Proofs.YtfejjfbhlmjkeaaDoorW.PrintMore Go.Proofs.YtfejjfbhlmjkeaaDoor.B Go.Proofs.YtfejjfbhlmjkeaaDoor.W Go.Proofs.YtfejjfbhlmjkeaaDoor.M Go.Proofs.YtfejjfbhlmjkeaaDoor.PMatchNot

/-- A tree of filters, laid. -/
def IsT (d : Nat) (w : World) (T : S36) (A : Option Addr) (c : Nat) : Prop := OkT d T ∧ Kd.C k36 w A T.f3.length T.f3 ∧ T.f3.length ≤ c
theorem IsT.below {d : Nat} {w w' : World} {T : S36} {A : Option Addr} {c : Nat} (h : IsT d w T A c) (hb : Below w.heap.size w w') : IsT d w' T A c := ⟨h.1, Kd.C_below h.2.1 hb, h.2.2⟩
/-- The same, and what it leads to lies in ok. -/
def IsF (d : Nat) (w : World) (ok : Nat → Prop) (T : S36) (A : Option Addr) (c : Nat) : Prop := OkT d T ∧ Kd.F k36 w ok A T.f3.length T.f3 ∧ T.f3.length ≤ c
theorem IsF.now {d : Nat} {w : World} {ok : Nat → Prop} {T : S36} {A : Option Addr} {c : Nat} (h : IsF d w ok T A c) : IsT d w T A c := ⟨h.1, Kd.F_now h.2.1, h.2.2⟩
theorem IsF.below {d : Nat} {w w' : World} {ok : Nat → Prop} {T : S36} {A : Option Addr} {c : Nat} (h : IsF d w ok T A c) (hb : Below w.heap.size w w') : IsF d w' ok T A c := ⟨h.1, Kd.F_below h.2.1 hb, h.2.2⟩
theorem IsF.mono {d : Nat} {w : World} {ok ok' : Nat → Prop} {T : S36} {A : Option Addr} {c : Nat} (h : IsF d w ok T A c) (hk : ∀ k, ok k → ok' k) : IsF d w ok' T A c := ⟨h.1, Kd.F_mono h.2.1 hk, h.2.2⟩
theorem IsF.bound {d : Nat} {w : World} {ok : Nat → Prop} {T : S36} {A : Option Addr} {c : Nat} (h : IsF d w ok T A c) : IsF d w (fun k => k < w.heap.size) T A c := ⟨h.1, Kd.F_mono (Kd.F_bound h.2.1) (fun _ hk => hk.2), h.2.2⟩
theorem IsF.far {d : Nat} {w : World} {z : Nat} {T : S36} {A : Option Addr} {c : Nat} (h : IsF d w (fun k => k ≠ z) T A c) (i : Nat) (u : Value) : IsF d (w.setCell ⟨z, i, none⟩ u) (fun k => k ≠ z) T A c := ⟨h.1, Kd.F_far h.2.1 (fun k hk => hk) u, h.2.2⟩
theorem IsF.far4 {d : Nat} {w : World} {z : Nat} {T : S36} {A : Option Addr} {c : Nat} (h : IsF d w (fun k => k ≠ z) T A c) (u0 u1 u2 u3 : Value) : IsF d ((((w.setCell ⟨z, 0, none⟩ u0).setCell ⟨z, 1, none⟩ u1).setCell ⟨z, 2, none⟩ u2).setCell ⟨z, 3, none⟩ u3) (fun k => k ≠ z) T A c := (((h.far 0 u0).far 1 u1).far 2 u2).far 3 u3
theorem make_any (L : List Int) (hL : L.length ≤ 300) (A : Option Addr) (c : Nat) (w : World) (hC : Kd.C (Kd.int .i64) w A L.length L) (zb : Obj) :
    Calls Tryd.prog 48 #[.pointer (some ⟨w.heap.size + 1, 0, none⟩), .int .i64 4] ((w.alloc zb).alloc (.cells #[.slice A L.length c, .int .i64 0] 73)) fun e w' =>
      ∃ T A' c', e = .returned (fv T A' c') ∧ OkT 5 T ∧ Kd.N k36 36 w' (w.heap.size + 2) (fun k => w.heap.size + 2 ≤ k) (.slice A' T.f3.length c') T.f3 ∧ Below w.heap.size w w' ∧ w'.heap[w.heap.size]? = some zb := by
  have e0 : (w.alloc zb).heap.size = w.heap.size + 1 := by simp
  have hI := IsS73.new w (w.alloc zb) A c L 0 (below_alloc (Below.refl _ w) zb) hC
  rw [e0] at hI
  obtain ⟨r1, r2, r3, r4, r5, h, hok, h0, h1⟩ := make_total L hL 4 (by decide) 4 (by decide) 0 (by decide) (by omega) 100 (by decide)
  refine (magpieref06_Source_Make.calls 100 (w.heap.size + 1) L 0 4 r1 r2 r3 r4 r5 w _ hI (below_alloc (below_alloc (Below.refl _ w) zb) _) h).mono ?_
  rintro e w' ⟨v3, rfl, hN, _, hB, hK⟩
  have e1 : ((w.alloc zb).alloc (.cells #[.slice A L.length c, .int .i64 0] 73)).heap.size = w.heap.size + 2 := by simp
  rw [e1] at hN
  obtain ⟨A', c', rfl⟩ := Kd.N_slice hN
  refine ⟨⟨r1, r2, r3, r4⟩, A', c', rfl, hok, hN, hB, ?_⟩
  have := hK.2 w.heap.size (by simp; omega) (by omega) (by simp)
  rw [this]
  exact (boxes w zb _).trans (World.alloc_heap_new w zb)
theorem set4 {w : World} {b : Nat} {a0 a1 a2 a3 : Value} {t : TypeId} (h : w.heap[b]? = some (.cells #[a0, a1, a2, a3] t (0, 0))) (u0 u1 u2 u3 : Value) : ((((w.setCell ⟨b, 0, none⟩ u0).setCell ⟨b, 1, none⟩ u1).setCell ⟨b, 2, none⟩ u2).setCell ⟨b, 3, none⟩ u3).heap[b]? = some (.cells #[u0, u1, u2, u3] t (0, 0)) :=
  blk_set (blk_set (blk_set (blk_set h 0 u0) 1 u1) 2 u2) 3 u3
theorem filter_any (L : List Int) (hL : L.length ≤ 300) (A : Option Addr) (c : Nat) (w : World) (hC : Kd.C (Kd.int .i64) w A L.length L) :
    Calls Tryd.prog 25 #[.slice A L.length c] w fun e w' => ∃ T A' c', e = .returned (fv T A' c') ∧ IsF 5 w' (fun _ => True) T A' c' ∧ Below w.heap.size w w' := by
  have HM := fun zb => Aside0.mk (make_any L hL A c w hC zb)
  clear hL hC
  obtain ⟨n, hn⟩ : ∃ n, n = L.length := ⟨_, rfl⟩
  rw [← hn] at HM ⊢
  clear hn
  go_enter Tryd.func25, Tryd.ntmps25
  go_wp2_with (go_at_call 48; refine ((HM _).out).mono ?_; rintro e w1 ⟨T, A', c', rfl, ok, hN, hb1, hz⟩; unfold fv; have HB1 := Aside0.mk hb1; have HT := Aside0.mk ok; have HN := Aside0.mk hN; have HZ := Aside0.mk hz; obtain ⟨k0, k1, k2, k3⟩ := cells4 hz; have f0 := blk_frozen hz 0; have f1 := fun u => blk_frozen (blk_set hz 0 u) 1; have f2 := fun u v => blk_frozen (blk_set (blk_set hz 0 u) 1 v) 2; have f3 := fun u v x => blk_frozen (blk_set (blk_set (blk_set hz 0 u) 1 v) 2 x) 3; clear hb1 ok hz hN)
  refine bodyPost_ret (results_cell_row rfl _ _ w.heap.size 36 #[.int .i64 T.f0, .string T.f1, .string T.f2, .slice A' T.f3.length c'] (0, 0) _ rfl (set4 HZ.out _ _ _ _) Tryd.underlying36 rfl (by kernel_rfl)) rfl ?_
  have hN4 := (Kd.N_far (Kd.N_far (Kd.N_far (Kd.N_far HN.out (p := ⟨w.heap.size, 0, none⟩) (fun k hk => by show k ≠ w.heap.size; omega) (.int .i64 T.f0)) (p := ⟨w.heap.size, 1, none⟩) (fun k hk => by show k ≠ w.heap.size; omega) (.string T.f1)) (p := ⟨w.heap.size, 2, none⟩) (fun k hk => by show k ≠ w.heap.size; omega) (.string T.f2)) (p := ⟨w.heap.size, 3, none⟩) (fun k hk => by show k ≠ w.heap.size; omega) (.slice A' T.f3.length c'))
  have hR := Kd.N_reads' hN4
  exact ⟨T, A', c', rfl, ⟨HT.out, Kd.F_mono (Kd.N_F hN4) (fun _ _ => trivial), hR.2.1⟩, below_set (below_set (below_set (below_set HB1.out (Nat.le_refl _)) (Nat.le_refl _)) (Nat.le_refl _)) (Nat.le_refl _)⟩
end Go.Proofs.YtfejjfbhlmjkeaaDoor.F
