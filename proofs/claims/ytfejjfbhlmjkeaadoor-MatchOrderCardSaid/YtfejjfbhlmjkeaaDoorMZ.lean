/- Texts of this claim, made one by a program: each begins with a comment of its own. -/
import Derived.Test.YtfejjfbhlmjkeaaDoorPMatchStandsx0
import Derived.Test.YtfejjfbhlmjkeaaDoorW9
import Derived.Lib.SplitLaws
import Derived.Lib.IndexLaws
import Derived.Lib.IndexBytes
import Derived.Test.YtfejjfbhlmjkeaaDoorPZ
import Derived.Test.YtfejjfbhlmjkeaaDoorPZ
import Derived.Shelf.Small.Bits
import Derived.Shelf.Utf8.RuneCount
import Derived.Shelf.Strconv.Itoa0
import Derived.Shelf.Strings.Search1
import Derived.Shelf.Strings.Search2
import Derived.Shelf.Strings.Search3
import Derived.Shelf.Strings.Count
import Derived.Shelf.LaysM
import Derived.Shelf.Strings.Shaped
import Derived.Shelf.Strings.Split
import Derived.Shelf.Strings.SplitShaped
import Derived.Shelf.Unicode.Decode
import Derived.Shelf.Strings.RuneCount
import Derived.Shelf.Strings.Explode
import Derived.Shelf.Unicode.DecodeSlow
import Derived.Shelf.Unicode.DecodeAny
import Derived.Ground.Names2Prog
import Derived.Shelf.Slices.SearchI
import Derived.Test.YtfejjfbhlmjkeaaDoorProg
import Derived.Test.YtfejjfbhlmjkeaaDoorPZ
/- Printed walks of some functions, picked by a program out of what the kit's tool printed. -/
namespace Go.Proofs.YtfejjfbhlmjkeaaDoor.PMatchStands
open Go.RowKit Go.Proofs.YtfejjfbhlmjkeaaDoorW.PrintWords Go.Proofs.YtfejjfbhlmjkeaaDoorW.PrintLast Go.Proofs.YtfejjfbhlmjkeaaDoorW.PrintMore
attribute [local go_sem] max2_int min2_int max_two min_two max_three min_three max_four min_four   -- for this text's walks alone
set_option linter.unusedVariables false
set_option linter.unusedSimpArgs false







/-! ### slices_Index_string_string: function 87 -/
def slices_Index_string_string.l0 : Nat → List ByteArray → ByteArray → Int → Int → Option (Int)
  | 0, _, _, _, _ => none
  | k + 1, x0, x1, x7, x8 => if x8 < x7 then (if 0 ≤ x8 then (if x8 < (x0.length : Int) then (if x1.toList = (rdOf ByteArray.empty x0 x8).toList then (some x8) else (slices_Index_string_string.l0 k x0 x1 x7 (wrap64 (x8 + 1)))) else (none)) else (none)) else (some (-1))
def slices_Index_string_string.f (k : Nat) (l0 : List ByteArray) (a1 : ByteArray) : Option (Int) := slices_Index_string_string.l0 k l0 a1 (l0.length : Int) 0
theorem slices_Index_string_string.mono_l : ∀ k, (∀ y0 y1 y2 y3, LeO (slices_Index_string_string.l0 k y0 y1 y2 y3) (slices_Index_string_string.l0 (k + 1) y0 y1 y2 y3))
  | 0 => fun _ _ _ _ r h => by simp [slices_Index_string_string.l0] at h
  | k + 1 => by
    have ih0 := slices_Index_string_string.mono_l k
    · intro y0 y1 y2 y3
      unfold slices_Index_string_string.l0
      repeat' first
      | (with_reducible exact ih0 _ _ _ _)
      | (with_reducible exact LeO.refl _)
      | (with_reducible exact LeO.none _)
      | (with_reducible refine LeO.ite ?_ ?_)
      | (with_reducible refine LeO.bind ?_ (fun _ => ?_))
      | exact ih0 _ _ _ _
      | exact LeO.none _
      | refine LeO.ite ?_ ?_
      | refine LeO.bind ?_ (fun _ => ?_)
theorem slices_Index_string_string.mono : ∀ a0 a1 k, LeO (slices_Index_string_string.f k a0 a1) (slices_Index_string_string.f (k + 1) a0 a1) := by
  intro a0 a1 k
  have ih0 := slices_Index_string_string.mono_l k
  unfold slices_Index_string_string.f
  repeat' first
      | (with_reducible exact ih0 _ _ _ _)
      | (with_reducible exact LeO.refl _)
      | (with_reducible exact LeO.none _)
      | (with_reducible refine LeO.ite ?_ ?_)
      | (with_reducible refine LeO.bind ?_ (fun _ => ?_))
      | exact ih0 _ _ _ _
      | exact LeO.none _
      | refine LeO.ite ?_ ?_
      | refine LeO.bind ?_ (fun _ => ?_)
set_option maxHeartbeats 8000000 in
set_option maxRecDepth 100000 in
theorem slices_Index_string_string.calls (k : Nat) (A0 : Option Addr) (c0 : Nat) (l0 : List ByteArray) (a1 : ByteArray) (r : Int) (w : World) (hr0 : Kd.C Kd.string w A0 l0.length l0) (hc0 : l0.length ≤ c0) (h : slices_Index_string_string.f k l0 a1 = some r) :
    Calls Tryd.prog 87 #[.slice A0 l0.length c0, .string a1] w fun e w' => e = .returned (.int .i64 r) ∧ Drawn0 w w' := by
  have HR0 := Aside0.mk hr0
  have HC0 := Aside0.mk hc0
  clear hr0 hc0
  have H : (slices_Index_string_string.l0 k l0 a1 (l0.length : Int) 0) = some r := h
  clear h
  have H' := Aside0.mk H
  clear H
  go_enter Tryd.func87, Tryd.ntmps87
  go_wp2
  go_loopg [8] k (fun kq v8 w' => ∃ (x8_1 : Int), v8 = .int .i64 x8_1 ∧ Aside0 (slices_Index_string_string.l0 kq l0 a1 (l0.length : Int) x8_1 = some r) ∧ Aside0 (kq ≤ k) ∧ Drawn0 w w')
  case atStart => exact ⟨(0), (by first | rfl | (simp; done) | (simp [*]; done)), H', ⟨Nat.le_refl _⟩, by repeat (first | exact Drawn0.refl _ | apply Drawn0.step)⟩
  case round =>
    clear H'
    try clear p2
    obtain ⟨x8_1, rfl, HA, HK1, ⟨m1, rfl⟩⟩ := hrel
    cases gk with
    | zero => exact absurd HA.out (by simp [slices_Index_string_string.l0])
    | succ k1 =>
      have H := HA.out
      clear HA
      simp only [slices_Index_string_string.l0] at H
      by_cases c3 : x8_1 < (l0.length : Int)
      · rw [if_pos c3] at H
        have c3b0 : decide (x8_1 < (l0.length : Int)) = true := decide_eq_true c3
        clear c3
        by_cases c4 : 0 ≤ x8_1
        · rw [if_pos c4] at H
          have c4b0 : decide (0 ≤ x8_1) = true := decide_eq_true c4
          clear c4
          by_cases c5 : x8_1 < (l0.length : Int)
          · rw [if_pos c5] at H
            have c5b0 : decide (x8_1 < (l0.length : Int)) = true := decide_eq_true c5
            clear c5
            by_cases c6 : a1.toList = (rdOf ByteArray.empty l0 x8_1).toList
            · rw [if_pos c6] at H
              have c6b0 : (a1.toList == (rdOf ByteArray.empty l0 x8_1).toList) = true := beq_iff_eq.mpr c6
              have c6b1 : (a1.toList != (rdOf ByteArray.empty l0 x8_1).toList) = false := bne_eq_false_iff_eq.mpr c6
              clear c6
              obtain rfl := Option.some.inj H
              have p103 : 0 ≤ (x8_1 : Int) := of_decide_eq_true (by first | (with_reducible assumption) | assumption)
              have q103 : x8_1 < (l0.length : Int) := of_decide_eq_true (by first | (with_reducible assumption) | assumption)
              obtain ⟨ad103, e103, hx103_0⟩ := Kd.at_string HR0.out x8_1 p103 q103
              cases e103
              replace p103 := eq_true p103
              replace q103 := eq_true q103
              go_wp2
              go_ret
              exact ⟨by first | rfl | (simp; done) | (simp [*]; done), by repeat (first | exact Drawn0.refl _ | apply Drawn0.step)⟩
            · rw [if_neg c6] at H
              have c6b0 : (a1.toList == (rdOf ByteArray.empty l0 x8_1).toList) = false := beq_eq_false_iff_ne.mpr c6
              have c6b1 : (a1.toList != (rdOf ByteArray.empty l0 x8_1).toList) = true := bne_iff_ne.mpr c6
              have H' := Aside0.mk H
              clear H
              have p103 : 0 ≤ (x8_1 : Int) := of_decide_eq_true (by first | (with_reducible assumption) | assumption)
              have q103 : x8_1 < (l0.length : Int) := of_decide_eq_true (by first | (with_reducible assumption) | assumption)
              obtain ⟨ad103, e103, hx103_0⟩ := Kd.at_string HR0.out x8_1 p103 q103
              cases e103
              replace p103 := eq_true p103
              replace q103 := eq_true q103
              go_wp2
              go_roundg k1
              case measure => have := HK1.out; omega
              case rel => exact ⟨(wrap64 (x8_1 + 1)), (by first | rfl | (simp; done) | (simp [*]; done)), H', ⟨by have := HK1.out; omega⟩, by repeat (first | exact Drawn0.refl _ | apply Drawn0.step)⟩
          · rw [if_neg c5] at H
            exact absurd H (by simp)
        · rw [if_neg c4] at H
          exact absurd H (by simp)
      · rw [if_neg c3] at H
        have c3b0 : decide (x8_1 < (l0.length : Int)) = false := decide_eq_false c3
        clear c3
        obtain rfl := Option.some.inj H
        go_wp2
        go_ret
        exact ⟨by first | rfl | (simp; done) | (simp [*]; done), by repeat (first | exact Drawn0.refl _ | apply Drawn0.step)⟩

/-! ### slices_Contains_string_string: function 71 -/
def slices_Contains_string_string.f (k : Nat) (l0 : List ByteArray) (a1 : ByteArray) : Option (Bool) := (slices_Index_string_string.f k l0 a1).bind fun t104 => (some (decide (t104 ≥ 0)))
theorem slices_Contains_string_string.mono : ∀ a0 a1 k, LeO (slices_Contains_string_string.f k a0 a1) (slices_Contains_string_string.f (k + 1) a0 a1) := by
  intro a0 a1 k
  unfold slices_Contains_string_string.f
  repeat' first
      | (with_reducible exact slices_Index_string_string.mono _ _ _)
      | (with_reducible exact LeO.refl _)
      | (with_reducible exact LeO.none _)
      | (with_reducible refine LeO.ite ?_ ?_)
      | (with_reducible refine LeO.bind ?_ (fun _ => ?_))
      | exact slices_Index_string_string.mono _ _ _
      | exact LeO.none _
      | refine LeO.ite ?_ ?_
      | refine LeO.bind ?_ (fun _ => ?_)
set_option maxHeartbeats 8000000 in
set_option maxRecDepth 100000 in
theorem slices_Contains_string_string.calls (k : Nat) (A0 : Option Addr) (c0 : Nat) (l0 : List ByteArray) (a1 : ByteArray) (r : Bool) (w : World) (hr0 : Kd.C Kd.string w A0 l0.length l0) (hc0 : l0.length ≤ c0) (h : slices_Contains_string_string.f k l0 a1 = some r) :
    Calls Tryd.prog 71 #[.slice A0 l0.length c0, .string a1] w fun e w' => e = .returned (.bool r) ∧ Drawn0 w w' := by
  have HR0 := Aside0.mk hr0
  have HC0 := Aside0.mk hc0
  clear hr0 hc0
  have H : ((slices_Index_string_string.f k l0 a1).bind fun t104 => (some (decide (t104 ≥ 0)))) = some r := h
  clear h
  replace H := Option.bind_eq_some_iff.mp H
  obtain ⟨t104, A30, H⟩ := H
  replace H : (some (decide (t104 ≥ 0))) = some r := H
  have A3 := Aside0.mk A30
  clear A30
  obtain rfl := Option.some.inj H
  go_enter Tryd.func71, Tryd.ntmps71
  go_wp2_with (first | ((with_reducible refine gate_callee (f := 87) rfl ?_); refine goesL_ (some 7) rfl rfl Tryd.func87 (by kernel_rfl) rfl #[.slice A0 l0.length c0, .string a1] rfl (by (try simp only [List.map_toArray, List.map_cons, List.map_nil]); first | done | rfl | (simp only [List.length_drop, List.length_take]; rfl)) ?_; (with_reducible refine (slices_Index_string_string.calls k _ _ l0 a1 t104 _ ?side1 ?side2 A3.out).mono ?_); (case side1 => repeat (first | exact HR0.out | (with_reducible refine Kd.C_alloc ?_ _) | (with_reducible refine Kd.C_drewN ?_ _) | (with_reducible refine Kd.C_drew ?_))); (case side2 => exact HC0.out); rintro e w' ⟨rfl, ⟨nd, rfl⟩⟩; refine ⟨_, rfl, ?_⟩))
  go_ret
  exact ⟨by first | rfl | (simp; done) | (simp [*]; done), by repeat (first | exact Drawn0.refl _ | apply Drawn0.step)⟩













/-! ### record_Value: function 56 -/
def record_Value.l0 : Nat → ByteArray → List (S78) → Int → Int → Option (ByteArray × Bool)
  | 0, _, _, _, _ => none
  | k + 1, x1, x9, x10, x11 => if x11 < x10 then (if 0 ≤ x11 then (if x11 < (x9.length : Int) then (if ((rd_T78 x9 x11).f0).toList = x1.toList then (some ((rd_T78 x9 x11).f1, true)) else (record_Value.l0 k x1 x9 x10 (wrap64 (x11 + 1)))) else (none)) else (none)) else (some ((⟨#[]⟩ : ByteArray), false))
def record_Value.f (k : Nat) (a0_0 : Int) (l0_1 : List (S78)) (a0_2 : ByteArray) (a1 : ByteArray) : Option (ByteArray × Bool) := record_Value.l0 k a1 l0_1 (l0_1.length : Int) 0
theorem record_Value.mono_l : ∀ k, (∀ y0 y1 y2 y3, LeO (record_Value.l0 k y0 y1 y2 y3) (record_Value.l0 (k + 1) y0 y1 y2 y3))
  | 0 => fun _ _ _ _ r h => by simp [record_Value.l0] at h
  | k + 1 => by
    have ih0 := record_Value.mono_l k
    · intro y0 y1 y2 y3
      unfold record_Value.l0
      repeat' first
      | (with_reducible exact ih0 _ _ _ _)
      | (with_reducible exact LeO.refl _)
      | (with_reducible exact LeO.none _)
      | (with_reducible refine LeO.ite ?_ ?_)
      | (with_reducible refine LeO.bind ?_ (fun _ => ?_))
      | exact ih0 _ _ _ _
      | exact LeO.none _
      | refine LeO.ite ?_ ?_
      | refine LeO.bind ?_ (fun _ => ?_)
theorem record_Value.mono : ∀ a0 a1 a2 a3 k, LeO (record_Value.f k a0 a1 a2 a3) (record_Value.f (k + 1) a0 a1 a2 a3) := by
  intro a0 a1 a2 a3 k
  have ih0 := record_Value.mono_l k
  unfold record_Value.f
  repeat' first
      | (with_reducible exact ih0 _ _ _ _)
      | (with_reducible exact LeO.refl _)
      | (with_reducible exact LeO.none _)
      | (with_reducible refine LeO.ite ?_ ?_)
      | (with_reducible refine LeO.bind ?_ (fun _ => ?_))
      | exact ih0 _ _ _ _
      | exact LeO.none _
      | refine LeO.ite ?_ ?_
      | refine LeO.bind ?_ (fun _ => ?_)
set_option maxHeartbeats 8000000 in
set_option maxRecDepth 100000 in
theorem record_Value.calls (k : Nat) (a0_0 : Int) (A0_1 : Option Addr) (c0_1 : Nat) (l0_1 : List (S78)) (a0_2 : ByteArray) (a1 : ByteArray) (r1 : ByteArray) (r2 : Bool) (w : World) (hr0_1 : Kd.C k78 w A0_1 l0_1.length l0_1) (hc0_1 : l0_1.length ≤ c0_1) (h : record_Value.f k a0_0 l0_1 a0_2 a1 = some (r1, r2)) :
    Calls Tryd.prog 56 #[.agg #[.int .i64 a0_0, .slice A0_1 l0_1.length c0_1, .string a0_2], .string a1] w fun e w' => e = .returned (.tuple #[.string r1, .bool r2]) ∧ Below w.heap.size w w' := by
  have hu44 := Tryd.underlying44
  have hu78 := Tryd.underlying78
  have HR0_1 := Aside0.mk hr0_1
  have HC0_1 := Aside0.mk hc0_1
  clear hr0_1 hc0_1
  have HB := Aside0.mk (Below.refl w.heap.size w)
  have H : (record_Value.l0 k a1 l0_1 (l0_1.length : Int) 0) = some (r1, r2) := h
  clear h
  have H' := Aside0.mk H
  clear H
  go_enter Tryd.func56, Tryd.ntmps56
  go_wp2_with (first | ((with_reducible refine gate_dst (N := 2) rfl ?_); refine box_event ?hg (N := 2) ?hd (cs := #[.int .i64 a0_0, .slice A0_1 l0_1.length c0_1, .string a0_2]) (t := 44) ?hr ?_; (case hd => rfl); (case hg => rfl); (case hr => first | (go_simp; done) | (go_simp; rfl)); intro gb106 hg w3 hbox hb; have n0_ := Aside0.mk (below_step (by repeat (first | (with_reducible first | exact HB.out | apply below_alloc | apply pw_below_drewN | apply below_drew1) | exact HB.out)) hb); have n1_ := Aside0.mk (hbox); have n2_ := Aside0.mk ((by rw [hg]; exact (below_size (by repeat (first | (with_reducible first | exact HB.out | apply below_alloc | apply pw_below_drewN | apply below_drew1) | exact HB.out))) : w.heap.size ≤ gb106)); have n3_ := Aside0.mk ((by rw [hg]; exact (below_size (by repeat (first | (with_reducible first | exact HB.out | apply below_alloc | apply pw_below_drewN | apply below_drew1) | exact HB.out))) : w.heap.size ≤ gb106)); clear HB; have HB := n0_; have BK106 := n1_; have GW106 := n2_; have GE106 := n3_; clear n0_ n1_ n2_ n3_; clear hb hbox hg; have hcz4_0 : w3.cell? ⟨gb106, 0, none⟩ = some (.int .i64 a0_0) := (blk_cell BK106.out 0).trans rfl; have hcz4_1 : w3.cell? ⟨gb106, 1, none⟩ = some (.slice A0_1 l0_1.length c0_1) := (blk_cell BK106.out 1).trans rfl; have hcz4_2 : w3.cell? ⟨gb106, 2, none⟩ = some (.string a0_2) := (blk_cell BK106.out 2).trans rfl; have hfz4_0 := blk_frozen BK106.out 0; have hfz4_1 := blk_frozen BK106.out 1; have hfz4_2 := blk_frozen BK106.out 2))
  go_loopg [11] k (fun kq v11 w' => ∃ (x11_1 : Int), v11 = .int .i64 x11_1 ∧ Aside0 (record_Value.l0 kq a1 l0_1 (l0_1.length : Int) x11_1 = some (r1, r2)) ∧ Aside0 (kq ≤ k) ∧ Aside0 (w'.heap[gb106]? = some (.cells #[.int .i64 a0_0, (.slice A0_1 l0_1.length c0_1), .string a0_2] 44 (0, 0))) ∧ Aside0 (Below w.heap.size w w'))
  case atStart => exact ⟨(0), (by first | rfl | (simp; done) | (simp [*]; done)), H', ⟨Nat.le_refl _⟩, ⟨by (with_reducible repeat (first | refine blk_drewN ?_ _ | refine blk_drew ?_ | refine blk_alloc ?_ _)); exact BK106.out⟩, ⟨by repeat (first | (with_reducible first | exact HB.out | apply below_alloc | apply pw_below_drewN | apply below_drew1 | refine below_set ?_ GE106.out) | exact HB.out)⟩⟩
  case round =>
    clear H'
    try clear p2
    try clear hcz4_0
    try clear hcz4_1
    try clear hcz4_2
    try clear hfz4_0
    try clear hfz4_1
    try clear hfz4_2
    obtain ⟨x11_1, rfl, HA, HK1, BK106, HB⟩ := hrel
    cases gk with
    | zero => exact absurd HA.out (by simp [record_Value.l0])
    | succ k1 =>
      have H := HA.out
      clear HA
      simp only [record_Value.l0] at H
      by_cases c5 : x11_1 < (l0_1.length : Int)
      · rw [if_pos c5] at H
        have c5b0 : decide (x11_1 < (l0_1.length : Int)) = true := decide_eq_true c5
        clear c5
        by_cases c6 : 0 ≤ x11_1
        · rw [if_pos c6] at H
          have c6b0 : decide (0 ≤ x11_1) = true := decide_eq_true c6
          clear c6
          by_cases c7 : x11_1 < (l0_1.length : Int)
          · rw [if_pos c7] at H
            have c7b0 : decide (x11_1 < (l0_1.length : Int)) = true := decide_eq_true c7
            clear c7
            by_cases c8 : ((rd_T78 l0_1 x11_1).f0).toList = a1.toList
            · rw [if_pos c8] at H
              have c8b0 : (((rd_T78 l0_1 x11_1).f0).toList == a1.toList) = true := beq_iff_eq.mpr c8
              have c8b1 : (((rd_T78 l0_1 x11_1).f0).toList != a1.toList) = false := bne_eq_false_iff_eq.mpr c8
              clear c8
              simp only [Option.some.injEq, Prod.mk.injEq] at H
              obtain ⟨rfl, rfl⟩ := H
              have p107 : 0 ≤ (x11_1 : Int) := of_decide_eq_true (by first | (with_reducible assumption) | assumption)
              have q107 : x11_1 < (l0_1.length : Int) := of_decide_eq_true (by first | (with_reducible assumption) | assumption)
              obtain ⟨ad107, e107, hx107_0, hx107_1⟩ := at_T78 HR0_1.out x11_1 p107 q107
              cases e107
              replace hx107_0 := (HB.out.cell (World.block_lt_of_cell? w _ hx107_0)).trans hx107_0
              replace hx107_1 := (HB.out.cell (World.block_lt_of_cell? w _ hx107_1)).trans hx107_1
              replace p107 := eq_true p107
              replace q107 := eq_true q107
              go_wp2_with (first | ((with_reducible refine gate_dst (N := 7) rfl ?_); refine box_event ?hg (N := 7) ?hd (cs := #[.string (⟨#[]⟩ : ByteArray), .string (⟨#[]⟩ : ByteArray)]) (t := 78) ?hr ?_; (case hd => rfl); (case hg => rfl); (case hr => first | (go_simp; done) | (go_simp; rfl)); intro gb108 hg w9 hbox hb; have n0_ := Aside0.mk (blk_below (g := gb106) (o := .cells #[.int .i64 a0_0, .slice (some ad107) l0_1.length c0_1, .string a0_2] 44 (0, 0)) (by (with_reducible repeat (first | refine blk_drewN ?_ _ | refine blk_drew ?_ | refine blk_alloc ?_ _)); exact BK106.out) hb); have n1_ := Aside0.mk (below_step (by repeat (first | (with_reducible first | exact HB.out | apply below_alloc | apply pw_below_drewN | apply below_drew1 | refine below_set ?_ GE106.out) | exact HB.out)) hb); have n2_ := Aside0.mk (hbox); have n3_ := Aside0.mk ((by rw [hg]; exact (below_size (by repeat (first | (with_reducible first | exact HB.out | apply below_alloc | apply pw_below_drewN | apply below_drew1 | refine below_set ?_ GE106.out) | exact HB.out))) : w.heap.size ≤ gb108)); have n4_ := Aside0.mk ((by rw [hg]; exact (below_size (by repeat (first | (with_reducible first | exact HB.out | apply below_alloc | apply pw_below_drewN | apply below_drew1 | refine below_set ?_ GE106.out) | exact HB.out))) : w.heap.size ≤ gb108)); have n5_ := Aside0.mk ((by rw [hg]; exact Nat.ne_of_lt (blk_lt (g := gb106) (o := .cells #[.int .i64 a0_0, .slice (some ad107) l0_1.length c0_1, .string a0_2] 44 (0, 0)) (by (with_reducible repeat (first | refine blk_drewN ?_ _ | refine blk_drew ?_ | refine blk_alloc ?_ _)); exact BK106.out)) : gb106 ≠ gb108)); have n6_ := Aside0.mk ((by rw [hg]; exact Nat.ne_of_gt (blk_lt (g := gb106) (o := .cells #[.int .i64 a0_0, .slice (some ad107) l0_1.length c0_1, .string a0_2] 44 (0, 0)) (by (with_reducible repeat (first | refine blk_drewN ?_ _ | refine blk_drew ?_ | refine blk_alloc ?_ _)); exact BK106.out)) : gb108 ≠ gb106)); clear BK106; clear HB; have BK106 := n0_; have HB := n1_; have BK108 := n2_; have GW108 := n3_; have GE108 := n4_; have NB106_108 := n5_; have NB108_106 := n6_; clear n0_ n1_ n2_ n3_ n4_ n5_ n6_; clear hb hbox hg; have hnb10 := NB108_106.out; have hnc10 := NB106_108.out; have hcz11_0 : w9.cell? ⟨gb108, 0, none⟩ = some (.string (⟨#[]⟩ : ByteArray)) := (blk_cell BK108.out 0).trans rfl; have hcz11_1 : w9.cell? ⟨gb108, 1, none⟩ = some (.string (⟨#[]⟩ : ByteArray)) := (blk_cell BK108.out 1).trans rfl; have hfz11_0 := blk_frozen BK108.out 0; have hfz11_1 := blk_frozen BK108.out 1))
              go_ret2
              exact ⟨by first | rfl | (simp [errW_none, errW_some] <;> rfl) | (simp [*, errW_none, errW_some] <;> rfl), by repeat (first | (with_reducible first | exact HB.out | apply below_alloc | apply pw_below_drewN | apply below_drew1 | refine below_set ?_ GE106.out | refine below_set ?_ GE108.out) | exact HB.out)⟩
            · rw [if_neg c8] at H
              have c8b0 : (((rd_T78 l0_1 x11_1).f0).toList == a1.toList) = false := beq_eq_false_iff_ne.mpr c8
              have c8b1 : (((rd_T78 l0_1 x11_1).f0).toList != a1.toList) = true := bne_iff_ne.mpr c8
              have H' := Aside0.mk H
              clear H
              have p107 : 0 ≤ (x11_1 : Int) := of_decide_eq_true (by first | (with_reducible assumption) | assumption)
              have q107 : x11_1 < (l0_1.length : Int) := of_decide_eq_true (by first | (with_reducible assumption) | assumption)
              obtain ⟨ad107, e107, hx107_0, hx107_1⟩ := at_T78 HR0_1.out x11_1 p107 q107
              cases e107
              replace hx107_0 := (HB.out.cell (World.block_lt_of_cell? w _ hx107_0)).trans hx107_0
              replace hx107_1 := (HB.out.cell (World.block_lt_of_cell? w _ hx107_1)).trans hx107_1
              replace p107 := eq_true p107
              replace q107 := eq_true q107
              go_wp2_with (first | ((with_reducible refine gate_dst (N := 7) rfl ?_); refine box_event ?hg (N := 7) ?hd (cs := #[.string (⟨#[]⟩ : ByteArray), .string (⟨#[]⟩ : ByteArray)]) (t := 78) ?hr ?_; (case hd => rfl); (case hg => rfl); (case hr => first | (go_simp; done) | (go_simp; rfl)); intro gb108 hg w12 hbox hb; have n0_ := Aside0.mk (blk_below (g := gb106) (o := .cells #[.int .i64 a0_0, .slice (some ad107) l0_1.length c0_1, .string a0_2] 44 (0, 0)) (by (with_reducible repeat (first | refine blk_drewN ?_ _ | refine blk_drew ?_ | refine blk_alloc ?_ _)); exact BK106.out) hb); have n1_ := Aside0.mk (below_step (by repeat (first | (with_reducible first | exact HB.out | apply below_alloc | apply pw_below_drewN | apply below_drew1 | refine below_set ?_ GE106.out) | exact HB.out)) hb); have n2_ := Aside0.mk (hbox); have n3_ := Aside0.mk ((by rw [hg]; exact (below_size (by repeat (first | (with_reducible first | exact HB.out | apply below_alloc | apply pw_below_drewN | apply below_drew1 | refine below_set ?_ GE106.out) | exact HB.out))) : w.heap.size ≤ gb108)); have n4_ := Aside0.mk ((by rw [hg]; exact (below_size (by repeat (first | (with_reducible first | exact HB.out | apply below_alloc | apply pw_below_drewN | apply below_drew1 | refine below_set ?_ GE106.out) | exact HB.out))) : w.heap.size ≤ gb108)); have n5_ := Aside0.mk ((by rw [hg]; exact Nat.ne_of_lt (blk_lt (g := gb106) (o := .cells #[.int .i64 a0_0, .slice (some ad107) l0_1.length c0_1, .string a0_2] 44 (0, 0)) (by (with_reducible repeat (first | refine blk_drewN ?_ _ | refine blk_drew ?_ | refine blk_alloc ?_ _)); exact BK106.out)) : gb106 ≠ gb108)); have n6_ := Aside0.mk ((by rw [hg]; exact Nat.ne_of_gt (blk_lt (g := gb106) (o := .cells #[.int .i64 a0_0, .slice (some ad107) l0_1.length c0_1, .string a0_2] 44 (0, 0)) (by (with_reducible repeat (first | refine blk_drewN ?_ _ | refine blk_drew ?_ | refine blk_alloc ?_ _)); exact BK106.out)) : gb108 ≠ gb106)); clear BK106; clear HB; have BK106 := n0_; have HB := n1_; have BK108 := n2_; have GW108 := n3_; have GE108 := n4_; have NB106_108 := n5_; have NB108_106 := n6_; clear n0_ n1_ n2_ n3_ n4_ n5_ n6_; clear hb hbox hg; have hnb13 := NB108_106.out; have hnc13 := NB106_108.out; have hcz14_0 : w12.cell? ⟨gb108, 0, none⟩ = some (.string (⟨#[]⟩ : ByteArray)) := (blk_cell BK108.out 0).trans rfl; have hcz14_1 : w12.cell? ⟨gb108, 1, none⟩ = some (.string (⟨#[]⟩ : ByteArray)) := (blk_cell BK108.out 1).trans rfl; have hfz14_0 := blk_frozen BK108.out 0; have hfz14_1 := blk_frozen BK108.out 1))
              go_roundg k1
              case measure => have := HK1.out; omega
              case rel => exact ⟨(wrap64 (x11_1 + 1)), (by first | rfl | (simp; done) | (simp [*]; done)), H', ⟨by have := HK1.out; omega⟩, ⟨by (with_reducible repeat (first | refine blk_drewN ?_ _ | refine blk_drew ?_ | refine blk_alloc ?_ _)); refine blk_far ?_ NB106_108.out _; (with_reducible repeat (first | refine blk_drewN ?_ _ | refine blk_drew ?_ | refine blk_alloc ?_ _)); refine blk_far ?_ NB106_108.out _; (with_reducible repeat (first | refine blk_drewN ?_ _ | refine blk_drew ?_ | refine blk_alloc ?_ _)); exact BK106.out⟩, ⟨by repeat (first | (with_reducible first | exact HB.out | apply below_alloc | apply pw_below_drewN | apply below_drew1 | refine below_set ?_ GE106.out | refine below_set ?_ GE108.out) | exact HB.out)⟩⟩
          · rw [if_neg c7] at H
            exact absurd H (by simp)
        · rw [if_neg c6] at H
          exact absurd H (by simp)
      · rw [if_neg c5] at H
        have c5b0 : decide (x11_1 < (l0_1.length : Int)) = false := decide_eq_false c5
        clear c5
        simp only [Option.some.injEq, Prod.mk.injEq] at H
        obtain ⟨rfl, rfl⟩ := H
        go_wp2
        go_ret2
        exact ⟨by first | rfl | (simp [errW_none, errW_some] <;> rfl) | (simp [*, errW_none, errW_some] <;> rfl), by repeat (first | (with_reducible first | exact HB.out | apply below_alloc | apply pw_below_drewN | apply below_drew1 | refine below_set ?_ GE106.out) | exact HB.out)⟩

/-! ### match_Label: function 31 -/
def match_Label.f (k : Nat) (a0_0 : ByteArray) (a0_1 : Bool) (a0_2 : ByteArray) (a1_0 : Int) (l1_1 : List (S78)) (a1_2 : ByteArray) : Option (Bool) := (record_Value.f k a1_0 l1_1 a1_2 a0_0).bind fun bt111 => (some ((bt111.1.toList == a0_2.toList) != a0_1))
theorem match_Label.mono : ∀ a0 a1 a2 a3 a4 a5 k, LeO (match_Label.f k a0 a1 a2 a3 a4 a5) (match_Label.f (k + 1) a0 a1 a2 a3 a4 a5) := by
  intro a0 a1 a2 a3 a4 a5 k
  unfold match_Label.f
  repeat' first
      | (with_reducible exact record_Value.mono _ _ _ _ _)
      | (with_reducible exact LeO.refl _)
      | (with_reducible exact LeO.none _)
      | (with_reducible refine LeO.ite ?_ ?_)
      | (with_reducible refine LeO.bind ?_ (fun _ => ?_))
      | exact record_Value.mono _ _ _ _ _
      | exact LeO.none _
      | refine LeO.ite ?_ ?_
      | refine LeO.bind ?_ (fun _ => ?_)
set_option maxHeartbeats 8000000 in
set_option maxRecDepth 100000 in
theorem match_Label.calls (k : Nat) (a0_0 : ByteArray) (a0_1 : Bool) (a0_2 : ByteArray) (a1_0 : Int) (A1_1 : Option Addr) (c1_1 : Nat) (l1_1 : List (S78)) (a1_2 : ByteArray) (r : Bool) (w : World) (hr1_1 : Kd.C k78 w A1_1 l1_1.length l1_1) (hc1_1 : l1_1.length ≤ c1_1) (h : match_Label.f k a0_0 a0_1 a0_2 a1_0 l1_1 a1_2 = some r) :
    Calls Tryd.prog 31 #[.agg #[.string a0_0, .bool a0_1, .string a0_2], .agg #[.int .i64 a1_0, .slice A1_1 l1_1.length c1_1, .string a1_2]] w fun e w' => e = .returned (.bool r) ∧ Below w.heap.size w w' := by
  have hu51 := Tryd.underlying51
  have hu44 := Tryd.underlying44
  have HR1_1 := Aside0.mk hr1_1
  have HC1_1 := Aside0.mk hc1_1
  clear hr1_1 hc1_1
  have HB := Aside0.mk (Below.refl w.heap.size w)
  have H : ((record_Value.f k a1_0 l1_1 a1_2 a0_0).bind fun bt111 => (some ((bt111.1.toList == a0_2.toList) != a0_1))) = some r := h
  clear h
  replace H := Option.bind_eq_some_iff.mp H
  obtain ⟨⟨t111, t112⟩, A30, H⟩ := H
  replace H : (some ((t111.toList == a0_2.toList) != a0_1)) = some r := H
  have A3 := Aside0.mk A30
  clear A30
  obtain rfl := Option.some.inj H
  go_enter Tryd.func31, Tryd.ntmps31
  go_wp2_with (first | ((with_reducible refine gate_dst (N := 2) rfl ?_); refine box_event ?hg (N := 2) ?hd (cs := #[.string a0_0, .bool a0_1, .string a0_2]) (t := 51) ?hr ?_; (case hd => rfl); (case hg => rfl); (case hr => first | (go_simp; done) | (go_simp; rfl)); intro gb109 hg w4 hbox hb; have n0_ := Aside0.mk (below_step (by repeat (first | (with_reducible first | exact HB.out | apply below_alloc | apply pw_below_drewN | apply below_drew1) | exact HB.out)) hb); have n1_ := Aside0.mk (hbox); have n2_ := Aside0.mk ((by rw [hg]; exact (below_size (by repeat (first | (with_reducible first | exact HB.out | apply below_alloc | apply pw_below_drewN | apply below_drew1) | exact HB.out))) : w.heap.size ≤ gb109)); have n3_ := Aside0.mk ((by rw [hg]; exact (below_size (by repeat (first | (with_reducible first | exact HB.out | apply below_alloc | apply pw_below_drewN | apply below_drew1) | exact HB.out))) : w.heap.size ≤ gb109)); clear HB; have HB := n0_; have BK109 := n1_; have GW109 := n2_; have GE109 := n3_; clear n0_ n1_ n2_ n3_; clear hb hbox hg) | ((with_reducible refine gate_dst (N := 3) rfl ?_); refine box_event ?hg (N := 3) ?hd (cs := #[.int .i64 a1_0, .slice A1_1 l1_1.length c1_1, .string a1_2]) (t := 44) ?hr ?_; (case hd => rfl); (case hg => rfl); (case hr => first | (go_simp; done) | (go_simp; rfl)); intro gb110 hg w5 hbox hb; have n0_ := Aside0.mk (blk_below (g := gb109) (o := .cells #[.string a0_0, .bool a0_1, .string a0_2] 51 (0, 0)) (by (with_reducible repeat (first | refine blk_drewN ?_ _ | refine blk_drew ?_ | refine blk_alloc ?_ _)); exact BK109.out) hb); have n1_ := Aside0.mk (below_step (by repeat (first | (with_reducible first | exact HB.out | apply below_alloc | apply pw_below_drewN | apply below_drew1 | refine below_set ?_ GE109.out) | exact HB.out)) hb); have n2_ := Aside0.mk (hbox); have n3_ := Aside0.mk ((by rw [hg]; exact (below_size (by repeat (first | (with_reducible first | exact HB.out | apply below_alloc | apply pw_below_drewN | apply below_drew1 | refine below_set ?_ GE109.out) | exact HB.out))) : w.heap.size ≤ gb110)); have n4_ := Aside0.mk ((by rw [hg]; exact (below_size (by repeat (first | (with_reducible first | exact HB.out | apply below_alloc | apply pw_below_drewN | apply below_drew1 | refine below_set ?_ GE109.out) | exact HB.out))) : w.heap.size ≤ gb110)); have n5_ := Aside0.mk ((by rw [hg]; exact Nat.ne_of_lt (blk_lt (g := gb109) (o := .cells #[.string a0_0, .bool a0_1, .string a0_2] 51 (0, 0)) (by (with_reducible repeat (first | refine blk_drewN ?_ _ | refine blk_drew ?_ | refine blk_alloc ?_ _)); exact BK109.out)) : gb109 ≠ gb110)); have n6_ := Aside0.mk ((by rw [hg]; exact Nat.ne_of_gt (blk_lt (g := gb109) (o := .cells #[.string a0_0, .bool a0_1, .string a0_2] 51 (0, 0)) (by (with_reducible repeat (first | refine blk_drewN ?_ _ | refine blk_drew ?_ | refine blk_alloc ?_ _)); exact BK109.out)) : gb110 ≠ gb109)); clear BK109; clear HB; have BK109 := n0_; have HB := n1_; have BK110 := n2_; have GW110 := n3_; have GE110 := n4_; have NB109_110 := n5_; have NB110_109 := n6_; clear n0_ n1_ n2_ n3_ n4_ n5_ n6_; clear hb hbox hg; have hnb6 := NB110_109.out; have hnc6 := NB109_110.out; have hcz7_0 : w5.cell? ⟨gb110, 0, none⟩ = some (.int .i64 a1_0) := (blk_cell BK110.out 0).trans rfl; have hcz7_1 : w5.cell? ⟨gb110, 1, none⟩ = some (.slice A1_1 l1_1.length c1_1) := (blk_cell BK110.out 1).trans rfl; have hcz7_2 : w5.cell? ⟨gb110, 2, none⟩ = some (.string a1_2) := (blk_cell BK110.out 2).trans rfl; have hfz7_0 := blk_frozen BK110.out 0; have hfz7_1 := blk_frozen BK110.out 1; have hfz7_2 := blk_frozen BK110.out 2; have hcz8_0 : w5.cell? ⟨gb109, 0, none⟩ = some (.string a0_0) := (blk_cell BK109.out 0).trans rfl; have hcz8_1 : w5.cell? ⟨gb109, 1, none⟩ = some (.bool a0_1) := (blk_cell BK109.out 1).trans rfl; have hcz8_2 : w5.cell? ⟨gb109, 2, none⟩ = some (.string a0_2) := (blk_cell BK109.out 2).trans rfl; have hfz8_0 := blk_frozen BK109.out 0; have hfz8_1 := blk_frozen BK109.out 1; have hfz8_2 := blk_frozen BK109.out 2) | ((with_reducible refine gate_callee (f := 56) rfl ?_); refine goesL_ (some 11) rfl rfl Tryd.func56 (by kernel_rfl) rfl #[.agg #[.int .i64 a1_0, .slice A1_1 l1_1.length c1_1, .string a1_2], .string a0_0] rfl (by (try simp only [List.map_toArray, List.map_cons, List.map_nil]); first | done | rfl | (simp only [List.length_drop, List.length_take]; rfl)) ?_; (with_reducible refine (record_Value.calls k a1_0 _ _ l1_1 a1_2 a0_0 t111 t112 _ ?side1 ?side2 A3.out).mono ?_); (case side1 => repeat (first | exact (Kd.C_below HR1_1.out HB.out) | (with_reducible refine Kd.C_alloc ?_ _) | (with_reducible refine Kd.C_drewN ?_ _) | (with_reducible refine Kd.C_drew ?_))); (case side2 => exact HC1_1.out); rintro e w9 ⟨rfl, hb⟩; refine ⟨_, rfl, ?_⟩; have n0_ := Aside0.mk (blk_below (g := gb109) (o := .cells #[.string a0_0, .bool a0_1, .string a0_2] 51 (0, 0)) (by (with_reducible repeat (first | refine blk_drewN ?_ _ | refine blk_drew ?_ | refine blk_alloc ?_ _)); exact BK109.out) hb); have n1_ := Aside0.mk (blk_below (g := gb110) (o := .cells #[.int .i64 a1_0, .slice A1_1 l1_1.length c1_1, .string a1_2] 44 (0, 0)) (by (with_reducible repeat (first | refine blk_drewN ?_ _ | refine blk_drew ?_ | refine blk_alloc ?_ _)); exact BK110.out) hb); have n2_ := Aside0.mk (below_step (by repeat (first | (with_reducible first | exact HB.out | apply below_alloc | apply pw_below_drewN | apply below_drew1 | refine below_set ?_ GE109.out | refine below_set ?_ GE110.out) | exact HB.out)) hb); clear BK109; clear BK110; clear HB; have BK109 := n0_; have BK110 := n1_; have HB := n2_; clear n0_ n1_ n2_; (try clear hb); (try clear hb2); (try clear hk); (try clear hi); have hcz10_0 : w9.cell? ⟨gb109, 0, none⟩ = some (.string a0_0) := (blk_cell BK109.out 0).trans rfl; have hcz10_1 : w9.cell? ⟨gb109, 1, none⟩ = some (.bool a0_1) := (blk_cell BK109.out 1).trans rfl; have hcz10_2 : w9.cell? ⟨gb109, 2, none⟩ = some (.string a0_2) := (blk_cell BK109.out 2).trans rfl; have hfz10_0 := blk_frozen BK109.out 0; have hfz10_1 := blk_frozen BK109.out 1; have hfz10_2 := blk_frozen BK109.out 2))
  go_ret
  exact ⟨by first | rfl | (simp [errW_none, errW_some] <;> rfl) | (simp [*, errW_none, errW_some] <;> rfl), by repeat (first | (with_reducible first | exact HB.out | apply below_alloc | apply pw_below_drewN | apply below_drew1 | refine below_set ?_ GE109.out | refine below_set ?_ GE110.out) | exact HB.out)⟩


/-! ### magpieref09_stands: function 53 -/
def magpieref09_stands.l0 : Nat → ByteArray → ByteArray → Int → Option (Bool)
  | 0, _, _, _ => none
  | k + 1, x0, x1, x5 => if (wrap64 (x5 + (x1.size : Int))) ≤ (x0.size : Int) then (if 0 ≤ x5 then (if x5 ≤ (wrap64 (x5 + (x1.size : Int))) then (if (x0.extract (x5 : Int).toNat ((wrap64 (x5 + (x1.size : Int))) : Int).toNat).toList = x1.toList then (some true) else (magpieref09_stands.l0 k x0 x1 (wrap64 (x5 + 1)))) else (none)) else (none)) else (some false)
def magpieref09_stands.f (k : Nat) (a0 : ByteArray) (a1 : ByteArray) : Option (Bool) := magpieref09_stands.l0 k a0 a1 0
theorem magpieref09_stands.mono_l : ∀ k, (∀ y0 y1 y2, LeO (magpieref09_stands.l0 k y0 y1 y2) (magpieref09_stands.l0 (k + 1) y0 y1 y2))
  | 0 => fun _ _ _ r h => by simp [magpieref09_stands.l0] at h
  | k + 1 => by
    have ih0 := magpieref09_stands.mono_l k
    · intro y0 y1 y2
      unfold magpieref09_stands.l0
      repeat' first
      | (with_reducible exact ih0 _ _ _)
      | (with_reducible exact LeO.refl _)
      | (with_reducible exact LeO.none _)
      | (with_reducible refine LeO.ite ?_ ?_)
      | (with_reducible refine LeO.bind ?_ (fun _ => ?_))
      | exact ih0 _ _ _
      | exact LeO.none _
      | refine LeO.ite ?_ ?_
      | refine LeO.bind ?_ (fun _ => ?_)
theorem magpieref09_stands.mono : ∀ a0 a1 k, LeO (magpieref09_stands.f k a0 a1) (magpieref09_stands.f (k + 1) a0 a1) := by
  intro a0 a1 k
  have ih0 := magpieref09_stands.mono_l k
  unfold magpieref09_stands.f
  repeat' first
      | (with_reducible exact ih0 _ _ _)
      | (with_reducible exact LeO.refl _)
      | (with_reducible exact LeO.none _)
      | (with_reducible refine LeO.ite ?_ ?_)
      | (with_reducible refine LeO.bind ?_ (fun _ => ?_))
      | exact ih0 _ _ _
      | exact LeO.none _
      | refine LeO.ite ?_ ?_
      | refine LeO.bind ?_ (fun _ => ?_)
set_option maxHeartbeats 8000000 in
set_option maxRecDepth 100000 in
theorem magpieref09_stands.calls (k : Nat) (a0 : ByteArray) (a1 : ByteArray) (r : Bool) (w : World) (h : magpieref09_stands.f k a0 a1 = some r) :
    Calls Tryd.prog 53 #[.string a0, .string a1] w fun e w' => e = .returned (.bool r) ∧ Drawn0 w w' := by
  have H : (magpieref09_stands.l0 k a0 a1 0) = some r := h
  clear h
  have H' := Aside0.mk H
  clear H
  go_enter Tryd.func53, Tryd.ntmps53
  go_wp2
  go_loopg [5] k (fun kq v5 w' => ∃ (x5_1 : Int), v5 = .int .i64 x5_1 ∧ Aside0 (magpieref09_stands.l0 kq a0 a1 x5_1 = some r) ∧ Aside0 (kq ≤ k) ∧ Drawn0 w w')
  case atStart => exact ⟨(0), (by first | rfl | (simp; done) | (simp [*]; done)), H', ⟨Nat.le_refl _⟩, by repeat (first | exact Drawn0.refl _ | apply Drawn0.step)⟩
  case round =>
    clear H'
    try clear p2
    obtain ⟨x5_1, rfl, HA, HK1, ⟨m1, rfl⟩⟩ := hrel
    cases gk with
    | zero => exact absurd HA.out (by simp [magpieref09_stands.l0])
    | succ k1 =>
      have H := HA.out
      clear HA
      simp only [magpieref09_stands.l0] at H
      by_cases c3 : (wrap64 (x5_1 + (a1.size : Int))) ≤ (a0.size : Int)
      · rw [if_pos c3] at H
        have c3b0 : decide ((wrap64 (x5_1 + (a1.size : Int))) ≤ (a0.size : Int)) = true := decide_eq_true c3
        clear c3
        by_cases c4 : 0 ≤ x5_1
        · rw [if_pos c4] at H
          have c4b0 := eq_true c4
          have c4b1 : decide (0 ≤ x5_1) = true := decide_eq_true c4
          clear c4
          by_cases c5 : x5_1 ≤ (wrap64 (x5_1 + (a1.size : Int)))
          · rw [if_pos c5] at H
            have c5b0 := eq_true c5
            have c5b1 : decide (x5_1 ≤ (wrap64 (x5_1 + (a1.size : Int)))) = true := decide_eq_true c5
            have c6b0 := eq_true (of_decide_eq_true (by first | (with_reducible assumption) | assumption) : (wrap64 (x5_1 + (a1.size : Int))) ≤ (a0.size : Int))
            by_cases c7 : (a0.extract (x5_1 : Int).toNat ((wrap64 (x5_1 + (a1.size : Int))) : Int).toNat).toList = a1.toList
            · rw [if_pos c7] at H
              have c7b0 : ((a0.extract (x5_1 : Int).toNat ((wrap64 (x5_1 + (a1.size : Int))) : Int).toNat).toList == a1.toList) = true := beq_iff_eq.mpr c7
              have c7b1 : ((a0.extract (x5_1 : Int).toNat ((wrap64 (x5_1 + (a1.size : Int))) : Int).toNat).toList != a1.toList) = false := bne_eq_false_iff_eq.mpr c7
              clear c7
              obtain rfl := Option.some.inj H
              go_wp2
              go_ret
              exact ⟨by first | rfl | (simp; done) | (simp [*]; done), by repeat (first | exact Drawn0.refl _ | apply Drawn0.step)⟩
            · rw [if_neg c7] at H
              have c7b0 : ((a0.extract (x5_1 : Int).toNat ((wrap64 (x5_1 + (a1.size : Int))) : Int).toNat).toList == a1.toList) = false := beq_eq_false_iff_ne.mpr c7
              have c7b1 : ((a0.extract (x5_1 : Int).toNat ((wrap64 (x5_1 + (a1.size : Int))) : Int).toNat).toList != a1.toList) = true := bne_iff_ne.mpr c7
              have H' := Aside0.mk H
              clear H
              go_wp2
              go_roundg k1
              case measure => have := HK1.out; omega
              case rel => exact ⟨(wrap64 (x5_1 + 1)), (by first | rfl | (simp; done) | (simp [*]; done)), H', ⟨by have := HK1.out; omega⟩, by repeat (first | exact Drawn0.refl _ | apply Drawn0.step)⟩
          · rw [if_neg c5] at H
            exact absurd H (by simp)
        · rw [if_neg c4] at H
          exact absurd H (by simp)
      · rw [if_neg c3] at H
        have c3b0 : decide ((wrap64 (x5_1 + (a1.size : Int))) ≤ (a0.size : Int)) = false := decide_eq_false c3
        clear c3
        obtain rfl := Option.some.inj H
        go_wp2
        go_ret
        exact ⟨by first | rfl | (simp; done) | (simp [*]; done), by repeat (first | exact Drawn0.refl _ | apply Drawn0.step)⟩

/-! ### magpieref09_piece: function 54 -/
mutual
def magpieref09_piece.l0 : Nat → ByteArray → ByteArray → Int → Int → Option (Bool)
  | 0, _, _, _, _ => none
  | k + 1, x0, x1, x5, x6 => if x6 ≤ (x0.size : Int) then (if x6 = (x0.size : Int) then (magpieref09_piece.j1 k x0 x1 x5 x6 true) else (if 0 ≤ x6 then (if x6 < (x0.size : Int) then (magpieref09_piece.j1 k x0 x1 x5 x6 ((bt x0 x6) == 32)) else (none)) else (none))) else (some false)
def magpieref09_piece.j1 : Nat → ByteArray → ByteArray → Int → Int → Bool → Option (Bool)
  | 0, _, _, _, _, _ => none
  | k + 1, x0, x1, x5, x6, x22 => if x22 = true then (if 0 ≤ x5 then (if x5 ≤ x6 then (if x6 ≤ (x0.size : Int) then (if (x0.extract (x5 : Int).toNat (x6 : Int).toNat).toList = x1.toList then (some true) else (magpieref09_piece.l0 k x0 x1 (wrap64 (x6 + 1)) (wrap64 (x6 + 1)))) else (none)) else (none)) else (none)) else (magpieref09_piece.l0 k x0 x1 x5 (wrap64 (x6 + 1)))
end
def magpieref09_piece.f (k : Nat) (a0 : ByteArray) (a1 : ByteArray) : Option (Bool) := magpieref09_piece.l0 k a0 a1 0 0
theorem magpieref09_piece.mono_l : ∀ k, (∀ y0 y1 y2 y3, LeO (magpieref09_piece.l0 k y0 y1 y2 y3) (magpieref09_piece.l0 (k + 1) y0 y1 y2 y3)) ∧ (∀ y0 y1 y2 y3 y4, LeO (magpieref09_piece.j1 k y0 y1 y2 y3 y4) (magpieref09_piece.j1 (k + 1) y0 y1 y2 y3 y4))
  | 0 => ⟨fun _ _ _ _ r h => by simp [magpieref09_piece.l0] at h, fun _ _ _ _ _ r h => by simp [magpieref09_piece.j1] at h⟩
  | k + 1 => by
    obtain ⟨ih0, ih1⟩ := magpieref09_piece.mono_l k
    refine ⟨?_, ?_⟩
    · intro y0 y1 y2 y3
      unfold magpieref09_piece.l0
      repeat' first
      | (with_reducible exact ih0 _ _ _ _)
      | (with_reducible exact ih1 _ _ _ _ _)
      | (with_reducible exact LeO.refl _)
      | (with_reducible exact LeO.none _)
      | (with_reducible refine LeO.ite ?_ ?_)
      | (with_reducible refine LeO.bind ?_ (fun _ => ?_))
      | exact ih0 _ _ _ _
      | exact ih1 _ _ _ _ _
      | exact LeO.none _
      | refine LeO.ite ?_ ?_
      | refine LeO.bind ?_ (fun _ => ?_)
    · intro y0 y1 y2 y3 y4
      unfold magpieref09_piece.j1
      repeat' first
      | (with_reducible exact ih0 _ _ _ _)
      | (with_reducible exact ih1 _ _ _ _ _)
      | (with_reducible exact LeO.refl _)
      | (with_reducible exact LeO.none _)
      | (with_reducible refine LeO.ite ?_ ?_)
      | (with_reducible refine LeO.bind ?_ (fun _ => ?_))
      | exact ih0 _ _ _ _
      | exact ih1 _ _ _ _ _
      | exact LeO.none _
      | refine LeO.ite ?_ ?_
      | refine LeO.bind ?_ (fun _ => ?_)
theorem magpieref09_piece.mono : ∀ a0 a1 k, LeO (magpieref09_piece.f k a0 a1) (magpieref09_piece.f (k + 1) a0 a1) := by
  intro a0 a1 k
  obtain ⟨ih0, ih1⟩ := magpieref09_piece.mono_l k
  unfold magpieref09_piece.f
  repeat' first
      | (with_reducible exact ih0 _ _ _ _)
      | (with_reducible exact ih1 _ _ _ _ _)
      | (with_reducible exact LeO.refl _)
      | (with_reducible exact LeO.none _)
      | (with_reducible refine LeO.ite ?_ ?_)
      | (with_reducible refine LeO.bind ?_ (fun _ => ?_))
      | exact ih0 _ _ _ _
      | exact ih1 _ _ _ _ _
      | exact LeO.none _
      | refine LeO.ite ?_ ?_
      | refine LeO.bind ?_ (fun _ => ?_)
set_option maxHeartbeats 8000000 in
set_option maxRecDepth 100000 in
theorem magpieref09_piece.calls (k : Nat) (a0 : ByteArray) (a1 : ByteArray) (r : Bool) (w : World) (h : magpieref09_piece.f k a0 a1 = some r) :
    Calls Tryd.prog 54 #[.string a0, .string a1] w fun e w' => e = .returned (.bool r) ∧ Drawn0 w w' := by
  have H : (magpieref09_piece.l0 k a0 a1 0 0) = some r := h
  clear h
  have H' := Aside0.mk H
  clear H
  go_enter Tryd.func54, Tryd.ntmps54
  go_wp2
  go_loopg [5, 6] k (fun kq v5 v6 w' => ∃ (x5_1 : Int) (x6_1 : Int), v5 = .int .i64 x5_1 ∧ v6 = .int .i64 x6_1 ∧ Aside0 (magpieref09_piece.l0 kq a0 a1 x5_1 x6_1 = some r) ∧ Aside0 (kq ≤ k) ∧ Drawn0 w w')
  case atStart => exact ⟨(0), (0), (by first | rfl | (simp; done) | (simp [*]; done)), (by first | rfl | (simp; done) | (simp [*]; done)), H', ⟨Nat.le_refl _⟩, by repeat (first | exact Drawn0.refl _ | apply Drawn0.step)⟩
  case round =>
    clear H'
    try clear p2
    obtain ⟨x5_1, x6_1, rfl, rfl, HA, HK1, ⟨m1, rfl⟩⟩ := hrel
    cases gk with
    | zero => exact absurd HA.out (by simp [magpieref09_piece.l0])
    | succ k1 =>
      have H := HA.out
      clear HA
      simp only [magpieref09_piece.l0] at H
      by_cases c3 : x6_1 ≤ (a0.size : Int)
      · rw [if_pos c3] at H
        have c3b0 : decide (x6_1 ≤ (a0.size : Int)) = true := decide_eq_true c3
        clear c3
        have HC4 := Aside0.mk H
        clear H
        go_upto_region 5 with (fail)
        go_cut [22] (fun v22 wc => ∃ (kq : Nat) (x22_3 : Bool), v22 = .bool x22_3 ∧ Aside0 (magpieref09_piece.j1 kq a0 a1 x5_1 x6_1 x22_3 = some r) ∧ Aside0 (kq ≤ k1) ∧ Drawn0 w wc)
        case first =>
          have H := HC4.out
          clear HC4
          by_cases c5 : x6_1 = (a0.size : Int)
          · rw [if_pos c5] at H
            have c5b0 : (x6_1 == (a0.size : Int)) = true := beq_iff_eq.mpr c5
            have c5b1 : (x6_1 != (a0.size : Int)) = false := bne_eq_false_iff_eq.mpr c5
            clear c5
            (first | rw [c5b0] | (simp only [i64_w, i32_w]; rw [c5b0]) | skip)
            have H' := Aside0.mk H
            clear H
            go_wp2
            go_meet
            case rel => exact ⟨_, (true), (by first | rfl | (simp; done) | (simp [*]; done)), H', ⟨by have := HK1.out; first | omega | exact Nat.le_refl _⟩, by repeat (first | exact Drawn0.refl _ | apply Drawn0.step)⟩
          · rw [if_neg c5] at H
            have c5b0 : (x6_1 == (a0.size : Int)) = false := beq_eq_false_iff_ne.mpr c5
            have c5b1 : (x6_1 != (a0.size : Int)) = true := bne_iff_ne.mpr c5
            (first | rw [c5b0] | (simp only [i64_w, i32_w]; rw [c5b0]) | skip)
            by_cases c6 : 0 ≤ x6_1
            · rw [if_pos c6] at H
              have c6b0 : decide (0 ≤ x6_1) = true := decide_eq_true c6
              clear c6
              by_cases c7 : x6_1 < (a0.size : Int)
              · rw [if_pos c7] at H
                have c7b0 : decide (x6_1 < (a0.size : Int)) = true := decide_eq_true c7
                clear c7
                have H' := Aside0.mk H
                clear H
                have p8 : 0 ≤ (x6_1 : Int) := of_decide_eq_true (by first | (with_reducible assumption) | assumption)
                have q8 : x6_1 < (a0.size : Int) := of_decide_eq_true (by first | (with_reducible assumption) | assumption)
                have hx8 := bt_at a0 x6_1
                replace p8 := eq_true p8
                replace q8 := eq_true q8
                go_wp2
                go_meet
                case rel => exact ⟨_, (((bt a0 x6_1) == 32)), (by first | rfl | (simp; done) | (simp [*]; done)), H', ⟨by have := HK1.out; first | omega | exact Nat.le_refl _⟩, by repeat (first | exact Drawn0.refl _ | apply Drawn0.step)⟩
              · rw [if_neg c7] at H
                exact absurd H (by simp)
            · rw [if_neg c6] at H
              exact absurd H (by simp)
        case rest =>
          clear HC4
          try clear p2
          try clear c3
          try clear c3b0
          try clear c5
          try clear c5b0
          try clear c5b1
          try clear c6
          try clear c6b0
          try clear c7
          try clear c7b0
          try clear p8
          try clear q8
          try clear hx8
          try clear p2
          try clear p8
          try clear q8
          obtain ⟨kq, x22_3, rfl, HA, HJ3, ⟨mc3, rfl⟩⟩ := hcut
          cases kq with
          | zero => exact absurd HA.out (by simp [magpieref09_piece.j1])
          | succ kj3 =>
            have H := HA.out
            clear HA
            simp only [magpieref09_piece.j1] at H
            by_cases c9 : x22_3 = true
            · subst c9
              have H1 : (if 0 ≤ x5_1 then (if x5_1 ≤ x6_1 then (if x6_1 ≤ (a0.size : Int) then (if (a0.extract (x5_1 : Int).toNat (x6_1 : Int).toNat).toList = a1.toList then (some true) else (magpieref09_piece.l0 kj3 a0 a1 (wrap64 (x6_1 + 1)) (wrap64 (x6_1 + 1)))) else (none)) else (none)) else (none)) = some r := by rw [if_pos rfl] at H; exact H
              clear H
              have H := H1
              clear H1
              by_cases c10 : 0 ≤ x5_1
              · rw [if_pos c10] at H
                have c10b0 := eq_true c10
                have c10b1 : decide (0 ≤ x5_1) = true := decide_eq_true c10
                clear c10
                by_cases c11 : x5_1 ≤ x6_1
                · rw [if_pos c11] at H
                  have c11b0 := eq_true c11
                  have c11b1 : decide (x5_1 ≤ x6_1) = true := decide_eq_true c11
                  clear c11
                  by_cases c12 : x6_1 ≤ (a0.size : Int)
                  · rw [if_pos c12] at H
                    have c12b0 := eq_true c12
                    have c12b1 : decide (x6_1 ≤ (a0.size : Int)) = true := decide_eq_true c12
                    clear c12
                    by_cases c13 : (a0.extract (x5_1 : Int).toNat (x6_1 : Int).toNat).toList = a1.toList
                    · rw [if_pos c13] at H
                      have c13b0 : ((a0.extract (x5_1 : Int).toNat (x6_1 : Int).toNat).toList == a1.toList) = true := beq_iff_eq.mpr c13
                      have c13b1 : ((a0.extract (x5_1 : Int).toNat (x6_1 : Int).toNat).toList != a1.toList) = false := bne_eq_false_iff_eq.mpr c13
                      clear c13
                      obtain rfl := Option.some.inj H
                      go_wp2
                      go_ret
                      exact ⟨by first | rfl | (simp; done) | (simp [*]; done), by repeat (first | exact Drawn0.refl _ | apply Drawn0.step)⟩
                    · rw [if_neg c13] at H
                      have c13b0 : ((a0.extract (x5_1 : Int).toNat (x6_1 : Int).toNat).toList == a1.toList) = false := beq_eq_false_iff_ne.mpr c13
                      have c13b1 : ((a0.extract (x5_1 : Int).toNat (x6_1 : Int).toNat).toList != a1.toList) = true := bne_iff_ne.mpr c13
                      have H' := Aside0.mk H
                      clear H
                      go_wp2
                      go_roundg kj3
                      case measure => have := HK1.out; have := HJ3.out; omega
                      case rel => exact ⟨(wrap64 (x6_1 + 1)), (wrap64 (x6_1 + 1)), (by first | rfl | (simp; done) | (simp [*]; done)), (by first | rfl | (simp; done) | (simp [*]; done)), H', ⟨by have := HK1.out; have := HJ3.out; omega⟩, by repeat (first | exact Drawn0.refl _ | apply Drawn0.step)⟩
                  · rw [if_neg c12] at H
                    exact absurd H (by simp)
                · rw [if_neg c11] at H
                  exact absurd H (by simp)
              · rw [if_neg c10] at H
                exact absurd H (by simp)
            · replace c9 := Bool.eq_false_iff.mpr c9
              subst c9
              have H1 : (magpieref09_piece.l0 kj3 a0 a1 x5_1 (wrap64 (x6_1 + 1))) = some r := by rw [if_neg (show ¬ (false = true) by decide)] at H; exact H
              clear H
              have H := H1
              clear H1
              have H' := Aside0.mk H
              clear H
              go_wp2
              go_roundg kj3
              case measure => have := HK1.out; have := HJ3.out; omega
              case rel => exact ⟨(x5_1), (wrap64 (x6_1 + 1)), (by first | rfl | (simp; done) | (simp [*]; done)), (by first | rfl | (simp; done) | (simp [*]; done)), H', ⟨by have := HK1.out; have := HJ3.out; omega⟩, by repeat (first | exact Drawn0.refl _ | apply Drawn0.step)⟩
      · rw [if_neg c3] at H
        have c3b0 : decide (x6_1 ≤ (a0.size : Int)) = false := decide_eq_false c3
        clear c3
        obtain rfl := Option.some.inj H
        go_wp2
        go_ret
        exact ⟨by first | rfl | (simp; done) | (simp [*]; done), by repeat (first | exact Drawn0.refl _ | apply Drawn0.step)⟩



end Go.Proofs.YtfejjfbhlmjkeaaDoor.PMatchStands

/- Pieces of a line between its blanks: plain laws. -/
set_option linter.unusedVariables false
set_option linter.unusedSimpArgs false
namespace Go.Proofs.YtfejjfbhlmjkeaaDoor.M
open Go.RowKit Go.Proofs.YtfejjfbhlmjkeaaDoorW.PrintWords Go.Proofs.YtfejjfbhlmjkeaaDoorW.PrintLast Go.Proofs.YtfejjfbhlmjkeaaDoorW.PrintMore Go.Proofs.YtfejjfbhlmjkeaaDoor.B Go.Proofs.YtfejjfbhlmjkeaaDoor.W Go.Proofs.YtfejjfbhlmjkeaaDoor.PMatchStands

/-- The pieces of a row of bytes between its blanks. -/
def pcs : List UInt8 → List (List UInt8)
  | [] => [[]]
  | c :: t => if c = 32 then [] :: pcs t else match pcs t with
    | [] => [[c]]
    | h :: r => (c :: h) :: r
theorem pcs_ne : ∀ l, pcs l ≠ []
  | [] => by simp [pcs]
  | c :: t => by
    unfold pcs
    split
    · simp
    · split <;> simp
theorem pcs_blank : ∀ (a b : List UInt8), pcs (a ++ 32 :: b) = pcs a ++ pcs b
  | [], b => by simp [pcs]
  | c :: a, b => by
    have ih := pcs_blank a b
    rw [List.cons_append, pcs.eq_def (c :: (a ++ 32 :: b)), pcs.eq_def (c :: a)]
    simp only
    by_cases hc : c = 32
    · rw [if_pos hc, if_pos hc, ih]; rfl
    · rw [if_neg hc, if_neg hc, ih]
      cases h : pcs a with
      | nil => exact absurd h (pcs_ne a)
      | cons x r => rfl
theorem pcs_none : ∀ l : List UInt8, (∀ x ∈ l, x ≠ 32) → pcs l = [l]
  | [], _ => rfl
  | c :: t, h => by
    rw [pcs.eq_def]
    simp only
    rw [if_neg (h c (List.mem_cons_self ..)), pcs_none t (fun x hx => h x (List.mem_cons_of_mem _ hx))]
theorem pcs_at (l : List UInt8) (i : Nat) (hi : l[i]? = some 32) (hb : ∀ k, k < i → l[k]? ≠ some 32) : pcs l = l.take i :: pcs (l.drop (i + 1)) := by
  obtain ⟨hlt, he⟩ := List.getElem?_eq_some_iff.1 hi
  have e : l = l.take i ++ 32 :: l.drop (i + 1) := by
    rw [← he, ← List.drop_eq_getElem_cons hlt, List.take_append_drop]
  have hn : ∀ x ∈ l.take i, x ≠ 32 := by
    intro x hx hx32
    obtain ⟨k, hk, hkx⟩ := List.mem_iff_getElem.1 hx
    rw [List.length_take] at hk
    refine hb k (by omega) ?_
    rw [List.getElem_take] at hkx
    rw [List.getElem?_eq_getElem (by omega), hkx, hx32]
  rw [show pcs l = pcs (l.take i ++ 32 :: l.drop (i + 1)) from congrArg pcs e, pcs_blank, pcs_none _ hn]
  rfl
theorem no_blank {l : List UInt8} (h : ∀ k : Nat, l[k]? ≠ some 32) : ∀ x ∈ l, x ≠ 32 := by
  intro x hx e
  obtain ⟨k, hk, hkx⟩ := List.mem_iff_getElem.1 hx
  exact h k (by rw [List.getElem?_eq_getElem hk, hkx, e])
theorem split_pcs : ∀ (k : Nat) (l : List UInt8), l.count 32 ≤ k → Lib.splitK [32] 0 k l = pcs l := by
  intro k
  induction k with
  | zero =>
    intro l h
    unfold Lib.splitK
    rw [pcs_none l (fun x hx e => by subst e; have := List.count_pos_iff.2 hx; omega)]
  | succ k ih =>
    intro l h
    unfold Lib.splitK
    rw [Lib.index_one]
    by_cases hm : Lib.indexByte l 32 = -1
    · rw [if_pos (by rw [hm]; rfl), pcs_none l (no_blank (Lib.indexByte_none hm))]
    · have hge := Lib.indexByte_ge l 32
      obtain ⟨i, hi⟩ : ∃ i : Nat, Lib.indexByte l 32 = i := ⟨(Lib.indexByte l 32).toNat, by omega⟩
      obtain ⟨h1, h2⟩ := Lib.indexByte_some hi
      rw [if_neg (by rw [hi]; simp), hi, pcs_at l i h1 h2]
      obtain ⟨hlt, he⟩ := List.getElem?_eq_some_iff.1 h1
      have e : l = l.take i ++ 32 :: l.drop (i + 1) := by
        rw [← he, ← List.drop_eq_getElem_cons hlt, List.take_append_drop]
      have hc : (l.drop (i + 1)).count 32 ≤ k := by
        have h3 := congrArg (List.count (32 : UInt8)) e
        rw [List.count_append, List.count_cons_self] at h3
        omega
      simp only [Int.toNat_natCast, Nat.add_zero, List.length_singleton]
      rw [ih _ hc]
/-- Whether a text is a piece of a line. -/
def hasP (s t : ByteArray) : Bool := (pcs s.data.toList).any fun y => y == t.data.toList
theorem hasP_iff (s t : ByteArray) : hasP s t = true ↔ t.data.toList ∈ pcs s.data.toList := by
  unfold hasP
  rw [List.any_eq_true]
  constructor
  · rintro ⟨x, hx, he⟩; rw [← (by simpa using he : x = t.data.toList)]; exact hx
  · intro h; exact ⟨_, h, by simp⟩
theorem split_any (s t : ByteArray) : ((Lib.splitB ⟨#[32]⟩ 0 (Lib.countB s ⟨#[32]⟩) s).any fun y => t.toList == y.toList) = hasP s t := by
  have h := Lib.splitB_data ⟨#[32]⟩ 0 (Lib.countB s ⟨#[32]⟩) s
  have hc : Lib.countB s ⟨#[32]⟩ = s.data.toList.count 32 := Lib.count_one 32 s.data.toList
  rw [show (⟨#[32]⟩ : ByteArray).data.toList = [32] from rfl, split_pcs _ _ (by rw [hc]; exact Nat.le_refl _)] at h
  unfold hasP
  rw [← h, List.any_map]
  congr 1
  funext y
  rw [Bool.eq_iff_iff, text_iff]
  simp only [Function.comp, beq_iff_eq]
  constructor
  · rintro rfl; rfl
  · intro e; exact (ByteArray.ext (Array.toList_inj.mp e)).symm
theorem index_l0 (xs : List ByteArray) (t : ByteArray) (hm : xs.length ≤ 4611686018427) : ∀ (k i : Nat), xs.length - i < k → i ≤ xs.length → ∃ r : Int, slices_Index_string_string.l0 k xs t (xs.length : Int) (i : Int) = some r ∧ decide (r ≥ 0) = (xs.drop i).any fun y => t.toList == y.toList := by
  intro k
  induction k with
  | zero => intro i h; omega
  | succ k ih =>
    intro i h hi
    unfold slices_Index_string_string.l0
    by_cases hlt : i < xs.length
    · rw [if_pos (by omega), if_pos (by omega), if_pos (by omega), rdOf_at _ _ hlt, w64_in _ (by omega), List.drop_eq_getElem_cons hlt, List.any_cons]
      by_cases he : t.toList = xs[i].toList
      · rw [if_pos he, (by simpa using he : (t.toList == xs[i].toList) = true), Bool.true_or]
        exact ⟨_, rfl, by simp⟩
      · rw [if_neg he, (by simpa using he : (t.toList == xs[i].toList) = false), Bool.false_or]
        exact ih (i + 1) (by omega) (by omega)
    · rw [if_neg (by omega), List.drop_of_length_le (by omega)]
      exact ⟨-1, rfl, by simp⟩
theorem contains_f (xs : List ByteArray) (t : ByteArray) (hm : xs.length ≤ 4611686018427) : slices_Contains_string_string.f (xs.length + 1) xs t = some (xs.any fun y => t.toList == y.toList) := by
  obtain ⟨r, h1, h2⟩ := index_l0 xs t hm (xs.length + 1) 0 (by omega) (by omega)
  unfold slices_Contains_string_string.f slices_Index_string_string.f
  have h1' : slices_Index_string_string.l0 (xs.length + 1) xs t (xs.length : Int) 0 = some r := h1
  rw [h1']
  simp only [Option.bind_some]
  rw [h2]
  rfl
theorem bt_list (s : ByteArray) (i : Nat) (h : i < s.size) : ∃ b : UInt8, s.data.toList[i]? = some b ∧ bt s (i : Int) = (b.toNat : Int) := by
  have hl : i < s.data.toList.length := by rw [size_list]; exact h
  refine ⟨s.data.toList[i], List.getElem?_eq_getElem hl, ?_⟩
  unfold bt
  rw [dif_pos (by simpa using h)]
  simp [ByteArray.getElem_eq_getElem_data]
theorem ext_list (s : ByteArray) (f t : Nat) : (s.extract f t).data.toList = (s.data.toList.drop f).take (t - f) := by
  have := word_str s f t
  unfold word at this
  rw [this, data_str]
/-- piece, at its loop: from a piece's beginning f, no blank from there till i. -/
theorem piece_l0 (s t : ByteArray) (hm : s.size ≤ 4611686018427) : ∀ (n i f k : Nat), s.size - i = n → i ≤ s.size → f ≤ i → (∀ j, f ≤ j → j < i → s.data.toList[j]? ≠ some 32) → 2 * n + 4 ≤ k → magpieref09_piece.l0 k s t (f : Int) (i : Int) = some ((pcs (s.data.toList.drop f)).any fun y => y == t.data.toList) := by
  intro n
  have hsz := size_list s
  have key : ∀ i f, f ≤ i → i ≤ s.size → ((s.extract (f : Int).toNat (i : Int).toNat).toList = t.toList ↔ ((s.data.toList.drop f).take (i - f) == t.data.toList) = true) := by
    intro i f hf hi
    rw [beq_iff_eq, Int.toNat_natCast, Int.toNat_natCast, ByteArray.toList_eq, ByteArray.toList_eq, ext_list]
  have hno : ∀ i f, f ≤ i → (∀ j, f ≤ j → j < i → s.data.toList[j]? ≠ some 32) → ∀ j, j < i - f → (s.data.toList.drop f)[j]? ≠ some 32 := by
    intro i f hf hb j hj
    rw [List.getElem?_drop]
    exact hb (f + j) (by omega) (by omega)
  induction n with
  | zero =>
    intro i f k hn hi hf hb hk
    obtain rfl : i = s.size := by omega
    obtain ⟨k, rfl⟩ : ∃ k', k = k' + 3 := ⟨k - 3, by omega⟩
    unfold magpieref09_piece.l0
    rw [if_pos (by omega), if_pos rfl]
    unfold magpieref09_piece.j1
    rw [if_pos rfl, if_pos (by omega), if_pos (by omega), if_pos (by omega)]
    have hp : pcs (s.data.toList.drop f) = [s.data.toList.drop f] := pcs_none _ (no_blank (fun j => by
      by_cases hj : j < s.size - f
      · exact hno s.size f hf hb j hj
      · rw [List.getElem?_eq_none (by rw [List.length_drop]; omega)]; simp))
    have he : (s.data.toList.drop f).take (s.size - f) = s.data.toList.drop f := List.take_of_length_le (by rw [List.length_drop]; omega)
    have hk1 := key s.size f hf (Nat.le_refl _)
    rw [he] at hk1
    rw [hp]
    by_cases hx : (s.extract (f : Int).toNat (s.size : Int).toNat).toList = t.toList
    · rw [if_pos hx]; simp only [List.any_cons, List.any_nil, Bool.or_false, hk1.1 hx]
    · rw [if_neg hx, w64_in _ (by omega)]
      have hf2 : (s.data.toList.drop f == t.data.toList) = false := by
        cases h : (s.data.toList.drop f == t.data.toList) with
        | true => exact absurd (hk1.2 h) hx
        | false => rfl
      unfold magpieref09_piece.l0
      rw [if_neg (by omega)]
      simp only [List.any_cons, List.any_nil, Bool.or_false, hf2]
  | succ n ih =>
    intro i f k hn hi hf hb hk
    have hlt : i < s.size := by omega
    obtain ⟨k, rfl⟩ : ∃ k', k = k' + 2 := ⟨k - 2, by omega⟩
    obtain ⟨b, hb1, hb2⟩ := bt_list s i hlt
    unfold magpieref09_piece.l0
    rw [if_pos (by omega), if_neg (by omega), if_pos (by omega), if_pos (by omega), hb2]
    unfold magpieref09_piece.j1
    by_cases h32 : b = 32
    · subst h32
      rw [if_pos (by rfl), if_pos (by omega), if_pos (by omega), if_pos (by omega)]
      have hp := pcs_at (s.data.toList.drop f) (i - f) (by rw [List.getElem?_drop]; have : f + (i - f) = i := by omega
                                                           rw [this]; exact hb1) (hno i f hf hb)
      have hd : (s.data.toList.drop f).drop (i - f + 1) = s.data.toList.drop (i + 1) := by rw [List.drop_drop]; congr 1; omega
      rw [hd] at hp
      rw [hp, List.any_cons]
      have hk1 := key i f hf hi
      by_cases hx : (s.extract (f : Int).toNat (i : Int).toNat).toList = t.toList
      · rw [if_pos hx, hk1.1 hx, Bool.true_or]
      · have hf2 : ((s.data.toList.drop f).take (i - f) == t.data.toList) = false := by
          cases h : ((s.data.toList.drop f).take (i - f) == t.data.toList) with
          | true => exact absurd (hk1.2 h) hx
          | false => rfl
        rw [if_neg hx, w64_in _ (by omega), hf2, Bool.false_or]
        exact ih (i + 1) (i + 1) k (by omega) (by omega) (Nat.le_refl _) (fun j h1 h2 => by omega) (by omega)
    · have hbf : (((b.toNat : Int)) == 32) = false := by
        rw [beq_eq_false_iff_ne]
        intro e
        apply h32
        apply UInt8.toNat_inj.1
        have : b.toNat = 32 := by omega
        rw [this]; rfl
      rw [hbf, if_neg (by simp), w64_in _ (by omega)]
      exact ih (i + 1) f k (by omega) (by omega) (by omega) (fun j h1 h2 => by
        by_cases hj : j = i
        · rw [hj, hb1]; intro e; exact h32 (by simpa using e)
        · exact hb j h1 (by omega)) (by omega)
theorem piece_f (s t : ByteArray) (hm : s.size ≤ 4611686018427) : magpieref09_piece.f (2 * s.size + 4) s t = some (hasP s t) := by
  unfold magpieref09_piece.f hasP
  have := piece_l0 s t hm s.size 0 0 (2 * s.size + 4) (by omega) (Nat.zero_le _) (Nat.le_refl _) (fun j h1 h2 => by omega) (by omega)
  simpa using this
end Go.Proofs.YtfejjfbhlmjkeaaDoor.M

/- field and Line (of a filter without kids): what they compute. -/
set_option linter.unusedVariables false
set_option linter.unusedSimpArgs false
namespace Go.Proofs.YtfejjfbhlmjkeaaDoor.M
open Go.RowKit Go.Proofs.YtfejjfbhlmjkeaaDoorW.PrintWords Go.Proofs.YtfejjfbhlmjkeaaDoorW.PrintLast Go.Proofs.YtfejjfbhlmjkeaaDoorW.PrintMore Go.Proofs.YtfejjfbhlmjkeaaDoor.B Go.Proofs.YtfejjfbhlmjkeaaDoor.W Go.Proofs.YtfejjfbhlmjkeaaDoor.PMatchStands

/-- The library's Split at a blank answers what it should, from this world on. -/
def Spl (w : World) : Prop := ∀ (s : ByteArray) (w' : World), s.size < 4294967281 → Below w.heap.size w w' → Calls Tryd.prog 72 #[.string s, .string ⟨#[32]⟩] w' fun e w2 => e = .returned (.slice (some ⟨w'.heap.size, 0, none⟩) (Lib.countB s ⟨#[32]⟩ + 1) (Lib.countB s ⟨#[32]⟩ + 1)) ∧ w2 = w'.alloc (.cells ((Lib.splitB ⟨#[32]⟩ 0 (Lib.countB s ⟨#[32]⟩) s).map Value.string).toArray 9)
theorem count_le (s : ByteArray) : Lib.countB s ⟨#[32]⟩ ≤ s.size := by
  have h : Lib.countB s ⟨#[32]⟩ = s.data.toList.count 32 := Lib.count_one 32 s.data.toList
  rw [h, ← size_list]
  exact List.count_le_length
theorem contains_any {w : World} {v : Value} {xs : List ByteArray} (t : ByteArray) (h0 : ReadsS w v xs) (hm : xs.length ≤ 4611686018427) : Calls Tryd.prog 71 #[v, .string t] w fun e w' => e = .returned (.bool (xs.any fun y => t.toList == y.toList)) ∧ Below w.heap.size w w' := by
  obtain ⟨A0, c0, rfl, a1, a2, a3⟩ := h0
  refine (slices_Contains_string_string.calls (xs.length + 1) A0 c0 xs t _ w (Kd.C_of_reads (d := ByteArray.empty) ⟨rfl, a2, a3⟩) a1 (contains_f xs t hm)).mono ?_
  rintro e w' ⟨rfl, hd⟩
  exact ⟨rfl, hd.below⟩
theorem field_any {W w : World} (hS : Spl W) (hb : Below W.heap.size W w) (s t : ByteArray) (hs : s.size ≤ 2000) : Calls Tryd.prog 51 #[.string s, .string t] w fun e w' => e = .returned (.bool (hasP s t)) ∧ Below w.heap.size w w' := by
  have hsp := hS s w (by omega) hb
  have hlen := Lib.splitB_all ⟨#[32]⟩ (by decide) 0 _ s rfl
  have hany := split_any s t
  have hc := count_le s
  obtain ⟨xs, hxs⟩ : ∃ xs, xs = Lib.splitB ⟨#[32]⟩ 0 (Lib.countB s ⟨#[32]⟩) s := ⟨_, rfl⟩
  rw [← hxs] at hsp hlen hany
  rw [← hlen] at hsp
  have hr := readsS_new w 9 xs (by omega)
  have hcon := contains_any t hr (by omega)
  rw [hany] at hcon
  have Hsp := Aside0.mk hsp
  have Hcon := Aside0.mk hcon
  clear hsp hlen hany hc hxs hr hcon hS hb hs
  go_enter Tryd.func51, Tryd.ntmps51
  go_wp2_with (first
    | (go_at_call 72; with_reducible refine Hsp.out.mono ?_; rintro e w1 ⟨rfl, rfl⟩)
    | (go_at_call 71; with_reducible refine Hcon.out.mono ?_; rintro e w2 ⟨rfl, hb2⟩; have HB2 := Aside0.mk (below_step (below_alloc (Below.refl _ w) _) hb2); clear hb2))
  go_ret
  exact ⟨rfl, HB2.out⟩
/-- A filter without kids. -/
def flt (op : Int) (nm tx : ByteArray) : Value := .agg #[.int .i64 op, .string nm, .string tx, .slice none 0 0]
theorem line_word (nm tx line : ByteArray) (hl : line.size ≤ 4611686018427) (w : World) : Calls Tryd.prog 27 #[flt 3 nm tx, .string line] w fun e w' => e = .returned (.bool (hasB line tx)) ∧ Below w.heap.size w w' := by
  have Hh := Aside0.mk (fun w => has_any line tx w hl)
  unfold flt
  go_enter Tryd.func27, Tryd.ntmps27
  go_wp2_with (go_at_call 19; with_reducible refine (Hh.out _).mono ?_; rintro e w1 ⟨rfl, hb1⟩; have HB1 := Aside0.mk hb1; clear hb1)
  go_ret
  exact ⟨rfl, below_step (below_alloc (below_alloc (Below.refl _ w) _) _) HB1.out⟩
theorem line_has {W w : World} (hC : Con W) (hb : Below W.heap.size W w) (nm tx line : ByteArray) (hl : line.size ≤ 2000) : Calls Tryd.prog 27 #[flt 4 nm tx, .string line] w fun e w' => e = .returned (.bool (Lib.contains line.data.toList tx.data.toList)) ∧ Below w.heap.size w w' := by
  have hlt : line.size < 4294967281 := by omega
  have Hh : Aside0 (∀ w', Below w.heap.size w w' → Calls Tryd.prog 23 #[.string line, .string tx] w' fun e w2 => e = .returned (.bool (Lib.contains line.data.toList tx.data.toList)) ∧ w2 = w') := ⟨fun w' hb' => hC line tx w' hlt (below_step hb hb')⟩
  clear hlt
  clear hC hb
  unfold flt
  go_enter Tryd.func27, Tryd.ntmps27
  go_wp2_with (go_at_call 23; with_reducible refine (Hh.out _ (below_alloc (below_alloc (Below.refl _ w) _) _)).mono ?_; rintro e w1 ⟨rfl, hw1⟩; have HW1 := Aside0.mk hw1; clear hw1)
  go_ret
  exact ⟨rfl, by rw [HW1.out]; exact below_alloc (below_alloc (Below.refl _ w) _) _⟩
theorem line_field {W w : World} (hS : Spl W) (hb : Below W.heap.size W w) (nm tx line : ByteArray) (hl : line.size ≤ 2000) (h1 : nm.size ≤ 100) (h2 : tx.size ≤ 100) : Calls Tryd.prog 27 #[flt 5 nm tx, .string line] w fun e w' => e = .returned (.bool (hasP line (nm ++ ⟨#[61]⟩ ++ tx))) ∧ Below w.heap.size w w' := by
  have Hf : ∀ t, Aside0 (∀ w', Below w.heap.size w w' → Calls Tryd.prog 51 #[.string line, .string t] w' fun e w'' => e = .returned (.bool (hasP line t)) ∧ Below w'.heap.size w' w'') := fun t => ⟨fun w' hb' => field_any hS (below_step hb hb') line t hl⟩
  have Hh := Hf (nm ++ ⟨#[61]⟩ ++ tx)
  clear Hf
  have c1 : (9223372036854775807 < nm.size + 1) = False := by simp; omega
  have c2 : (9223372036854775807 < nm.size + 1 + tx.size) = False := by simp; omega
  clear hS hb h1 h2 hl
  unfold flt
  go_enter Tryd.func27, Tryd.ntmps27
  go_wp2_with (go_at_call 51; with_reducible refine (Hh.out _ (below_alloc (below_alloc (Below.refl _ w) _) _)).mono ?_; rintro e w1 ⟨rfl, hb1⟩; have HB1 := Aside0.mk hb1; clear hb1)
  go_ret
  exact ⟨rfl, below_step (below_alloc (below_alloc (Below.refl _ w) _) _) HB1.out⟩
theorem piece_any (s t : ByteArray) (hm : s.size ≤ 4611686018427) (w : World) : Calls Tryd.prog 54 #[.string s, .string t] w fun e w' => e = .returned (.bool (hasP s t)) ∧ Below w.heap.size w w' := by
  refine (magpieref09_piece.calls (2 * s.size + 4) s t _ w (piece_f s t hm)).mono ?_
  rintro e w' ⟨rfl, hd⟩
  exact ⟨rfl, hd.below⟩
theorem refLine_field (nm tx line : ByteArray) (hl : line.size ≤ 2000) (h1 : nm.size ≤ 100) (h2 : tx.size ≤ 100) (w : World) : Calls Tryd.prog 28 #[flt 5 nm tx, .string line] w fun e w' => e = .returned (.bool (hasP line (nm ++ ⟨#[61]⟩ ++ tx))) ∧ Below w.heap.size w w' := by
  have Hf : ∀ t, Aside0 (∀ w, Calls Tryd.prog 54 #[.string line, .string t] w fun e w'' => e = .returned (.bool (hasP line t)) ∧ Below w.heap.size w w'') := fun t => ⟨fun w => piece_any line t (by omega) w⟩
  have Hh := Hf (nm ++ ⟨#[61]⟩ ++ tx)
  clear Hf
  have c1 : (9223372036854775807 < nm.size + 1) = False := by simp; omega
  have c2 : (9223372036854775807 < nm.size + 1 + tx.size) = False := by simp; omega
  clear h1 h2 hl
  unfold flt
  go_enter Tryd.func28, Tryd.ntmps28
  go_wp2_with (go_at_call 54; with_reducible refine (Hh.out _).mono ?_; rintro e w1 ⟨rfl, hb1⟩; have HB1 := Aside0.mk hb1; clear hb1)
  go_ret
  exact ⟨rfl, below_step (below_alloc (Below.refl _ w) _) HB1.out⟩
/-- A matcher at an entry that holds nothing. -/
theorem label_none (nm va : ByteArray) (no : Bool) (w : World) : Calls Tryd.prog 31 #[.agg #[.string nm, .bool no, .string va], .agg #[.int .i64 0, .slice none 0 0, .string ⟨#[]⟩]] w fun e w' => e = .returned (.bool (((⟨#[]⟩ : ByteArray).toList == va.toList) != no)) ∧ Below w.heap.size w w' := by
  exact match_Label.calls 1 nm no va 0 none 0 [] ⟨#[]⟩ _ w ⟨rfl, by simp, fun h => by cases h⟩ (Nat.le_refl _) rfl
end Go.Proofs.YtfejjfbhlmjkeaaDoor.M

/- MatchStands: the walk of the law. -/
set_option linter.unusedVariables false
set_option linter.unusedSimpArgs false
namespace Go.Proofs.YtfejjfbhlmjkeaaDoor.M
open Go.RowKit Go.Shelf Go.Proofs.YtfejjfbhlmjkeaaDoor.Hi Go.Proofs.YtfejjfbhlmjkeaaDoorW.PrintWords Go.Proofs.YtfejjfbhlmjkeaaDoorW.PrintLast Go.Proofs.YtfejjfbhlmjkeaaDoor.B Go.Proofs.YtfejjfbhlmjkeaaDoor.W

theorem get_1 : hasB ⟨#[71, 69, 84, 32, 103, 101, 116]⟩ ⟨#[103, 101, 116]⟩ = true := by
  unfold hasB words
  rw [← spansC_eq _ 7 0 none (Nat.le_refl _)]
  exact any_true (by
    have : List.map (word ⟨#[71, 69, 84, 32, 103, 101, 116]⟩) (spansC ⟨#[71, 69, 84, 32, 103, 101, 116]⟩ 7 0 none) = [⟨#[71, 69, 84]⟩, ⟨#[103, 101, 116]⟩] := by kernel_rfl
    rw [this]
    exact List.mem_cons_of_mem _ (List.mem_cons_self ..))
theorem get_2 : hasB ⟨#[103, 101, 116, 116, 105, 110, 103]⟩ ⟨#[103, 101, 116]⟩ = false := by
  unfold hasB words
  rw [← spansC_eq _ 7 0 none (Nat.le_refl _)]
  exact any_false (by
    have : List.map (word ⟨#[103, 101, 116, 116, 105, 110, 103]⟩) (spansC ⟨#[103, 101, 116, 116, 105, 110, 103]⟩ 7 0 none) = [⟨#[103, 101, 116, 116, 105, 110, 103]⟩] := by kernel_rfl
    rw [this]
    intro h
    have h1 := congrArg ByteArray.size (List.mem_singleton.1 h)
    cases h1)
theorem lineA (w : World) : Calls Tryd.prog 27 #[.agg #[.int .i64 3, .string ⟨#[]⟩, .string ⟨#[103, 101, 116]⟩, .slice none 0 0], .string ⟨#[71, 69, 84, 32, 103, 101, 116]⟩] w fun e w' => e = .returned (.bool true) ∧ Below w.heap.size w w' := by
  have h := line_word ⟨#[]⟩ ⟨#[103, 101, 116]⟩ ⟨#[71, 69, 84, 32, 103, 101, 116]⟩ (by decide) w
  rw [get_1] at h
  exact h
theorem lineB (w : World) : Calls Tryd.prog 27 #[.agg #[.int .i64 3, .string ⟨#[]⟩, .string ⟨#[103, 101, 116]⟩, .slice none 0 0], .string ⟨#[103, 101, 116, 116, 105, 110, 103]⟩] w fun e w' => e = .returned (.bool false) ∧ Below w.heap.size w w' := by
  have h := line_word ⟨#[]⟩ ⟨#[103, 101, 116]⟩ ⟨#[103, 101, 116, 116, 105, 110, 103]⟩ (by decide) w
  rw [get_2] at h
  exact h
theorem labelA (w : World) : Calls Tryd.prog 31 #[.agg #[.string ⟨#[97, 112, 112]⟩, .bool true, .string ⟨#[120]⟩], .agg #[.int .i64 0, .slice none 0 0, .string ⟨#[]⟩]] w fun e w' => e = .returned (.bool true) ∧ Below w.heap.size w w' := by
  have h := label_none ⟨#[97, 112, 112]⟩ ⟨#[120]⟩ true w
  have e : (((⟨#[]⟩ : ByteArray).toList == (⟨#[120]⟩ : ByteArray).toList) != true) = true := by
    rw [ByteArray.toList_eq, ByteArray.toList_eq]; rfl
  rw [e] at h
  exact h
theorem cells4 {W : World} {b : Nat} {a c d e : Value} {t : TypeId} (h : W.heap[b]? = some (.cells #[a, c, d, e] t (0, 0))) : W.cell? ⟨b, 0, none⟩ = some a ∧ W.cell? ⟨b, 1, none⟩ = some c ∧ W.cell? ⟨b, 2, none⟩ = some d ∧ W.cell? ⟨b, 3, none⟩ = some e :=
  ⟨by rw [blk_cell h]; rfl, by rw [blk_cell h]; rfl, by rw [blk_cell h]; rfl, by rw [blk_cell h]; rfl⟩
set_option maxRecDepth 20000 in
set_option maxHeartbeats 4000000 in
theorem alive9 (w : World) : Calls Tryd.prog 24 #[] w fun e w' => e = .returned (.bool true) ∧ Below w.heap.size w w' := by
  go_enter Tryd.func24, Tryd.ntmps24
  go_wp2_with (first
    | (go_at_call 27; with_reducible refine (lineA _).mono ?_; rintro e W1 ⟨rfl, hb1⟩; have HB1 := Aside0.mk (below_step (below_alloc (Below.refl _ w) _) hb1); obtain ⟨k0, k1, k2, k3⟩ := cells4 ((hb1.block w.heap.size (by simp)).trans (World.alloc_heap_new w _)); clear hb1)
    | (go_at_call 27; with_reducible refine (lineB _).mono ?_; rintro e W2 ⟨rfl, hb2⟩; have HB2 := Aside0.mk (below_step HB1.out hb2); clear hb2)
    | (go_at_call 31; with_reducible refine (labelA _).mono ?_; rintro e W3 ⟨rfl, hb3⟩; have HB3 := Aside0.mk (below_step HB2.out hb3); clear hb3))
  go_ret
  exact ⟨rfl, HB3.out⟩
/-- What a field's text is. -/
def kv : ByteArray := ⟨#[107, 101, 121, 61, 115, 111, 109, 101]⟩
theorem kv_eq : (⟨#[107, 101, 121]⟩ : ByteArray) ++ ⟨#[61]⟩ ++ ⟨#[115, 111, 109, 101]⟩ = kv := by kernel_rfl
theorem pcs_kv : pcs kv.data.toList = [kv.data.toList] := by kernel_rfl
theorem hasP_behind (line : ByteArray) : hasP (line ++ ⟨#[32, 107, 101, 121, 61, 115, 111, 109, 101]⟩) kv = true := by
  rw [hasP_iff, ByteArray.data_append, Array.toList_append]
  have e : (⟨#[32, 107, 101, 121, 61, 115, 111, 109, 101]⟩ : ByteArray).data.toList = 32 :: kv.data.toList := rfl
  rw [e, pcs_blank, pcs_kv]
  simp
theorem hasP_ahead (line : ByteArray) : hasP (⟨#[107, 101, 121, 61, 115, 111, 109, 101, 32]⟩ ++ line) kv = true := by
  rw [hasP_iff, ByteArray.data_append, Array.toList_append]
  have e : (⟨#[107, 101, 121, 61, 115, 111, 109, 101, 32]⟩ : ByteArray).data.toList = kv.data.toList ++ [32] := rfl
  rw [e, List.append_assoc, List.singleton_append, pcs_blank, pcs_kv]
  simp
set_option maxRecDepth 20000 in
set_option maxHeartbeats 4000000 in
theorem matchStands_all (line : ByteArray) (fr tt : Int) (W : World) (hC : Con W) (hS : Spl W) : Calls Tryd.prog 6 #[.string line, .int .i64 fr, .int .i64 tt] W fun e w' => e = .returned (.bool true) ∧ Below W.heap.size W w' := by
  refine (callsIn_wide (n := 9)).1 ?_
  refine callsIn_of_wp Tryd.func6 rfl trivial ?_ rfl
  simp only [Tryd.ntmps6, List.size_toArray, List.length_cons, List.length_nil, Nat.reduceAdd, Nat.reduceSub, Array.replicate_succ, Array.replicate_zero, List.push_toArray, List.append_toArray, List.nil_append, List.cons_append]
  by_cases h1 : (300 : Int) < (line.size : Int)
  · have d1 : decide ((300 : Int) < (line.size : Int)) = true := decide_eq_true h1
    clear h1 hC hS
    gi_wp2_with (refine ⟨trivial, ?_⟩; gi_at_call 24; refine (callsIn_wide.2 (alive9 _)).mono ?_; rintro e W1 ⟨rfl, hb1⟩; have HB1 := Aside0.mk hb1; clear hb1)
    refine bodyPost_ret (results_tmp rfl _ _ _) rfl ?_
    exact ⟨rfl, HB1.out⟩
  have d1 : decide ((300 : Int) < (line.size : Int)) = false := decide_eq_false h1
  by_cases h2 : fr < 0
  · have d2 : decide (fr < 0) = true := decide_eq_true h2
    clear h1 h2 hC hS
    gi_wp2_with (refine ⟨trivial, ?_⟩; gi_at_call 24; refine (callsIn_wide.2 (alive9 _)).mono ?_; rintro e W1 ⟨rfl, hb1⟩; have HB1 := Aside0.mk hb1; clear hb1)
    refine bodyPost_ret (results_tmp rfl _ _ _) rfl ?_
    exact ⟨rfl, HB1.out⟩
  have d2 : decide (fr < 0) = false := decide_eq_false h2
  by_cases h3 : tt < fr
  · have d3 : decide (tt < fr) = true := decide_eq_true h3
    clear h1 h2 h3 hC hS
    gi_wp2_with (refine ⟨trivial, ?_⟩; gi_at_call 24; refine (callsIn_wide.2 (alive9 _)).mono ?_; rintro e W1 ⟨rfl, hb1⟩; have HB1 := Aside0.mk hb1; clear hb1)
    refine bodyPost_ret (results_tmp rfl _ _ _) rfl ?_
    exact ⟨rfl, HB1.out⟩
  have d3 : decide (tt < fr) = false := decide_eq_false h3
  by_cases h4 : (line.size : Int) < tt
  · have d4 : decide ((line.size : Int) < tt) = true := decide_eq_true h4
    clear h1 h2 h3 h4 hC hS
    gi_wp2_with (refine ⟨trivial, ?_⟩; gi_at_call 24; refine (callsIn_wide.2 (alive9 _)).mono ?_; rintro e W1 ⟨rfl, hb1⟩; have HB1 := Aside0.mk hb1; clear hb1)
    refine bodyPost_ret (results_tmp rfl _ _ _) rfl ?_
    exact ⟨rfl, HB1.out⟩
  have d4 : decide ((line.size : Int) < tt) = false := decide_eq_false h4
  have hl : line.size ≤ 300 := by omega
  have hsl : ∀ V, (Instr.slice 9 (.string line) (some (.int .i64 fr)) (some (.int .i64 tt)) none).run Tryd.prog V = .ok (.string (line.extract fr.toNat tt.toNat)) V := fun V =>
    run_slice_string (P := Tryd.prog) V 9 line .i64 .i64 fr tt Tryd.underlying9 (by omega) (by omega) (by omega)
  have hct : Lib.contains line.data.toList (line.extract fr.toNat tt.toNat).data.toList = true := by
    refine contains_of _ _ fr.toNat (by rw [size_list]; omega) ?_
    rw [ext_list]
    unfold Lib.occAt
    simp [List.isPrefixOf_iff_prefix, List.take_prefix]
  have HL1 : Aside0 (∀ w, Below W.heap.size W w → Calls Tryd.prog 27 #[.agg #[.int .i64 4, .string ⟨#[]⟩, .string (line.extract fr.toNat tt.toNat), .slice none 0 0], .string line] w fun e w' => e = .returned (.bool true) ∧ Below w.heap.size w w') := ⟨fun w hb => by
    have h := line_has hC hb ⟨#[]⟩ (line.extract fr.toNat tt.toNat) line (by omega)
    rw [hct] at h
    exact h⟩
  have HL2 : Aside0 (∀ x : ByteArray, x.size ≤ 2000 → ∀ w, Below W.heap.size W w → Calls Tryd.prog 27 #[.agg #[.int .i64 5, .string ⟨#[107, 101, 121]⟩, .string ⟨#[115, 111, 109, 101]⟩, .slice none 0 0], .string x] w fun e w' => e = .returned (.bool (hasP x kv)) ∧ Below w.heap.size w w') := ⟨fun x hx w hb => by
    have h := line_field hS hb ⟨#[107, 101, 121]⟩ ⟨#[115, 111, 109, 101]⟩ x hx (by decide) (by decide)
    rw [kv_eq] at h
    exact h⟩
  have HL3 : Aside0 (∀ x : ByteArray, x.size ≤ 2000 → ∀ w, Calls Tryd.prog 28 #[.agg #[.int .i64 5, .string ⟨#[107, 101, 121]⟩, .string ⟨#[115, 111, 109, 101]⟩, .slice none 0 0], .string x] w fun e w' => e = .returned (.bool (hasP x kv)) ∧ Below w.heap.size w w') := ⟨fun x hx w => by
    have h := refLine_field ⟨#[107, 101, 121]⟩ ⟨#[115, 111, 109, 101]⟩ x hx (by decide) (by decide) w
    rw [kv_eq] at h
    exact h⟩
  have Hl := Aside0.mk hl
  clear h1 h2 h3 h4 hct hC hS hl
  gi_wp2_with (first
    | (refine ⟨trivial, ?_⟩; gi_at_call 24; refine (callsIn_wide.2 (alive9 _)).mono ?_; rintro e W1 ⟨rfl, hb1⟩; have HB1 := Aside0.mk hb1; clear hb1)
    | (refine ⟨trivial, ?_⟩; gi_at_call 27; refine (callsIn_wide.2 (HL1.out _ HB1.out)).mono ?_; rintro e W2 ⟨rfl, hb2⟩; have HB2 := Aside0.mk (below_step HB1.out hb2); clear hb2))
  have HS : Aside0 ((W2.alloc (.cells #[.int .i64 5, .string ⟨#[107, 101, 121]⟩, .string ⟨#[115, 111, 109, 101]⟩, .slice none 0 0] 36)).heap[W2.heap.size]? = some (.cells #[.int .i64 5, .string ⟨#[107, 101, 121]⟩, .string ⟨#[115, 111, 109, 101]⟩, .slice none 0 0] 36 (0, 0))) := ⟨World.alloc_heap_new W2 _⟩
  have HBV := Aside0.mk (below_alloc HB2.out (.cells #[.int .i64 5, .string ⟨#[107, 101, 121]⟩, .string ⟨#[115, 111, 109, 101]⟩, .slice none 0 0] 36))
  have Hb : Aside0 (W2.heap.size < (W2.alloc (.cells #[.int .i64 5, .string ⟨#[107, 101, 121]⟩, .string ⟨#[115, 111, 109, 101]⟩, .slice none 0 0] 36)).heap.size) := ⟨by simp⟩
  obtain ⟨V, hV⟩ : ∃ V, V = W2.alloc (.cells #[.int .i64 5, .string ⟨#[107, 101, 121]⟩, .string ⟨#[115, 111, 109, 101]⟩, .slice none 0 0] 36) := ⟨_, rfl⟩
  rw [← hV] at HS HBV Hb ⊢
  obtain ⟨b, hb⟩ : ∃ b, b = W2.heap.size := ⟨_, rfl⟩
  rw [← hb] at HS Hb ⊢
  have hz : ∀ x y : ByteArray, y.size = 9 → x = line ++ y ∨ x = y ++ line → x.size ≤ 2000 := fun x y hy hx => by
    have := Hl.out
    rcases hx with rfl | rfl <;> rw [ByteArray.size_append] <;> omega
  have HA1 : ∀ x, x = line ++ ⟨#[32, 107, 101, 121, 61, 115, 111, 109, 101]⟩ → Aside0 (∀ w, Below W.heap.size W w → Calls Tryd.prog 27 #[.agg #[.int .i64 5, .string ⟨#[107, 101, 121]⟩, .string ⟨#[115, 111, 109, 101]⟩, .slice none 0 0], .string x] w fun e w' => e = .returned (.bool true) ∧ Below w.heap.size w w') := fun x hx => ⟨fun w hb => by
    have h := HL2.out x (hz x _ rfl (.inl hx)) w hb
    have hp : hasP x kv = true := by rw [hx]; exact hasP_behind line
    rw [hp] at h
    exact h⟩
  have HA2 : ∀ x, x = ⟨#[107, 101, 121, 61, 115, 111, 109, 101, 32]⟩ ++ line → Aside0 (∀ w, Below W.heap.size W w → Calls Tryd.prog 27 #[.agg #[.int .i64 5, .string ⟨#[107, 101, 121]⟩, .string ⟨#[115, 111, 109, 101]⟩, .slice none 0 0], .string x] w fun e w' => e = .returned (.bool true) ∧ Below w.heap.size w w') := fun x hx => ⟨fun w hb => by
    have h := HL2.out x (hz x _ rfl (.inr hx)) w hb
    have hp : hasP x kv = true := by rw [hx]; exact hasP_ahead line
    rw [hp] at h
    exact h⟩
  have HA3 : ∀ x, x = ⟨#[107, 101, 121, 61, 115, 111, 109, 101, 45]⟩ ++ line → Aside0 (∃ p, (∀ w, Below W.heap.size W w → Calls Tryd.prog 27 #[.agg #[.int .i64 5, .string ⟨#[107, 101, 121]⟩, .string ⟨#[115, 111, 109, 101]⟩, .slice none 0 0], .string x] w fun e w' => e = .returned (.bool p) ∧ Below w.heap.size w w') ∧ (∀ w, Calls Tryd.prog 28 #[.agg #[.int .i64 5, .string ⟨#[107, 101, 121]⟩, .string ⟨#[115, 111, 109, 101]⟩, .slice none 0 0], .string x] w fun e w' => e = .returned (.bool p) ∧ Below w.heap.size w w')) := fun x hx =>
    ⟨hasP x kv, fun w hb => HL2.out x (hz x _ rfl (.inr hx)) w hb, fun w => HL3.out x (hz x _ rfl (.inr hx)) w⟩
  have HB1' := HA1 _ rfl
  have HB2' := HA2 _ rfl
  obtain ⟨p, hp1, hp2⟩ := (HA3 _ rfl).out
  have HB3' := Aside0.mk hp1
  have HB4' := Aside0.mk hp2
  have c1 : (9223372036854775807 < line.size + 9) = False := by have := Hl.out; simp; omega
  have c2 : (9223372036854775807 < 9 + line.size) = False := by have := Hl.out; simp; omega
  have hfo : (Tryd.prog).follows .mixedOrders = true := by kernel_rfl
  have HBd : Aside0 (Below W.heap.size W V.drew) := ⟨pw_below_drewN HBV.out 1⟩
  have HSd : Aside0 (V.drew.heap[b]? = some (.cells #[.int .i64 5, .string ⟨#[107, 101, 121]⟩, .string ⟨#[115, 111, 109, 101]⟩, .slice none 0 0] 36 (0, 0))) := HS
  have Hbd : Aside0 (b < V.drew.heap.size) := Hb
  clear HA1 HA2 HA3 HL1 HL2 HL3 hz hp1 hp2 hV hb hsl HS Hb HBV
  refine hi_start 24 (fun W_ => W_.heap[b]? = some (.cells #[.int .i64 5, .string ⟨#[107, 101, 121]⟩, .string ⟨#[115, 111, 109, 101]⟩, .slice none 0 0] 36 (0, 0))) hfo ?_
  refine hi_take 0 (some 37) (v := ?_) (L' := #[true, false, false, false, false, false, false, false, false, false, false, false, false, false, false, false, false, false, false, false, false, false, false, false]) (a' := ?_) rfl rfl rfl (by kernel_rfl) (fun _ _ _ h => h) (fun _ => rfl) HSd.out (Or.inl ⟨by rfl, ?_⟩) ?_ ?_
  rotate_left 2
  · intro w_ hw_
    obtain ⟨k0, k1, k2, k3⟩ := cells4 hw_
    go_simp
    try with_reducible rfl
  · simp only [Act.put, List.setIfInBounds_toArray, List.set_cons_zero, List.set_cons_succ, i64_w, i32_w]
    rfl
  refine hi_pure 1 (some 38) (v := ?_) (L' := #[true, true, false, false, false, false, false, false, false, false, false, false, false, false, false, false, false, false, false, false, false, false, false, false]) (a' := ?_) rfl rfl rfl (by kernel_rfl) (fun _ _ _ h => h) (fun _ => rfl) (fun _ => HSd.out) (Or.inl ⟨by rfl, ?_⟩) ?_ ?_
  rotate_left 2
  · intro w_
    go_simp
    try with_reducible rfl
  · simp only [Act.put, List.setIfInBounds_toArray, List.set_cons_zero, List.set_cons_succ, i64_w, i32_w]
    rfl
  refine hi_pure 2 (some 39) (v := ?_) (L' := #[true, true, true, false, false, false, false, false, false, false, false, false, false, false, false, false, false, false, false, false, false, false, false, false]) (a' := ?_) rfl rfl rfl (by kernel_rfl) (fun _ _ _ h => h) (fun _ => rfl) (fun _ => HSd.out) (Or.inl ⟨by rfl, ?_⟩) ?_ ?_
  rotate_left 2
  · intro w_
    go_simp
    try with_reducible rfl
  · simp only [Act.put, List.setIfInBounds_toArray, List.set_cons_zero, List.set_cons_succ, i64_w, i32_w]
    rfl
  refine hi_one 3 (L' := #[true, true, true, true, false, false, false, false, false, false, false, false, false, false, false, false, false, false, false, false, false, false, false, false]) rfl (by kernel_rfl) rfl (fun K hK => ?_)
  go_simp
  gi_wp2_with (refine ⟨trivial, ?_⟩; gi_at_call 27; refine (callsIn_wide.2 (HB1'.out _ HBd.out)).mono ?_; rintro e W3 ⟨rfl, hb_⟩)
  have HBd1 := Aside0.mk (below_step HBd.out hb_)
  have HSd1 := Aside0.mk ((hb_.block b Hbd.out).trans HSd.out)
  have Hbd1 : Aside0 (b < W3.heap.size) := ⟨Nat.lt_of_lt_of_le Hbd.out hb_.size⟩
  clear hb_
  refine hK.out _ _ (fun _ => HSd1.out) ?_
  clear hK K
  refine hi_pure 4 (some 41) (v := ?_) (L' := #[true, true, true, true, true, false, false, false, false, false, false, false, false, false, false, false, false, false, false, false, false, false, false, false]) (a' := ?_) rfl rfl rfl (by kernel_rfl) (fun _ _ _ h => h) (fun _ => rfl) (fun _ => HSd1.out) (Or.inl ⟨by rfl, ?_⟩) ?_ ?_
  rotate_left 2
  · intro w_
    go_simp
    try with_reducible rfl
  · simp only [Act.put, List.setIfInBounds_toArray, List.set_cons_zero, List.set_cons_succ, i64_w, i32_w]
    rfl
  refine hi_take 5 (some 42) (v := ?_) (L' := #[true, true, true, true, true, true, false, false, false, false, false, false, false, false, false, false, false, false, false, false, false, false, false, false]) (a' := ?_) rfl rfl rfl (by kernel_rfl) (fun _ _ _ h => h) (fun _ => rfl) HSd1.out (Or.inl ⟨by rfl, ?_⟩) ?_ ?_
  rotate_left 2
  · intro w_ hw_
    obtain ⟨k0, k1, k2, k3⟩ := cells4 hw_
    go_simp
    try with_reducible rfl
  · simp only [Act.put, List.setIfInBounds_toArray, List.set_cons_zero, List.set_cons_succ, i64_w, i32_w]
    rfl
  refine hi_pure 6 (some 43) (v := ?_) (L' := #[true, true, true, true, true, true, true, false, false, false, false, false, false, false, false, false, false, false, false, false, false, false, false, false]) (a' := ?_) rfl rfl rfl (by kernel_rfl) (fun _ _ _ h => h) (fun _ => rfl) (fun _ => HSd1.out) (Or.inl ⟨by rfl, ?_⟩) ?_ ?_
  rotate_left 2
  · intro w_
    go_simp
    try with_reducible rfl
  · simp only [Act.put, List.setIfInBounds_toArray, List.set_cons_zero, List.set_cons_succ, i64_w, i32_w]
    rfl
  refine hi_pure 7 (some 44) (v := ?_) (L' := #[true, true, true, true, true, true, true, true, false, false, false, false, false, false, false, false, false, false, false, false, false, false, false, false]) (a' := ?_) rfl rfl rfl (by kernel_rfl) (fun _ _ _ h => h) (fun _ => rfl) (fun _ => HSd1.out) (Or.inl ⟨by rfl, ?_⟩) ?_ ?_
  rotate_left 2
  · intro w_
    go_simp
    try with_reducible rfl
  · simp only [Act.put, List.setIfInBounds_toArray, List.set_cons_zero, List.set_cons_succ, i64_w, i32_w]
    rfl
  refine hi_one 8 (L' := #[true, true, true, true, true, true, true, true, true, false, false, false, false, false, false, false, false, false, false, false, false, false, false, false]) rfl (by kernel_rfl) rfl (fun K hK => ?_)
  go_simp
  gi_wp2_with (refine ⟨trivial, ?_⟩; gi_at_call 27; refine (callsIn_wide.2 (HB2'.out _ HBd1.out)).mono ?_; rintro e W4 ⟨rfl, hb_⟩)
  have HBd2 := Aside0.mk (below_step HBd1.out hb_)
  have HSd2 := Aside0.mk ((hb_.block b Hbd1.out).trans HSd1.out)
  have Hbd2 : Aside0 (b < W4.heap.size) := ⟨Nat.lt_of_lt_of_le Hbd1.out hb_.size⟩
  clear hb_
  refine hK.out _ _ (fun _ => HSd2.out) ?_
  clear hK K
  refine hi_pure 9 (some 46) (v := ?_) (L' := #[true, true, true, true, true, true, true, true, true, true, false, false, false, false, false, false, false, false, false, false, false, false, false, false]) (a' := ?_) rfl rfl rfl (by kernel_rfl) (fun _ _ _ h => h) (fun _ => rfl) (fun _ => HSd2.out) (Or.inl ⟨by rfl, ?_⟩) ?_ ?_
  rotate_left 2
  · intro w_
    go_simp
    try with_reducible rfl
  · simp only [Act.put, List.setIfInBounds_toArray, List.set_cons_zero, List.set_cons_succ, i64_w, i32_w]
    rfl
  refine hi_pure 10 (some 47) (v := ?_) (L' := #[true, true, true, true, true, true, true, true, true, true, true, false, false, false, false, false, false, false, false, false, false, false, false, false]) (a' := ?_) rfl rfl rfl (by kernel_rfl) (fun _ _ _ h => h) (fun _ => rfl) (fun _ => HSd2.out) (Or.inl ⟨by rfl, ?_⟩) ?_ ?_
  rotate_left 2
  · intro w_
    go_simp
    try with_reducible rfl
  · simp only [Act.put, List.setIfInBounds_toArray, List.set_cons_zero, List.set_cons_succ, i64_w, i32_w]
    rfl
  refine hi_take 11 (some 48) (v := ?_) (L' := #[true, true, true, true, true, true, true, true, true, true, true, true, false, false, false, false, false, false, false, false, false, false, false, false]) (a' := ?_) rfl rfl rfl (by kernel_rfl) (fun _ _ _ h => h) (fun _ => rfl) HSd2.out (Or.inl ⟨by rfl, ?_⟩) ?_ ?_
  rotate_left 2
  · intro w_ hw_
    obtain ⟨k0, k1, k2, k3⟩ := cells4 hw_
    go_simp
    try with_reducible rfl
  · simp only [Act.put, List.setIfInBounds_toArray, List.set_cons_zero, List.set_cons_succ, i64_w, i32_w]
    rfl
  refine hi_pure 12 (some 49) (v := ?_) (L' := #[true, true, true, true, true, true, true, true, true, true, true, true, true, false, false, false, false, false, false, false, false, false, false, false]) (a' := ?_) rfl rfl rfl (by kernel_rfl) (fun _ _ _ h => h) (fun _ => rfl) (fun _ => HSd2.out) (Or.inl ⟨by rfl, ?_⟩) ?_ ?_
  rotate_left 2
  · intro w_
    go_simp
    try with_reducible rfl
  · simp only [Act.put, List.setIfInBounds_toArray, List.set_cons_zero, List.set_cons_succ, i64_w, i32_w]
    rfl
  refine hi_pure 13 (some 50) (v := ?_) (L' := #[true, true, true, true, true, true, true, true, true, true, true, true, true, true, false, false, false, false, false, false, false, false, false, false]) (a' := ?_) rfl rfl rfl (by kernel_rfl) (fun _ _ _ h => h) (fun _ => rfl) (fun _ => HSd2.out) (Or.inl ⟨by rfl, ?_⟩) ?_ ?_
  rotate_left 2
  · intro w_
    go_simp
    try with_reducible rfl
  · simp only [Act.put, List.setIfInBounds_toArray, List.set_cons_zero, List.set_cons_succ, i64_w, i32_w]
    rfl
  refine hi_take 16 (some 53) (v := ?_) (L' := #[true, true, true, true, true, true, true, true, true, true, true, true, true, true, false, false, true, false, false, false, false, false, false, false]) (a' := ?_) rfl rfl rfl (by kernel_rfl) (fun _ _ _ h => h) (fun _ => rfl) HSd2.out (Or.inl ⟨by rfl, ?_⟩) ?_ ?_
  rotate_left 2
  · intro w_ hw_
    obtain ⟨k0, k1, k2, k3⟩ := cells4 hw_
    go_simp
    try with_reducible rfl
  · simp only [Act.put, List.setIfInBounds_toArray, List.set_cons_zero, List.set_cons_succ, i64_w, i32_w]
    rfl
  refine hi_pure 17 (some 54) (v := ?_) (L' := #[true, true, true, true, true, true, true, true, true, true, true, true, true, true, false, false, true, true, false, false, false, false, false, false]) (a' := ?_) rfl rfl rfl (by kernel_rfl) (fun _ _ _ h => h) (fun _ => rfl) (fun _ => HSd2.out) (Or.inl ⟨by rfl, ?_⟩) ?_ ?_
  rotate_left 2
  · intro w_
    go_simp
    try with_reducible rfl
  · simp only [Act.put, List.setIfInBounds_toArray, List.set_cons_zero, List.set_cons_succ, i64_w, i32_w]
    rfl
  refine hi_pure 18 (some 55) (v := ?_) (L' := #[true, true, true, true, true, true, true, true, true, true, true, true, true, true, false, false, true, true, true, false, false, false, false, false]) (a' := ?_) rfl rfl rfl (by kernel_rfl) (fun _ _ _ h => h) (fun _ => rfl) (fun _ => HSd2.out) (Or.inl ⟨by rfl, ?_⟩) ?_ ?_
  rotate_left 2
  · intro w_
    go_simp
    try with_reducible rfl
  · simp only [Act.put, List.setIfInBounds_toArray, List.set_cons_zero, List.set_cons_succ, i64_w, i32_w]
    rfl
  refine hi_one 14 (L' := #[true, true, true, true, true, true, true, true, true, true, true, true, true, true, true, false, true, true, true, false, false, false, false, false]) rfl (by kernel_rfl) rfl (fun K hK => ?_)
  go_simp
  gi_wp2_with (refine ⟨trivial, ?_⟩; gi_at_call 27; refine (callsIn_wide.2 (HB3'.out _ HBd2.out)).mono ?_; rintro e W5 ⟨rfl, hb_⟩)
  have HBd3 := Aside0.mk (below_step HBd2.out hb_)
  have HSd3 := Aside0.mk ((hb_.block b Hbd2.out).trans HSd2.out)
  have Hbd3 : Aside0 (b < W5.heap.size) := ⟨Nat.lt_of_lt_of_le Hbd2.out hb_.size⟩
  clear hb_
  refine hK.out _ _ (fun _ => HSd3.out) ?_
  clear hK K
  refine hi_pure 15 (some 52) (v := ?_) (L' := #[true, true, true, true, true, true, true, true, true, true, true, true, true, true, true, true, true, true, true, false, false, false, false, false]) (a' := ?_) rfl rfl rfl (by kernel_rfl) (fun _ _ _ h => h) (fun _ => rfl) (fun _ => HSd3.out) (Or.inl ⟨by rfl, ?_⟩) ?_ ?_
  rotate_left 2
  · intro w_
    go_simp
    try with_reducible rfl
  · simp only [Act.put, List.setIfInBounds_toArray, List.set_cons_zero, List.set_cons_succ, i64_w, i32_w]
    rfl
  refine hi_one 19 (L' := #[true, true, true, true, true, true, true, true, true, true, true, true, true, true, true, true, true, true, true, true, false, false, false, false]) rfl (by kernel_rfl) rfl (fun K hK => ?_)
  go_simp
  gi_wp2_with (refine ⟨trivial, ?_⟩; gi_at_call 28; refine (callsIn_wide.2 (HB4'.out _)).mono ?_; rintro e W6 ⟨rfl, hb_⟩)
  have HBd4 := Aside0.mk (below_step HBd3.out hb_)
  have HSd4 := Aside0.mk ((hb_.block b Hbd3.out).trans HSd3.out)
  have Hbd4 : Aside0 (b < W6.heap.size) := ⟨Nat.lt_of_lt_of_le Hbd3.out hb_.size⟩
  clear hb_
  refine hK.out _ _ (fun _ => HSd4.out) ?_
  clear hK K
  refine hi_pure 20 (some 57) (v := ?_) (L' := #[true, true, true, true, true, true, true, true, true, true, true, true, true, true, true, true, true, true, true, true, true, false, false, false]) (a' := ?_) rfl rfl rfl (by kernel_rfl) (fun _ _ _ h => h) (fun _ => rfl) (fun _ => HSd4.out) (Or.inl ⟨by rfl, ?_⟩) ?_ ?_
  rotate_left 2
  · intro w_
    go_simp
    try with_reducible rfl
  · simp only [Act.put, List.setIfInBounds_toArray, List.set_cons_zero, List.set_cons_succ, i64_w, i32_w]
    rfl
  refine hi_pure 21 (some 58) (v := ?_) (L' := #[true, true, true, true, true, true, true, true, true, true, true, true, true, true, true, true, true, true, true, true, true, true, false, false]) (a' := ?_) rfl rfl rfl (by kernel_rfl) (fun _ _ _ h => h) (fun _ => rfl) (fun _ => HSd4.out) (Or.inl ⟨by rfl, ?_⟩) ?_ ?_
  rotate_left 2
  · intro w_
    go_simp
    try with_reducible rfl
  · simp only [Act.put, List.setIfInBounds_toArray, List.set_cons_zero, List.set_cons_succ, i64_w, i32_w]
    rfl
  refine hi_pure 22 (some 59) (v := ?_) (L' := #[true, true, true, true, true, true, true, true, true, true, true, true, true, true, true, true, true, true, true, true, true, true, true, false]) (a' := ?_) rfl rfl rfl (by kernel_rfl) (fun _ _ _ h => h) (fun _ => rfl) (fun _ => HSd4.out) (Or.inl ⟨by rfl, ?_⟩) ?_ ?_
  rotate_left 2
  · intro w_
    go_simp
    try with_reducible rfl
  · simp only [Act.put, List.setIfInBounds_toArray, List.set_cons_zero, List.set_cons_succ, i64_w, i32_w]
    rfl
  refine hi_pure 23 (some 6) (v := ?_) (L' := #[true, true, true, true, true, true, true, true, true, true, true, true, true, true, true, true, true, true, true, true, true, true, true, true]) (a' := ?_) rfl rfl rfl (by kernel_rfl) (fun _ _ _ h => h) (fun _ => rfl) (fun _ => HSd4.out) (Or.inl ⟨by rfl, ?_⟩) ?_ ?_
  rotate_left 2
  · intro w_
    go_simp
    try with_reducible rfl
  · simp only [Act.put, List.setIfInBounds_toArray, List.set_cons_zero, List.set_cons_succ, i64_w, i32_w]
    rfl
  refine hi_done (by kernel_rfl) ?_ _
  gi_wp2
  refine bodyPost_ret (results_tmp rfl _ _ _) rfl ?_
  exact ⟨rfl, HBd4.out⟩
end Go.Proofs.YtfejjfbhlmjkeaaDoor.M

/- The library's contracts that the claim uses, laid at this program: written by the kit's own tools, picked by a program. -/
set_option linter.unusedVariables false
namespace Go.Proofs
open Go.Shelf
def Tryd.lays146_ren : Go.Shelf.Ren := ⟨fun | 146 => 72 | 221 => 88 | 268 => 100 | 138 => 101 | 143 => 47 | 195 => 114 | 197 => 65 | 218 => 115 | 219 => 69 | 260 => 82 | 217 => 83 | 225 => 84 | 224 => 85 | 267 => 86 | 266 => 98 | 314 => 99 | n => n, fun | 9 => 9 | 31 => 23 | 3 => 3 | 4 => 4 | 0 => 0 | 105 => 91 | 21 => 21 | 5 => 5 | 46 => 99 | 119 => 118 | 139 => 121 | 138 => 120 | 146 => 123 | 51 => 122 | n => n, fun | 1 => 0 | 3 => 1 | 4 => 2 | n => n⟩
theorem Tryd.lays146 : Go.Proofs.Lays.n146 Tryd.prog Tryd.lays146_ren := {
  mixed := by kernel_rfl
  f138 := Tryd.func101.trans (congrArg some (by kernel_rfl))
  f143 := Tryd.func47.trans (congrArg some (by kernel_rfl))
  f146 := Tryd.func72.trans (congrArg some (by kernel_rfl))
  f195 := Tryd.func114.trans (congrArg some (by kernel_rfl))
  f197 := Tryd.func65.trans (congrArg some (by kernel_rfl))
  f217 := Tryd.func83.trans (congrArg some (by kernel_rfl))
  f218 := Tryd.func115.trans (congrArg some (by kernel_rfl))
  f219 := Tryd.func69.trans (congrArg some (by kernel_rfl))
  f221 := Tryd.func88.trans (congrArg some (by kernel_rfl))
  f224 := Tryd.func85.trans (congrArg some (by kernel_rfl))
  f225 := Tryd.func84.trans (congrArg some (by kernel_rfl))
  f260 := Tryd.func82.trans (congrArg some (by kernel_rfl))
  f266 := Tryd.func98.trans (congrArg some (by kernel_rfl))
  f267 := Tryd.func86.trans (congrArg some (by kernel_rfl))
  f268 := Tryd.func100.trans (congrArg some (by kernel_rfl))
  f314 := Tryd.func99.trans (congrArg some (by kernel_rfl))
  t0 := Tryd.underlying0
  a0 := Tryd.isAgg0
  z0 := Tryd.sizeOf0
  v0 := Tryd.zeroValue0
  t3 := Tryd.underlying3
  a3 := Tryd.isAgg3
  z3 := Tryd.sizeOf3
  v3 := Tryd.zeroValue3
  t4 := Tryd.underlying4
  a4 := Tryd.isAgg4
  z4 := Tryd.sizeOf4
  v4 := Tryd.zeroValue4
  t5 := Tryd.underlying5
  a5 := Tryd.isAgg5
  z5 := Tryd.sizeOf5
  v5 := Tryd.zeroValue5
  t9 := Tryd.underlying9
  a9 := Tryd.isAgg9
  z9 := Tryd.sizeOf9
  v9 := Tryd.zeroValue9
  t21 := Tryd.underlying21
  a21 := Tryd.isAgg21
  z21 := Tryd.sizeOf21
  v21 := Tryd.zeroValue21
  t31 := Tryd.underlying23
  a31 := Tryd.isAgg23
  z31 := Tryd.sizeOf23
  v31 := Tryd.zeroValue23
  t46 := Tryd.underlying99
  a46 := Tryd.isAgg99
  z46 := Tryd.sizeOf99
  v46 := Tryd.zeroValue99
  t51 := Tryd.underlying122
  a51 := Tryd.isAgg122
  z51 := Tryd.sizeOf122
  v51 := Tryd.zeroValue122
  t105 := Tryd.underlying91
  a105 := Tryd.isAgg91
  z105 := Tryd.sizeOf91
  v105 := Tryd.zeroValue91
  t119 := Tryd.underlying118
  a119 := Tryd.isAgg118
  z119 := Tryd.sizeOf118
  t138 := Tryd.underlying120
  a138 := Tryd.isAgg120
  z138 := Tryd.sizeOf120
  v138 := Tryd.zeroValue120
  t139 := Tryd.underlying121
  a139 := Tryd.isAgg121
  z139 := Tryd.sizeOf121
  v139 := Tryd.zeroValue121
  t146 := Tryd.underlying123
  a146 := Tryd.isAgg123
  z146 := Tryd.sizeOf123
  v146 := Tryd.zeroValue123
  g1 := by kernel_rfl
  g3 := by kernel_rfl
  g4 := by kernel_rfl }
open Go.RowKit Go.Lib in
theorem Tryd.strings_Split (s sep : ByteArray) (m : Int) (w : World) (hs : s.size < 4294967281) (hm : w.cell? ⟨0, 0, none⟩ = some (.int .i64 m)) (h1 : 1 ≤ sep.size) :
    Calls Tryd.prog 72 #[.string s, .string sep] w fun e w' =>
      e = .returned (.slice (some ⟨w.heap.size, 0, none⟩) (Lib.countB s sep + 1) (Lib.countB s sep + 1)) ∧ w' = w.alloc (.cells ((Lib.splitB sep 0 (Lib.countB s sep) s).map Value.string).toArray 9) := Any.strings_Split Tryd.lays146 (by kernel_rfl) s sep m w hs hm h1
end Go.Proofs

/- The library's Split, out of the world's shape. -/
set_option linter.unusedVariables false
namespace Go.Proofs.YtfejjfbhlmjkeaaDoor.M
open Go.RowKit Go.Shelf Go.Lib Go.Proofs Go.Proofs.YtfejjfbhlmjkeaaDoorW.PrintWords Go.Proofs.YtfejjfbhlmjkeaaDoor.W
theorem spl_of {W : World} (h : W.ShapedOpen Tryd.prog) : Spl W := by
  obtain ⟨m, hm⟩ := cell_of_shapedOpen_int (P := Tryd.prog) (g := 0) (t := 3) (zero := #[.int .i64 0]) h (of_decide_eq_true (by kernel_rfl)) (by kernel_rfl) rfl (by kernel_rfl) (by kernel_rfl) Tryd.underlying3
  intro s w' hs hb
  exact Tryd.strings_Split s ⟨#[32]⟩ m w' hs (pw_cell_below hb hm) (by decide)
theorem matchStands_d (line : ByteArray) (fr tt : Int) (W : World) (hC : Con W) (hS : Spl W) (hD : Dec W) : Calls Tryd.prog 6 #[.string line, .int .i64 fr, .int .i64 tt] W fun e w' => e = .returned (.bool true) ∧ Below W.heap.size W w' := matchStands_all line fr tt W hC hS
end Go.Proofs.YtfejjfbhlmjkeaaDoor.M
