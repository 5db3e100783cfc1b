/- magpielaw04.alive. -/
import Derived.Test.YtfejjfbhlmjkeaaC11
import Derived.Test.YtfejjfbhlmjkeaaC9
import Derived.Test.YtfejjfbhlmjkeaaC6
import Derived.KernelRfl
set_option linter.unusedVariables false
set_option linter.unusedSimpArgs false
namespace Go.Proofs.Ytfejjfbhlmjkeaa.C
open Go.RowKit Go.Sort Go.Proofs.YtfejjfbhlmjkeaaW.PrintWords Go.Proofs.YtfejjfbhlmjkeaaW.PrintLast Go.Proofs.YtfejjfbhlmjkeaaW.PrintMore Go.Proofs.Ytfejjfbhlmjkeaa.B Go.Proofs.Ytfejjfbhlmjkeaa.PRecordIs Go.Proofs.Ytfejjfbhlmjkeaa.CQ Go.Proofs.Ytfejjfbhlmjkeaa.Vi Go.Proofs.Ytfejjfbhlmjkeaa.N

def xA : Ent := ⟨5, none, 0, [], ⟨#[98]⟩⟩
def xB (g : Nat) : Ent := ⟨6, some ⟨g, 0, none⟩, 1, [⟨⟨#[97, 112, 112]⟩, ⟨#[120]⟩⟩], ⟨#[97]⟩⟩
def kA : Key := ⟨5, [], ⟨#[98]⟩⟩
def kB : Key := ⟨6, [⟨⟨#[97, 112, 112]⟩, ⟨#[120]⟩⟩], ⟨#[97]⟩⟩
theorem xA_in (W : World) : xA.In W := ⟨⟨rfl, Nat.zero_le _, fun h => absurd h (Nat.lt_irrefl 0)⟩, Nat.le_refl _, Nat.zero_le _⟩
theorem xB_in {W : World} {g : Nat} (h : W.heap[g]? = some (.cells #[.string ⟨#[97, 112, 112]⟩, .string ⟨#[120]⟩] 47)) : (xB g).In W := by
  refine ⟨⟨rfl, (show 1 ≤ 9223372036854775807 by decide), fun _ => ⟨_, rfl, fun j x hx => ?_⟩⟩, Nat.le_refl _, (show 1 ≤ 100000 by decide)⟩
  refine ⟨_, rfl, k47_mk W x, fun i u hu => ?_⟩
  have hj : j = 0 := by
    rcases Nat.eq_zero_or_pos j with h1 | h1
    · exact h1
    · rw [List.getElem?_eq_none (by exact h1)] at hx; cases hx
  subst hj
  have hx' : x = ⟨⟨#[97, 112, 112]⟩, ⟨#[120]⟩⟩ := (Option.some.inj hx).symm
  subst hx'
  have e : (⟨g, 0, none⟩ : Addr).add (0 * k47.sz + i) = ⟨g, i, none⟩ := by rw [add_at]; simp
  rw [e, blk_cell h]
  match i, hu with
  | 0, hu => rw [← hu]; rfl
  | 1, hu => rw [← hu]; rfl
theorem cmpAB : cmpE kA kB = -1 := by decide +kernel
theorem name_app : nameB ⟨#[97, 112, 112]⟩ = true := by rw [nameB_eq]; decide +kernel
theorem goodB : goodE kB = true := by
  have h1 : labAt kB.ls 0 = true := by
    show (nameB ⟨#[97, 112, 112]⟩ && (decide ((⟨#[120]⟩ : ByteArray).size ≤ 20) && (true || _))) = true
    rw [name_app]; rfl
  have h2 : goodL kB.ls = true := by
    show (((true && labAt kB.ls 0)) && decide (1 ≤ 4)) = true
    rw [h1]; rfl
  have h3 : lineOk kB.line = true := by kernel_rfl
  show (timeOk 6 && (goodL kB.ls && lineOk kB.line)) = true
  rw [h2, h3]; decide
theorem entA : (entB kA).length = 4 := by
  have h1 : zig 5 = 10 := by decide +kernel
  show (vint (zig 5) ++ ((vint 0 ++ []) ++ (vint 1 ++ [98]))).length = 4
  rw [h1, vint_small (by decide), vint_small (by decide), vint_small (by decide)]
  rfl
theorem up_BA : Up (cmpO true) [kB, kA] := List.pairwise_cons.2 ⟨fun y hy => by
  rw [List.mem_singleton] at hy
  subst hy
  exact cmpAB, List.pairwise_singleton _ _⟩
set_option maxRecDepth 20000 in
theorem alive_any (w : World) (hC : Con w) :
    Calls Try.prog 19 #[] w fun e w' => e = .returned (.bool true) ∧ Below w.heap.size w w' := by
  have HC := Aside0.mk hC
  clear hC
  obtain ⟨W, hW⟩ : ∃ W, W = (((w.alloc (.cells #[.string ⟨#[97, 112, 112]⟩, .string ⟨#[120]⟩] 47)).alloc (.cells #[.int .i64 5, .slice none 0 0, .string ⟨#[98]⟩] 34)).alloc (.cells #[.int .i64 6, .slice (some ⟨w.heap.size, 0, none⟩) 1 1, .string ⟨#[97]⟩] 34)).alloc (.cells #[.int .i64 5, .slice none 0 0, .string ⟨#[98]⟩, .int .i64 6, .slice (some ⟨w.heap.size, 0, none⟩) 1 1, .string ⟨#[97]⟩, .int .i64 5, .slice none 0 0, .string ⟨#[98]⟩] 34) := ⟨_, rfl⟩
  obtain ⟨g, hg⟩ : ∃ g, g = w.heap.size := ⟨_, rfl⟩
  have HB : Aside0 (Below w.heap.size w W) := ⟨by rw [hW]; exact below_alloc (below_alloc (below_alloc (below_alloc (Below.refl _ w) _) _) _) _⟩
  have X0 : Aside0 (W.heap[g]? = some (.cells #[.string ⟨#[97, 112, 112]⟩, .string ⟨#[120]⟩] 47)) := ⟨by rw [hW, hg]; exact blk_alloc (blk_alloc (blk_alloc (Go.heap_alloc_new _ _) _) _) _⟩
  have X1 : Aside0 (W.heap[g + 1]? = some (.cells #[.int .i64 5, .slice none 0 0, .string ⟨#[98]⟩] 34)) := ⟨by rw [hW, hg]; exact blk_alloc (blk_alloc (box1 _ _ _) _) _⟩
  have X2 : Aside0 (W.heap[g + 1 + 1]? = some (.cells #[.int .i64 6, .slice (some ⟨g, 0, none⟩) 1 1, .string ⟨#[97]⟩] 34)) := ⟨by
    rw [hW, hg]
    have := box1 (w.alloc (.cells #[.string ⟨#[97, 112, 112]⟩, .string ⟨#[120]⟩] 47)) (.cells #[.int .i64 5, .slice none 0 0, .string ⟨#[98]⟩] 34) (.cells #[.int .i64 6, .slice (some ⟨w.heap.size, 0, none⟩) 1 1, .string ⟨#[97]⟩] 34)
    refine blk_alloc ?_ _
    simpa using this⟩
  have X3 : Aside0 (W.heap[g + 1 + 1 + 1]? = some (.cells #[.int .i64 5, .slice none 0 0, .string ⟨#[98]⟩, .int .i64 6, .slice (some ⟨g, 0, none⟩) 1 1, .string ⟨#[97]⟩, .int .i64 5, .slice none 0 0, .string ⟨#[98]⟩] 34)) := ⟨by
    rw [hW, hg]
    have := Go.heap_alloc_new (((w.alloc (.cells #[.string ⟨#[97, 112, 112]⟩, .string ⟨#[120]⟩] 47)).alloc (.cells #[.int .i64 5, .slice none 0 0, .string ⟨#[98]⟩] 34)).alloc (.cells #[.int .i64 6, .slice (some ⟨w.heap.size, 0, none⟩) 1 1, .string ⟨#[97]⟩] 34)) (.cells #[.int .i64 5, .slice none 0 0, .string ⟨#[98]⟩, .int .i64 6, .slice (some ⟨w.heap.size, 0, none⟩) 1 1, .string ⟨#[97]⟩, .int .i64 5, .slice none 0 0, .string ⟨#[98]⟩] 34)
    simpa using this⟩
  have HS : Aside0 (Calls Try.prog 25 #[.bool true, .slice (some ⟨g + 1 + 1 + 1, 0, none⟩) 3 3] W fun e w' => ∃ gg cap, e = .returned (.slice (some ⟨gg, 0, none⟩) 2 cap) ∧ w'.cell? ⟨gg, 0, none⟩ = some (.int .i64 6) ∧ Below W.heap.size W w') := ⟨by
    have row : RowE (w0 := W) W (g + 1 + 1 + 1) 0 [⟨xA, xA_in W⟩, ⟨xB g, xB_in X0.out⟩, ⟨xA, xA_in W⟩] := by
      intro i x hx
      rw [blk_cell X3.out, blk_cell X3.out, blk_cell X3.out]
      match i, hx with
      | 0, hx => cases hx; exact ⟨rfl, rfl, rfl⟩
      | 1, hx => cases hx; exact ⟨rfl, rfl, rfl⟩
      | 2, hx => cases hx; exact ⟨rfl, rfl, rfl⟩
    refine (sort_any (w0 := W) true [⟨xA, xA_in W⟩, ⟨xB g, xB_in X0.out⟩, ⟨xA, xA_in W⟩] (g + 1 + 1 + 1) 0 3 row (show 3 ≤ 100000 by decide)).mono ?_
    rintro e w' ⟨gg, cap, r, rfl, h1, h2, h3, h4, h5, h6, h7⟩
    have hr : r.map keyOf = [kB, kA] := by
      refine up_unique (cmpO_c true) h6 up_BA fun k => ?_
      rw [h7]
      have : ([⟨xA, xA_in W⟩, ⟨xB g, xB_in X0.out⟩, ⟨xA, xA_in W⟩] : List (EntIn W)).map keyOf = [kA, kB, kA] := rfl
      rw [this]
      simp only [List.mem_cons, List.not_mem_nil, or_false]
      constructor
      · rintro (h | h | h)
        · exact Or.inr h
        · exact Or.inl h
        · exact Or.inr h
      · rintro (h | h)
        · exact Or.inr (Or.inl h)
        · exact Or.inl h
    have hlen : r.length = 2 := by have := congrArg List.length hr; rwa [List.length_map] at this
    refine ⟨gg, cap, by rw [hlen], ?_, h5⟩
    match r, hr, h4 with
    | x :: r', hr, h4 =>
      have hk : keyOf x = kB := (List.cons.inj hr).1
      have h8 := (h4 0 x rfl).1
      have h9 : x.1.at_ = 6 := congrArg Key.at_ hk
      rw [h9] at h8
      exact h8⟩
  have HW := Aside0.mk hW
  have HJ := Aside0.mk hg
  clear hW hg X3
  go_enter Try.func19, Try.ntmps19
  go_wp2_with fail
  try rw [← HW.out]
  try rw [← HJ.out]
  clear HW HJ
  ((refine HS.out.mono ?_); rintro e w1 ⟨gg, cap, rfl, hc0, hb1⟩)
  have HB := Aside0.mk (below_step HB.out hb1)
  have X0 := Aside0.mk (heap_below hb1 X0.out)
  have X1 := Aside0.mk (heap_below hb1 X1.out)
  have X2 := Aside0.mk (heap_below hb1 X2.out)
  have HL := Aside0.mk hc0
  clear hb1 hc0 HS
  have b0 : w1.cell? ⟨g + 1 + 1, 0, none⟩ = some (.int .i64 6) := blk_cell X2.out 0
  have b1 : w1.cell? ⟨g + 1 + 1, 1, none⟩ = some (.slice (some ⟨g, 0, none⟩) 1 1) := blk_cell X2.out 1
  have b2 : w1.cell? ⟨g + 1 + 1, 2, none⟩ = some (.string ⟨#[97]⟩) := blk_cell X2.out 2
  go_wp2_with fail
  clear b0 b1 b2
  have HG : Aside0 (Calls Try.prog 32 #[.agg #[.int .i64 6, .slice (some ⟨g, 0, none⟩) 1 1, .string ⟨#[97]⟩]] w1 fun e w' => e = .returned (.bool true) ∧ Below w1.heap.size w1 w') := ⟨by
    have h := good_any (xB g) w1 (xB_in X0.out) (fun y hy => by
      have : y = ⟨⟨#[97, 112, 112]⟩, ⟨#[120]⟩⟩ := List.mem_singleton.1 hy
      subst this
      exact (show 3 ≤ 4611686018427 by decide)) (show 1 < 4294967281 by decide) (HC.out.below HB.out)
    rw [show goodE (xB g).key = true from goodB] at h
    exact h⟩
  ((refine HG.out.mono ?_); rintro e w2 ⟨rfl, hb1⟩)
  have HB := Aside0.mk (below_step HB.out hb1)
  have X0 := Aside0.mk (heap_below hb1 X0.out)
  have X1 := Aside0.mk (heap_below hb1 X1.out)
  have X2 := Aside0.mk (heap_below hb1 X2.out)
  have HL := Aside0.mk (cell_below hb1 HL.out)
  clear hb1 HG
  have a0 : w2.cell? ⟨g + 1, 0, none⟩ = some (.int .i64 5) := blk_cell X1.out 0
  have a1 : w2.cell? ⟨g + 1, 1, none⟩ = some (.slice none 0 0) := blk_cell X1.out 1
  have a2 : w2.cell? ⟨g + 1, 2, none⟩ = some (.string ⟨#[98]⟩) := blk_cell X1.out 2
  have b0 : w2.cell? ⟨g + 1 + 1, 0, none⟩ = some (.int .i64 6) := blk_cell X2.out 0
  have b1 : w2.cell? ⟨g + 1 + 1, 1, none⟩ = some (.slice (some ⟨g, 0, none⟩) 1 1) := blk_cell X2.out 1
  have b2 : w2.cell? ⟨g + 1 + 1, 2, none⟩ = some (.string ⟨#[97]⟩) := blk_cell X2.out 2
  go_wp2_with fail
  clear a0 a1 a2 b0 b1 b2
  have HG : Aside0 (Calls Try.prog 22 #[.agg #[.int .i64 5, .slice none 0 0, .string ⟨#[98]⟩], .agg #[.int .i64 6, .slice (some ⟨g, 0, none⟩) 1 1, .string ⟨#[97]⟩]] w2 fun e w' => e = .returned (.int .i64 (-1)) ∧ Bd w2 w') := ⟨by
    have h := compare_any xA (xB g) w2 (xA_in w2) (xB_in X0.out)
    rw [show cmpE xA.key (xB g).key = -1 from cmpAB] at h
    exact h⟩
  ((refine HG.out.mono ?_); rintro e w3 ⟨rfl, ⟨hb1, -⟩⟩)
  have HB := Aside0.mk (below_step HB.out hb1)
  have X1 := Aside0.mk (heap_below hb1 X1.out)
  have HL := Aside0.mk (cell_below hb1 HL.out)
  clear hb1 HG X0 X2
  have a0 : w3.cell? ⟨g + 1, 0, none⟩ = some (.int .i64 5) := blk_cell X1.out 0
  have a1 : w3.cell? ⟨g + 1, 1, none⟩ = some (.slice none 0 0) := blk_cell X1.out 1
  have a2 : w3.cell? ⟨g + 1, 2, none⟩ = some (.string ⟨#[98]⟩) := blk_cell X1.out 2
  have l0 := HL.out
  go_wp2_with fail
  clear a0 a1 a2 l0
  have HG : Aside0 (Calls Try.prog 37 #[.slice none 0 0, .agg #[.int .i64 5, .slice none 0 0, .string ⟨#[98]⟩]] w3 fun e w' => ∃ A c, e = .returned (.slice A 4 c) ∧ Below w3.heap.size w3 w') := ⟨by
    refine (putE_any (w0 := w3) (w := w3) (.slice none 0 0) [] xA (Below.refl _ _) (xA_in w3) ⟨Nat.zero_le _, fun y hy => by cases hy⟩ (show 1 ≤ 1000000 by decide) (show -9223372036854775808 ≤ (5 : Int) ∧ (5 : Int) ≤ 9223372036854775807 by decide) (Own.nil _ _ _) (Nat.zero_le _)).mono ?_
    rintro e w' ⟨v', rfl, h1, h2, -⟩
    obtain ⟨A, c, rfl, -, -⟩ := h1.shape
    have hl : (cs ([] ++ entB xA.key)).length = 4 := by rw [cs_length]; exact entA
    rw [hl]
    exact ⟨A, c, rfl, (Below.refl _ w3).grown h2 (Nat.le_refl _) (fun k hk => by cases hk)⟩⟩
  ((refine HG.out.mono ?_); rintro e w4 ⟨A, c, rfl, hb1⟩)
  have HB := Aside0.mk (below_step HB.out hb1)
  clear hb1 HG
  go_wp2
  go_ret
  exact ⟨rfl, HB.out⟩
end Go.Proofs.Ytfejjfbhlmjkeaa.C
