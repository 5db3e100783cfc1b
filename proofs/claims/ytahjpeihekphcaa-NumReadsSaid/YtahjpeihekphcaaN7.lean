/- That layer 1 is alive; the walk of the law NumSizes. -/
import Derived.Test.YtahjpeihekphcaaN6
set_option linter.unusedVariables false
set_option linter.unusedSimpArgs false
namespace Go.Proofs.Ytahjpeihekphcaa.N
open Go.RowKit Go.Proofs.YtahjpeihekphcaaW.PrintWords Go.Proofs.YtahjpeihekphcaaW.PrintLast Go.Proofs.Ytahjpeihekphcaa.Bt Go.Proofs.Ytahjpeihekphcaa.B Go.Proofs.Ytahjpeihekphcaa.Vi

theorem str_of {w : World} {base : Nat} {v : Value} {l : List UInt8} (h : Own w base 5 v (cs l)) : (convert 27 9 v).run Try.prog w = .ok (.string (str l)) w :=
  run_str Try.underlying27 Try.underlying5 Try.underlying9 h
theorem vint_300 : vint 300 = [172, 2] := by rw [vint_big (by decide), vint_small (by decide)]; rfl
theorem vint_1 : vint 1 = [1] := by rw [vint_small (by decide)]; rfl
theorem RS.below {w w' : World} {g b : Nat} {st : Option (List UInt8)} (h : RS w g b st) (hb : Below w.heap.size w w') : RS w' g b st := h.kept (grown_of_below hb none) (by simp) (by simp)
theorem below_near {w w1 : World} {A : Option Addr} {n c : Nat} {B : Nat} {W : World} (hB : Below B W w) (hW : B ≤ w.heap.size) (hg : w.grownBy w1 (Value.slice none n c).ownBlock) : Below B W w1 := hB.grown hg hW (by intro k h; cases h)
set_option maxHeartbeats 1000000 in
theorem alive_any (w : World) : Calls Try.prog 20 #[] w fun e w' => e = .returned (.bool true) ∧ Below w.heap.size w w' := by
  have kc := fun (w : World) (C : Array Value) (n c : Nat) => Lib.run_convert_bytes_const (P := Try.prog) w 27 5 C n c Try.underlying27 Try.underlying5
  go_enter Try.func20, Try.ntmps20
  go_wp2_with fail
  ((with_reducible refine (from_any ⟨#[172, 2, 1]⟩ w (by decide)).mono ?_); rintro e w1 ⟨g, b, rfl, hR, hb, hg, hbb, hbg⟩)
  have HB := Aside0.mk hb
  have HR := Aside0.mk hR
  have Hgb := Aside0.mk (And.intro hg (And.intro hbb hbg))
  clear hb hR hg hbb hbg
  go_wp2_with fail
  (refine (uint_any w1.heap.size (.slice none 0 0) [] 300 w1 (Own.nil _ _ _) (Nat.le_refl _) (by simp) (by decide)).mono ?_; rintro e w2 ⟨v2, rfl, hO2, hg2, -⟩)
  have hv : [] ++ vint 300 = [172, 2] := by rw [vint_300]; rfl
  rw [hv] at hO2
  have hc2 := str_of hO2
  have HB2 := Aside0.mk (below_near (A := none) HB.out (below_size HB.out) hg2)
  have HR2 := Aside0.mk (HR.out.kept hg2 (by simp [Value.ownBlock]) (by simp [Value.ownBlock]))
  clear hO2 hg2 hv HB HR
  have HO3 : Aside0 (Own (w2.alloc (.cells #[.int .u8 97] 5 (1, 2))) w2.heap.size 5 (.slice (some ⟨w2.heap.size, 0, none⟩) 1 1) (cs [97])) := ⟨own_const w2 w2.heap.size 5 [97] (by simp [maxLen]) (Nat.le_refl _)⟩
  have HB3 := Aside0.mk (below_alloc HB2.out (.cells #[.int .u8 97] 5 (1, 2)))
  have HR3 := Aside0.mk (HR2.out.kept (World.grownBy_alloc w2 (.cells #[.int .u8 97] 5 (1, 2)) none) (by simp) (by simp))
  have hs : str [172, 2] = ⟨#[172, 2]⟩ := rfl
  rw [hs] at hc2
  go_wp2_with fail
  (refine (int_any w2.heap.size (.slice (some ⟨w2.heap.size, 0, none⟩) 1 1) [97] (-1) _ HO3.out (by simp) (by simp) (by decide) (by decide)).mono ?_; rintro e w4 ⟨v4, rfl, hO4, hg4, -⟩)
  have hv4 : [97] ++ vint (zig (-1)) = [97, 1] := by rw [show zig (-1) = 1 from rfl, vint_1]; rfl
  rw [hv4] at hO4
  have hc4 := str_of hO4
  have hs4 : str [97, 1] = ⟨#[97, 1]⟩ := rfl
  rw [hs4] at hc4
  have hlt := HR2.out.lt
  have HB4 := Aside0.mk (own_grown HO3.out HB3.out (below_size HB2.out) (by simpa using (Nat.le_succ_of_le (below_size HB2.out))) hg4)
  have HR4 := Aside0.mk (HR3.out.kept hg4 (by simp [Value.ownBlock]; omega) (by
    have := Hgb.out.2.2
    simp [Value.ownBlock]; omega))
  clear hO4 hg4 hv4 HB2 HR2 HR3 HB3 HO3 hlt
  have hr300 : Aside0 (nxt 300 (some [172, 2, 1]) = (300, some [1])) := ⟨by
    have : ([172, 2, 1] : List UInt8) = vint 300 ++ [1] := by rw [vint_300]; rfl
    rw [this]
    exact nxt_yes (by decide) (by decide)⟩
  have hr1 : Aside0 (nxt 18446744073709551615 (some [1]) = (1, some [])) := ⟨by
    have : ([1] : List UInt8) = vint 1 ++ [] := by rw [vint_1]; rfl
    rw [this]
    exact nxt_yes (by decide) (by decide)⟩
  go_wp2_with fail
  ((refine (ru g b _ 300 _ (by decide) HR4.out).mono ?_); rintro e w5 ⟨rfl, h5, hg5⟩)
  rw [hr300.out] at h5 ⊢
  have H5 := Aside0.mk h5
  have HB5 := Aside0.mk (HB4.out.grown hg5 (below_size HB4.out) (by intro k hk; cases hk; exact Hgb.out.1))
  clear h5 hg5 HR4 HB4 hr300
  go_wp2_with fail
  ((refine (ri g b _ _ H5.out).mono ?_); rintro e w6 ⟨rfl, h6, hg6⟩)
  rw [hr1.out] at h6 ⊢
  have H6 := Aside0.mk h6
  have HB6 := Aside0.mk (HB5.out.grown hg6 (below_size HB5.out) (by intro k hk; cases hk; exact Hgb.out.1))
  clear h6 hg6 H5 HB5 hr1
  have hu1 : unzig 1 = -1 := rfl
  rw [hu1]
  go_wp2_with fail
  ((refine (rend g b _ _ H6.out).mono ?_); rintro e w7 ⟨rfl, rfl⟩)
  go_wp2_with fail
  go_ret
  exact ⟨rfl, HB6.out⟩
end Go.Proofs.Ytahjpeihekphcaa.N
