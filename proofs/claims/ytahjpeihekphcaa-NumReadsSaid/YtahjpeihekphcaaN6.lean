/- A reader's Text as a function of its state; a nil reader. -/
import Derived.Test.YtahjpeihekphcaaN5
set_option linter.unusedVariables false
set_option linter.unusedSimpArgs false
namespace Go.Proofs.Ytahjpeihekphcaa.N
open Go.RowKit Go.Proofs.YtahjpeihekphcaaW.PrintWords Go.Proofs.YtahjpeihekphcaaW.PrintLast Go.Proofs.Ytahjpeihekphcaa.Bt Go.Proofs.Ytahjpeihekphcaa.B Go.Proofs.Ytahjpeihekphcaa.Vi

/-- The next text, of so many bytes at most, and the state behind it. -/
noncomputable def txt (most : Nat) (st : Option (List UInt8)) : List UInt8 × Option (List UInt8) :=
  match (nxt most st).2 with
  | none => ([], none)
  | some r => if r.length < (nxt most st).1 then ([], none) else (r.take (nxt most st).1, some (r.drop (nxt most st).1))
/-- What is known when the length has been read. -/
def TCall (g b : Nat) (st2 : Option (List UInt8)) (n m : Nat) (w : World) : Prop :=
  Calls Try.prog 24 #[.pointer (some ⟨g, 0, none⟩), .int .u64 (m : Int)] w fun e w' => e = .returned (.int .u64 (n : Int)) ∧ RS w' g b st2 ∧ w.grownBy w' (some g)
set_option maxHeartbeats 1000000 in
theorem rt_none (g b n m : Nat) (most : Int) (w : World) (hm : max most 0 = (m : Int)) (hm2 : m ≤ 4611686018427) (hc : TCall g b none n m w) :
    Calls Try.prog 35 #[.pointer (some ⟨g, 0, none⟩), .int .i64 most] w fun e w' => e = .returned (.string ⟨#[]⟩) ∧ RS w' g b none ∧ w.grownBy w' (some g) := by
  have Hc := Aside0.mk hc
  clear hc
  go_enter Try.func35, Try.ntmps35
  go_wp2_with fail
  (refine (show Calls _ _ _ _ _ from Hc.out).mono ?_; rintro e w2 ⟨rfl, h2, h3⟩)
  have c1 := At.cell1 h2
  have H2 : Aside0 (At w2 g (.slice none 0 0) (.bool true)) := ⟨h2⟩
  have H3 := Aside0.mk h3
  clear h2 h3 Hc hm hm2
  go_wp2_with fail
  ((with_reducible refine (fail_any g _ _ _ H2.out).mono ?_); rintro e w3 ⟨rfl, h4, h5⟩)
  have H4 := Aside0.mk h4
  have H5 := Aside0.mk h5
  clear h4 h5
  go_wp2
  go_ret
  exact ⟨rfl, H4.out, World.grownBy.trans H3.out H5.out⟩
set_option maxHeartbeats 1000000 in
theorem rt_over (g b n m : Nat) (r : List UInt8) (most : Int) (w : World) (hm : max most 0 = (m : Int)) (hm2 : m ≤ 4611686018427) (hc : TCall g b (some r) n m w) (hlt : r.length < n) :
    Calls Try.prog 35 #[.pointer (some ⟨g, 0, none⟩), .int .i64 most] w fun e w' => e = .returned (.string ⟨#[]⟩) ∧ RS w' g b none ∧ w.grownBy w' (some g) := by
  have Hc := Aside0.mk hc
  clear hc
  go_enter Try.func35, Try.ntmps35
  go_wp2_with fail
  (refine (show Calls _ _ _ _ _ from Hc.out).mono ?_; rintro e w2 ⟨rfl, h2, h3⟩)
  obtain ⟨off, c, ha, hr⟩ := h2
  have c1 := ha.cell1
  have c0 := ha.cell0
  have H2 := Aside0.mk ha
  have H3 := Aside0.mk h3
  have hrl := hr.2.2.2
  have d1 : decide (r.length < n) = true := decide_eq_true hlt
  clear ha h3 Hc hr hm hm2 hlt
  go_wp2_with fail
  ((with_reducible refine (fail_any g _ _ _ H2.out).mono ?_); rintro e w3 ⟨rfl, h4, h5⟩)
  have H4 := Aside0.mk h4
  have H5 := Aside0.mk h5
  clear h4 h5
  go_wp2
  go_ret
  exact ⟨rfl, H4.out, World.grownBy.trans H3.out H5.out⟩
set_option maxHeartbeats 1000000 in
theorem rt_take (g b n m : Nat) (r : List UInt8) (most : Int) (w : World) (hm : max most 0 = (m : Int)) (hm2 : m ≤ 4611686018427) (hc : TCall g b (some r) n m w) (hlt : ¬ r.length < n) :
    Calls Try.prog 35 #[.pointer (some ⟨g, 0, none⟩), .int .i64 most] w fun e w' => e = .returned (.string (str (r.take n))) ∧ RS w' g b (some (r.drop n)) ∧ w.grownBy w' (some g) := by
  have Hc := Aside0.mk hc
  clear hc
  go_enter Try.func35, Try.ntmps35
  go_wp2_with fail
  (refine (show Calls _ _ _ _ _ from Hc.out).mono ?_; rintro e w2 ⟨rfl, h2, h3⟩)
  obtain ⟨off, c, ha, hcells, hlc, hbg, hrl⟩ := h2
  have c1 := ha.cell1
  have c0 := ha.cell0
  have f0 := ha.free 0
  have hcv : (convert 27 9 (.slice (some ⟨b, off, none⟩) n c)).run Try.prog w2 = .ok (.string (str (r.take n))) w2 := by
    have hr : Reads w2 (some ⟨b, off, none⟩) (r.take n) := Reads.take ⟨fun e => (by cases e), fun ad e j hj => by
      cases e
      have h := hcells j hj
      have e : (⟨b, off, none⟩ : Addr).add j = ⟨b, off + j, none⟩ := by unfold Addr.add; split <;> simp_all
      rw [e]
      exact h⟩ n
    have h := run_str_reads (P := Try.prog) (src := 27) (dst := 9) (c := c) Try.underlying27 Try.underlying5 Try.underlying9 hr (fun ad e => by cases e; rfl)
    rw [List.length_take, show min n r.length = n by omega] at h
    exact h
  have H2 := Aside0.mk ha
  have H3 := Aside0.mk h3
  have Hcells := Aside0.mk hcells
  have Hbg := Aside0.mk hbg
  have hle : n ≤ r.length := by omega
  have d1 : decide (r.length < n) = false := decide_eq_false hlt
  have hnc : n ≤ c := by omega
  clear ha h3 Hc hcells hbg hm hm2 hlt
  by_cases hcap : c = n
  · have hz : r.length - n = 0 := by omega
    have hrs := rs_after (c' := 0) (off' := off) n H2.out Hcells.out hlc Hbg.out hrl hle (by omega) (fun h => absurd h (by omega))
    rw [hz] at hrs
    have hrs := Aside0.mk hrs
    have hgr := Aside0.mk (World.grownBy.trans H3.out (grown_set w2 g 0 (.slice (some ⟨b, off, none⟩) 0 0)))
    clear hz
    clear H2 H3 Hcells Hbg
    subst hcap
    go_wp2
    go_ret
    exact ⟨rfl, hrs.out, hgr.out⟩
  · have hrs := Aside0.mk (rs_after (c' := c - n) (off' := off + n) n H2.out Hcells.out hlc Hbg.out hrl hle rfl (fun _ => rfl))
    have hgr := Aside0.mk (World.grownBy.trans H3.out (grown_set w2 g 0 (.slice (some ⟨b, off + n, none⟩) (r.length - n) (c - n))))
    clear H2 H3 Hcells Hbg
    go_wp2
    go_ret
    exact ⟨rfl, hrs.out, hgr.out⟩
theorem rt (g b : Nat) (st : Option (List UInt8)) (most : Int) (m : Nat) (w : World) (hm : max most 0 = (m : Int)) (hm2 : m ≤ 4611686018427) (h : RS w g b st) :
    Calls Try.prog 35 #[.pointer (some ⟨g, 0, none⟩), .int .i64 most] w fun e w' => e = .returned (.string (str (txt m st).1)) ∧ RS w' g b (txt m st).2 ∧ w.grownBy w' (some g) := by
  have hc : TCall g b (nxt m st).2 (nxt m st).1 m w := ru g b st m w (by omega) h
  unfold txt
  cases hs : (nxt m st).2 with
  | none =>
    rw [hs] at hc
    exact rt_none g b _ m most w hm hm2 hc
  | some r =>
    rw [hs] at hc
    dsimp only
    by_cases hlt : r.length < (nxt m st).1
    · rw [if_pos hlt]
      exact rt_over g b _ m r most w hm hm2 hc hlt
    · rw [if_neg hlt]
      exact rt_take g b _ m r most w hm hm2 hc hlt
set_option maxHeartbeats 400000 in
theorem rt_nil (most : Int) (w : World) : Calls Try.prog 35 #[.pointer none, .int .i64 most] w fun e w' => e = .returned (.string ⟨#[]⟩) ∧ w = w' := by
  go_enter Try.func35, Try.ntmps35
  go_wp2_with fail
  ((with_reducible refine (ruint_nil _ _).mono ?_); rintro e w2 ⟨rfl, rfl⟩)
  go_wp2
  go_ret
  exact ⟨rfl, rfl⟩
set_option maxHeartbeats 400000 in
theorem ri_nil (w : World) : Calls Try.prog 25 #[.pointer none] w fun e w' => e = .returned (.int .i64 0) ∧ w = w' := by
  go_enter Try.func25, Try.ntmps25
  go_wp2_with fail
  ((with_reducible refine (ruint_nil _ _).mono ?_); rintro e w2 ⟨rfl, rfl⟩)
  go_wp2
  go_ret
  exact ⟨ret_int (by decide +kernel), rfl⟩
set_option maxHeartbeats 400000 in
theorem rb_nil (w : World) : Calls Try.prog 36 #[.pointer none] w fun e w' => e = .returned (.bool false) ∧ w = w' := by
  go_enter Try.func36, Try.ntmps36
  go_wp2_with fail
  ((with_reducible refine (ruint_nil _ _).mono ?_); rintro e w2 ⟨rfl, rfl⟩)
  go_wp2
  go_ret
  exact ⟨rfl, rfl⟩
set_option maxHeartbeats 400000 in
theorem rbad_nil (w : World) : Calls Try.prog 27 #[.pointer none] w fun e w' => e = .returned (.bool true) ∧ w = w' := by
  go_enter Try.func27, Try.ntmps27
  go_wp2
  go_ret
  exact ⟨rfl, rfl⟩
set_option maxHeartbeats 400000 in
theorem rend_nil (w : World) : Calls Try.prog 26 #[.pointer none] w fun e w' => e = .returned (.bool false) ∧ w = w' := by
  go_enter Try.func26, Try.ntmps26
  go_wp2
  go_ret
  exact ⟨rfl, rfl⟩
end Go.Proofs.Ytahjpeihekphcaa.N
