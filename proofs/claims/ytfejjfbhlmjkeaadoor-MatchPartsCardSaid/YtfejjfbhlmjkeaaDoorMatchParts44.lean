/- The law MatchParts holds at every input (its card, tied): a query keeps what its parts keep, its times, each matcher, and its filter; its conditions: that utf8's two tables hold at the start what the program's text lays. -/
import Derived.Test.YtfejjfbhlmjkeaaDoorRows
import Derived.Test.YtfejjfbhlmjkeaaDoorCards
import Derived.Test.YtfejjfbhlmjkeaaDoorTie
import Derived.WalkKit
import Derived.ProofKit
import Derived.OpenShut
import Derived.ShutString
import Derived.ChangeOld
import Derived.Below
import Derived.SizedLaws
import Derived.LaidMore
import Derived.Lay
import Derived.LaidOnce
import Derived.SevenTiedAt
import Derived.Stop.Joined
import Derived.PinnedBridge
import Derived.Lib.LaidU8T
import Derived.Test.YtfejjfbhlmjkeaaDoorMatchParts43
section
namespace Go.Proofs.YtfejjfbhlmjkeaaDoor.matchParts
open Go.ChangeShapes Go.WideShapes Go.ChangeAt Go.RowKit
open Go.ChangeMaps (open_string shut_string)
set_option linter.unusedVariables false
theorem own : ownKnob Tryd.prog.godebug = none := by kernel_rfl
theorem laidOut : laidOutB Tryd.prog = true := by kernel_rfl
theorem acc_eq : (Rows.laid_unicode_utf8_acceptRanges : DataW Unit) = Lib.acceptData := by kernel_rfl
theorem first_eq : Rows.laid_unicode_utf8_first = Lib.firstData := Pinned.utf8First_eq
set_option maxRecDepth 100000 in
theorem lifted (os : Os) (started : os.Started) (H : Type) (enc : TypeId × Value → H) :
    ReturnsInHanded {} Tryd.checked os 9 .any (fun w args => (Rows.matchPartsSpec.pre enc Tryd.prog Tryd.f9 Rows.matchPartsRow.domain false w args ∧ laidMetH Tryd.prog Rows.matchPartsRow.laid w) ∧ sizedMet enc Tryd.prog Tryd.f9 (OpenSpec.ofChange Rows.matchPartsSpec) false w args)
      (Rows.matchPartsSpec.post enc Tryd.prog Tryd.f9 false true false false) := by
  refine Go.Proofs.YtfejjfbhlmjkeaaDoor.Sh.returnsInHanded_of_change_and_shaped (C := Tryd.checked) (X := fun w _ => laidMetH Tryd.prog Rows.matchPartsRow.laid w) (fun _ _ _ hh h => h.of_heap hh) own started (by kernel_rfl) Tryd.func9
    (ChangeSpec.witness_shaped (enc := enc) (C := Tryd.checked) (os := os) (X := fun w _ => laidMetH Tryd.prog Rows.matchPartsRow.laid w) false (World.laidAll Tryd.prog os Rows.matchPartsRow.laid) #[.slice none 0 0, .agg #[.int .i64 0, .slice none 0 0, .string ByteArray.empty]] 8 (World.laidAll_os _ _ _)
      (World.shaped_of_ZipB (by kernel_rfl) (by kernel_rfl)) (by kernel_rfl) (by kernel_rfl) (by kernel_rfl)
      (by rw [MakeChecks.laidMetH_plain _ _ _ (by kernel_rfl)]; exact laidMet_laidAll _ (by kernel_rfl) (by kernel_rfl))) ?_
  intro W base args ds gs before hval0 hW hwl hsp hL _
  have hval : ∀ (j : Nat) t v, Tryd.f9.params[j]? = some t → args[j]? = some v → Value.okWide Tryd.prog W .any base t v := hval0
  have hW' := hW
  obtain ⟨p, q, hA0, hV, rfl, _, _⟩ := hW
  have hA : DataW.TrodAll enc Tryd.prog W 0 (fun _ => true) true Tryd.f9.params.toList args.toList ds p := hA0
  rw [Tryd.params9] at hA hval
  obtain ⟨v0, vs0, d0, ds0, p0, q0, hargs, rfl, rfl, h0, r0⟩ := trodAll_cons hA
  obtain ⟨v1, vs1, d1, ds1, p1, q1, rfl, rfl, rfl, h1, r1⟩ := trodAll_cons r0
  obtain ⟨rfl, rfl, rfl⟩ := trodAll_nil r1
  obtain rfl : args = #[v0, v1] := by cases args; simp_all
  obtain ⟨rfl, rfl⟩ := trodVars_none hV
  obtain ⟨a0, len0, cap0, rfl⟩ := okWide_slice Tryd.underlying33 (hval 0 33 v0 rfl rfl)
  have k0 := h0
  have lt0 : ∀ x ∈ p0, x.block < W.heap.size := by obtain ⟨m, hm⟩ := k0; exact DataW.trod_lt m _ _ _ hm
  obtain ⟨A0, cc0, z0, e0, w0⟩ := Exists.elim h0 (fun _ hf => Go.Proofs.YtfejjfbhlmjkeaaDoor.F.open_nums hf)
  simp only [Value.cells, List.cons.injEq, Value.slice.injEq, and_true] at e0
  obtain ⟨rfl, rfl, rfl⟩ := e0
  obtain ⟨c1, rfl, -⟩ := okWide_struct Tryd.underlying44 (hval 1 44 v1 rfl rfl)
  have k1 := h1
  have lt1 : ∀ x ∈ p1, x.block < W.heap.size := by obtain ⟨m, hm⟩ := k1; exact DataW.trod_lt m _ _ _ hm
  obtain ⟨a1, e1, w1⟩ := Exists.elim h1 (fun _ hf => Go.Proofs.YtfejjfbhlmjkeaaDoor.C.open_entry hf)
  obtain rfl : c1 = a1.cells.toArray := by have e := congrArg List.toArray e1; simpa [Value.cells] using e
  rw [MakeChecks.laidMetH_plain _ _ _ (by kernel_rfl)] at hL
  have hD : Go.Proofs.YtfejjfbhlmjkeaaDoor.W.Dec W := Go.Proofs.YtfejjfbhlmjkeaaDoor.W.dec_of (first_eq ▸ Lib.laidMet.reads hL (.tail _ (.head _))) (acc_eq ▸ Lib.laidMet.reads hL (.head _))
  clear hA0 hval0
  refine (Go.Proofs.YtfejjfbhlmjkeaaDoor.Q.matchParts_d a0 cap0 z0 a1 W (Go.Proofs.YtfejjfbhlmjkeaaDoor.W.con_of hsp) (Go.Proofs.YtfejjfbhlmjkeaaDoor.M.spl_of hsp) w0 w1 hD).mono fun e W' ⟨he, bel⟩ => ?_
  subst he
  exact ⟨_, rfl, _, _, _, [], _, [], hW', trodAll_mk1 (shut_bool Tryd.underlying4 _), (trodAll_cons_mk (Below.trod laidOut (by kernel_rfl) (of_decide_eq_true (by kernel_rfl)) k0 bel lt0) (trodAll_cons_mk (Below.trod laidOut (by kernel_rfl) (of_decide_eq_true (by kernel_rfl)) k1 bel lt1) trodAll_mk0)), rfl, bel.frame _, fun h => by cases h⟩
theorem over : Rows.matchPartsRow.holds Tryd.pinned (OpenSpec.ofChange Rows.matchPartsSpec) :=
  OpenClaim.holds_of_wide 9 Tryd.f9 rfl rfl rfl rfl rfl rfl rfl ⟨rfl, rfl, rfl, rfl, rfl⟩ rfl rfl rfl rfl rfl (by kernel_rfl) Tryd.func9 (by kernel_rfl)
    (of_decide_eq_true (by kernel_rfl)) (by unfold Func.isWrapper; first | (rw [if_pos (by decide +kernel)]; kernel_rfl) | (rw [if_neg (by decide +kernel)]; exact ⟨rfl, rfl⟩))
    (fun os started H enc _ => lifted os started H enc)
theorem proved : Rows.MatchPartsCardSaid :=
  Claim7.holds_tied_plain_at .later [] [.data, .pinned] true (true, "a2cd3b7f3e6080219560c556a8cea4b008734d78ea87e0dc8f6ca224a8703b42") false over (fun _ h => by cases h) (by kernel_rfl) (fun _ h => by cases h) matchParts_row_tie rfl ⟨rfl, rfl⟩ (by kernel_rfl) rfl
    (fun f fn hf hfn => by
      obtain rfl : f = 9 := Option.some.inj ((show Tryd.prog.funcNamed "magpie/magpielaw09.MatchParts" = some 9 by kernel_rfl).symm.trans hf) |>.symm
      obtain rfl : fn = Tryd.f9 := (Option.some.inj (Tryd.func9.symm.trans hfn)).symm
      exact ⟨by kernel_rfl, fun j t ht => by
        rw [Tryd.params9] at ht
        have hm : t ∈ [33, 44] := by simpa using Array.mem_of_getElem? ht
        have hall : ([33, 44].all fun u => !Tryd.prog.wantsStandIn u) = true := by kernel_rfl
        exact (show Tryd.prog.wantsStandIn t = false by simpa using List.all_eq_true.1 hall t hm)⟩)
    (by kernel_rfl)
end Go.Proofs.YtfejjfbhlmjkeaaDoor.matchParts
namespace Go.Proofs.YtfejjfbhlmjkeaaDoor
/-- The card, under a short name, for the claim. -/
theorem matchParts_holds : Rows.MatchPartsCardSaid := matchParts.proved
end Go.Proofs.YtfejjfbhlmjkeaaDoor
end
