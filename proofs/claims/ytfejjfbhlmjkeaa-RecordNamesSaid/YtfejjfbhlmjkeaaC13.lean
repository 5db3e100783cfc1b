/- RecordNames: the walk of the law. -/
import Derived.Test.YtfejjfbhlmjkeaaC12
set_option linter.unusedVariables false
set_option linter.unusedSimpArgs false
namespace Go.Proofs.Ytfejjfbhlmjkeaa.C
open Go.RowKit Go.Proofs.YtfejjfbhlmjkeaaW.PrintWords Go.Proofs.YtfejjfbhlmjkeaaW.PrintLast Go.Proofs.YtfejjfbhlmjkeaaW.PrintMore Go.Proofs.Ytfejjfbhlmjkeaa.B Go.Proofs.Ytfejjfbhlmjkeaa.PRecordIs Go.Proofs.Ytfejjfbhlmjkeaa.CQ

theorem name_app1 (s : ByteArray) (b : UInt8) : (s ++ ⟨#[b]⟩ : ByteArray).data.toList = s.data.toList ++ [b] := by
  rw [ByteArray.data_append, Array.toList_append]
theorem name_app0 (s : ByteArray) (b : UInt8) : ((⟨#[b]⟩ : ByteArray) ++ s).data.toList = b :: s.data.toList := by
  rw [ByteArray.data_append, Array.toList_append]; rfl
theorem one_le {b : UInt8} : (⟨#[b]⟩ : ByteArray).size ≤ 100 := show 1 ≤ 100 by decide
theorem app_size (a b : ByteArray) (ha : a.size ≤ 100) (hb : b.size ≤ 100) : (a ++ b).size ≤ 4611686018427 := by
  rw [ByteArray.size_append]; omega
set_option maxRecDepth 20000 in
theorem names_walk (s : ByteArray) (w : World) (hC : Con w) (h100 : s.size ≤ 100) (lt is eb n1 : Bool) (h1 : decide ((s.size : Int) < 20) = lt) (h2 : nameB s = is) (h3 : (s.toList == (⟨#[]⟩ : ByteArray).toList) = eb) (h4 : nameB (s ++ ⟨#[97]⟩) = n1) (hn : n1 = (lt && (is || eb))) :
    Calls Try.prog 7 #[.string s] w fun e w' => e = .returned (.bool true) ∧ Below w.heap.size w w' := by
  have H0 : Aside0 (∀ V, Calls Try.prog 28 #[.string s] V fun e w' => e = .returned (.bool is) ∧ Below V.heap.size V w') := ⟨fun V => by rw [← h2]; exact name_any s V (by omega)⟩
  have H1 : Aside0 (∀ V, Calls Try.prog 28 #[.string (s ++ ⟨#[97]⟩)] V fun e w' => e = .returned (.bool n1) ∧ Below V.heap.size V w') := ⟨fun V => by rw [← h4]; exact name_any _ V (app_size _ _ h100 one_le)⟩
  have H2 : Aside0 (∀ V, Calls Try.prog 28 #[.string (s ++ ⟨#[45]⟩)] V fun e w' => e = .returned (.bool false) ∧ Below V.heap.size V w') := ⟨fun V => by
    have := name_any (s ++ ⟨#[45]⟩) V (app_size _ _ h100 one_le)
    rw [nameB_eq, name_app1, nl_last _ _ (by decide)] at this
    exact this⟩
  have H3 : Aside0 (∀ V, Calls Try.prog 28 #[.string (s ++ ⟨#[32]⟩)] V fun e w' => e = .returned (.bool false) ∧ Below V.heap.size V w') := ⟨fun V => by
    have := name_any (s ++ ⟨#[32]⟩) V (app_size _ _ h100 one_le)
    rw [nameB_eq, name_app1, nl_last _ _ (by decide)] at this
    exact this⟩
  have H4 : Aside0 (∀ V, Calls Try.prog 28 #[.string (⟨#[57]⟩ ++ s)] V fun e w' => e = .returned (.bool false) ∧ Below V.heap.size V w') := ⟨fun V => by
    have := name_any (⟨#[57]⟩ ++ s) V (app_size _ _ one_le h100)
    rw [nameB_eq, name_app0, nl_nine] at this
    exact this⟩
  have H5 := Aside0.mk (alive_any w hC)
  have z1 : (⟨#[97]⟩ : ByteArray).size = 1 := rfl
  have z2 : (⟨#[45]⟩ : ByteArray).size = 1 := rfl
  have z3 : (⟨#[32]⟩ : ByteArray).size = 1 := rfl
  have z4 : (⟨#[57]⟩ : ByteArray).size = 1 := rfl
  have d1 : decide ((100 : Int) < (s.size : Int)) = false := decide_eq_false (by omega)
  have d2 : decide (100 < s.size) = false := decide_eq_false (by omega)
  have d3 : decide (s.size < 20) = lt := by rw [← h1]; exact decide_eq_decide.2 (by omega)
  have q1 : ¬ 9223372036854775807 < s.size + 1 := by omega
  have q2 : ¬ 9223372036854775807 < 1 + s.size := by omega
  have e0 : (⟨#[]⟩ : ByteArray).toList = [] := by rw [ByteArray.toList_eq]
  have e3 : (s.toList == []) = eb := by rw [← e0]; exact h3
  have e4 : decide (s.toList = []) = eb := by rw [← e3, Bool.eq_iff_iff, decide_eq_true_iff, beq_iff_eq]
  have e5 : s.toList.isEmpty = eb := by rw [← e3, Bool.eq_iff_iff, List.isEmpty_iff, beq_iff_eq]
  clear e0
  clear hC h2 h4 h100
  subst hn
  cases lt <;> cases is <;> cases eb
  all_goals
    go_enter Try.func7, Try.ntmps7
    go_wp2_with fail
    ((refine H5.out.mono ?_); rintro e w1 ⟨rfl, hb1⟩)
    have HB := Aside0.mk hb1
    clear hb1
    go_wp2_with fail
    ((refine (H0.out _).mono ?_); rintro e w2 ⟨rfl, hb1⟩)
    have HB := Aside0.mk (below_step HB.out hb1)
    clear hb1
    go_wp2_with fail
    ((refine (H1.out _).mono ?_); rintro e w3 ⟨rfl, hb1⟩)
    have HB := Aside0.mk (below_step HB.out hb1)
    clear hb1
    go_wp2_with fail
    ((refine (H2.out _).mono ?_); rintro e w4 ⟨rfl, hb1⟩)
    have HB := Aside0.mk (below_step HB.out hb1)
    clear hb1
    go_wp2_with fail
    ((refine (H3.out _).mono ?_); rintro e w5 ⟨rfl, hb1⟩)
    have HB := Aside0.mk (below_step HB.out hb1)
    clear hb1
    go_wp2_with fail
    ((refine (H4.out _).mono ?_); rintro e w6 ⟨rfl, hb1⟩)
    have HB := Aside0.mk (below_step HB.out hb1)
    clear hb1
    go_wp2
    go_ret
    exact ⟨rfl, HB.out⟩
set_option maxRecDepth 20000 in
theorem recordNames_all (s : ByteArray) (w : World) (hs : s.size ≤ 140737488351232) (hC : Con w) :
    Calls Try.prog 7 #[.string s] w fun e w' => e = .returned (.bool true) ∧ Below w.heap.size w w' := by
  by_cases h100 : s.size ≤ 100
  · refine names_walk s w hC h100 _ _ _ _ rfl rfl rfl rfl ?_
    rw [nameB_eq, nameB_eq, name_app1, nl_more]
    have h1 : decide (s.data.toList.length < 20) = decide ((s.size : Int) < 20) := decide_eq_decide.2 (by rw [show s.data.toList.length = s.size from Array.length_toList]; omega)
    have h2 : decide (s.data.toList = []) = (s.toList == (⟨#[]⟩ : ByteArray).toList) := by
      rw [Bool.eq_iff_iff, decide_eq_true_iff, beq_iff_eq, ByteArray.toList_eq, ByteArray.toList_eq]
    rw [h1, h2]
  · have H5 := Aside0.mk (alive_any w hC)
    have d1 : decide ((100 : Int) < (s.size : Int)) = true := decide_eq_true (by omega)
    have d2 : decide (100 < s.size) = true := decide_eq_true (by omega)
    clear hs hC h100
    go_enter Try.func7, Try.ntmps7
    go_wp2_with fail
    ((refine H5.out.mono ?_); rintro e w1 ⟨rfl, hb1⟩)
    have HB := Aside0.mk hb1
    clear hb1
    go_wp2
    go_ret
    exact ⟨rfl, HB.out⟩
end Go.Proofs.Ytfejjfbhlmjkeaa.C
