/- The reference's Name and Good: plain. -/
import Derived.Test.YtfejjfbhlmjkeaaE7
import Derived.Lib.IndexMore
set_option linter.unusedVariables false
set_option linter.unusedSimpArgs false
namespace Go.Proofs.Ytfejjfbhlmjkeaa.C
open Go.RowKit Go.Proofs.YtfejjfbhlmjkeaaW.PrintWords Go.Proofs.YtfejjfbhlmjkeaaW.PrintLast Go.Proofs.YtfejjfbhlmjkeaaW.PrintMore Go.Proofs.Ytfejjfbhlmjkeaa.B Go.Proofs.Ytfejjfbhlmjkeaa.PRecordIs Go.Proofs.Ytfejjfbhlmjkeaa.CQ

theorem bt_at {s : ByteArray} {i : Nat} (h : i < s.size) : bt s (i : Int) = (s[i].toNat : Int) := by
  unfold bt
  rw [dif_pos (by simpa using h)]
  simp
theorem drop_at {s : ByteArray} {i : Nat} (h : i < s.size) : s.data.toList.drop i = s[i] :: s.data.toList.drop (i + 1) :=
  List.drop_eq_getElem_cons (l := s.data.toList) (i := i) (by rw [Array.length_toList]; exact h)
set_option maxHeartbeats 1000000 in
theorem refName_l (s : ByteArray) (hs : s.size ≤ 100000) : ∀ (k i : Nat), s.size - i < k → i ≤ s.size → magpieref04_Name.l0 k s (i : Int) = some ((s.data.toList.drop i).all let7)
  | 0, i, h, hi => by omega
  | k + 1, i, h, hi => by
    rw [magpieref04_Name.l0]
    by_cases hlt : i < s.size
    · have ih := refName_l s hs k (i + 1) (by omega) (by omega)
      rw [if_pos (by omega), if_pos (by omega), bt_at hlt, w64_in _ (by omega), drop_at hlt, List.all_cons]
      rw [show ((i : Int) + 1) = ((i + 1 : Nat) : Int) by omega, ih]
      generalize (s.data.toList.drop (i + 1)).all let7 = r
      unfold let7
      obtain ⟨m, hm⟩ : ∃ m : Nat, m = s[i].toNat := ⟨_, rfl⟩
      rw [← hm]
      clear ih hm
      repeat' split
      all_goals first
        | (rw [decide_eq_true (by omega), Bool.true_and]; done)
        | (rw [decide_eq_false (by omega), Bool.false_and]; done)
    · rw [if_neg (by omega), List.drop_eq_nil_of_le (by rw [Array.length_toList]; exact Nat.le_of_not_lt hlt)]; rfl
theorem toList_nil {s : ByteArray} : s.toList = [] ↔ s.size = 0 := by
  rw [ByteArray.toList_eq, ← List.length_eq_zero_iff, Array.length_toList]; rfl
theorem refName_f (s : ByteArray) (hs : s.size ≤ 100000) (k : Nat) (hk : s.size + 2 ≤ k) : magpieref04_Name.f k s = some (nl s.data.toList) := by
  have hl : s.data.toList.length = s.size := Array.length_toList
  obtain ⟨k, rfl⟩ : ∃ q, k = q + 1 := ⟨k - 1, by omega⟩
  unfold magpieref04_Name.f nl
  rw [hl]
  by_cases h0 : s.size = 0
  · rw [if_pos (toList_nil.2 h0), magpieref04_Name.j0, if_pos rfl, decide_eq_false (show ¬ 0 < s.size by omega)]; rfl
  · rw [if_neg (fun e => h0 (toList_nil.1 e)), decide_eq_true (show 0 < s.size by omega), Bool.true_and]
    by_cases h20 : s.size ≤ 20
    · have hb := bt_at (s := s) (i := 0) (by omega)
      have hr := refName_l s hs k 0 (by omega) (by omega)
      rw [List.drop_zero] at hr
      have hd := drop_at (s := s) (i := 0) (by omega)
      rw [List.drop_zero] at hd
      have hh : headOk s.data.toList = !(decide (48 ≤ s[0].toNat) && decide (s[0].toNat ≤ 57)) := by rw [hd]; rfl
      rw [if_neg (by omega), if_pos (by omega), decide_eq_true h20, Bool.true_and, hh]
      rw [show ((0 : Nat) : Int) = 0 from rfl] at hb hr
      rw [hb]
      by_cases h48 : 48 ≤ s[0].toNat
      · rw [if_pos (by omega), magpieref04_Name.j0, decide_eq_true h48, Bool.true_and]
        by_cases h57 : s[0].toNat ≤ 57
        · rw [if_pos (decide_eq_true (by omega)), decide_eq_true h57]; simp
        · rw [if_neg (by rw [decide_eq_true_iff]; omega), decide_eq_false h57, hr]; simp
      · rw [if_neg (by omega), magpieref04_Name.j0, if_neg (by simp), decide_eq_false h48, hr]; simp
    · rw [if_pos (by omega), magpieref04_Name.j0, if_pos rfl, decide_eq_false h20]; rfl
theorem refName_any (s : ByteArray) (w : World) (hs : s.size ≤ 100000) : Calls Try.prog 34 #[.string s] w fun e w' => e = .returned (.bool (nameB s)) ∧ Below w.heap.size w w' :=
  (magpieref04_Name.calls (s.size + 2) s (nameB s) w (by rw [nameB_eq]; exact refName_f s hs _ (Nat.le_refl _))).mono fun _ _ ⟨h, k⟩ => ⟨h, k.below⟩
theorem refGood_l1 (at_ : Int) (ls : List S47) (s : ByteArray) (hs : s.size ≤ 100000) : ∀ (k i : Nat), s.size - i < k → i ≤ s.size → magpieref04_Good.l1 k (i : Int) at_ ls s = some (!(s.data.toList.drop i).any fun b => decide (b.toNat = 10))
  | 0, i, h, hi => by omega
  | k + 1, i, h, hi => by
    rw [magpieref04_Good.l1]
    by_cases hlt : i < s.size
    · have ih := refGood_l1 at_ ls s hs k (i + 1) (by omega) (by omega)
      rw [if_pos (by omega), if_pos (by omega), bt_at hlt, w64_in _ (by omega), drop_at hlt, List.any_cons]
      rw [show ((i : Int) + 1) = ((i + 1 : Nat) : Int) by omega, ih]
      by_cases h10 : s[i].toNat = 10
      · rw [if_pos (by omega), decide_eq_true h10]; rfl
      · rw [if_neg (by omega), decide_eq_false h10]; rfl
    · rw [if_neg (by omega), List.drop_eq_nil_of_le (by rw [Array.length_toList]; exact Nat.le_of_not_lt hlt)]; rfl
theorem contains_10 (l : List UInt8) : Lib.contains l [10] = l.any fun b => decide (b.toNat = 10) := by
  have hocc : ∀ i, Lib.occAt l [10] i = true ↔ l[i]? = some 10 := fun i => by
    unfold Lib.occAt
    rcases Nat.lt_or_ge i l.length with hi | hi
    · rw [List.drop_eq_getElem_cons hi, List.getElem?_eq_getElem hi]
      simp [List.isPrefixOf]
      exact eq_comm
    · rw [List.drop_eq_nil_of_le hi, List.getElem?_eq_none hi]
      simp [List.isPrefixOf]
  rw [Bool.eq_iff_iff, List.any_eq_true]
  unfold Lib.contains
  rcases Lib.index_spec l [10] with ⟨h1, h2⟩ | ⟨j, h1, h2⟩
  · rw [h1]
    constructor
    · intro h; simp at h
    · rintro ⟨b, hb, h10⟩
      obtain ⟨i, hi, rfl⟩ := List.mem_iff_getElem.1 hb
      have e : l[i] = 10 := UInt8.toNat_inj.1 (by simpa using h10)
      have := h2 i (by omega)
      rw [(hocc i).2 (by rw [List.getElem?_eq_getElem hi, e])] at this
      cases this
  · rw [h1]
    constructor
    · intro _
      have h3 := (hocc j).1 h2.2.1
      exact ⟨10, List.mem_of_getElem? h3, by decide⟩
    · intro _; simp
end Go.Proofs.Ytfejjfbhlmjkeaa.C
