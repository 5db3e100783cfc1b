/- Texts of this claim (printed ones, too), put together by a program that left out what the claim does not use. -/
import Derived.Lib.IndexMore
import Derived.Lib.ConvBytes
import Derived.Test.YtfejjfbhlmjkeaaRecordBack18
section
set_option linter.unusedVariables false
set_option linter.unusedSimpArgs false
namespace Go.Proofs.Ytfejjfbhlmjkeaa.C
open Go.RowKit Go.Proofs.YtfejjfbhlmjkeaaW.PrintWords Go.Proofs.YtfejjfbhlmjkeaaW.PrintLast Go.Proofs.YtfejjfbhlmjkeaaW.PrintMore Go.Proofs.Ytfejjfbhlmjkeaa.B Go.Proofs.Ytfejjfbhlmjkeaa.PRecordIs Go.Proofs.Ytfejjfbhlmjkeaa.CQ
theorem bt_at {s : ByteArray} {i : Nat} (h : i < s.size) : bt s (i : Int) = (s[i].toNat : Int) := by
  unfold bt
  rw [dif_pos (by simpa using h)]
  simp
theorem drop_at {s : ByteArray} {i : Nat} (h : i < s.size) : s.data.toList.drop i = s[i] :: s.data.toList.drop (i + 1) :=
  List.drop_eq_getElem_cons (l := s.data.toList) (i := i) (by rw [Array.length_toList]; exact h)
set_option maxHeartbeats 1000000 in
theorem refName_l (s : ByteArray) (hs : s.size ≤ 100000) : ∀ (k i : Nat), s.size - i < k → i ≤ s.size → magpieref04_Name.l0 k s (i : Int) = some ((s.data.toList.drop i).all let7)
  | 0, i, h, hi => by omega
  | k + 1, i, h, hi => by
    rw [magpieref04_Name.l0]
    by_cases hlt : i < s.size
    · have ih := refName_l s hs k (i + 1) (by omega) (by omega)
      rw [if_pos (by omega), if_pos (by omega), bt_at hlt, w64_in _ (by omega), drop_at hlt, List.all_cons]
      rw [show ((i : Int) + 1) = ((i + 1 : Nat) : Int) by omega, ih]
      generalize (s.data.toList.drop (i + 1)).all let7 = r
      unfold let7
      obtain ⟨m, hm⟩ : ∃ m : Nat, m = s[i].toNat := ⟨_, rfl⟩
      rw [← hm]
      clear ih hm
      repeat' split
      all_goals first
        | (rw [decide_eq_true (by omega), Bool.true_and]; done)
        | (rw [decide_eq_false (by omega), Bool.false_and]; done)
    · rw [if_neg (by omega), List.drop_eq_nil_of_le (by rw [Array.length_toList]; exact Nat.le_of_not_lt hlt)]; rfl
theorem toList_nil {s : ByteArray} : s.toList = [] ↔ s.size = 0 := by
  rw [ByteArray.toList_eq, ← List.length_eq_zero_iff, Array.length_toList]; rfl
theorem refName_f (s : ByteArray) (hs : s.size ≤ 100000) (k : Nat) (hk : s.size + 2 ≤ k) : magpieref04_Name.f k s = some (nl s.data.toList) := by
  have hl : s.data.toList.length = s.size := Array.length_toList
  obtain ⟨k, rfl⟩ : ∃ q, k = q + 1 := ⟨k - 1, by omega⟩
  unfold magpieref04_Name.f nl
  rw [hl]
  by_cases h0 : s.size = 0
  · rw [if_pos (toList_nil.2 h0), magpieref04_Name.j0, if_pos rfl, decide_eq_false (show ¬ 0 < s.size by omega)]; rfl
  · rw [if_neg (fun e => h0 (toList_nil.1 e)), decide_eq_true (show 0 < s.size by omega), Bool.true_and]
    by_cases h20 : s.size ≤ 20
    · have hb := bt_at (s := s) (i := 0) (by omega)
      have hr := refName_l s hs k 0 (by omega) (by omega)
      rw [List.drop_zero] at hr
      have hd := drop_at (s := s) (i := 0) (by omega)
      rw [List.drop_zero] at hd
      have hh : headOk s.data.toList = !(decide (48 ≤ s[0].toNat) && decide (s[0].toNat ≤ 57)) := by rw [hd]; rfl
      rw [if_neg (by omega), if_pos (by omega), decide_eq_true h20, Bool.true_and, hh]
      rw [show ((0 : Nat) : Int) = 0 from rfl] at hb hr
      rw [hb]
      by_cases h48 : 48 ≤ s[0].toNat
      · rw [if_pos (by omega), magpieref04_Name.j0, decide_eq_true h48, Bool.true_and]
        by_cases h57 : s[0].toNat ≤ 57
        · rw [if_pos (decide_eq_true (by omega)), decide_eq_true h57]; simp
        · rw [if_neg (by rw [decide_eq_true_iff]; omega), decide_eq_false h57, hr]; simp
      · rw [if_neg (by omega), magpieref04_Name.j0, if_neg (by simp), decide_eq_false h48, hr]; simp
    · rw [if_pos (by omega), magpieref04_Name.j0, if_pos rfl, decide_eq_false h20]; rfl
theorem refGood_l1 (at_ : Int) (ls : List S47) (s : ByteArray) (hs : s.size ≤ 100000) : ∀ (k i : Nat), s.size - i < k → i ≤ s.size → magpieref04_Good.l1 k (i : Int) at_ ls s = some (!(s.data.toList.drop i).any fun b => decide (b.toNat = 10))
  | 0, i, h, hi => by omega
  | k + 1, i, h, hi => by
    rw [magpieref04_Good.l1]
    by_cases hlt : i < s.size
    · have ih := refGood_l1 at_ ls s hs k (i + 1) (by omega) (by omega)
      rw [if_pos (by omega), if_pos (by omega), bt_at hlt, w64_in _ (by omega), drop_at hlt, List.any_cons]
      rw [show ((i : Int) + 1) = ((i + 1 : Nat) : Int) by omega, ih]
      by_cases h10 : s[i].toNat = 10
      · rw [if_pos (by omega), decide_eq_true h10]; rfl
      · rw [if_neg (by omega), decide_eq_false h10]; rfl
    · rw [if_neg (by omega), List.drop_eq_nil_of_le (by rw [Array.length_toList]; exact Nat.le_of_not_lt hlt)]; rfl
theorem contains_10 (l : List UInt8) : Lib.contains l [10] = l.any fun b => decide (b.toNat = 10) := by
  have hocc : ∀ i, Lib.occAt l [10] i = true ↔ l[i]? = some 10 := fun i => by
    unfold Lib.occAt
    rcases Nat.lt_or_ge i l.length with hi | hi
    · rw [List.drop_eq_getElem_cons hi, List.getElem?_eq_getElem hi]
      simp [List.isPrefixOf]
      exact eq_comm
    · rw [List.drop_eq_nil_of_le hi, List.getElem?_eq_none hi]
      simp [List.isPrefixOf]
  rw [Bool.eq_iff_iff, List.any_eq_true]
  unfold Lib.contains
  rcases Lib.index_spec l [10] with ⟨h1, h2⟩ | ⟨j, h1, h2⟩
  · rw [h1]
    constructor
    · intro h; simp at h
    · rintro ⟨b, hb, h10⟩
      obtain ⟨i, hi, rfl⟩ := List.mem_iff_getElem.1 hb
      have e : l[i] = 10 := UInt8.toNat_inj.1 (by simpa using h10)
      have := h2 i (by omega)
      rw [(hocc i).2 (by rw [List.getElem?_eq_getElem hi, e])] at this
      cases this
  · rw [h1]
    constructor
    · intro _
      have h3 := (hocc j).1 h2.2.1
      exact ⟨10, List.mem_of_getElem? h3, by decide⟩
    · intro _; simp
end Go.Proofs.Ytfejjfbhlmjkeaa.C
end
section
set_option linter.unusedVariables false
set_option linter.unusedSimpArgs false
namespace Go.Proofs.Ytfejjfbhlmjkeaa.C
open Go.RowKit Go.Proofs.YtfejjfbhlmjkeaaW.PrintWords Go.Proofs.YtfejjfbhlmjkeaaW.PrintLast Go.Proofs.YtfejjfbhlmjkeaaW.PrintMore Go.Proofs.Ytfejjfbhlmjkeaa.B Go.Proofs.Ytfejjfbhlmjkeaa.Reg Go.Proofs.Ytfejjfbhlmjkeaa.PRecordIs Go.Proofs.Ytfejjfbhlmjkeaa.CQ Go.Proofs.Ytfejjfbhlmjkeaa.Vi Go.Proofs.Ytfejjfbhlmjkeaa.N Go.Proofs.Ytfejjfbhlmjkeaa.Bt
def labsRest (xs : List S47) : Nat → Nat → Bool
  | _, 0 => true
  | i, m + 1 => labAt xs i && labsRest xs (i + 1) m
theorem labsOk_rest (xs : List S47) : ∀ m i, labsOk xs (i + m) = (labsOk xs i && labsRest xs i m)
  | 0, i => by simp [labsRest]
  | m + 1, i => by
    have ih := labsOk_rest xs m (i + 1)
    rw [show i + (m + 1) = i + 1 + m by omega, ih]
    simp only [labsOk, labsRest, Bool.and_assoc]
theorem lineOk_eq {s : ByteArray} (h : s.size ≤ 200) : lineOk s = !s.data.toList.any fun b => decide (b.toNat = 10) := by
  unfold lineOk
  rw [decide_eq_true h, Bool.true_and, contains_10]
theorem refGood_l0 (at_ : Int) (xs : List S47) (s : ByteArray) (hs : s.size ≤ 200) (hm : xs.length ≤ 4) (hn : ∀ x ∈ xs, x.f0.size ≤ 200) : ∀ (k i : Nat), (xs.length - i) + 600 ≤ k → i ≤ xs.length →
    magpieref04_Good.l0 k xs (xs.length : Int) (i : Int) at_ xs s = some (labsRest xs i (xs.length - i) && lineOk s)
  | 0, i, h, hi => by omega
  | k + 1, i, h, hi => by
    rw [magpieref04_Good.l0]
    by_cases hlt : i < xs.length
    · have ih := refGood_l0 at_ xs s hs hm hn k (i + 1) (by omega) (by omega)
      have hnm := hn xs[i] (List.getElem_mem hlt)
      rw [if_pos (by omega), if_pos (by omega), if_pos (by omega), at47 hlt, refName_f _ (by omega) k (by omega), w64_in ((i : Int) + 1) (by omega)]
      rw [show ((i : Int) + 1) = ((i + 1 : Nat) : Int) by omega, ih, ← nameB_eq]
      obtain ⟨m, hmm⟩ : ∃ m, xs.length - i = m + 1 := ⟨xs.length - i - 1, by omega⟩
      rw [hmm, show xs.length - (i + 1) = m by omega]
      simp only [Option.bind_some, labsRest]
      unfold labAt
      rw [getD47 hlt]
      cases nameB xs[i].f0 with
      | false => rfl
      | true =>
        rw [if_pos rfl, Bool.true_and]
        by_cases h20 : xs[i].f1.size ≤ 20
        · rw [if_neg (by omega), decide_eq_true h20, Bool.true_and]
          by_cases h0 : i = 0
          · subst h0
            rw [if_neg (by omega)]
            simp
          · rw [if_pos (by omega), w64_in ((i : Int) - 1) (by omega), if_pos (by omega), if_pos (by omega)]
            rw [show ((i : Int) - 1) = ((i - 1 : Nat) : Int) by omega, at47 (show i - 1 < xs.length by omega), getD47 (show i - 1 < xs.length by omega)]
            have hz : (i == 0) = false := by simp [h0]
            rw [hz, Bool.false_or]
            cases Op.bytesLess xs[i - 1].f0.toList xs[i].f0.toList <;> simp
        · rw [if_pos (by omega), decide_eq_false h20]; rfl
    · rw [if_neg (by omega), show xs.length - i = 0 by omega]
      have := refGood_l1 at_ xs s (by omega) k 0 (by omega) (by omega)
      rw [List.drop_zero] at this
      rw [lineOk_eq hs]
      simp only [labsRest, Bool.true_and]
      exact this
theorem refGood_f (x : Key) (hn : ∀ y ∈ x.ls, y.f0.size ≤ 200) : magpieref04_Good.f 700 x.at_ x.ls x.line = some (goodE x) := by
  unfold magpieref04_Good.f goodE timeOk goodL
  by_cases h1 : x.at_ ≤ 1099511627776
  · rw [if_neg (by omega), decide_eq_true h1, Bool.and_true]
    by_cases h2 : -1099511627776 ≤ x.at_
    · rw [if_neg (by omega), decide_eq_true h2, Bool.true_and]
      by_cases h3 : x.ls.length ≤ 4
      · rw [if_neg (by omega), decide_eq_true h3, Bool.and_true, magpieref04_Good.j0]
        by_cases h4 : x.line.size ≤ 200
        · rw [if_neg (by rw [decide_eq_true_iff]; omega)]
          have := refGood_l0 x.at_ x.ls x.line h4 h3 hn 699 0 (by omega) (by omega)
          have e := labsOk_rest x.ls x.ls.length 0
          rw [Nat.zero_add] at e
          rw [e, show labsOk x.ls 0 = true from rfl, Bool.true_and]
          exact this
        · rw [if_pos (decide_eq_true (by omega))]
          unfold lineOk
          rw [decide_eq_false h4]; simp
      · rw [if_pos (by omega), magpieref04_Good.j0, if_pos rfl, decide_eq_false h3]; simp
    · rw [if_pos (by omega), magpieref04_Good.j0, if_pos rfl, decide_eq_false h2]; simp
  · rw [if_pos (by omega), magpieref04_Good.j0, if_pos rfl, decide_eq_false h1]; simp
theorem refGood_any (x : Ent) (w : World) (hx : x.In w) (hn : ∀ y ∈ x.ls, y.f0.size ≤ 200) : Calls Try.prog 33 #[x.val] w fun e w' => e = .returned (.bool (goodE x.key)) ∧ Below w.heap.size w w' :=
  magpieref04_Good.calls 700 x.at_ x.A x.c x.ls x.line _ w hx.lies hx.cap (refGood_f x.key hn)
end Go.Proofs.Ytfejjfbhlmjkeaa.C
end
