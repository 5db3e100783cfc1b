/- Texts of this claim (printed ones, too), put together by a program that left out what the claim does not use. -/
import Derived.Laws.RangeString
import Derived.Shelf.Vars
import Derived.KernelRfl
import Derived.Test.YtfejjfbhlmjkeaaRecordSorts9
import Derived.Test.YtfejjfbhlmjkeaaRecordSorts12
import Derived.Test.YtfejjfbhlmjkeaaRecordSorts5
import Derived.Test.YtfejjfbhlmjkeaaRecordSorts3
section
set_option linter.unusedVariables false
set_option linter.unusedSimpArgs false
namespace Go.Proofs.Ytfejjfbhlmjkeaa.C
open Go.RowKit Go.Proofs.YtfejjfbhlmjkeaaW.PrintWords Go.Proofs.YtfejjfbhlmjkeaaW.PrintLast Go.Proofs.YtfejjfbhlmjkeaaW.PrintMore Go.Proofs.Ytfejjfbhlmjkeaa.B Go.Proofs.Ytfejjfbhlmjkeaa.PRecordIs Go.Proofs.Ytfejjfbhlmjkeaa.CQ
/-- A byte that a name may have at a place. -/
def byteOk (b : UInt8) (first : Bool) : Bool := decide (b.toNat < 128) && !(first && decide (48 ≤ b.toNat) && decide (b.toNat ≤ 57))
def bytesOk (s : ByteArray) : Nat → Bool
  | 0 => true
  | i + 1 => bytesOk s i && byteOk (s.data.toList.getD i 0) (i == 0)
/-- Whether a text can be a label's name. -/
def nameB (s : ByteArray) : Bool := bytesOk s s.size && (decide (s.size ≤ 20) && W.isWord s)
theorem bytesOk_not {s : ByteArray} {i : Nat} (h : bytesOk s i = false) : ∀ n, i ≤ n → bytesOk s n = false := by
  intro n
  induction n with
  | zero => intro hi; rw [show i = 0 by omega] at h; exact h
  | succ n ih =>
    intro hi
    by_cases e : i = n + 1
    · subst e; exact h
    · simp only [bytesOk]
      rw [ih (by omega)]; rfl
theorem byte_at {s : ByteArray} {i : Nat} (h : i < s.size) : s.data.toList.getD i 0 = s[i] := by
  rw [List.getD_eq_getElem?_getD, List.getElem?_eq_getElem (by rw [Array.length_toList]; exact h)]
  rfl
set_option maxRecDepth 20000 in
theorem name_any (s : ByteArray) (w : World) (hs : s.size ≤ 4611686018427) :
    Calls Try.prog 28 #[.string s] w fun e w' => e = .returned (.bool (nameB s)) ∧ Below w.heap.size w w' := by
  have HS := Aside0.mk hs
  have HN : Aside0 (nameB s = (bytesOk s s.size && (decide (s.size ≤ 20) && W.isWord s))) := ⟨rfl⟩
  obtain ⟨q, hq⟩ : ∃ q, q = nameB s := ⟨_, rfl⟩
  rw [← hq] at HN ⊢
  obtain ⟨qw, hqw⟩ : ∃ q, q = W.isWord s := ⟨_, rfl⟩
  rw [← hqw] at HN
  have HI : Aside0 (∀ V, Calls Try.prog 15 #[.string s] V fun e w' => e = .returned (.bool qw) ∧ Below V.heap.size V w') := ⟨fun V => by rw [hqw]; exact W.is_any s V hs⟩
  clear hs hq hqw
  go_enter Try.func28, Try.ntmps28
  go_wp2
  go_loopw [6] (fun t6 wr => ∃ i : Nat, i ≤ s.size ∧ t6 = .int .i64 (i : Int) ∧ Aside0 (Below w.heap.size w wr) ∧ Aside0 (bytesOk s i = true)) (fun t6 _ => s.size - (intOf t6).toNat)
  case atStart => exact ⟨0, Nat.zero_le _, rfl, ⟨Below.refl _ w⟩, ⟨rfl⟩⟩
  case round =>
    obtain ⟨i, hi, rfl, HB, HO⟩ := hrel
    by_cases hlt : i < s.size
    · have d1 : decide (i < s.size) = true := decide_eq_true hlt
      obtain ⟨b, hb⟩ : ∃ b, b = s[i] := ⟨_, rfl⟩
      have HE : Aside0 (bytesOk s (i + 1) = byteOk b (i == 0)) := ⟨by simp only [bytesOk]; rw [HO.out, byte_at hlt, ← hb]; rfl⟩
      have Hlt := Aside0.mk hlt
      replace hb := hb.symm
      have STOP : Aside0 (byteOk b (i == 0) = false → q = false) := ⟨fun h => by
        rw [HN.out, bytesOk_not (HE.out.trans h) s.size (by have := Hlt.out; omega)]; rfl⟩
      have HE2 : Aside0 (byteOk b (i == 0) = true → bytesOk s (i + 1) = true) := ⟨fun h => HE.out.trans h⟩
      clear HE
      obtain ⟨m, hm⟩ : ∃ m : Nat, m = b.toNat := ⟨_, rfl⟩
      have HM := Aside0.mk hm
      replace hm := hm.symm
      by_cases h128 : 128 ≤ m
      · have c1 : decide ((128 : Int) ≤ (m : Int)) = true := decide_eq_true (by omega)
        have HF : Aside0 (q = false) := ⟨STOP.out (by unfold byteOk; rw [← HM.out]; simp; omega)⟩
        go_wp2
        go_ret
        exact ⟨by rw [HF.out]; rfl, HB.out⟩
      · have c1 : decide ((128 : Int) ≤ (m : Int)) = false := decide_eq_false (by omega)
        have H128 := Aside0.mk h128
        clear h128
        by_cases hi0 : i = 0
        · have HI0 := Aside0.mk hi0
          by_cases h48 : 48 ≤ m
          · have c2 : decide ((48 : Int) ≤ (m : Int)) = true := decide_eq_true (by omega)
            by_cases h57 : m ≤ 57
            · have c3 : decide ((m : Int) ≤ (57 : Int)) = true := decide_eq_true (by omega)
              have HF : Aside0 (q = false) := ⟨STOP.out (by unfold byteOk; rw [← HM.out, HI0.out]; simp; omega)⟩
              clear h48 h57
              subst hi0
              go_wp2
              go_ret
              exact ⟨by rw [HF.out]; rfl, HB.out⟩
            · have c3 : decide ((m : Int) ≤ (57 : Int)) = false := decide_eq_false (by omega)
              have R := Aside0.mk (HE2.out (by unfold byteOk; rw [← HM.out, HI0.out]; have := H128.out; simp; omega))
              clear h48 h57
              subst hi0
              go_wp2
              go_roundw
              case rel => exact ⟨1, by have := Hlt.out; omega, rfl, HB, R⟩
              case measure => have h1 := Hlt.out; simp [intOf]; omega
          · have c2 : decide ((48 : Int) ≤ (m : Int)) = false := decide_eq_false (by omega)
            have R := Aside0.mk (HE2.out (by unfold byteOk; rw [← HM.out, HI0.out]; have := H128.out; simp; omega))
            clear h48
            subst hi0
            go_wp2
            go_roundw
            case rel => exact ⟨1, by have := Hlt.out; omega, rfl, HB, R⟩
            case measure => have h1 := Hlt.out; simp [intOf]; omega
        · have c0 : decide (i = 0) = false := decide_eq_false hi0
          have R := Aside0.mk (HE2.out (by unfold byteOk; rw [← HM.out]; have := H128.out; simp [hi0]; omega))
          go_wp2
          go_roundw
          case rel => exact ⟨i + 1, by have := Hlt.out; omega, by rw [w64_in _ (by have := Hlt.out; have := HS.out; omega)]; rfl, HB, R⟩
          case measure => have h1 := Hlt.out; have h2 := HS.out; rw [w64_in _ (by omega)]; simp [intOf]; omega
    · have d1 : decide (i < s.size) = false := decide_eq_false hlt
      have HQ : Aside0 (q = (decide (s.size ≤ 20) && qw)) := ⟨by rw [HN.out, show s.size = i by omega, HO.out]; rfl⟩
      by_cases h20 : s.size ≤ 20
      · have c1 : decide ((s.size : Int) ≤ 20) = true := decide_eq_true (by omega)
        have HQ2 : Aside0 (q = qw) := ⟨by rw [HQ.out, decide_eq_true h20]; rfl⟩
        clear hlt hi h20
        go_wp2_with (go_at_call 15; refine (HI.out _).mono ?_; rintro e w1 ⟨rfl, hb1⟩; have HB1 := Aside0.mk (below_step HB.out hb1); clear hb1)
        go_ret
        exact ⟨by rw [HQ2.out]; simp, HB1.out⟩
      · have c1 : decide ((s.size : Int) ≤ 20) = false := decide_eq_false (by omega)
        have HQ2 : Aside0 (q = false) := ⟨by rw [HQ.out, decide_eq_false h20]; rfl⟩
        clear hlt hi h20
        go_wp2
        go_ret
        exact ⟨by rw [HQ2.out]; simp, HB.out⟩
end Go.Proofs.Ytfejjfbhlmjkeaa.C
set_option linter.unusedVariables false
set_option linter.unusedSimpArgs false
namespace Go.Proofs.Ytfejjfbhlmjkeaa.C
open Go.RowKit Go.Proofs.Ytfejjfbhlmjkeaa.CQ Go.Proofs.Ytfejjfbhlmjkeaa.W
/-- A letter of a name. -/
def let7 (b : UInt8) : Bool := decide ((97 ≤ b.toNat ∧ b.toNat ≤ 122) ∨ (65 ≤ b.toNat ∧ b.toNat ≤ 90) ∨ (48 ≤ b.toNat ∧ b.toNat ≤ 57) ∨ b.toNat = 95)
def headOk : List UInt8 → Bool
  | [] => true
  | b :: _ => !(decide (48 ≤ b.toNat) && decide (b.toNat ≤ 57))
/-- Whether a row of bytes is a name. -/
def nl (l : List UInt8) : Bool := decide (0 < l.length) && decide (l.length ≤ 20) && l.all let7 && headOk l
theorem letter7 (b : UInt8) (h : b.toNat < 128) : letter (b.toNat : Int) = let7 b := by
  unfold letter let7
  rw [Bool.eq_iff_iff, decide_eq_true_iff, decide_eq_true_iff]
  omega
section
variable {s : ByteArray} (ha : ∀ i (hi : i < s.size), s[i].toNat < 128)
include ha
theorem dec_at {pos : Nat} (h : pos < s.size) : Utf8.decode s pos = (s[pos].toNat, 1) := decode_ascii s pos h (ha pos h)
theorem run_all : ∀ (n pos f : Nat), s.size - pos ≤ n → (∀ i (hi : i < s.size), pos ≤ i → let7 s[i] = true) → spansFrom s pos (some f) = [(f, s.size)] := by
  intro n
  induction n with
  | zero => intro pos f hn h; rw [spansFrom_end (by omega)]
  | succ n ih =>
    intro pos f hn h
    by_cases hp : pos < s.size
    · rw [spansFrom_is hp (by rw [dec_at ha hp, letter7 _ (ha pos hp)]; exact h pos hp (Nat.le_refl _)), dec_at ha hp]
      exact ih (pos + 1) f (by omega) (fun i hi hpi => h i hi (by omega))
    · rw [spansFrom_end hp]
theorem run_stop : ∀ (n pos f p : Nat), s.size - pos ≤ n → pos ≤ p → (hp : p < s.size) → let7 s[p] = false → ∃ q r, q < s.size ∧ spansFrom s pos (some f) = (f, q) :: r := by
  intro n
  induction n with
  | zero => intro pos f p hn h1 h2 _; omega
  | succ n ih =>
    intro pos f p hn h1 h2 h3
    have hp : pos < s.size := by omega
    cases hl : let7 s[pos] with
    | true =>
      rw [spansFrom_is hp (by rw [dec_at ha hp, letter7 _ (ha pos hp)]; exact hl), dec_at ha hp]
      have hne : pos ≠ p := fun e => by subst e; rw [hl] at h3; cases h3
      exact ih (pos + 1) f p (by omega) (by omega) h2 h3
    | false =>
      rw [spansFrom_some hp (by rw [dec_at ha hp, letter7 _ (ha pos hp)]; exact hl)]
      exact ⟨pos, _, hp, rfl⟩
theorem run_late : ∀ (n pos : Nat), s.size - pos ≤ n → ∀ x r, spansFrom s pos none = x :: r → pos ≤ x.1 := by
  intro n
  induction n with
  | zero => intro pos hn x r h; rw [spansFrom_end (by omega)] at h; cases h
  | succ n ih =>
    intro pos hn x r h
    by_cases hp : pos < s.size
    · cases hl : let7 s[pos] with
      | true =>
        rw [spansFrom_is hp (by rw [dec_at ha hp, letter7 _ (ha pos hp)]; exact hl), dec_at ha hp] at h
        by_cases hall : ∀ i (hi : i < s.size), pos + 1 ≤ i → let7 s[i] = true
        · rw [run_all ha n (pos + 1) _ (by omega) hall] at h
          cases h
          exact Nat.le_refl _
        · have : ∃ p, ∃ hp : p < s.size, pos + 1 ≤ p ∧ let7 s[p] = false := by
            refine Classical.byContradiction fun hn => hall fun i hi hpi => ?_
            cases hli : let7 s[i] with
            | true => rfl
            | false => exact absurd ⟨i, hi, hpi, hli⟩ hn
          obtain ⟨p, hp2, hp1, hp3⟩ := this
          obtain ⟨q, r', _, e⟩ := run_stop ha n (pos + 1) (Option.getD none pos) p (by omega) hp1 hp2 hp3
          rw [e] at h
          cases h
          exact Nat.le_refl _
      | false =>
        rw [spansFrom_none hp (by rw [dec_at ha hp, letter7 _ (ha pos hp)]; exact hl), dec_at ha hp] at h
        have := ih (pos + 1) (by omega) x r h
        omega
    · rw [spansFrom_end hp] at h; cases h
theorem isWord_ascii : W.isWord s = (decide (0 < s.size) && s.data.toList.all let7) := by
  have hall : s.data.toList.all let7 = true ↔ ∀ i (hi : i < s.size), let7 s[i] = true := by
    rw [List.all_eq_true]
    constructor
    · intro h i hi
      exact h _ (by rw [Array.mem_toList_iff]; exact Array.getElem_mem hi)
    · intro h b hb
      rw [Array.mem_toList_iff] at hb
      obtain ⟨i, hi, rfl⟩ := Array.mem_iff_getElem.1 hb
      exact h i hi
  unfold W.isWord
  by_cases h0 : 0 < s.size
  · rw [decide_eq_true h0, Bool.true_and]
    cases hl : let7 s[0] with
    | true =>
      have e0 : spansFrom s 0 none = spansFrom s 1 (some 0) := by rw [spansFrom_is h0 (by rw [dec_at ha h0, letter7 _ (ha 0 h0)]; exact hl), dec_at ha h0]; rfl
      rw [e0]
      by_cases h : ∀ i (hi : i < s.size), let7 s[i] = true
      · rw [run_all ha s.size 1 _ (by omega) (fun i hi _ => h i hi), hall.2 h]
        simp
      · have hf : s.data.toList.all let7 = false := by
          cases hx : s.data.toList.all let7 with
          | true => exact absurd (hall.1 hx) h
          | false => rfl
        have : ∃ p, ∃ hp : p < s.size, 1 ≤ p ∧ let7 s[p] = false := by
          refine Classical.byContradiction fun hn => h fun i hi => ?_
          cases hli : let7 s[i] with
          | true => rfl
          | false =>
            by_cases hi0 : i = 0
            · subst hi0; rw [hl] at hli; cases hli
            · exact absurd ⟨i, hi, by omega, hli⟩ hn
        obtain ⟨p, hp2, hp1, hp3⟩ := this
        obtain ⟨q, r', hq, e⟩ := run_stop ha s.size 1 0 p (by omega) hp1 hp2 hp3
        rw [hf, e]
        simp
        omega
    | false =>
      have hf : s.data.toList.all let7 = false := by
        cases hx : s.data.toList.all let7 with
        | true => have := hall.1 hx 0 h0; rw [hl] at this; cases this
        | false => rfl
      rw [hf, spansFrom_none h0 (by rw [dec_at ha h0, letter7 _ (ha 0 h0)]; exact hl), dec_at ha h0]
      cases hsp : spansFrom s (0 + 1) none with
      | nil => rfl
      | cons x r =>
        have := run_late ha s.size (0 + 1) (by omega) x r hsp
        have hx : ((x.1 : Int) == 0) = false := by rw [beq_eq_false_iff_ne]; omega
        simp only
        rw [hx, Bool.false_and]
  · rw [decide_eq_false h0, Bool.false_and, spansFrom_end h0]
end
theorem bytesOk_iff (s : ByteArray) : ∀ n, n ≤ s.size → (bytesOk s n = true ↔ ∀ i (hi : i < s.size), i < n → byteOk s[i] (i == 0) = true)
  | 0, _ => by simp [bytesOk]
  | n + 1, hn => by
    have ih := bytesOk_iff s n (by omega)
    simp only [bytesOk, Bool.and_eq_true]
    rw [ih, byte_at (show n < s.size by omega)]
    constructor
    · rintro ⟨h1, h2⟩ i hi hin
      by_cases e : i = n
      · subst e; exact h2
      · exact h1 i hi (by omega)
    · intro h
      exact ⟨fun i hi hin => h i hi (by omega), h n (by omega) (by omega)⟩
theorem nameB_eq (s : ByteArray) : nameB s = nl s.data.toList := by
  have hl : s.data.toList.length = s.size := Array.length_toList
  have hall : s.data.toList.all let7 = true ↔ ∀ i (hi : i < s.size), let7 s[i] = true := by
    rw [List.all_eq_true]
    constructor
    · intro h i hi
      exact h _ (by rw [Array.mem_toList_iff]; exact Array.getElem_mem hi)
    · intro h b hb
      rw [Array.mem_toList_iff] at hb
      obtain ⟨i, hi, rfl⟩ := Array.mem_iff_getElem.1 hb
      exact h i hi
  have hhead : ∀ (h0 : 0 < s.size), headOk s.data.toList = !(decide (48 ≤ s[0].toNat) && decide (s[0].toNat ≤ 57)) := fun h0 => by
    have e : s.data.toList = s[0] :: s.data.toList.drop 1 := by
      have := List.drop_eq_getElem_cons (l := s.data.toList) (i := 0) (by rw [hl]; exact h0)
      rw [List.drop_zero] at this
      exact this
    rw [e]
    rfl
  rw [Bool.eq_iff_iff]
  unfold nameB nl
  simp only [Bool.and_eq_true, decide_eq_true_eq, hl]
  rw [bytesOk_iff s s.size (Nat.le_refl _)]
  constructor
  · rintro ⟨h1, h2, h3⟩
    have ha : ∀ i (hi : i < s.size), s[i].toNat < 128 := fun i hi => by
      have := h1 i hi hi
      unfold byteOk at this
      simp only [Bool.and_eq_true, decide_eq_true_eq] at this
      exact this.1
    rw [isWord_ascii ha, Bool.and_eq_true, decide_eq_true_eq] at h3
    refine ⟨⟨⟨h3.1, h2⟩, h3.2⟩, ?_⟩
    rw [hhead h3.1]
    have := h1 0 h3.1 h3.1
    unfold byteOk at this
    simp only [Bool.and_eq_true, decide_eq_true_eq, beq_self_eq_true, Bool.true_and] at this
    exact this.2
  · rintro ⟨⟨⟨h0, h2⟩, h3⟩, h4⟩
    have hl7 := hall.1 h3
    have ha : ∀ i (hi : i < s.size), s[i].toNat < 128 := fun i hi => by
      have := hl7 i hi
      unfold let7 at this
      simp only [decide_eq_true_eq] at this
      omega
    rw [hhead h0] at h4
    refine ⟨fun i hi _ => ?_, h2, ?_⟩
    · unfold byteOk
      simp only [Bool.and_eq_true, decide_eq_true_eq]
      refine ⟨ha i hi, ?_⟩
      by_cases e : i = 0
      · subst e; simpa using h4
      · simp [e]
    · rw [isWord_ascii ha, Bool.and_eq_true, decide_eq_true_eq]
      exact ⟨h0, h3⟩
end Go.Proofs.Ytfejjfbhlmjkeaa.C
set_option linter.unusedVariables false
set_option linter.unusedSimpArgs false
namespace Go.Proofs.Ytfejjfbhlmjkeaa.C
open Go.RowKit Go.Proofs.YtfejjfbhlmjkeaaW.PrintWords Go.Proofs.YtfejjfbhlmjkeaaW.PrintLast Go.Proofs.YtfejjfbhlmjkeaaW.PrintMore Go.Proofs.Ytfejjfbhlmjkeaa.B Go.Proofs.Ytfejjfbhlmjkeaa.Reg Go.Proofs.Ytfejjfbhlmjkeaa.PRecordIs Go.Proofs.Ytfejjfbhlmjkeaa.CQ
/-- Whether a label may stand at a place of a row. -/
def labAt (xs : List S47) (i : Nat) : Bool := nameB (xs.getD i z47).f0 && (decide ((xs.getD i z47).f1.size ≤ 20) && (i == 0 || Op.bytesLess (xs.getD (i - 1) z47).f0.toList (xs.getD i z47).f0.toList))
def labsOk (xs : List S47) : Nat → Bool
  | 0 => true
  | i + 1 => labsOk xs i && labAt xs i
def goodL (xs : List S47) : Bool := labsOk xs xs.length && decide (xs.length ≤ 4)
theorem labsOk_not {xs : List S47} {i : Nat} (h : labsOk xs i = false) : ∀ n, i ≤ n → labsOk xs n = false := by
  intro n
  induction n with
  | zero => intro hi; rw [show i = 0 by omega] at h; exact h
  | succ n ih =>
    intro hi
    by_cases e : i = n + 1
    · subst e; exact h
    · simp only [labsOk]
      rw [ih (by omega)]; rfl
theorem getD47 {xs : List S47} {i : Nat} (h : i < xs.length) : xs.getD i z47 = xs[i] := by
  rw [List.getD_eq_getElem?_getD, List.getElem?_eq_getElem h]; rfl
theorem heap_below {w w' : World} {j : Nat} {o : Obj} (h : Below w.heap.size w w') (k : w.heap[j]? = some o) : w'.heap[j]? = some o := (h.block j (Array.getElem?_eq_some_iff.1 k).1).trans k
theorem cell_below {w w' : World} {p : Addr} {v : Value} (h : Below w.heap.size w w') (hc : w.cell? p = some v) : w'.cell? p = some v := by
  refine (h.cell ?_).trans hc
  unfold World.cell? at hc
  rcases Nat.lt_or_ge p.block w.heap.size with hl | hl
  · exact hl
  · rw [Array.getElem?_eq_none hl] at hc; cases hc
def T_record_labels_4 : Bool × List (List Nat × List Nat) := (true, [([], []), ([0], [0]), ([1], [1]), ([2], [2]), ([3, 2], [3]), ([4], [4]), ([5, 4], [4, 5]), ([6, 4], [4, 6]), ([7, 4], [4, 7]), ([4, 8], [4, 8]), ([9, 4], [9]), ([10], [10]), ([11, 10], [10, 11]), ([12, 10, 10], [10, 12]), ([13], [13]), ([13], [13]), ([15, 13], [13, 15]), ([14, 16, 13], [13, 14, 16]), ([17, 13], [13, 17]), ([18, 13], [13, 18]), ([13], [13]), ([20, 13], [13, 20]), ([19, 21, 13], [13, 19, 21]), ([13, 22, 10], [10, 13, 22]), ([10, 23], [10, 23])])
def B_record_labels_4 : List Nat := [0, 1, 3, 7, 15, 31, 63, 127, 255, 511, 1023, 2047, 4095, 8191, 16383, 16383, 49151, 131071, 262143, 524287, 16383, 1064959, 4194303, 8388607, 16777215]
theorem tab_record_labels_4 : rtab .any (opsOf Try.f61 4) = T_record_labels_4 := by kernel_rfl
theorem bits_record_labels_4 : waitsOk T_record_labels_4.2 B_record_labels_4 = true := by kernel_rfl
set_option maxRecDepth 20000 in
set_option maxHeartbeats 4000000 in
theorem labels_any (xs : List S47) (A : Option Addr) (c : Nat) (w : World) (hx : Kd.C k47 w A xs.length xs) (hm : xs.length ≤ 100000) (hs : ∀ x ∈ xs, x.f0.size ≤ 4611686018427) :
    Calls Try.prog 61 #[.slice A xs.length c] w fun e w' => e = .returned (.bool (goodL xs)) ∧ Below w.heap.size w w' := by
  have HX := Aside0.mk hx
  have HM := Aside0.mk hm
  have HSz := Aside0.mk hs
  have HG : Aside0 (goodL xs = (labsOk xs xs.length && decide (xs.length ≤ 4))) := ⟨rfl⟩
  obtain ⟨q, hq⟩ : ∃ q, q = goodL xs := ⟨_, rfl⟩
  rw [← hq] at HG ⊢
  clear hx hm hs hq
  go_enter Try.func61, Try.ntmps61
  go_wp2
  go_loopw [7] (fun t7 wr => ∃ (i : Nat), i ≤ xs.length ∧ t7 = .int .i64 (i : Int) ∧ Aside0 (Below w.heap.size w wr) ∧ Aside0 (labsOk xs i = true)) (fun t7 _ => xs.length - (intOf t7).toNat)
  case atStart => exact ⟨0, Nat.zero_le _, rfl, ⟨Below.refl _ w⟩, ⟨rfl⟩⟩
  case round =>
    obtain ⟨i, hi, rfl, HBw, HO⟩ := hrel
    by_cases hlt : i < xs.length
    · have d1 : decide (i < xs.length) = true := decide_eq_true hlt
      obtain ⟨ad, hA, k0, k1⟩ := at_T47 (Kd.C_below HX.out HBw.out) (i : Int) (by omega) (by omega)
      subst hA
      rw [Int.toNat_natCast] at k0 k1
      rw [at47 hlt] at k0 k1
      have HE : Aside0 (labsOk xs (i + 1) = labAt xs i) := ⟨by simp only [labsOk]; rw [HO.out]; rfl⟩
      have HA : Aside0 (labAt xs i = (nameB xs[i].f0 && (decide (xs[i].f1.size ≤ 20) && (i == 0 || Op.bytesLess (xs.getD (i - 1) z47).f0.toList xs[i].f0.toList)))) := ⟨by unfold labAt; rw [getD47 hlt]⟩
      have HNm : Aside0 (∀ V, Calls Try.prog 28 #[.string xs[i].f0] V fun e w' => e = .returned (.bool (nameB xs[i].f0)) ∧ Below V.heap.size V w') := ⟨fun V => name_any _ V (HSz.out _ (List.getElem_mem hlt))⟩
      obtain ⟨x, hxe⟩ : ∃ x, x = xs[i] := ⟨_, rfl⟩
      rw [← hxe] at k0 k1 HA HNm
      obtain ⟨x0, x1⟩ := x
      clear hxe
      dsimp only at k0 k1 HA HNm
      obtain ⟨nm, hnm⟩ : ∃ b, b = nameB x0 := ⟨_, rfl⟩
      rw [← hnm] at HA HNm
      clear hnm
      have Hlt := Aside0.mk hlt
      have STOP : Aside0 (labAt xs i = false → q = false) := ⟨fun h => by
        rw [HG.out, labsOk_not (HE.out.trans h) xs.length (by have := Hlt.out; omega)]; rfl⟩
      have GO : Aside0 (labAt xs i = true → labsOk xs (i + 1) = true) := ⟨fun h => HE.out.trans h⟩
      clear HE HO
      obtain ⟨W, hW⟩ : ∃ W, W = wr.alloc (.cells #[.string x0, .string x1] 47) := ⟨_, rfl⟩
      obtain ⟨j, hj⟩ : ∃ j, j = wr.heap.size := ⟨_, rfl⟩
      have HB : Aside0 (Below w.heap.size w W) := ⟨by rw [hW]; exact below_alloc HBw.out _⟩
      have X0 : Aside0 (W.heap[j]? = some (.cells #[.string x0, .string x1] 47)) := ⟨by rw [hW, hj]; exact Go.heap_alloc_new _ _⟩
      have HKC : Aside0 (Kd.C k47 W (some ad) xs.length xs) := ⟨Kd.C_below HX.out HB.out⟩
      have HW := Aside0.mk hW
      have HJ := Aside0.mk hj
      clear hW hj hi HBw
      by_cases hnm : nm = true
      · subst hnm
        by_cases h20 : x1.size ≤ 20
        · have g1 : decide ((20 : Int) < (x1.size : Int)) = false := decide_eq_false (by omega)
          have g2 : decide (20 < x1.size) = false := decide_eq_false (by omega)
          have H20 := Aside0.mk h20
          by_cases hi0 : i = 0
          · have HT := Aside0.mk (GO.out (by rw [HA.out, decide_eq_true H20.out, hi0]; rfl))
            have z0 : decide (0 < i) = false := decide_eq_false (by omega)
            clear GO STOP HA h20 hi0
            go_wp2_with fail
            try rw [← HW.out]
            try rw [← HJ.out]
            clear HW HJ
            refine start_ (n := 25) (S := fun x_ => Below W.heap.size W x_) (ds := []) #[false, false, false, false, false, false, false, false, false, false, false, false, false, false, false, false, false, false, false, false, false, false, false, false, false] (by kernel_rfl) rfl rfl (pw_below_drewN (Below.refl _ _) 1) (fun hHeld => ?_)
            refine with_tabW tab_record_labels_4 bits_record_labels_4 (fun HT_ HW_ => ?_)
            have HB := Aside0.mk (pw_below_drewN HB.out 1)
            change Aside0 (Below _ _ (World.drew W)) at HB
            change Below _ _ (World.drew W) at hHeld
            have hSz : (World.drew W).heap.size = W.heap.size := rfl
            have X0 := Aside0.mk (show (World.drew W).heap[j]? = _ from X0.out)
            refine wpAnyLast_str (S' := fun x_ => Below (World.drew W).heap.size (World.drew W) x_) (fun x_ hx_ => below_step hHeld hx_) (Below.refl _ _) ?_
            clear hHeld hSz
            generalize World.drew W = Wd at *
            have HS := Aside0.mk (Below.refl Wd.heap.size Wd)
            refine pure_ (i := 0) (N := (some 12)) (v := ?_) (a' := ?_) #[true, false, false, false, false, false, false, false, false, false, false, false, false, false, false, false, false, false, false, false, false, false, false, false, false] rfl rfl (any_of HT_.out (by kernel_rfl)) (fun _ _ _ h => h) (Or.inl ⟨by rfl, ?_⟩) ?_ ?_
            rotate_left
            · intro w_
              go_simp
              try with_reducible rfl
            rotate_left
            · simp only [Act.put, List.setIfInBounds_toArray, List.set_cons_zero, List.set_cons_succ, i64_w, i32_w]
              rfl
            refine take_ (i := 1) (N := (some 13)) (v := ?_) (a' := ?_) #[true, true, false, false, false, false, false, false, false, false, false, false, false, false, false, false, false, false, false, false, false, false, false, false, false] rfl rfl (take_ofW HT_.out HW_.out (by kernel_rfl)) (fun _ _ _ h => h) (Or.inl ⟨by rfl, ?_⟩) (Below.refl _ _) ?_ ?_
            rotate_left
            · intro Wx hWx
              have hc := (blk_cell (heap_below hWx X0.out) 0).trans rfl
              go_simp
              try with_reducible rfl
            rotate_left
            · simp only [Act.put, List.setIfInBounds_toArray, List.set_cons_zero, List.set_cons_succ, i64_w, i32_w]
              rfl
            refine one_ (i := 2) (N := (some 14)) #[true, true, true, false, false, false, false, false, false, false, false, false, false, false, false, false, false, false, false, false, false, false, false, false, false] rfl rfl (one_of HT_.out (by kernel_rfl)) (by decide) (fun K hK => ?_)
            refine goes_ Try.func28 (by kernel_rfl) rfl #[.string x0] (by rfl) rfl rfl (by (try simp only [List.map_toArray, List.map_cons, List.map_nil]); first | done | rfl) ?_
            refine (HNm.out _).mono ?_
            rintro e w4_2 ⟨rfl, hb_1⟩
            refine ⟨_, rfl, ?_⟩
            have X0 := Aside0.mk (heap_below hb_1 X0.out)
            have hb_ : Below Wd.heap.size Wd w4_2 := hb_1
            have HB := Aside0.mk (below_step HB.out hb_)
            refine hK.out _ _ hb_ (fun hHeld => ?_)
            clear hK K
            refine wpAnyLast_str (S' := fun x_ => Below w4_2.heap.size w4_2 x_) (fun x_ hx_ => below_step hHeld hx_) (Below.refl _ _) ?_
            clear hHeld
            (try clear hb)
            clear hb_
            have HS := Aside0.mk (Below.refl w4_2.heap.size w4_2)
            refine norm_ (a' := ?_) ?_ ?_
            rotate_left
            · show Act.put _ (some 14) _ = _
              simp only [Act.put, List.setIfInBounds_toArray, List.set_cons_zero, List.set_cons_succ, i64_w, i32_w]
              rfl
            refine pure_ (i := 3) (N := (some 15)) (v := ?_) (a' := ?_) #[true, true, true, true, false, false, false, false, false, false, false, false, false, false, false, false, false, false, false, false, false, false, false, false, false] rfl rfl (any_of HT_.out (by kernel_rfl)) (fun _ _ _ h => h) (Or.inl ⟨by rfl, ?_⟩) ?_ ?_
            rotate_left
            · intro w_
              go_simp
              try with_reducible rfl
            rotate_left
            · simp only [Act.put, List.setIfInBounds_toArray, List.set_cons_zero, List.set_cons_succ, i64_w, i32_w]
              rfl
            refine pure_ (i := 4) (N := (some 16)) (v := ?_) (a' := ?_) #[true, true, true, true, true, false, false, false, false, false, false, false, false, false, false, false, false, false, false, false, false, false, false, false, false] rfl rfl (any_of HT_.out (by kernel_rfl)) (fun _ _ _ h => h) (Or.inl ⟨by rfl, ?_⟩) ?_ ?_
            rotate_left
            · intro w_
              go_simp
              try with_reducible rfl
            rotate_left
            · simp only [Act.put, List.setIfInBounds_toArray, List.set_cons_zero, List.set_cons_succ, i64_w, i32_w]
              rfl
            refine pure_ (i := 5) (N := (some 17)) (v := ?_) (a' := ?_) #[true, true, true, true, true, true, false, false, false, false, false, false, false, false, false, false, false, false, false, false, false, false, false, false, false] rfl rfl (any_of HT_.out (by kernel_rfl)) (fun _ _ _ h => h) (Or.inl ⟨by rfl, ?_⟩) ?_ ?_
            rotate_left
            · intro w_
              go_simp
              try with_reducible rfl
            rotate_left
            · simp only [Act.put, List.setIfInBounds_toArray, List.set_cons_zero, List.set_cons_succ, i64_w, i32_w]
              rfl
            refine take_ (i := 6) (N := (some 18)) (v := ?_) (a' := ?_) #[true, true, true, true, true, true, true, false, false, false, false, false, false, false, false, false, false, false, false, false, false, false, false, false, false] rfl rfl (take_ofW HT_.out HW_.out (by kernel_rfl)) (fun _ _ _ h => h) (Or.inl ⟨by rfl, ?_⟩) (Below.refl _ _) ?_ ?_
            rotate_left
            · intro Wx hWx
              have hc := (blk_cell (heap_below hWx X0.out) 1).trans rfl
              go_simp
              try with_reducible rfl
            rotate_left
            · simp only [Act.put, List.setIfInBounds_toArray, List.set_cons_zero, List.set_cons_succ, i64_w, i32_w]
              rfl
            refine pure_ (i := 7) (N := (some 19)) (v := ?_) (a' := ?_) #[true, true, true, true, true, true, true, true, false, false, false, false, false, false, false, false, false, false, false, false, false, false, false, false, false] rfl rfl (any_of HT_.out (by kernel_rfl)) (fun _ _ _ h => h) (Or.inl ⟨by rfl, ?_⟩) ?_ ?_
            rotate_left
            · intro w_
              go_simp
              try with_reducible rfl
            rotate_left
            · simp only [Act.put, List.setIfInBounds_toArray, List.set_cons_zero, List.set_cons_succ, i64_w, i32_w]
              rfl
            refine pure_ (i := 8) (N := (some 20)) (v := ?_) (a' := ?_) #[true, true, true, true, true, true, true, true, true, false, false, false, false, false, false, false, false, false, false, false, false, false, false, false, false] rfl rfl (any_of HT_.out (by kernel_rfl)) (fun _ _ _ h => h) (Or.inl ⟨by rfl, ?_⟩) ?_ ?_
            rotate_left
            · intro w_
              go_simp
              try with_reducible rfl
            rotate_left
            · simp only [Act.put, List.setIfInBounds_toArray, List.set_cons_zero, List.set_cons_succ, i64_w, i32_w]
              rfl
            refine pure_ (i := 9) (N := (some 21)) (v := ?_) (a' := ?_) #[true, true, true, true, true, true, true, true, true, true, false, false, false, false, false, false, false, false, false, false, false, false, false, false, false] rfl rfl (any_of HT_.out (by kernel_rfl)) (fun _ _ _ h => h) (Or.inl ⟨by rfl, ?_⟩) ?_ ?_
            rotate_left
            · intro w_
              go_simp
              try with_reducible rfl
            rotate_left
            · simp only [Act.put, List.setIfInBounds_toArray, List.set_cons_zero, List.set_cons_succ, i64_w, i32_w]
              rfl
            refine pure_ (i := 10) (N := (some 22)) (v := ?_) (a' := ?_) #[true, true, true, true, true, true, true, true, true, true, true, false, false, false, false, false, false, false, false, false, false, false, false, false, false] rfl rfl (any_of HT_.out (by kernel_rfl)) (fun _ _ _ h => h) (Or.inl ⟨by rfl, ?_⟩) ?_ ?_
            rotate_left
            · intro w_
              go_simp
              try with_reducible rfl
            rotate_left
            · simp only [Act.put, List.setIfInBounds_toArray, List.set_cons_zero, List.set_cons_succ, i64_w, i32_w]
              rfl
            refine pure_ (i := 11) (N := (some 23)) (v := ?_) (a' := ?_) #[true, true, true, true, true, true, true, true, true, true, true, true, false, false, false, false, false, false, false, false, false, false, false, false, false] rfl rfl (any_of HT_.out (by kernel_rfl)) (fun _ _ _ h => h) (Or.inl ⟨by rfl, ?_⟩) ?_ ?_
            rotate_left
            · intro w_
              go_simp
              try with_reducible rfl
            rotate_left
            · simp only [Act.put, List.setIfInBounds_toArray, List.set_cons_zero, List.set_cons_succ, i64_w, i32_w]
              rfl
            refine pure_ (i := 12) (N := (some 24)) (v := ?_) (a' := ?_) #[true, true, true, true, true, true, true, true, true, true, true, true, true, false, false, false, false, false, false, false, false, false, false, false, false] rfl rfl (any_of HT_.out (by kernel_rfl)) (fun _ _ _ h => h) (Or.inl ⟨by rfl, ?_⟩) ?_ ?_
            rotate_left
            · intro w_
              go_simp
              try with_reducible rfl
            rotate_left
            · simp only [Act.put, List.setIfInBounds_toArray, List.set_cons_zero, List.set_cons_succ, i64_w, i32_w]
              rfl
            refine pure_ (i := 13) (N := (some 25)) (v := ?_) (a' := ?_) #[true, true, true, true, true, true, true, true, true, true, true, true, true, true, false, false, false, false, false, false, false, false, false, false, false] rfl rfl (any_of HT_.out (by kernel_rfl)) (fun _ _ _ h => h) (Or.inl ⟨by rfl, ?_⟩) ?_ ?_
            rotate_left
            · intro w_
              go_simp
              try with_reducible rfl
            rotate_left
            · simp only [Act.put, List.setIfInBounds_toArray, List.set_cons_zero, List.set_cons_succ, i64_w, i32_w]
              rfl
            refine pure_ (i := 14) (N := (some 26)) (v := undef) (a' := ?_) #[true, true, true, true, true, true, true, true, true, true, true, true, true, true, true, false, false, false, false, false, false, false, false, false, false] rfl rfl (any_of HT_.out (by kernel_rfl)) (fun _ _ _ h => h) (Or.inr ⟨by rfl, rfl⟩) ?_ ?_
            rotate_left
            · simp only [Act.put, List.setIfInBounds_toArray, List.set_cons_zero, List.set_cons_succ, i64_w, i32_w]
              rfl
            refine pure_ (i := 15) (N := (some 27)) (v := undef) (a' := ?_) #[true, true, true, true, true, true, true, true, true, true, true, true, true, true, true, true, false, false, false, false, false, false, false, false, false] rfl rfl (any_of HT_.out (by kernel_rfl)) (fun _ _ _ h => h) (Or.inr ⟨by rfl, rfl⟩) ?_ ?_
            rotate_left
            · simp only [Act.put, List.setIfInBounds_toArray, List.set_cons_zero, List.set_cons_succ, i64_w, i32_w]
              rfl
            refine pure_ (i := 16) (N := (some 28)) (v := undef) (a' := ?_) #[true, true, true, true, true, true, true, true, true, true, true, true, true, true, true, true, true, false, false, false, false, false, false, false, false] rfl rfl (any_of HT_.out (by kernel_rfl)) (fun _ _ _ h => h) (Or.inr ⟨by rfl, rfl⟩) ?_ ?_
            rotate_left
            · simp only [Act.put, List.setIfInBounds_toArray, List.set_cons_zero, List.set_cons_succ, i64_w, i32_w]
              rfl
            refine pure_ (i := 17) (N := (some 29)) (v := undef) (a' := ?_) #[true, true, true, true, true, true, true, true, true, true, true, true, true, true, true, true, true, true, false, false, false, false, false, false, false] rfl rfl (any_of HT_.out (by kernel_rfl)) (fun _ _ _ h => h) (Or.inr ⟨by rfl, rfl⟩) ?_ ?_
            rotate_left
            · simp only [Act.put, List.setIfInBounds_toArray, List.set_cons_zero, List.set_cons_succ, i64_w, i32_w]
              rfl
            refine pure_ (i := 18) (N := (some 30)) (v := undef) (a' := ?_) #[true, true, true, true, true, true, true, true, true, true, true, true, true, true, true, true, true, true, true, false, false, false, false, false, false] rfl rfl (any_of HT_.out (by kernel_rfl)) (fun _ _ _ h => h) (Or.inr ⟨by rfl, rfl⟩) ?_ ?_
            rotate_left
            · simp only [Act.put, List.setIfInBounds_toArray, List.set_cons_zero, List.set_cons_succ, i64_w, i32_w]
              rfl
            refine pure_ (i := 19) (N := (some 31)) (v := undef) (a' := ?_) #[true, true, true, true, true, true, true, true, true, true, true, true, true, true, true, true, true, true, true, true, false, false, false, false, false] rfl rfl (any_of HT_.out (by kernel_rfl)) (fun _ _ _ h => h) (Or.inr ⟨by rfl, rfl⟩) ?_ ?_
            rotate_left
            · simp only [Act.put, List.setIfInBounds_toArray, List.set_cons_zero, List.set_cons_succ, i64_w, i32_w]
              rfl
            refine pure_ (i := 20) (N := (some 32)) (v := undef) (a' := ?_) #[true, true, true, true, true, true, true, true, true, true, true, true, true, true, true, true, true, true, true, true, true, false, false, false, false] rfl rfl (any_of HT_.out (by kernel_rfl)) (fun _ _ _ h => h) (Or.inr ⟨by rfl, rfl⟩) ?_ ?_
            rotate_left
            · simp only [Act.put, List.setIfInBounds_toArray, List.set_cons_zero, List.set_cons_succ, i64_w, i32_w]
              rfl
            refine pure_ (i := 21) (N := (some 33)) (v := undef) (a' := ?_) #[true, true, true, true, true, true, true, true, true, true, true, true, true, true, true, true, true, true, true, true, true, true, false, false, false] rfl rfl (any_of HT_.out (by kernel_rfl)) (fun _ _ _ h => h) (Or.inr ⟨by rfl, rfl⟩) ?_ ?_
            rotate_left
            · simp only [Act.put, List.setIfInBounds_toArray, List.set_cons_zero, List.set_cons_succ, i64_w, i32_w]
              rfl
            refine pure_ (i := 22) (N := (some 34)) (v := undef) (a' := ?_) #[true, true, true, true, true, true, true, true, true, true, true, true, true, true, true, true, true, true, true, true, true, true, true, false, false] rfl rfl (any_of HT_.out (by kernel_rfl)) (fun _ _ _ h => h) (Or.inr ⟨by rfl, rfl⟩) ?_ ?_
            rotate_left
            · simp only [Act.put, List.setIfInBounds_toArray, List.set_cons_zero, List.set_cons_succ, i64_w, i32_w]
              rfl
            refine pure_ (i := 23) (N := (some 35)) (v := ?_) (a' := ?_) #[true, true, true, true, true, true, true, true, true, true, true, true, true, true, true, true, true, true, true, true, true, true, true, true, false] rfl rfl (any_of HT_.out (by kernel_rfl)) (fun _ _ _ h => h) (Or.inl ⟨by rfl, ?_⟩) ?_ ?_
            rotate_left
            · intro w_
              go_simp
              try with_reducible rfl
            rotate_left
            · simp only [Act.put, List.setIfInBounds_toArray, List.set_cons_zero, List.set_cons_succ, i64_w, i32_w]
              rfl
            refine pure_ (i := 24) (N := (some 36)) (v := ?_) (a' := ?_) #[true, true, true, true, true, true, true, true, true, true, true, true, true, true, true, true, true, true, true, true, true, true, true, true, true] rfl rfl (any_of HT_.out (by kernel_rfl)) (fun _ _ _ h => h) (Or.inl ⟨by rfl, ?_⟩) ?_ ?_
            rotate_left
            · intro w_
              go_simp
              try with_reducible rfl
            rotate_left
            · simp only [Act.put, List.setIfInBounds_toArray, List.set_cons_zero, List.set_cons_succ, i64_w, i32_w]
              rfl
            refine done_ (done_of HT_.out (by kernel_rfl)) ?_
            go_wp2_with fail
            go_roundw
            case rel => exact ⟨i + 1, by have := Hlt.out; omega, by rw [w64_in _ (by have := Hlt.out; have := HM.out; omega)]; rfl, HB, HT⟩
            case measure => have h1 := Hlt.out; have h2 := HM.out; rw [w64_in _ (by omega)]; simp [intOf]; omega
          · obtain ⟨ip, rfl⟩ : ∃ ip, i = ip + 1 := ⟨i - 1, by omega⟩
            have hip : ip < xs.length := by omega
            have HP : Aside0 (xs.getD (ip + 1 - 1) z47 = xs[ip]) := ⟨getD47 hip⟩
            obtain ⟨ad2, hA2, m0, m1⟩ := at_T47 HKC.out (ip : Int) (by omega) (by omega)
            obtain rfl : ad2 = ad := (Option.some.inj hA2).symm
            rw [Int.toNat_natCast] at m0
            rw [at47 hip] at m0
            obtain ⟨p0, hp0⟩ : ∃ p, p = xs[ip].f0 := ⟨_, rfl⟩
            rw [← hp0] at m0
            rw [HP.out, ← hp0] at HA
            have P0 := Aside0.mk m0
            obtain ⟨lt, hltb⟩ : ∃ b, b = Op.bytesLess p0.toList x0.toList := ⟨_, rfl⟩
            have HLt := Aside0.mk hltb
            have HA2 : Aside0 (labAt xs (ip + 1) = lt) := ⟨by rw [HA.out, decide_eq_true H20.out, hltb]; rfl⟩
            have hwp : wrap64 (ip : Int) = (ip : Int) := w64_in _ (by have := HM.out; omega)
            have jz1 : (ip : Int) < (xs.length : Int) := by omega
            have e0 : ((ip : Int) + 1).toNat = ip + 1 := by omega
            replace hltb := hltb.symm
            clear hp0 m0 m1 hA2 HA HP hi0 h20 hip
            by_cases hlb : lt = true
            · have HT := Aside0.mk (GO.out (HA2.out.trans hlb))
              subst hlb
              clear GO STOP HA2
              go_wp2_with fail
              try rw [← HW.out]
              try rw [← HJ.out]
              clear HW HJ
              refine start_ (n := 25) (S := fun x_ => Below W.heap.size W x_) (ds := []) #[false, false, false, false, false, false, false, false, false, false, false, false, false, false, false, false, false, false, false, false, false, false, false, false, false] (by kernel_rfl) rfl rfl (pw_below_drewN (Below.refl _ _) 1) (fun hHeld => ?_)
              refine with_tabW tab_record_labels_4 bits_record_labels_4 (fun HT_ HW_ => ?_)
              have HB := Aside0.mk (pw_below_drewN HB.out 1)
              change Aside0 (Below _ _ (World.drew W)) at HB
              change Below _ _ (World.drew W) at hHeld
              have hSz : (World.drew W).heap.size = W.heap.size := rfl
              have X0 := Aside0.mk (show (World.drew W).heap[j]? = _ from X0.out)
              have P0 := Aside0.mk (show (World.drew W).cell? _ = _ from P0.out)
              refine wpAnyLast_str (S' := fun x_ => Below (World.drew W).heap.size (World.drew W) x_) (fun x_ hx_ => below_step hHeld hx_) (Below.refl _ _) ?_
              clear hHeld hSz
              generalize World.drew W = Wd at *
              have HS := Aside0.mk (Below.refl Wd.heap.size Wd)
              refine pure_ (i := 0) (N := (some 12)) (v := ?_) (a' := ?_) #[true, false, false, false, false, false, false, false, false, false, false, false, false, false, false, false, false, false, false, false, false, false, false, false, false] rfl rfl (any_of HT_.out (by kernel_rfl)) (fun _ _ _ h => h) (Or.inl ⟨by rfl, ?_⟩) ?_ ?_
              rotate_left
              · intro w_
                go_simp
                try with_reducible rfl
              rotate_left
              · simp only [Act.put, List.setIfInBounds_toArray, List.set_cons_zero, List.set_cons_succ, i64_w, i32_w]
                rfl
              refine take_ (i := 1) (N := (some 13)) (v := ?_) (a' := ?_) #[true, true, false, false, false, false, false, false, false, false, false, false, false, false, false, false, false, false, false, false, false, false, false, false, false] rfl rfl (take_ofW HT_.out HW_.out (by kernel_rfl)) (fun _ _ _ h => h) (Or.inl ⟨by rfl, ?_⟩) (Below.refl _ _) ?_ ?_
              rotate_left
              · intro Wx hWx
                have hc := (blk_cell (heap_below hWx X0.out) 0).trans rfl
                go_simp
                try with_reducible rfl
              rotate_left
              · simp only [Act.put, List.setIfInBounds_toArray, List.set_cons_zero, List.set_cons_succ, i64_w, i32_w]
                rfl
              refine one_ (i := 2) (N := (some 14)) #[true, true, true, false, false, false, false, false, false, false, false, false, false, false, false, false, false, false, false, false, false, false, false, false, false] rfl rfl (one_of HT_.out (by kernel_rfl)) (by decide) (fun K hK => ?_)
              refine goes_ Try.func28 (by kernel_rfl) rfl #[.string x0] (by rfl) rfl rfl (by (try simp only [List.map_toArray, List.map_cons, List.map_nil]); first | done | rfl) ?_
              refine (HNm.out _).mono ?_
              rintro e w4_2 ⟨rfl, hb_1⟩
              refine ⟨_, rfl, ?_⟩
              have X0 := Aside0.mk (heap_below hb_1 X0.out)
              have P0 := Aside0.mk (cell_below hb_1 P0.out)
              have hb_ : Below Wd.heap.size Wd w4_2 := hb_1
              have HB := Aside0.mk (below_step HB.out hb_)
              refine hK.out _ _ hb_ (fun hHeld => ?_)
              clear hK K
              refine wpAnyLast_str (S' := fun x_ => Below w4_2.heap.size w4_2 x_) (fun x_ hx_ => below_step hHeld hx_) (Below.refl _ _) ?_
              clear hHeld
              (try clear hb)
              clear hb_
              have HS := Aside0.mk (Below.refl w4_2.heap.size w4_2)
              refine norm_ (a' := ?_) ?_ ?_
              rotate_left
              · show Act.put _ (some 14) _ = _
                simp only [Act.put, List.setIfInBounds_toArray, List.set_cons_zero, List.set_cons_succ, i64_w, i32_w]
                rfl
              refine pure_ (i := 3) (N := (some 15)) (v := ?_) (a' := ?_) #[true, true, true, true, false, false, false, false, false, false, false, false, false, false, false, false, false, false, false, false, false, false, false, false, false] rfl rfl (any_of HT_.out (by kernel_rfl)) (fun _ _ _ h => h) (Or.inl ⟨by rfl, ?_⟩) ?_ ?_
              rotate_left
              · intro w_
                go_simp
                try with_reducible rfl
              rotate_left
              · simp only [Act.put, List.setIfInBounds_toArray, List.set_cons_zero, List.set_cons_succ, i64_w, i32_w]
                rfl
              refine pure_ (i := 4) (N := (some 16)) (v := ?_) (a' := ?_) #[true, true, true, true, true, false, false, false, false, false, false, false, false, false, false, false, false, false, false, false, false, false, false, false, false] rfl rfl (any_of HT_.out (by kernel_rfl)) (fun _ _ _ h => h) (Or.inl ⟨by rfl, ?_⟩) ?_ ?_
              rotate_left
              · intro w_
                go_simp
                try with_reducible rfl
              rotate_left
              · simp only [Act.put, List.setIfInBounds_toArray, List.set_cons_zero, List.set_cons_succ, i64_w, i32_w]
                rfl
              refine pure_ (i := 5) (N := (some 17)) (v := ?_) (a' := ?_) #[true, true, true, true, true, true, false, false, false, false, false, false, false, false, false, false, false, false, false, false, false, false, false, false, false] rfl rfl (any_of HT_.out (by kernel_rfl)) (fun _ _ _ h => h) (Or.inl ⟨by rfl, ?_⟩) ?_ ?_
              rotate_left
              · intro w_
                go_simp
                try with_reducible rfl
              rotate_left
              · simp only [Act.put, List.setIfInBounds_toArray, List.set_cons_zero, List.set_cons_succ, i64_w, i32_w]
                rfl
              refine take_ (i := 6) (N := (some 18)) (v := ?_) (a' := ?_) #[true, true, true, true, true, true, true, false, false, false, false, false, false, false, false, false, false, false, false, false, false, false, false, false, false] rfl rfl (take_ofW HT_.out HW_.out (by kernel_rfl)) (fun _ _ _ h => h) (Or.inl ⟨by rfl, ?_⟩) (Below.refl _ _) ?_ ?_
              rotate_left
              · intro Wx hWx
                have hc := (blk_cell (heap_below hWx X0.out) 1).trans rfl
                go_simp
                try with_reducible rfl
              rotate_left
              · simp only [Act.put, List.setIfInBounds_toArray, List.set_cons_zero, List.set_cons_succ, i64_w, i32_w]
                rfl
              refine pure_ (i := 7) (N := (some 19)) (v := ?_) (a' := ?_) #[true, true, true, true, true, true, true, true, false, false, false, false, false, false, false, false, false, false, false, false, false, false, false, false, false] rfl rfl (any_of HT_.out (by kernel_rfl)) (fun _ _ _ h => h) (Or.inl ⟨by rfl, ?_⟩) ?_ ?_
              rotate_left
              · intro w_
                go_simp
                try with_reducible rfl
              rotate_left
              · simp only [Act.put, List.setIfInBounds_toArray, List.set_cons_zero, List.set_cons_succ, i64_w, i32_w]
                rfl
              refine pure_ (i := 8) (N := (some 20)) (v := ?_) (a' := ?_) #[true, true, true, true, true, true, true, true, true, false, false, false, false, false, false, false, false, false, false, false, false, false, false, false, false] rfl rfl (any_of HT_.out (by kernel_rfl)) (fun _ _ _ h => h) (Or.inl ⟨by rfl, ?_⟩) ?_ ?_
              rotate_left
              · intro w_
                go_simp
                try with_reducible rfl
              rotate_left
              · simp only [Act.put, List.setIfInBounds_toArray, List.set_cons_zero, List.set_cons_succ, i64_w, i32_w]
                rfl
              refine pure_ (i := 9) (N := (some 21)) (v := ?_) (a' := ?_) #[true, true, true, true, true, true, true, true, true, true, false, false, false, false, false, false, false, false, false, false, false, false, false, false, false] rfl rfl (any_of HT_.out (by kernel_rfl)) (fun _ _ _ h => h) (Or.inl ⟨by rfl, ?_⟩) ?_ ?_
              rotate_left
              · intro w_
                go_simp
                try with_reducible rfl
              rotate_left
              · simp only [Act.put, List.setIfInBounds_toArray, List.set_cons_zero, List.set_cons_succ, i64_w, i32_w]
                rfl
              refine pure_ (i := 10) (N := (some 22)) (v := ?_) (a' := ?_) #[true, true, true, true, true, true, true, true, true, true, true, false, false, false, false, false, false, false, false, false, false, false, false, false, false] rfl rfl (any_of HT_.out (by kernel_rfl)) (fun _ _ _ h => h) (Or.inl ⟨by rfl, ?_⟩) ?_ ?_
              rotate_left
              · intro w_
                go_simp
                try with_reducible rfl
              rotate_left
              · simp only [Act.put, List.setIfInBounds_toArray, List.set_cons_zero, List.set_cons_succ, i64_w, i32_w]
                rfl
              refine pure_ (i := 11) (N := (some 23)) (v := ?_) (a' := ?_) #[true, true, true, true, true, true, true, true, true, true, true, true, false, false, false, false, false, false, false, false, false, false, false, false, false] rfl rfl (any_of HT_.out (by kernel_rfl)) (fun _ _ _ h => h) (Or.inl ⟨by rfl, ?_⟩) ?_ ?_
              rotate_left
              · intro w_
                go_simp
                try with_reducible rfl
              rotate_left
              · simp only [Act.put, List.setIfInBounds_toArray, List.set_cons_zero, List.set_cons_succ, i64_w, i32_w]
                rfl
              refine pure_ (i := 12) (N := (some 24)) (v := ?_) (a' := ?_) #[true, true, true, true, true, true, true, true, true, true, true, true, true, false, false, false, false, false, false, false, false, false, false, false, false] rfl rfl (any_of HT_.out (by kernel_rfl)) (fun _ _ _ h => h) (Or.inl ⟨by rfl, ?_⟩) ?_ ?_
              rotate_left
              · intro w_
                go_simp
                try with_reducible rfl
              rotate_left
              · simp only [Act.put, List.setIfInBounds_toArray, List.set_cons_zero, List.set_cons_succ, i64_w, i32_w]
                rfl
              refine pure_ (i := 13) (N := (some 25)) (v := ?_) (a' := ?_) #[true, true, true, true, true, true, true, true, true, true, true, true, true, true, false, false, false, false, false, false, false, false, false, false, false] rfl rfl (any_of HT_.out (by kernel_rfl)) (fun _ _ _ h => h) (Or.inl ⟨by rfl, ?_⟩) ?_ ?_
              rotate_left
              · intro w_
                go_simp
                try with_reducible rfl
              rotate_left
              · simp only [Act.put, List.setIfInBounds_toArray, List.set_cons_zero, List.set_cons_succ, i64_w, i32_w]
                rfl
              refine pure_ (i := 14) (N := (some 26)) (v := ?_) (a' := ?_) #[true, true, true, true, true, true, true, true, true, true, true, true, true, true, true, false, false, false, false, false, false, false, false, false, false] rfl rfl (any_of HT_.out (by kernel_rfl)) (fun _ _ _ h => h) (Or.inl ⟨by rfl, ?_⟩) ?_ ?_
              rotate_left
              · intro w_
                go_simp
                try with_reducible rfl
              rotate_left
              · simp only [Act.put, List.setIfInBounds_toArray, List.set_cons_zero, List.set_cons_succ, i64_w, i32_w]
                rfl
              refine pure_ (i := 15) (N := (some 27)) (v := ?_) (a' := ?_) #[true, true, true, true, true, true, true, true, true, true, true, true, true, true, true, true, false, false, false, false, false, false, false, false, false] rfl rfl (any_of HT_.out (by kernel_rfl)) (fun _ _ _ h => h) (Or.inl ⟨by rfl, ?_⟩) ?_ ?_
              rotate_left
              · intro w_
                go_simp
                try with_reducible rfl
              rotate_left
              · simp only [Act.put, List.setIfInBounds_toArray, List.set_cons_zero, List.set_cons_succ, i64_w, i32_w]
                rfl
              refine pure_ (i := 16) (N := (some 28)) (v := ?_) (a' := ?_) #[true, true, true, true, true, true, true, true, true, true, true, true, true, true, true, true, true, false, false, false, false, false, false, false, false] rfl rfl (any_of HT_.out (by kernel_rfl)) (fun _ _ _ h => h) (Or.inl ⟨by rfl, ?_⟩) ?_ ?_
              rotate_left
              · intro w_
                go_simp
                try with_reducible rfl
              rotate_left
              · simp only [Act.put, List.setIfInBounds_toArray, List.set_cons_zero, List.set_cons_succ, i64_w, i32_w]
                rfl
              refine pure_ (i := 17) (N := (some 29)) (v := ?_) (a' := ?_) #[true, true, true, true, true, true, true, true, true, true, true, true, true, true, true, true, true, true, false, false, false, false, false, false, false] rfl rfl (any_of HT_.out (by kernel_rfl)) (fun _ _ _ h => h) (Or.inl ⟨by rfl, ?_⟩) ?_ ?_
              rotate_left
              · intro w_
                go_simp
                try with_reducible rfl
              rotate_left
              · simp only [Act.put, List.setIfInBounds_toArray, List.set_cons_zero, List.set_cons_succ, i64_w, i32_w]
                rfl
              refine pure_ (i := 18) (N := (some 30)) (v := ?_) (a' := ?_) #[true, true, true, true, true, true, true, true, true, true, true, true, true, true, true, true, true, true, true, false, false, false, false, false, false] rfl rfl (any_of HT_.out (by kernel_rfl)) (fun _ _ _ h => h) (Or.inl ⟨by rfl, ?_⟩) ?_ ?_
              rotate_left
              · intro w_
                go_simp
                try with_reducible rfl
              rotate_left
              · simp only [Act.put, List.setIfInBounds_toArray, List.set_cons_zero, List.set_cons_succ, i64_w, i32_w]
                rfl
              refine pure_ (i := 20) (N := (some 32)) (v := ?_) (a' := ?_) #[true, true, true, true, true, true, true, true, true, true, true, true, true, true, true, true, true, true, true, false, true, false, false, false, false] rfl rfl (any_of HT_.out (by kernel_rfl)) (fun _ _ _ h => h) (Or.inl ⟨by rfl, ?_⟩) ?_ ?_
              rotate_left
              · intro w_
                go_simp
                try with_reducible rfl
              rotate_left
              · simp only [Act.put, List.setIfInBounds_toArray, List.set_cons_zero, List.set_cons_succ, i64_w, i32_w]
                rfl
              refine take_ (i := 19) (N := (some 31)) (v := ?_) (a' := ?_) #[true, true, true, true, true, true, true, true, true, true, true, true, true, true, true, true, true, true, true, true, true, false, false, false, false] rfl rfl (take_ofW HT_.out HW_.out (by kernel_rfl)) (fun _ _ _ h => h) (Or.inl ⟨by rfl, ?_⟩) (Below.refl _ _) ?_ ?_
              rotate_left
              · intro Wx hWx
                have hc := cell_below hWx P0.out
                go_simp
                try with_reducible rfl
              rotate_left
              · simp only [Act.put, List.setIfInBounds_toArray, List.set_cons_zero, List.set_cons_succ, i64_w, i32_w]
                rfl
              refine take_ (i := 21) (N := (some 33)) (v := ?_) (a' := ?_) #[true, true, true, true, true, true, true, true, true, true, true, true, true, true, true, true, true, true, true, true, true, true, false, false, false] rfl rfl (take_ofW HT_.out HW_.out (by kernel_rfl)) (fun _ _ _ h => h) (Or.inl ⟨by rfl, ?_⟩) (Below.refl _ _) ?_ ?_
              rotate_left
              · intro Wx hWx
                have hc := (blk_cell (heap_below hWx X0.out) 0).trans rfl
                go_simp
                try with_reducible rfl
              rotate_left
              · simp only [Act.put, List.setIfInBounds_toArray, List.set_cons_zero, List.set_cons_succ, i64_w, i32_w]
                rfl
              refine pure_ (i := 22) (N := (some 34)) (v := ?_) (a' := ?_) #[true, true, true, true, true, true, true, true, true, true, true, true, true, true, true, true, true, true, true, true, true, true, true, false, false] rfl rfl (any_of HT_.out (by kernel_rfl)) (fun _ _ _ h => h) (Or.inl ⟨by rfl, ?_⟩) ?_ ?_
              rotate_left
              · intro w_
                go_simp
                try with_reducible rfl
              rotate_left
              · simp only [Act.put, List.setIfInBounds_toArray, List.set_cons_zero, List.set_cons_succ, i64_w, i32_w]
                rfl
              refine pure_ (i := 23) (N := (some 35)) (v := ?_) (a' := ?_) #[true, true, true, true, true, true, true, true, true, true, true, true, true, true, true, true, true, true, true, true, true, true, true, true, false] rfl rfl (any_of HT_.out (by kernel_rfl)) (fun _ _ _ h => h) (Or.inl ⟨by rfl, ?_⟩) ?_ ?_
              rotate_left
              · intro w_
                go_simp
                try with_reducible rfl
              rotate_left
              · simp only [Act.put, List.setIfInBounds_toArray, List.set_cons_zero, List.set_cons_succ, i64_w, i32_w]
                rfl
              refine pure_ (i := 24) (N := (some 36)) (v := ?_) (a' := ?_) #[true, true, true, true, true, true, true, true, true, true, true, true, true, true, true, true, true, true, true, true, true, true, true, true, true] rfl rfl (any_of HT_.out (by kernel_rfl)) (fun _ _ _ h => h) (Or.inl ⟨by rfl, ?_⟩) ?_ ?_
              rotate_left
              · intro w_
                go_simp
                try with_reducible rfl
              rotate_left
              · simp only [Act.put, List.setIfInBounds_toArray, List.set_cons_zero, List.set_cons_succ, i64_w, i32_w]
                rfl
              refine done_ (done_of HT_.out (by kernel_rfl)) ?_
              go_wp2_with fail
              go_roundw
              case rel => exact ⟨ip + 1 + 1, by have := Hlt.out; omega, by rw [w64_in _ (by have := Hlt.out; have := HM.out; omega)]; rfl, HB, HT⟩
              case measure => have h1 := Hlt.out; have h2 := HM.out; rw [w64_in _ (by omega)]; simp [intOf]; omega
            · have hlb : lt = false := by simpa using hlb
              have HF := Aside0.mk (STOP.out (HA2.out.trans hlb))
              subst hlb
              clear GO STOP HA2
              go_wp2_with fail
              try rw [← HW.out]
              try rw [← HJ.out]
              clear HW HJ
              refine start_ (n := 25) (S := fun x_ => Below W.heap.size W x_) (ds := []) #[false, false, false, false, false, false, false, false, false, false, false, false, false, false, false, false, false, false, false, false, false, false, false, false, false] (by kernel_rfl) rfl rfl (pw_below_drewN (Below.refl _ _) 1) (fun hHeld => ?_)
              refine with_tabW tab_record_labels_4 bits_record_labels_4 (fun HT_ HW_ => ?_)
              have HB := Aside0.mk (pw_below_drewN HB.out 1)
              change Aside0 (Below _ _ (World.drew W)) at HB
              change Below _ _ (World.drew W) at hHeld
              have hSz : (World.drew W).heap.size = W.heap.size := rfl
              have X0 := Aside0.mk (show (World.drew W).heap[j]? = _ from X0.out)
              have P0 := Aside0.mk (show (World.drew W).cell? _ = _ from P0.out)
              refine wpAnyLast_str (S' := fun x_ => Below (World.drew W).heap.size (World.drew W) x_) (fun x_ hx_ => below_step hHeld hx_) (Below.refl _ _) ?_
              clear hHeld hSz
              generalize World.drew W = Wd at *
              have HS := Aside0.mk (Below.refl Wd.heap.size Wd)
              refine pure_ (i := 0) (N := (some 12)) (v := ?_) (a' := ?_) #[true, false, false, false, false, false, false, false, false, false, false, false, false, false, false, false, false, false, false, false, false, false, false, false, false] rfl rfl (any_of HT_.out (by kernel_rfl)) (fun _ _ _ h => h) (Or.inl ⟨by rfl, ?_⟩) ?_ ?_
              rotate_left
              · intro w_
                go_simp
                try with_reducible rfl
              rotate_left
              · simp only [Act.put, List.setIfInBounds_toArray, List.set_cons_zero, List.set_cons_succ, i64_w, i32_w]
                rfl
              refine take_ (i := 1) (N := (some 13)) (v := ?_) (a' := ?_) #[true, true, false, false, false, false, false, false, false, false, false, false, false, false, false, false, false, false, false, false, false, false, false, false, false] rfl rfl (take_ofW HT_.out HW_.out (by kernel_rfl)) (fun _ _ _ h => h) (Or.inl ⟨by rfl, ?_⟩) (Below.refl _ _) ?_ ?_
              rotate_left
              · intro Wx hWx
                have hc := (blk_cell (heap_below hWx X0.out) 0).trans rfl
                go_simp
                try with_reducible rfl
              rotate_left
              · simp only [Act.put, List.setIfInBounds_toArray, List.set_cons_zero, List.set_cons_succ, i64_w, i32_w]
                rfl
              refine one_ (i := 2) (N := (some 14)) #[true, true, true, false, false, false, false, false, false, false, false, false, false, false, false, false, false, false, false, false, false, false, false, false, false] rfl rfl (one_of HT_.out (by kernel_rfl)) (by decide) (fun K hK => ?_)
              refine goes_ Try.func28 (by kernel_rfl) rfl #[.string x0] (by rfl) rfl rfl (by (try simp only [List.map_toArray, List.map_cons, List.map_nil]); first | done | rfl) ?_
              refine (HNm.out _).mono ?_
              rintro e w4_2 ⟨rfl, hb_1⟩
              refine ⟨_, rfl, ?_⟩
              have X0 := Aside0.mk (heap_below hb_1 X0.out)
              have P0 := Aside0.mk (cell_below hb_1 P0.out)
              have hb_ : Below Wd.heap.size Wd w4_2 := hb_1
              have HB := Aside0.mk (below_step HB.out hb_)
              refine hK.out _ _ hb_ (fun hHeld => ?_)
              clear hK K
              refine wpAnyLast_str (S' := fun x_ => Below w4_2.heap.size w4_2 x_) (fun x_ hx_ => below_step hHeld hx_) (Below.refl _ _) ?_
              clear hHeld
              (try clear hb)
              clear hb_
              have HS := Aside0.mk (Below.refl w4_2.heap.size w4_2)
              refine norm_ (a' := ?_) ?_ ?_
              rotate_left
              · show Act.put _ (some 14) _ = _
                simp only [Act.put, List.setIfInBounds_toArray, List.set_cons_zero, List.set_cons_succ, i64_w, i32_w]
                rfl
              refine pure_ (i := 3) (N := (some 15)) (v := ?_) (a' := ?_) #[true, true, true, true, false, false, false, false, false, false, false, false, false, false, false, false, false, false, false, false, false, false, false, false, false] rfl rfl (any_of HT_.out (by kernel_rfl)) (fun _ _ _ h => h) (Or.inl ⟨by rfl, ?_⟩) ?_ ?_
              rotate_left
              · intro w_
                go_simp
                try with_reducible rfl
              rotate_left
              · simp only [Act.put, List.setIfInBounds_toArray, List.set_cons_zero, List.set_cons_succ, i64_w, i32_w]
                rfl
              refine pure_ (i := 4) (N := (some 16)) (v := ?_) (a' := ?_) #[true, true, true, true, true, false, false, false, false, false, false, false, false, false, false, false, false, false, false, false, false, false, false, false, false] rfl rfl (any_of HT_.out (by kernel_rfl)) (fun _ _ _ h => h) (Or.inl ⟨by rfl, ?_⟩) ?_ ?_
              rotate_left
              · intro w_
                go_simp
                try with_reducible rfl
              rotate_left
              · simp only [Act.put, List.setIfInBounds_toArray, List.set_cons_zero, List.set_cons_succ, i64_w, i32_w]
                rfl
              refine pure_ (i := 5) (N := (some 17)) (v := ?_) (a' := ?_) #[true, true, true, true, true, true, false, false, false, false, false, false, false, false, false, false, false, false, false, false, false, false, false, false, false] rfl rfl (any_of HT_.out (by kernel_rfl)) (fun _ _ _ h => h) (Or.inl ⟨by rfl, ?_⟩) ?_ ?_
              rotate_left
              · intro w_
                go_simp
                try with_reducible rfl
              rotate_left
              · simp only [Act.put, List.setIfInBounds_toArray, List.set_cons_zero, List.set_cons_succ, i64_w, i32_w]
                rfl
              refine take_ (i := 6) (N := (some 18)) (v := ?_) (a' := ?_) #[true, true, true, true, true, true, true, false, false, false, false, false, false, false, false, false, false, false, false, false, false, false, false, false, false] rfl rfl (take_ofW HT_.out HW_.out (by kernel_rfl)) (fun _ _ _ h => h) (Or.inl ⟨by rfl, ?_⟩) (Below.refl _ _) ?_ ?_
              rotate_left
              · intro Wx hWx
                have hc := (blk_cell (heap_below hWx X0.out) 1).trans rfl
                go_simp
                try with_reducible rfl
              rotate_left
              · simp only [Act.put, List.setIfInBounds_toArray, List.set_cons_zero, List.set_cons_succ, i64_w, i32_w]
                rfl
              refine pure_ (i := 7) (N := (some 19)) (v := ?_) (a' := ?_) #[true, true, true, true, true, true, true, true, false, false, false, false, false, false, false, false, false, false, false, false, false, false, false, false, false] rfl rfl (any_of HT_.out (by kernel_rfl)) (fun _ _ _ h => h) (Or.inl ⟨by rfl, ?_⟩) ?_ ?_
              rotate_left
              · intro w_
                go_simp
                try with_reducible rfl
              rotate_left
              · simp only [Act.put, List.setIfInBounds_toArray, List.set_cons_zero, List.set_cons_succ, i64_w, i32_w]
                rfl
              refine pure_ (i := 8) (N := (some 20)) (v := ?_) (a' := ?_) #[true, true, true, true, true, true, true, true, true, false, false, false, false, false, false, false, false, false, false, false, false, false, false, false, false] rfl rfl (any_of HT_.out (by kernel_rfl)) (fun _ _ _ h => h) (Or.inl ⟨by rfl, ?_⟩) ?_ ?_
              rotate_left
              · intro w_
                go_simp
                try with_reducible rfl
              rotate_left
              · simp only [Act.put, List.setIfInBounds_toArray, List.set_cons_zero, List.set_cons_succ, i64_w, i32_w]
                rfl
              refine pure_ (i := 9) (N := (some 21)) (v := ?_) (a' := ?_) #[true, true, true, true, true, true, true, true, true, true, false, false, false, false, false, false, false, false, false, false, false, false, false, false, false] rfl rfl (any_of HT_.out (by kernel_rfl)) (fun _ _ _ h => h) (Or.inl ⟨by rfl, ?_⟩) ?_ ?_
              rotate_left
              · intro w_
                go_simp
                try with_reducible rfl
              rotate_left
              · simp only [Act.put, List.setIfInBounds_toArray, List.set_cons_zero, List.set_cons_succ, i64_w, i32_w]
                rfl
              refine pure_ (i := 10) (N := (some 22)) (v := ?_) (a' := ?_) #[true, true, true, true, true, true, true, true, true, true, true, false, false, false, false, false, false, false, false, false, false, false, false, false, false] rfl rfl (any_of HT_.out (by kernel_rfl)) (fun _ _ _ h => h) (Or.inl ⟨by rfl, ?_⟩) ?_ ?_
              rotate_left
              · intro w_
                go_simp
                try with_reducible rfl
              rotate_left
              · simp only [Act.put, List.setIfInBounds_toArray, List.set_cons_zero, List.set_cons_succ, i64_w, i32_w]
                rfl
              refine pure_ (i := 11) (N := (some 23)) (v := ?_) (a' := ?_) #[true, true, true, true, true, true, true, true, true, true, true, true, false, false, false, false, false, false, false, false, false, false, false, false, false] rfl rfl (any_of HT_.out (by kernel_rfl)) (fun _ _ _ h => h) (Or.inl ⟨by rfl, ?_⟩) ?_ ?_
              rotate_left
              · intro w_
                go_simp
                try with_reducible rfl
              rotate_left
              · simp only [Act.put, List.setIfInBounds_toArray, List.set_cons_zero, List.set_cons_succ, i64_w, i32_w]
                rfl
              refine pure_ (i := 12) (N := (some 24)) (v := ?_) (a' := ?_) #[true, true, true, true, true, true, true, true, true, true, true, true, true, false, false, false, false, false, false, false, false, false, false, false, false] rfl rfl (any_of HT_.out (by kernel_rfl)) (fun _ _ _ h => h) (Or.inl ⟨by rfl, ?_⟩) ?_ ?_
              rotate_left
              · intro w_
                go_simp
                try with_reducible rfl
              rotate_left
              · simp only [Act.put, List.setIfInBounds_toArray, List.set_cons_zero, List.set_cons_succ, i64_w, i32_w]
                rfl
              refine pure_ (i := 13) (N := (some 25)) (v := ?_) (a' := ?_) #[true, true, true, true, true, true, true, true, true, true, true, true, true, true, false, false, false, false, false, false, false, false, false, false, false] rfl rfl (any_of HT_.out (by kernel_rfl)) (fun _ _ _ h => h) (Or.inl ⟨by rfl, ?_⟩) ?_ ?_
              rotate_left
              · intro w_
                go_simp
                try with_reducible rfl
              rotate_left
              · simp only [Act.put, List.setIfInBounds_toArray, List.set_cons_zero, List.set_cons_succ, i64_w, i32_w]
                rfl
              refine pure_ (i := 14) (N := (some 26)) (v := ?_) (a' := ?_) #[true, true, true, true, true, true, true, true, true, true, true, true, true, true, true, false, false, false, false, false, false, false, false, false, false] rfl rfl (any_of HT_.out (by kernel_rfl)) (fun _ _ _ h => h) (Or.inl ⟨by rfl, ?_⟩) ?_ ?_
              rotate_left
              · intro w_
                go_simp
                try with_reducible rfl
              rotate_left
              · simp only [Act.put, List.setIfInBounds_toArray, List.set_cons_zero, List.set_cons_succ, i64_w, i32_w]
                rfl
              refine pure_ (i := 15) (N := (some 27)) (v := ?_) (a' := ?_) #[true, true, true, true, true, true, true, true, true, true, true, true, true, true, true, true, false, false, false, false, false, false, false, false, false] rfl rfl (any_of HT_.out (by kernel_rfl)) (fun _ _ _ h => h) (Or.inl ⟨by rfl, ?_⟩) ?_ ?_
              rotate_left
              · intro w_
                go_simp
                try with_reducible rfl
              rotate_left
              · simp only [Act.put, List.setIfInBounds_toArray, List.set_cons_zero, List.set_cons_succ, i64_w, i32_w]
                rfl
              refine pure_ (i := 16) (N := (some 28)) (v := ?_) (a' := ?_) #[true, true, true, true, true, true, true, true, true, true, true, true, true, true, true, true, true, false, false, false, false, false, false, false, false] rfl rfl (any_of HT_.out (by kernel_rfl)) (fun _ _ _ h => h) (Or.inl ⟨by rfl, ?_⟩) ?_ ?_
              rotate_left
              · intro w_
                go_simp
                try with_reducible rfl
              rotate_left
              · simp only [Act.put, List.setIfInBounds_toArray, List.set_cons_zero, List.set_cons_succ, i64_w, i32_w]
                rfl
              refine pure_ (i := 17) (N := (some 29)) (v := ?_) (a' := ?_) #[true, true, true, true, true, true, true, true, true, true, true, true, true, true, true, true, true, true, false, false, false, false, false, false, false] rfl rfl (any_of HT_.out (by kernel_rfl)) (fun _ _ _ h => h) (Or.inl ⟨by rfl, ?_⟩) ?_ ?_
              rotate_left
              · intro w_
                go_simp
                try with_reducible rfl
              rotate_left
              · simp only [Act.put, List.setIfInBounds_toArray, List.set_cons_zero, List.set_cons_succ, i64_w, i32_w]
                rfl
              refine pure_ (i := 18) (N := (some 30)) (v := ?_) (a' := ?_) #[true, true, true, true, true, true, true, true, true, true, true, true, true, true, true, true, true, true, true, false, false, false, false, false, false] rfl rfl (any_of HT_.out (by kernel_rfl)) (fun _ _ _ h => h) (Or.inl ⟨by rfl, ?_⟩) ?_ ?_
              rotate_left
              · intro w_
                go_simp
                try with_reducible rfl
              rotate_left
              · simp only [Act.put, List.setIfInBounds_toArray, List.set_cons_zero, List.set_cons_succ, i64_w, i32_w]
                rfl
              refine pure_ (i := 20) (N := (some 32)) (v := ?_) (a' := ?_) #[true, true, true, true, true, true, true, true, true, true, true, true, true, true, true, true, true, true, true, false, true, false, false, false, false] rfl rfl (any_of HT_.out (by kernel_rfl)) (fun _ _ _ h => h) (Or.inl ⟨by rfl, ?_⟩) ?_ ?_
              rotate_left
              · intro w_
                go_simp
                try with_reducible rfl
              rotate_left
              · simp only [Act.put, List.setIfInBounds_toArray, List.set_cons_zero, List.set_cons_succ, i64_w, i32_w]
                rfl
              refine take_ (i := 19) (N := (some 31)) (v := ?_) (a' := ?_) #[true, true, true, true, true, true, true, true, true, true, true, true, true, true, true, true, true, true, true, true, true, false, false, false, false] rfl rfl (take_ofW HT_.out HW_.out (by kernel_rfl)) (fun _ _ _ h => h) (Or.inl ⟨by rfl, ?_⟩) (Below.refl _ _) ?_ ?_
              rotate_left
              · intro Wx hWx
                have hc := cell_below hWx P0.out
                go_simp
                try with_reducible rfl
              rotate_left
              · simp only [Act.put, List.setIfInBounds_toArray, List.set_cons_zero, List.set_cons_succ, i64_w, i32_w]
                rfl
              refine take_ (i := 21) (N := (some 33)) (v := ?_) (a' := ?_) #[true, true, true, true, true, true, true, true, true, true, true, true, true, true, true, true, true, true, true, true, true, true, false, false, false] rfl rfl (take_ofW HT_.out HW_.out (by kernel_rfl)) (fun _ _ _ h => h) (Or.inl ⟨by rfl, ?_⟩) (Below.refl _ _) ?_ ?_
              rotate_left
              · intro Wx hWx
                have hc := (blk_cell (heap_below hWx X0.out) 0).trans rfl
                go_simp
                try with_reducible rfl
              rotate_left
              · simp only [Act.put, List.setIfInBounds_toArray, List.set_cons_zero, List.set_cons_succ, i64_w, i32_w]
                rfl
              refine pure_ (i := 22) (N := (some 34)) (v := ?_) (a' := ?_) #[true, true, true, true, true, true, true, true, true, true, true, true, true, true, true, true, true, true, true, true, true, true, true, false, false] rfl rfl (any_of HT_.out (by kernel_rfl)) (fun _ _ _ h => h) (Or.inl ⟨by rfl, ?_⟩) ?_ ?_
              rotate_left
              · intro w_
                go_simp
                try with_reducible rfl
              rotate_left
              · simp only [Act.put, List.setIfInBounds_toArray, List.set_cons_zero, List.set_cons_succ, i64_w, i32_w]
                rfl
              refine pure_ (i := 23) (N := (some 35)) (v := ?_) (a' := ?_) #[true, true, true, true, true, true, true, true, true, true, true, true, true, true, true, true, true, true, true, true, true, true, true, true, false] rfl rfl (any_of HT_.out (by kernel_rfl)) (fun _ _ _ h => h) (Or.inl ⟨by rfl, ?_⟩) ?_ ?_
              rotate_left
              · intro w_
                go_simp
                try with_reducible rfl
              rotate_left
              · simp only [Act.put, List.setIfInBounds_toArray, List.set_cons_zero, List.set_cons_succ, i64_w, i32_w]
                rfl
              refine pure_ (i := 24) (N := (some 36)) (v := ?_) (a' := ?_) #[true, true, true, true, true, true, true, true, true, true, true, true, true, true, true, true, true, true, true, true, true, true, true, true, true] rfl rfl (any_of HT_.out (by kernel_rfl)) (fun _ _ _ h => h) (Or.inl ⟨by rfl, ?_⟩) ?_ ?_
              rotate_left
              · intro w_
                go_simp
                try with_reducible rfl
              rotate_left
              · simp only [Act.put, List.setIfInBounds_toArray, List.set_cons_zero, List.set_cons_succ, i64_w, i32_w]
                rfl
              refine done_ (done_of HT_.out (by kernel_rfl)) ?_
              go_wp2_with fail
              go_ret
              exact ⟨by rw [HF.out]; rfl, HB.out⟩
        · have g1 : decide ((20 : Int) < (x1.size : Int)) = true := decide_eq_true (by omega)
          have g2 : decide (20 < x1.size) = true := decide_eq_true (by omega)
          have HF := Aside0.mk (STOP.out (by rw [HA.out, decide_eq_false h20]; simp))
          clear GO STOP HA h20
          go_wp2_with fail
          try rw [← HW.out]
          try rw [← HJ.out]
          clear HW HJ
          refine start_ (n := 25) (S := fun x_ => Below W.heap.size W x_) (ds := []) #[false, false, false, false, false, false, false, false, false, false, false, false, false, false, false, false, false, false, false, false, false, false, false, false, false] (by kernel_rfl) rfl rfl (pw_below_drewN (Below.refl _ _) 1) (fun hHeld => ?_)
          refine with_tabW tab_record_labels_4 bits_record_labels_4 (fun HT_ HW_ => ?_)
          have HB := Aside0.mk (pw_below_drewN HB.out 1)
          change Aside0 (Below _ _ (World.drew W)) at HB
          change Below _ _ (World.drew W) at hHeld
          have hSz : (World.drew W).heap.size = W.heap.size := rfl
          have X0 := Aside0.mk (show (World.drew W).heap[j]? = _ from X0.out)
          refine wpAnyLast_str (S' := fun x_ => Below (World.drew W).heap.size (World.drew W) x_) (fun x_ hx_ => below_step hHeld hx_) (Below.refl _ _) ?_
          clear hHeld hSz
          generalize World.drew W = Wd at *
          have HS := Aside0.mk (Below.refl Wd.heap.size Wd)
          refine pure_ (i := 0) (N := (some 12)) (v := ?_) (a' := ?_) #[true, false, false, false, false, false, false, false, false, false, false, false, false, false, false, false, false, false, false, false, false, false, false, false, false] rfl rfl (any_of HT_.out (by kernel_rfl)) (fun _ _ _ h => h) (Or.inl ⟨by rfl, ?_⟩) ?_ ?_
          rotate_left
          · intro w_
            go_simp
            try with_reducible rfl
          rotate_left
          · simp only [Act.put, List.setIfInBounds_toArray, List.set_cons_zero, List.set_cons_succ, i64_w, i32_w]
            rfl
          refine take_ (i := 1) (N := (some 13)) (v := ?_) (a' := ?_) #[true, true, false, false, false, false, false, false, false, false, false, false, false, false, false, false, false, false, false, false, false, false, false, false, false] rfl rfl (take_ofW HT_.out HW_.out (by kernel_rfl)) (fun _ _ _ h => h) (Or.inl ⟨by rfl, ?_⟩) (Below.refl _ _) ?_ ?_
          rotate_left
          · intro Wx hWx
            have hc := (blk_cell (heap_below hWx X0.out) 0).trans rfl
            go_simp
            try with_reducible rfl
          rotate_left
          · simp only [Act.put, List.setIfInBounds_toArray, List.set_cons_zero, List.set_cons_succ, i64_w, i32_w]
            rfl
          refine one_ (i := 2) (N := (some 14)) #[true, true, true, false, false, false, false, false, false, false, false, false, false, false, false, false, false, false, false, false, false, false, false, false, false] rfl rfl (one_of HT_.out (by kernel_rfl)) (by decide) (fun K hK => ?_)
          refine goes_ Try.func28 (by kernel_rfl) rfl #[.string x0] (by rfl) rfl rfl (by (try simp only [List.map_toArray, List.map_cons, List.map_nil]); first | done | rfl) ?_
          refine (HNm.out _).mono ?_
          rintro e w4_2 ⟨rfl, hb_1⟩
          refine ⟨_, rfl, ?_⟩
          have X0 := Aside0.mk (heap_below hb_1 X0.out)
          have hb_ : Below Wd.heap.size Wd w4_2 := hb_1
          have HB := Aside0.mk (below_step HB.out hb_)
          refine hK.out _ _ hb_ (fun hHeld => ?_)
          clear hK K
          refine wpAnyLast_str (S' := fun x_ => Below w4_2.heap.size w4_2 x_) (fun x_ hx_ => below_step hHeld hx_) (Below.refl _ _) ?_
          clear hHeld
          (try clear hb)
          clear hb_
          have HS := Aside0.mk (Below.refl w4_2.heap.size w4_2)
          refine norm_ (a' := ?_) ?_ ?_
          rotate_left
          · show Act.put _ (some 14) _ = _
            simp only [Act.put, List.setIfInBounds_toArray, List.set_cons_zero, List.set_cons_succ, i64_w, i32_w]
            rfl
          refine pure_ (i := 3) (N := (some 15)) (v := ?_) (a' := ?_) #[true, true, true, true, false, false, false, false, false, false, false, false, false, false, false, false, false, false, false, false, false, false, false, false, false] rfl rfl (any_of HT_.out (by kernel_rfl)) (fun _ _ _ h => h) (Or.inl ⟨by rfl, ?_⟩) ?_ ?_
          rotate_left
          · intro w_
            go_simp
            try with_reducible rfl
          rotate_left
          · simp only [Act.put, List.setIfInBounds_toArray, List.set_cons_zero, List.set_cons_succ, i64_w, i32_w]
            rfl
          refine pure_ (i := 4) (N := (some 16)) (v := ?_) (a' := ?_) #[true, true, true, true, true, false, false, false, false, false, false, false, false, false, false, false, false, false, false, false, false, false, false, false, false] rfl rfl (any_of HT_.out (by kernel_rfl)) (fun _ _ _ h => h) (Or.inl ⟨by rfl, ?_⟩) ?_ ?_
          rotate_left
          · intro w_
            go_simp
            try with_reducible rfl
          rotate_left
          · simp only [Act.put, List.setIfInBounds_toArray, List.set_cons_zero, List.set_cons_succ, i64_w, i32_w]
            rfl
          refine pure_ (i := 5) (N := (some 17)) (v := ?_) (a' := ?_) #[true, true, true, true, true, true, false, false, false, false, false, false, false, false, false, false, false, false, false, false, false, false, false, false, false] rfl rfl (any_of HT_.out (by kernel_rfl)) (fun _ _ _ h => h) (Or.inl ⟨by rfl, ?_⟩) ?_ ?_
          rotate_left
          · intro w_
            go_simp
            try with_reducible rfl
          rotate_left
          · simp only [Act.put, List.setIfInBounds_toArray, List.set_cons_zero, List.set_cons_succ, i64_w, i32_w]
            rfl
          refine take_ (i := 6) (N := (some 18)) (v := ?_) (a' := ?_) #[true, true, true, true, true, true, true, false, false, false, false, false, false, false, false, false, false, false, false, false, false, false, false, false, false] rfl rfl (take_ofW HT_.out HW_.out (by kernel_rfl)) (fun _ _ _ h => h) (Or.inl ⟨by rfl, ?_⟩) (Below.refl _ _) ?_ ?_
          rotate_left
          · intro Wx hWx
            have hc := (blk_cell (heap_below hWx X0.out) 1).trans rfl
            go_simp
            try with_reducible rfl
          rotate_left
          · simp only [Act.put, List.setIfInBounds_toArray, List.set_cons_zero, List.set_cons_succ, i64_w, i32_w]
            rfl
          refine pure_ (i := 7) (N := (some 19)) (v := ?_) (a' := ?_) #[true, true, true, true, true, true, true, true, false, false, false, false, false, false, false, false, false, false, false, false, false, false, false, false, false] rfl rfl (any_of HT_.out (by kernel_rfl)) (fun _ _ _ h => h) (Or.inl ⟨by rfl, ?_⟩) ?_ ?_
          rotate_left
          · intro w_
            go_simp
            try with_reducible rfl
          rotate_left
          · simp only [Act.put, List.setIfInBounds_toArray, List.set_cons_zero, List.set_cons_succ, i64_w, i32_w]
            rfl
          refine pure_ (i := 8) (N := (some 20)) (v := ?_) (a' := ?_) #[true, true, true, true, true, true, true, true, true, false, false, false, false, false, false, false, false, false, false, false, false, false, false, false, false] rfl rfl (any_of HT_.out (by kernel_rfl)) (fun _ _ _ h => h) (Or.inl ⟨by rfl, ?_⟩) ?_ ?_
          rotate_left
          · intro w_
            go_simp
            try with_reducible rfl
          rotate_left
          · simp only [Act.put, List.setIfInBounds_toArray, List.set_cons_zero, List.set_cons_succ, i64_w, i32_w]
            rfl
          refine pure_ (i := 9) (N := (some 21)) (v := ?_) (a' := ?_) #[true, true, true, true, true, true, true, true, true, true, false, false, false, false, false, false, false, false, false, false, false, false, false, false, false] rfl rfl (any_of HT_.out (by kernel_rfl)) (fun _ _ _ h => h) (Or.inl ⟨by rfl, ?_⟩) ?_ ?_
          rotate_left
          · intro w_
            go_simp
            try with_reducible rfl
          rotate_left
          · simp only [Act.put, List.setIfInBounds_toArray, List.set_cons_zero, List.set_cons_succ, i64_w, i32_w]
            rfl
          refine pure_ (i := 10) (N := (some 22)) (v := ?_) (a' := ?_) #[true, true, true, true, true, true, true, true, true, true, true, false, false, false, false, false, false, false, false, false, false, false, false, false, false] rfl rfl (any_of HT_.out (by kernel_rfl)) (fun _ _ _ h => h) (Or.inl ⟨by rfl, ?_⟩) ?_ ?_
          rotate_left
          · intro w_
            go_simp
            try with_reducible rfl
          rotate_left
          · simp only [Act.put, List.setIfInBounds_toArray, List.set_cons_zero, List.set_cons_succ, i64_w, i32_w]
            rfl
          refine pure_ (i := 11) (N := (some 23)) (v := undef) (a' := ?_) #[true, true, true, true, true, true, true, true, true, true, true, true, false, false, false, false, false, false, false, false, false, false, false, false, false] rfl rfl (any_of HT_.out (by kernel_rfl)) (fun _ _ _ h => h) (Or.inr ⟨by rfl, rfl⟩) ?_ ?_
          rotate_left
          · simp only [Act.put, List.setIfInBounds_toArray, List.set_cons_zero, List.set_cons_succ, i64_w, i32_w]
            rfl
          refine pure_ (i := 12) (N := (some 24)) (v := undef) (a' := ?_) #[true, true, true, true, true, true, true, true, true, true, true, true, true, false, false, false, false, false, false, false, false, false, false, false, false] rfl rfl (any_of HT_.out (by kernel_rfl)) (fun _ _ _ h => h) (Or.inr ⟨by rfl, rfl⟩) ?_ ?_
          rotate_left
          · simp only [Act.put, List.setIfInBounds_toArray, List.set_cons_zero, List.set_cons_succ, i64_w, i32_w]
            rfl
          refine pure_ (i := 13) (N := (some 25)) (v := undef) (a' := ?_) #[true, true, true, true, true, true, true, true, true, true, true, true, true, true, false, false, false, false, false, false, false, false, false, false, false] rfl rfl (any_of HT_.out (by kernel_rfl)) (fun _ _ _ h => h) (Or.inr ⟨by rfl, rfl⟩) ?_ ?_
          rotate_left
          · simp only [Act.put, List.setIfInBounds_toArray, List.set_cons_zero, List.set_cons_succ, i64_w, i32_w]
            rfl
          refine pure_ (i := 14) (N := (some 26)) (v := undef) (a' := ?_) #[true, true, true, true, true, true, true, true, true, true, true, true, true, true, true, false, false, false, false, false, false, false, false, false, false] rfl rfl (any_of HT_.out (by kernel_rfl)) (fun _ _ _ h => h) (Or.inr ⟨by rfl, rfl⟩) ?_ ?_
          rotate_left
          · simp only [Act.put, List.setIfInBounds_toArray, List.set_cons_zero, List.set_cons_succ, i64_w, i32_w]
            rfl
          refine pure_ (i := 15) (N := (some 27)) (v := undef) (a' := ?_) #[true, true, true, true, true, true, true, true, true, true, true, true, true, true, true, true, false, false, false, false, false, false, false, false, false] rfl rfl (any_of HT_.out (by kernel_rfl)) (fun _ _ _ h => h) (Or.inr ⟨by rfl, rfl⟩) ?_ ?_
          rotate_left
          · simp only [Act.put, List.setIfInBounds_toArray, List.set_cons_zero, List.set_cons_succ, i64_w, i32_w]
            rfl
          refine pure_ (i := 16) (N := (some 28)) (v := undef) (a' := ?_) #[true, true, true, true, true, true, true, true, true, true, true, true, true, true, true, true, true, false, false, false, false, false, false, false, false] rfl rfl (any_of HT_.out (by kernel_rfl)) (fun _ _ _ h => h) (Or.inr ⟨by rfl, rfl⟩) ?_ ?_
          rotate_left
          · simp only [Act.put, List.setIfInBounds_toArray, List.set_cons_zero, List.set_cons_succ, i64_w, i32_w]
            rfl
          refine pure_ (i := 17) (N := (some 29)) (v := undef) (a' := ?_) #[true, true, true, true, true, true, true, true, true, true, true, true, true, true, true, true, true, true, false, false, false, false, false, false, false] rfl rfl (any_of HT_.out (by kernel_rfl)) (fun _ _ _ h => h) (Or.inr ⟨by rfl, rfl⟩) ?_ ?_
          rotate_left
          · simp only [Act.put, List.setIfInBounds_toArray, List.set_cons_zero, List.set_cons_succ, i64_w, i32_w]
            rfl
          refine pure_ (i := 18) (N := (some 30)) (v := undef) (a' := ?_) #[true, true, true, true, true, true, true, true, true, true, true, true, true, true, true, true, true, true, true, false, false, false, false, false, false] rfl rfl (any_of HT_.out (by kernel_rfl)) (fun _ _ _ h => h) (Or.inr ⟨by rfl, rfl⟩) ?_ ?_
          rotate_left
          · simp only [Act.put, List.setIfInBounds_toArray, List.set_cons_zero, List.set_cons_succ, i64_w, i32_w]
            rfl
          refine pure_ (i := 19) (N := (some 31)) (v := undef) (a' := ?_) #[true, true, true, true, true, true, true, true, true, true, true, true, true, true, true, true, true, true, true, true, false, false, false, false, false] rfl rfl (any_of HT_.out (by kernel_rfl)) (fun _ _ _ h => h) (Or.inr ⟨by rfl, rfl⟩) ?_ ?_
          rotate_left
          · simp only [Act.put, List.setIfInBounds_toArray, List.set_cons_zero, List.set_cons_succ, i64_w, i32_w]
            rfl
          refine pure_ (i := 20) (N := (some 32)) (v := undef) (a' := ?_) #[true, true, true, true, true, true, true, true, true, true, true, true, true, true, true, true, true, true, true, true, true, false, false, false, false] rfl rfl (any_of HT_.out (by kernel_rfl)) (fun _ _ _ h => h) (Or.inr ⟨by rfl, rfl⟩) ?_ ?_
          rotate_left
          · simp only [Act.put, List.setIfInBounds_toArray, List.set_cons_zero, List.set_cons_succ, i64_w, i32_w]
            rfl
          refine pure_ (i := 21) (N := (some 33)) (v := undef) (a' := ?_) #[true, true, true, true, true, true, true, true, true, true, true, true, true, true, true, true, true, true, true, true, true, true, false, false, false] rfl rfl (any_of HT_.out (by kernel_rfl)) (fun _ _ _ h => h) (Or.inr ⟨by rfl, rfl⟩) ?_ ?_
          rotate_left
          · simp only [Act.put, List.setIfInBounds_toArray, List.set_cons_zero, List.set_cons_succ, i64_w, i32_w]
            rfl
          refine pure_ (i := 22) (N := (some 34)) (v := undef) (a' := ?_) #[true, true, true, true, true, true, true, true, true, true, true, true, true, true, true, true, true, true, true, true, true, true, true, false, false] rfl rfl (any_of HT_.out (by kernel_rfl)) (fun _ _ _ h => h) (Or.inr ⟨by rfl, rfl⟩) ?_ ?_
          rotate_left
          · simp only [Act.put, List.setIfInBounds_toArray, List.set_cons_zero, List.set_cons_succ, i64_w, i32_w]
            rfl
          refine pure_ (i := 23) (N := (some 35)) (v := undef) (a' := ?_) #[true, true, true, true, true, true, true, true, true, true, true, true, true, true, true, true, true, true, true, true, true, true, true, true, false] rfl rfl (any_of HT_.out (by kernel_rfl)) (fun _ _ _ h => h) (Or.inr ⟨by rfl, rfl⟩) ?_ ?_
          rotate_left
          · simp only [Act.put, List.setIfInBounds_toArray, List.set_cons_zero, List.set_cons_succ, i64_w, i32_w]
            rfl
          refine pure_ (i := 24) (N := (some 36)) (v := ?_) (a' := ?_) #[true, true, true, true, true, true, true, true, true, true, true, true, true, true, true, true, true, true, true, true, true, true, true, true, true] rfl rfl (any_of HT_.out (by kernel_rfl)) (fun _ _ _ h => h) (Or.inl ⟨by rfl, ?_⟩) ?_ ?_
          rotate_left
          · intro w_
            go_simp
            try with_reducible rfl
          rotate_left
          · simp only [Act.put, List.setIfInBounds_toArray, List.set_cons_zero, List.set_cons_succ, i64_w, i32_w]
            rfl
          refine done_ (done_of HT_.out (by kernel_rfl)) ?_
          go_wp2_with fail
          go_ret
          exact ⟨by rw [HF.out]; rfl, HB.out⟩
      · have hnm : nm = false := by simpa using hnm
        subst hnm
        have HF := Aside0.mk (STOP.out (by rw [HA.out]; rfl))
        clear GO STOP HA
        go_wp2_with fail
        try rw [← HW.out]
        try rw [← HJ.out]
        clear HW HJ
        refine start_ (n := 25) (S := fun x_ => Below W.heap.size W x_) (ds := []) #[false, false, false, false, false, false, false, false, false, false, false, false, false, false, false, false, false, false, false, false, false, false, false, false, false] (by kernel_rfl) rfl rfl (pw_below_drewN (Below.refl _ _) 1) (fun hHeld => ?_)
        refine with_tabW tab_record_labels_4 bits_record_labels_4 (fun HT_ HW_ => ?_)
        have HB := Aside0.mk (pw_below_drewN HB.out 1)
        change Aside0 (Below _ _ (World.drew W)) at HB
        change Below _ _ (World.drew W) at hHeld
        have hSz : (World.drew W).heap.size = W.heap.size := rfl
        have X0 := Aside0.mk (show (World.drew W).heap[j]? = _ from X0.out)
        refine wpAnyLast_str (S' := fun x_ => Below (World.drew W).heap.size (World.drew W) x_) (fun x_ hx_ => below_step hHeld hx_) (Below.refl _ _) ?_
        clear hHeld hSz
        generalize World.drew W = Wd at *
        have HS := Aside0.mk (Below.refl Wd.heap.size Wd)
        refine pure_ (i := 0) (N := (some 12)) (v := ?_) (a' := ?_) #[true, false, false, false, false, false, false, false, false, false, false, false, false, false, false, false, false, false, false, false, false, false, false, false, false] rfl rfl (any_of HT_.out (by kernel_rfl)) (fun _ _ _ h => h) (Or.inl ⟨by rfl, ?_⟩) ?_ ?_
        rotate_left
        · intro w_
          go_simp
          try with_reducible rfl
        rotate_left
        · simp only [Act.put, List.setIfInBounds_toArray, List.set_cons_zero, List.set_cons_succ, i64_w, i32_w]
          rfl
        refine take_ (i := 1) (N := (some 13)) (v := ?_) (a' := ?_) #[true, true, false, false, false, false, false, false, false, false, false, false, false, false, false, false, false, false, false, false, false, false, false, false, false] rfl rfl (take_ofW HT_.out HW_.out (by kernel_rfl)) (fun _ _ _ h => h) (Or.inl ⟨by rfl, ?_⟩) (Below.refl _ _) ?_ ?_
        rotate_left
        · intro Wx hWx
          have hc := (blk_cell (heap_below hWx X0.out) 0).trans rfl
          go_simp
          try with_reducible rfl
        rotate_left
        · simp only [Act.put, List.setIfInBounds_toArray, List.set_cons_zero, List.set_cons_succ, i64_w, i32_w]
          rfl
        refine one_ (i := 2) (N := (some 14)) #[true, true, true, false, false, false, false, false, false, false, false, false, false, false, false, false, false, false, false, false, false, false, false, false, false] rfl rfl (one_of HT_.out (by kernel_rfl)) (by decide) (fun K hK => ?_)
        refine goes_ Try.func28 (by kernel_rfl) rfl #[.string x0] (by rfl) rfl rfl (by (try simp only [List.map_toArray, List.map_cons, List.map_nil]); first | done | rfl) ?_
        refine (HNm.out _).mono ?_
        rintro e w4_2 ⟨rfl, hb_1⟩
        refine ⟨_, rfl, ?_⟩
        have X0 := Aside0.mk (heap_below hb_1 X0.out)
        have hb_ : Below Wd.heap.size Wd w4_2 := hb_1
        have HB := Aside0.mk (below_step HB.out hb_)
        refine hK.out _ _ hb_ (fun hHeld => ?_)
        clear hK K
        refine wpAnyLast_str (S' := fun x_ => Below w4_2.heap.size w4_2 x_) (fun x_ hx_ => below_step hHeld hx_) (Below.refl _ _) ?_
        clear hHeld
        (try clear hb)
        clear hb_
        have HS := Aside0.mk (Below.refl w4_2.heap.size w4_2)
        refine norm_ (a' := ?_) ?_ ?_
        rotate_left
        · show Act.put _ (some 14) _ = _
          simp only [Act.put, List.setIfInBounds_toArray, List.set_cons_zero, List.set_cons_succ, i64_w, i32_w]
          rfl
        refine pure_ (i := 3) (N := (some 15)) (v := ?_) (a' := ?_) #[true, true, true, true, false, false, false, false, false, false, false, false, false, false, false, false, false, false, false, false, false, false, false, false, false] rfl rfl (any_of HT_.out (by kernel_rfl)) (fun _ _ _ h => h) (Or.inl ⟨by rfl, ?_⟩) ?_ ?_
        rotate_left
        · intro w_
          go_simp
          try with_reducible rfl
        rotate_left
        · simp only [Act.put, List.setIfInBounds_toArray, List.set_cons_zero, List.set_cons_succ, i64_w, i32_w]
          rfl
        refine pure_ (i := 4) (N := (some 16)) (v := ?_) (a' := ?_) #[true, true, true, true, true, false, false, false, false, false, false, false, false, false, false, false, false, false, false, false, false, false, false, false, false] rfl rfl (any_of HT_.out (by kernel_rfl)) (fun _ _ _ h => h) (Or.inl ⟨by rfl, ?_⟩) ?_ ?_
        rotate_left
        · intro w_
          go_simp
          try with_reducible rfl
        rotate_left
        · simp only [Act.put, List.setIfInBounds_toArray, List.set_cons_zero, List.set_cons_succ, i64_w, i32_w]
          rfl
        refine pure_ (i := 5) (N := (some 17)) (v := undef) (a' := ?_) #[true, true, true, true, true, true, false, false, false, false, false, false, false, false, false, false, false, false, false, false, false, false, false, false, false] rfl rfl (any_of HT_.out (by kernel_rfl)) (fun _ _ _ h => h) (Or.inr ⟨by rfl, rfl⟩) ?_ ?_
        rotate_left
        · simp only [Act.put, List.setIfInBounds_toArray, List.set_cons_zero, List.set_cons_succ, i64_w, i32_w]
          rfl
        refine pure_ (i := 6) (N := (some 18)) (v := undef) (a' := ?_) #[true, true, true, true, true, true, true, false, false, false, false, false, false, false, false, false, false, false, false, false, false, false, false, false, false] rfl rfl (any_of HT_.out (by kernel_rfl)) (fun _ _ _ h => h) (Or.inr ⟨by rfl, rfl⟩) ?_ ?_
        rotate_left
        · simp only [Act.put, List.setIfInBounds_toArray, List.set_cons_zero, List.set_cons_succ, i64_w, i32_w]
          rfl
        refine pure_ (i := 7) (N := (some 19)) (v := undef) (a' := ?_) #[true, true, true, true, true, true, true, true, false, false, false, false, false, false, false, false, false, false, false, false, false, false, false, false, false] rfl rfl (any_of HT_.out (by kernel_rfl)) (fun _ _ _ h => h) (Or.inr ⟨by rfl, rfl⟩) ?_ ?_
        rotate_left
        · simp only [Act.put, List.setIfInBounds_toArray, List.set_cons_zero, List.set_cons_succ, i64_w, i32_w]
          rfl
        refine pure_ (i := 8) (N := (some 20)) (v := undef) (a' := ?_) #[true, true, true, true, true, true, true, true, true, false, false, false, false, false, false, false, false, false, false, false, false, false, false, false, false] rfl rfl (any_of HT_.out (by kernel_rfl)) (fun _ _ _ h => h) (Or.inr ⟨by rfl, rfl⟩) ?_ ?_
        rotate_left
        · simp only [Act.put, List.setIfInBounds_toArray, List.set_cons_zero, List.set_cons_succ, i64_w, i32_w]
          rfl
        refine pure_ (i := 9) (N := (some 21)) (v := ?_) (a' := ?_) #[true, true, true, true, true, true, true, true, true, true, false, false, false, false, false, false, false, false, false, false, false, false, false, false, false] rfl rfl (any_of HT_.out (by kernel_rfl)) (fun _ _ _ h => h) (Or.inl ⟨by rfl, ?_⟩) ?_ ?_
        rotate_left
        · intro w_
          go_simp
          try with_reducible rfl
        rotate_left
        · simp only [Act.put, List.setIfInBounds_toArray, List.set_cons_zero, List.set_cons_succ, i64_w, i32_w]
          rfl
        refine pure_ (i := 10) (N := (some 22)) (v := ?_) (a' := ?_) #[true, true, true, true, true, true, true, true, true, true, true, false, false, false, false, false, false, false, false, false, false, false, false, false, false] rfl rfl (any_of HT_.out (by kernel_rfl)) (fun _ _ _ h => h) (Or.inl ⟨by rfl, ?_⟩) ?_ ?_
        rotate_left
        · intro w_
          go_simp
          try with_reducible rfl
        rotate_left
        · simp only [Act.put, List.setIfInBounds_toArray, List.set_cons_zero, List.set_cons_succ, i64_w, i32_w]
          rfl
        refine pure_ (i := 11) (N := (some 23)) (v := undef) (a' := ?_) #[true, true, true, true, true, true, true, true, true, true, true, true, false, false, false, false, false, false, false, false, false, false, false, false, false] rfl rfl (any_of HT_.out (by kernel_rfl)) (fun _ _ _ h => h) (Or.inr ⟨by rfl, rfl⟩) ?_ ?_
        rotate_left
        · simp only [Act.put, List.setIfInBounds_toArray, List.set_cons_zero, List.set_cons_succ, i64_w, i32_w]
          rfl
        refine pure_ (i := 12) (N := (some 24)) (v := undef) (a' := ?_) #[true, true, true, true, true, true, true, true, true, true, true, true, true, false, false, false, false, false, false, false, false, false, false, false, false] rfl rfl (any_of HT_.out (by kernel_rfl)) (fun _ _ _ h => h) (Or.inr ⟨by rfl, rfl⟩) ?_ ?_
        rotate_left
        · simp only [Act.put, List.setIfInBounds_toArray, List.set_cons_zero, List.set_cons_succ, i64_w, i32_w]
          rfl
        refine pure_ (i := 13) (N := (some 25)) (v := undef) (a' := ?_) #[true, true, true, true, true, true, true, true, true, true, true, true, true, true, false, false, false, false, false, false, false, false, false, false, false] rfl rfl (any_of HT_.out (by kernel_rfl)) (fun _ _ _ h => h) (Or.inr ⟨by rfl, rfl⟩) ?_ ?_
        rotate_left
        · simp only [Act.put, List.setIfInBounds_toArray, List.set_cons_zero, List.set_cons_succ, i64_w, i32_w]
          rfl
        refine pure_ (i := 14) (N := (some 26)) (v := undef) (a' := ?_) #[true, true, true, true, true, true, true, true, true, true, true, true, true, true, true, false, false, false, false, false, false, false, false, false, false] rfl rfl (any_of HT_.out (by kernel_rfl)) (fun _ _ _ h => h) (Or.inr ⟨by rfl, rfl⟩) ?_ ?_
        rotate_left
        · simp only [Act.put, List.setIfInBounds_toArray, List.set_cons_zero, List.set_cons_succ, i64_w, i32_w]
          rfl
        refine pure_ (i := 15) (N := (some 27)) (v := undef) (a' := ?_) #[true, true, true, true, true, true, true, true, true, true, true, true, true, true, true, true, false, false, false, false, false, false, false, false, false] rfl rfl (any_of HT_.out (by kernel_rfl)) (fun _ _ _ h => h) (Or.inr ⟨by rfl, rfl⟩) ?_ ?_
        rotate_left
        · simp only [Act.put, List.setIfInBounds_toArray, List.set_cons_zero, List.set_cons_succ, i64_w, i32_w]
          rfl
        refine pure_ (i := 16) (N := (some 28)) (v := undef) (a' := ?_) #[true, true, true, true, true, true, true, true, true, true, true, true, true, true, true, true, true, false, false, false, false, false, false, false, false] rfl rfl (any_of HT_.out (by kernel_rfl)) (fun _ _ _ h => h) (Or.inr ⟨by rfl, rfl⟩) ?_ ?_
        rotate_left
        · simp only [Act.put, List.setIfInBounds_toArray, List.set_cons_zero, List.set_cons_succ, i64_w, i32_w]
          rfl
        refine pure_ (i := 17) (N := (some 29)) (v := undef) (a' := ?_) #[true, true, true, true, true, true, true, true, true, true, true, true, true, true, true, true, true, true, false, false, false, false, false, false, false] rfl rfl (any_of HT_.out (by kernel_rfl)) (fun _ _ _ h => h) (Or.inr ⟨by rfl, rfl⟩) ?_ ?_
        rotate_left
        · simp only [Act.put, List.setIfInBounds_toArray, List.set_cons_zero, List.set_cons_succ, i64_w, i32_w]
          rfl
        refine pure_ (i := 18) (N := (some 30)) (v := undef) (a' := ?_) #[true, true, true, true, true, true, true, true, true, true, true, true, true, true, true, true, true, true, true, false, false, false, false, false, false] rfl rfl (any_of HT_.out (by kernel_rfl)) (fun _ _ _ h => h) (Or.inr ⟨by rfl, rfl⟩) ?_ ?_
        rotate_left
        · simp only [Act.put, List.setIfInBounds_toArray, List.set_cons_zero, List.set_cons_succ, i64_w, i32_w]
          rfl
        refine pure_ (i := 19) (N := (some 31)) (v := undef) (a' := ?_) #[true, true, true, true, true, true, true, true, true, true, true, true, true, true, true, true, true, true, true, true, false, false, false, false, false] rfl rfl (any_of HT_.out (by kernel_rfl)) (fun _ _ _ h => h) (Or.inr ⟨by rfl, rfl⟩) ?_ ?_
        rotate_left
        · simp only [Act.put, List.setIfInBounds_toArray, List.set_cons_zero, List.set_cons_succ, i64_w, i32_w]
          rfl
        refine pure_ (i := 20) (N := (some 32)) (v := undef) (a' := ?_) #[true, true, true, true, true, true, true, true, true, true, true, true, true, true, true, true, true, true, true, true, true, false, false, false, false] rfl rfl (any_of HT_.out (by kernel_rfl)) (fun _ _ _ h => h) (Or.inr ⟨by rfl, rfl⟩) ?_ ?_
        rotate_left
        · simp only [Act.put, List.setIfInBounds_toArray, List.set_cons_zero, List.set_cons_succ, i64_w, i32_w]
          rfl
        refine pure_ (i := 21) (N := (some 33)) (v := undef) (a' := ?_) #[true, true, true, true, true, true, true, true, true, true, true, true, true, true, true, true, true, true, true, true, true, true, false, false, false] rfl rfl (any_of HT_.out (by kernel_rfl)) (fun _ _ _ h => h) (Or.inr ⟨by rfl, rfl⟩) ?_ ?_
        rotate_left
        · simp only [Act.put, List.setIfInBounds_toArray, List.set_cons_zero, List.set_cons_succ, i64_w, i32_w]
          rfl
        refine pure_ (i := 22) (N := (some 34)) (v := undef) (a' := ?_) #[true, true, true, true, true, true, true, true, true, true, true, true, true, true, true, true, true, true, true, true, true, true, true, false, false] rfl rfl (any_of HT_.out (by kernel_rfl)) (fun _ _ _ h => h) (Or.inr ⟨by rfl, rfl⟩) ?_ ?_
        rotate_left
        · simp only [Act.put, List.setIfInBounds_toArray, List.set_cons_zero, List.set_cons_succ, i64_w, i32_w]
          rfl
        refine pure_ (i := 23) (N := (some 35)) (v := undef) (a' := ?_) #[true, true, true, true, true, true, true, true, true, true, true, true, true, true, true, true, true, true, true, true, true, true, true, true, false] rfl rfl (any_of HT_.out (by kernel_rfl)) (fun _ _ _ h => h) (Or.inr ⟨by rfl, rfl⟩) ?_ ?_
        rotate_left
        · simp only [Act.put, List.setIfInBounds_toArray, List.set_cons_zero, List.set_cons_succ, i64_w, i32_w]
          rfl
        refine pure_ (i := 24) (N := (some 36)) (v := ?_) (a' := ?_) #[true, true, true, true, true, true, true, true, true, true, true, true, true, true, true, true, true, true, true, true, true, true, true, true, true] rfl rfl (any_of HT_.out (by kernel_rfl)) (fun _ _ _ h => h) (Or.inl ⟨by rfl, ?_⟩) ?_ ?_
        rotate_left
        · intro w_
          go_simp
          try with_reducible rfl
        rotate_left
        · simp only [Act.put, List.setIfInBounds_toArray, List.set_cons_zero, List.set_cons_succ, i64_w, i32_w]
          rfl
        refine done_ (done_of HT_.out (by kernel_rfl)) ?_
        go_wp2_with fail
        go_ret
        exact ⟨by rw [HF.out]; rfl, HB.out⟩
    · have d1 : decide (i < xs.length) = false := decide_eq_false hlt
      have hi2 : xs.length = i := by omega
      have HQ : Aside0 (q = decide ((xs.length : Int) ≤ 4)) := ⟨by rw [HG.out, hi2, HO.out, Bool.true_and]; exact decide_eq_decide.2 (by omega)⟩
      clear hi2 hlt hi
      go_wp2
      go_ret
      exact ⟨by rw [HQ.out]; rfl, HBw.out⟩
end Go.Proofs.Ytfejjfbhlmjkeaa.C
set_option linter.unusedVariables false
set_option linter.unusedSimpArgs false
namespace Go.Proofs.Ytfejjfbhlmjkeaa.C
open Go.RowKit Go.Shelf Go.Lib Go.Proofs.YtfejjfbhlmjkeaaW.PrintWords Go.Proofs.YtfejjfbhlmjkeaaW.PrintLast Go.Proofs.YtfejjfbhlmjkeaaW.PrintMore Go.Proofs.Ytfejjfbhlmjkeaa.B Go.Proofs.Ytfejjfbhlmjkeaa.PRecordIs Go.Proofs.Ytfejjfbhlmjkeaa.CQ
/-- The library's search answers what it should, from this world on. -/
def Con (w : World) : Prop := ∀ (s sub : ByteArray) (w' : World), s.size < 4294967281 → Below w.heap.size w w' → Calls Try.prog 62 #[.string s, .string sub] w' fun e w2 => e = .returned (.bool (Lib.contains s.data.toList sub.data.toList)) ∧ w2 = w'
theorem Con.below {w w1 : World} (h : Con w) (hb : Below w.heap.size w w1) : Con w1 := fun s sub w' hs hb' => h s sub w' hs (below_step hb hb')
theorem con_of {W : World} (h : W.ShapedOpen Try.prog) : Con W := by
  obtain ⟨m, hm⟩ := cell_of_shapedOpen_int (P := Try.prog) (g := 0) (t := 3) (zero := #[.int .i64 0]) h (of_decide_eq_true (by kernel_rfl)) (by kernel_rfl) rfl (by kernel_rfl) (by kernel_rfl) Try.underlying3
  intro s sub w' hs hb
  exact Try.strings_Contains s sub m w' hs (cell_below hb hm)
def timeOk (a : Int) : Bool := decide (-1099511627776 ≤ a) && decide (a ≤ 1099511627776)
def lineOk (s : ByteArray) : Bool := decide (s.size ≤ 200) && !Lib.contains s.data.toList [10]
/-- Whether an entry can be. -/
def goodE (k : Key) : Bool := timeOk k.at_ && (goodL k.ls && lineOk k.line)
theorem time_any (a : Int) (w : World) : Calls Try.prog 35 #[.int .i64 a] w fun e w' => e = .returned (.bool (timeOk a)) ∧ Below w.heap.size w w' := by
  refine (record_Time.calls a (timeOk a) w ?_).mono fun _ _ ⟨h, k⟩ => ⟨h, k.below⟩
  unfold record_Time.f timeOk
  split
  · rename_i h; rw [decide_eq_true (show -1099511627776 ≤ a from h), Bool.true_and]
  · rename_i h; rw [decide_eq_false (show ¬ -1099511627776 ≤ a from h), Bool.false_and]
set_option maxRecDepth 20000 in
theorem good_any (x : Ent) (w : World) (hx : x.In w) (hs : ∀ y ∈ x.ls, y.f0.size ≤ 4611686018427) (hln : x.line.size < 4294967281) (hC : Con w) :
    Calls Try.prog 32 #[x.val] w fun e w' => e = .returned (.bool (goodE x.key)) ∧ Below w.heap.size w w' := by
  obtain ⟨x0, xA, xc, xl, x2⟩ := x
  obtain ⟨q, hq⟩ : ∃ q, q = goodE (Ent.key ⟨x0, xA, xc, xl, x2⟩) := ⟨_, rfl⟩
  obtain ⟨tm, htm⟩ : ∃ b, b = timeOk x0 := ⟨_, rfl⟩
  obtain ⟨lb, hlb⟩ : ∃ b, b = goodL xl := ⟨_, rfl⟩
  obtain ⟨cn, hcn⟩ : ∃ b, b = Lib.contains x2.data.toList [10] := ⟨_, rfl⟩
  have HQ : Aside0 (q = (tm && (lb && (decide (x2.size ≤ 200) && !cn)))) := ⟨by rw [hq, htm, hlb, hcn]; rfl⟩
  have HT : Aside0 (∀ V, Calls Try.prog 35 #[.int .i64 x0] V fun e w' => e = .returned (.bool tm) ∧ Below V.heap.size V w') := ⟨fun V => by rw [htm]; exact time_any x0 V⟩
  have HLb : Aside0 (∀ V, Below w.heap.size w V → Calls Try.prog 61 #[.slice xA xl.length xc] V fun e w' => e = .returned (.bool lb) ∧ Below V.heap.size V w') := ⟨fun V h => by rw [hlb]; exact labels_any xl xA xc V (Kd.C_below hx.lies h) hx.few hs⟩
  have HCn : Aside0 (∀ V, Below w.heap.size w V → Calls Try.prog 62 #[.string x2, .string ⟨#[10]⟩] V fun e w' => e = .returned (.bool cn) ∧ w' = V) := ⟨fun V h => by rw [hcn]; exact hC x2 ⟨#[10]⟩ V hln h⟩
  rw [← hq]
  unfold Ent.val
  dsimp only
  obtain ⟨W, hW⟩ : ∃ W, W = w.alloc (.cells #[.int .i64 x0, .slice xA xl.length xc, .string x2] 34) := ⟨_, rfl⟩
  obtain ⟨j, hj⟩ : ∃ j, j = w.heap.size := ⟨_, rfl⟩
  have HB : Aside0 (Below w.heap.size w W) := ⟨by rw [hW]; exact below_alloc (Below.refl _ w) _⟩
  have X0 : Aside0 (W.heap[j]? = some (.cells #[.int .i64 x0, .slice xA xl.length xc, .string x2] 34)) := ⟨by rw [hW, hj]; exact Go.heap_alloc_new _ _⟩
  have HW := Aside0.mk hW
  have HJ := Aside0.mk hj
  clear hq htm hlb hcn hx hs hln hC hW hj
  go_enter Try.func32, Try.ntmps32
  go_wp2_with fail
  try rw [← HW.out]
  try rw [← HJ.out]
  clear HW HJ
  ((refine (HT.out _).mono ?_); rintro e w1 ⟨rfl, hb1⟩)
  have HB := Aside0.mk (below_step HB.out hb1)
  have X0 := Aside0.mk (heap_below hb1 X0.out)
  clear hb1
  cases tm with
  | false =>
    have HF : Aside0 (q = false) := ⟨HQ.out⟩
    go_wp2
    go_ret
    exact ⟨by rw [HF.out]; rfl, HB.out⟩
  | true =>
    have c1 : w1.cell? ⟨j, 1, none⟩ = some (.slice xA xl.length xc) := blk_cell X0.out 1
    go_wp2_with fail
    clear c1
    ((refine (HLb.out _ HB.out).mono ?_); rintro e w2 ⟨rfl, hb1⟩)
    have HB := Aside0.mk (below_step HB.out hb1)
    have X0 := Aside0.mk (heap_below hb1 X0.out)
    clear hb1
    cases lb with
    | false =>
      have HF : Aside0 (q = false) := ⟨HQ.out⟩
      go_wp2
      go_ret
      exact ⟨by rw [HF.out]; rfl, HB.out⟩
    | true =>
      have c1 : w2.cell? ⟨j, 2, none⟩ = some (.string x2) := blk_cell X0.out 2
      by_cases h2 : x2.size ≤ 200
      · have d1 : decide ((x2.size : Int) ≤ 200) = true := decide_eq_true (by omega)
        have d2 : decide (x2.size ≤ 200) = true := decide_eq_true (by omega)
        have HF : Aside0 (q = !cn) := ⟨by rw [HQ.out, d2]; rfl⟩
        clear h2
        go_wp2_with fail
        ((refine (HCn.out _ HB.out).mono ?_); rintro e w3 ⟨rfl, rfl⟩)
        go_wp2
        go_ret
        exact ⟨by rw [HF.out]; rfl, HB.out⟩
      · have d1 : decide ((x2.size : Int) ≤ 200) = false := decide_eq_false (by omega)
        have d2 : decide (x2.size ≤ 200) = false := decide_eq_false (by omega)
        have HF : Aside0 (q = false) := ⟨by rw [HQ.out, d2]; rfl⟩
        clear h2
        go_wp2
        go_ret
        exact ⟨by rw [HF.out]; rfl, HB.out⟩
end Go.Proofs.Ytfejjfbhlmjkeaa.C
set_option linter.unusedVariables false
set_option linter.unusedSimpArgs false
namespace Go.Proofs.Ytfejjfbhlmjkeaa.C
open Go.RowKit Go.Sort Go.Proofs.YtfejjfbhlmjkeaaW.PrintWords Go.Proofs.YtfejjfbhlmjkeaaW.PrintLast Go.Proofs.YtfejjfbhlmjkeaaW.PrintMore Go.Proofs.Ytfejjfbhlmjkeaa.B Go.Proofs.Ytfejjfbhlmjkeaa.PRecordIs Go.Proofs.Ytfejjfbhlmjkeaa.CQ Go.Proofs.Ytfejjfbhlmjkeaa.Vi Go.Proofs.Ytfejjfbhlmjkeaa.N
def xA : Ent := ⟨5, none, 0, [], ⟨#[98]⟩⟩
def xB (g : Nat) : Ent := ⟨6, some ⟨g, 0, none⟩, 1, [⟨⟨#[97, 112, 112]⟩, ⟨#[120]⟩⟩], ⟨#[97]⟩⟩
def kA : Key := ⟨5, [], ⟨#[98]⟩⟩
def kB : Key := ⟨6, [⟨⟨#[97, 112, 112]⟩, ⟨#[120]⟩⟩], ⟨#[97]⟩⟩
theorem xA_in (W : World) : xA.In W := ⟨⟨rfl, Nat.zero_le _, fun h => absurd h (Nat.lt_irrefl 0)⟩, Nat.le_refl _, Nat.zero_le _⟩
theorem xB_in {W : World} {g : Nat} (h : W.heap[g]? = some (.cells #[.string ⟨#[97, 112, 112]⟩, .string ⟨#[120]⟩] 47)) : (xB g).In W := by
  refine ⟨⟨rfl, (show 1 ≤ 9223372036854775807 by decide), fun _ => ⟨_, rfl, fun j x hx => ?_⟩⟩, Nat.le_refl _, (show 1 ≤ 100000 by decide)⟩
  refine ⟨_, rfl, k47_mk W x, fun i u hu => ?_⟩
  have hj : j = 0 := by
    rcases Nat.eq_zero_or_pos j with h1 | h1
    · exact h1
    · rw [List.getElem?_eq_none (by exact h1)] at hx; cases hx
  subst hj
  have hx' : x = ⟨⟨#[97, 112, 112]⟩, ⟨#[120]⟩⟩ := (Option.some.inj hx).symm
  subst hx'
  have e : (⟨g, 0, none⟩ : Addr).add (0 * k47.sz + i) = ⟨g, i, none⟩ := by rw [add_at]; simp
  rw [e, blk_cell h]
  match i, hu with
  | 0, hu => rw [← hu]; rfl
  | 1, hu => rw [← hu]; rfl
theorem cmpAB : cmpE kA kB = -1 := by decide +kernel
theorem name_app : nameB ⟨#[97, 112, 112]⟩ = true := by rw [nameB_eq]; decide +kernel
theorem goodB : goodE kB = true := by
  have h1 : labAt kB.ls 0 = true := by
    show (nameB ⟨#[97, 112, 112]⟩ && (decide ((⟨#[120]⟩ : ByteArray).size ≤ 20) && (true || _))) = true
    rw [name_app]; rfl
  have h2 : goodL kB.ls = true := by
    show (((true && labAt kB.ls 0)) && decide (1 ≤ 4)) = true
    rw [h1]; rfl
  have h3 : lineOk kB.line = true := by kernel_rfl
  show (timeOk 6 && (goodL kB.ls && lineOk kB.line)) = true
  rw [h2, h3]; decide
theorem entA : (entB kA).length = 4 := by
  have h1 : zig 5 = 10 := by decide +kernel
  show (vint (zig 5) ++ ((vint 0 ++ []) ++ (vint 1 ++ [98]))).length = 4
  rw [h1, vint_small (by decide), vint_small (by decide), vint_small (by decide)]
  rfl
theorem up_BA : Up (cmpO true) [kB, kA] := List.pairwise_cons.2 ⟨fun y hy => by
  rw [List.mem_singleton] at hy
  subst hy
  exact cmpAB, List.pairwise_singleton _ _⟩
set_option maxRecDepth 20000 in
theorem alive_any (w : World) (hC : Con w) :
    Calls Try.prog 19 #[] w fun e w' => e = .returned (.bool true) ∧ Below w.heap.size w w' := by
  have HC := Aside0.mk hC
  clear hC
  obtain ⟨W, hW⟩ : ∃ W, W = (((w.alloc (.cells #[.string ⟨#[97, 112, 112]⟩, .string ⟨#[120]⟩] 47)).alloc (.cells #[.int .i64 5, .slice none 0 0, .string ⟨#[98]⟩] 34)).alloc (.cells #[.int .i64 6, .slice (some ⟨w.heap.size, 0, none⟩) 1 1, .string ⟨#[97]⟩] 34)).alloc (.cells #[.int .i64 5, .slice none 0 0, .string ⟨#[98]⟩, .int .i64 6, .slice (some ⟨w.heap.size, 0, none⟩) 1 1, .string ⟨#[97]⟩, .int .i64 5, .slice none 0 0, .string ⟨#[98]⟩] 34) := ⟨_, rfl⟩
  obtain ⟨g, hg⟩ : ∃ g, g = w.heap.size := ⟨_, rfl⟩
  have HB : Aside0 (Below w.heap.size w W) := ⟨by rw [hW]; exact below_alloc (below_alloc (below_alloc (below_alloc (Below.refl _ w) _) _) _) _⟩
  have X0 : Aside0 (W.heap[g]? = some (.cells #[.string ⟨#[97, 112, 112]⟩, .string ⟨#[120]⟩] 47)) := ⟨by rw [hW, hg]; exact blk_alloc (blk_alloc (blk_alloc (Go.heap_alloc_new _ _) _) _) _⟩
  have X1 : Aside0 (W.heap[g + 1]? = some (.cells #[.int .i64 5, .slice none 0 0, .string ⟨#[98]⟩] 34)) := ⟨by rw [hW, hg]; exact blk_alloc (blk_alloc (box1 _ _ _) _) _⟩
  have X2 : Aside0 (W.heap[g + 1 + 1]? = some (.cells #[.int .i64 6, .slice (some ⟨g, 0, none⟩) 1 1, .string ⟨#[97]⟩] 34)) := ⟨by
    rw [hW, hg]
    have := box1 (w.alloc (.cells #[.string ⟨#[97, 112, 112]⟩, .string ⟨#[120]⟩] 47)) (.cells #[.int .i64 5, .slice none 0 0, .string ⟨#[98]⟩] 34) (.cells #[.int .i64 6, .slice (some ⟨w.heap.size, 0, none⟩) 1 1, .string ⟨#[97]⟩] 34)
    refine blk_alloc ?_ _
    simpa using this⟩
  have X3 : Aside0 (W.heap[g + 1 + 1 + 1]? = some (.cells #[.int .i64 5, .slice none 0 0, .string ⟨#[98]⟩, .int .i64 6, .slice (some ⟨g, 0, none⟩) 1 1, .string ⟨#[97]⟩, .int .i64 5, .slice none 0 0, .string ⟨#[98]⟩] 34)) := ⟨by
    rw [hW, hg]
    have := Go.heap_alloc_new (((w.alloc (.cells #[.string ⟨#[97, 112, 112]⟩, .string ⟨#[120]⟩] 47)).alloc (.cells #[.int .i64 5, .slice none 0 0, .string ⟨#[98]⟩] 34)).alloc (.cells #[.int .i64 6, .slice (some ⟨w.heap.size, 0, none⟩) 1 1, .string ⟨#[97]⟩] 34)) (.cells #[.int .i64 5, .slice none 0 0, .string ⟨#[98]⟩, .int .i64 6, .slice (some ⟨w.heap.size, 0, none⟩) 1 1, .string ⟨#[97]⟩, .int .i64 5, .slice none 0 0, .string ⟨#[98]⟩] 34)
    simpa using this⟩
  have HS : Aside0 (Calls Try.prog 25 #[.bool true, .slice (some ⟨g + 1 + 1 + 1, 0, none⟩) 3 3] W fun e w' => ∃ gg cap, e = .returned (.slice (some ⟨gg, 0, none⟩) 2 cap) ∧ w'.cell? ⟨gg, 0, none⟩ = some (.int .i64 6) ∧ Below W.heap.size W w') := ⟨by
    have row : RowE (w0 := W) W (g + 1 + 1 + 1) 0 [⟨xA, xA_in W⟩, ⟨xB g, xB_in X0.out⟩, ⟨xA, xA_in W⟩] := by
      intro i x hx
      rw [blk_cell X3.out, blk_cell X3.out, blk_cell X3.out]
      match i, hx with
      | 0, hx => cases hx; exact ⟨rfl, rfl, rfl⟩
      | 1, hx => cases hx; exact ⟨rfl, rfl, rfl⟩
      | 2, hx => cases hx; exact ⟨rfl, rfl, rfl⟩
    refine (sort_any (w0 := W) true [⟨xA, xA_in W⟩, ⟨xB g, xB_in X0.out⟩, ⟨xA, xA_in W⟩] (g + 1 + 1 + 1) 0 3 row (show 3 ≤ 100000 by decide)).mono ?_
    rintro e w' ⟨gg, cap, r, rfl, h1, h2, h3, h4, h5, h6, h7⟩
    have hr : r.map keyOf = [kB, kA] := by
      refine up_unique (cmpO_c true) h6 up_BA fun k => ?_
      rw [h7]
      have : ([⟨xA, xA_in W⟩, ⟨xB g, xB_in X0.out⟩, ⟨xA, xA_in W⟩] : List (EntIn W)).map keyOf = [kA, kB, kA] := rfl
      rw [this]
      simp only [List.mem_cons, List.not_mem_nil, or_false]
      constructor
      · rintro (h | h | h)
        · exact Or.inr h
        · exact Or.inl h
        · exact Or.inr h
      · rintro (h | h)
        · exact Or.inr (Or.inl h)
        · exact Or.inl h
    have hlen : r.length = 2 := by have := congrArg List.length hr; rwa [List.length_map] at this
    refine ⟨gg, cap, by rw [hlen], ?_, h5⟩
    match r, hr, h4 with
    | x :: r', hr, h4 =>
      have hk : keyOf x = kB := (List.cons.inj hr).1
      have h8 := (h4 0 x rfl).1
      have h9 : x.1.at_ = 6 := congrArg Key.at_ hk
      rw [h9] at h8
      exact h8⟩
  have HW := Aside0.mk hW
  have HJ := Aside0.mk hg
  clear hW hg X3
  go_enter Try.func19, Try.ntmps19
  go_wp2_with fail
  try rw [← HW.out]
  try rw [← HJ.out]
  clear HW HJ
  ((refine HS.out.mono ?_); rintro e w1 ⟨gg, cap, rfl, hc0, hb1⟩)
  have HB := Aside0.mk (below_step HB.out hb1)
  have X0 := Aside0.mk (heap_below hb1 X0.out)
  have X1 := Aside0.mk (heap_below hb1 X1.out)
  have X2 := Aside0.mk (heap_below hb1 X2.out)
  have HL := Aside0.mk hc0
  clear hb1 hc0 HS
  have b0 : w1.cell? ⟨g + 1 + 1, 0, none⟩ = some (.int .i64 6) := blk_cell X2.out 0
  have b1 : w1.cell? ⟨g + 1 + 1, 1, none⟩ = some (.slice (some ⟨g, 0, none⟩) 1 1) := blk_cell X2.out 1
  have b2 : w1.cell? ⟨g + 1 + 1, 2, none⟩ = some (.string ⟨#[97]⟩) := blk_cell X2.out 2
  go_wp2_with fail
  clear b0 b1 b2
  have HG : Aside0 (Calls Try.prog 32 #[.agg #[.int .i64 6, .slice (some ⟨g, 0, none⟩) 1 1, .string ⟨#[97]⟩]] w1 fun e w' => e = .returned (.bool true) ∧ Below w1.heap.size w1 w') := ⟨by
    have h := good_any (xB g) w1 (xB_in X0.out) (fun y hy => by
      have : y = ⟨⟨#[97, 112, 112]⟩, ⟨#[120]⟩⟩ := List.mem_singleton.1 hy
      subst this
      exact (show 3 ≤ 4611686018427 by decide)) (show 1 < 4294967281 by decide) (HC.out.below HB.out)
    rw [show goodE (xB g).key = true from goodB] at h
    exact h⟩
  ((refine HG.out.mono ?_); rintro e w2 ⟨rfl, hb1⟩)
  have HB := Aside0.mk (below_step HB.out hb1)
  have X0 := Aside0.mk (heap_below hb1 X0.out)
  have X1 := Aside0.mk (heap_below hb1 X1.out)
  have X2 := Aside0.mk (heap_below hb1 X2.out)
  have HL := Aside0.mk (cell_below hb1 HL.out)
  clear hb1 HG
  have a0 : w2.cell? ⟨g + 1, 0, none⟩ = some (.int .i64 5) := blk_cell X1.out 0
  have a1 : w2.cell? ⟨g + 1, 1, none⟩ = some (.slice none 0 0) := blk_cell X1.out 1
  have a2 : w2.cell? ⟨g + 1, 2, none⟩ = some (.string ⟨#[98]⟩) := blk_cell X1.out 2
  have b0 : w2.cell? ⟨g + 1 + 1, 0, none⟩ = some (.int .i64 6) := blk_cell X2.out 0
  have b1 : w2.cell? ⟨g + 1 + 1, 1, none⟩ = some (.slice (some ⟨g, 0, none⟩) 1 1) := blk_cell X2.out 1
  have b2 : w2.cell? ⟨g + 1 + 1, 2, none⟩ = some (.string ⟨#[97]⟩) := blk_cell X2.out 2
  go_wp2_with fail
  clear a0 a1 a2 b0 b1 b2
  have HG : Aside0 (Calls Try.prog 22 #[.agg #[.int .i64 5, .slice none 0 0, .string ⟨#[98]⟩], .agg #[.int .i64 6, .slice (some ⟨g, 0, none⟩) 1 1, .string ⟨#[97]⟩]] w2 fun e w' => e = .returned (.int .i64 (-1)) ∧ Bd w2 w') := ⟨by
    have h := compare_any xA (xB g) w2 (xA_in w2) (xB_in X0.out)
    rw [show cmpE xA.key (xB g).key = -1 from cmpAB] at h
    exact h⟩
  ((refine HG.out.mono ?_); rintro e w3 ⟨rfl, ⟨hb1, -⟩⟩)
  have HB := Aside0.mk (below_step HB.out hb1)
  have X1 := Aside0.mk (heap_below hb1 X1.out)
  have HL := Aside0.mk (cell_below hb1 HL.out)
  clear hb1 HG X0 X2
  have a0 : w3.cell? ⟨g + 1, 0, none⟩ = some (.int .i64 5) := blk_cell X1.out 0
  have a1 : w3.cell? ⟨g + 1, 1, none⟩ = some (.slice none 0 0) := blk_cell X1.out 1
  have a2 : w3.cell? ⟨g + 1, 2, none⟩ = some (.string ⟨#[98]⟩) := blk_cell X1.out 2
  have l0 := HL.out
  go_wp2_with fail
  clear a0 a1 a2 l0
  have HG : Aside0 (Calls Try.prog 37 #[.slice none 0 0, .agg #[.int .i64 5, .slice none 0 0, .string ⟨#[98]⟩]] w3 fun e w' => ∃ A c, e = .returned (.slice A 4 c) ∧ Below w3.heap.size w3 w') := ⟨by
    refine (putE_any (w0 := w3) (w := w3) (.slice none 0 0) [] xA (Below.refl _ _) (xA_in w3) ⟨Nat.zero_le _, fun y hy => by cases hy⟩ (show 1 ≤ 1000000 by decide) (show -9223372036854775808 ≤ (5 : Int) ∧ (5 : Int) ≤ 9223372036854775807 by decide) (Own.nil _ _ _) (Nat.zero_le _)).mono ?_
    rintro e w' ⟨v', rfl, h1, h2, -⟩
    obtain ⟨A, c, rfl, -, -⟩ := h1.shape
    have hl : (cs ([] ++ entB xA.key)).length = 4 := by rw [cs_length]; exact entA
    rw [hl]
    exact ⟨A, c, rfl, (Below.refl _ w3).grown h2 (Nat.le_refl _) (fun k hk => by cases hk)⟩⟩
  ((refine HG.out.mono ?_); rintro e w4 ⟨A, c, rfl, hb1⟩)
  have HB := Aside0.mk (below_step HB.out hb1)
  clear hb1 HG
  go_wp2
  go_ret
  exact ⟨rfl, HB.out⟩
end Go.Proofs.Ytfejjfbhlmjkeaa.C
end
