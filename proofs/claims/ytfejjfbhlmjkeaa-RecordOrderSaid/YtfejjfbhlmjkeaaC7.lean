/- record.Name. -/
import Derived.Test.YtfejjfbhlmjkeaaC1
import Derived.Test.YtfejjfbhlmjkeaaW3
set_option linter.unusedVariables false
set_option linter.unusedSimpArgs false
namespace Go.Proofs.Ytfejjfbhlmjkeaa.C
open Go.RowKit Go.Proofs.YtfejjfbhlmjkeaaW.PrintWords Go.Proofs.YtfejjfbhlmjkeaaW.PrintLast Go.Proofs.YtfejjfbhlmjkeaaW.PrintMore Go.Proofs.Ytfejjfbhlmjkeaa.B Go.Proofs.Ytfejjfbhlmjkeaa.PRecordIs Go.Proofs.Ytfejjfbhlmjkeaa.CQ

/-- A byte that a name may have at a place. -/
def byteOk (b : UInt8) (first : Bool) : Bool := decide (b.toNat < 128) && !(first && decide (48 ≤ b.toNat) && decide (b.toNat ≤ 57))
def bytesOk (s : ByteArray) : Nat → Bool
  | 0 => true
  | i + 1 => bytesOk s i && byteOk (s.data.toList.getD i 0) (i == 0)
/-- Whether a text can be a label's name. -/
def nameB (s : ByteArray) : Bool := bytesOk s s.size && (decide (s.size ≤ 20) && W.isWord s)
theorem bytesOk_not {s : ByteArray} {i : Nat} (h : bytesOk s i = false) : ∀ n, i ≤ n → bytesOk s n = false := by
  intro n
  induction n with
  | zero => intro hi; rw [show i = 0 by omega] at h; exact h
  | succ n ih =>
    intro hi
    by_cases e : i = n + 1
    · subst e; exact h
    · simp only [bytesOk]
      rw [ih (by omega)]; rfl
theorem byte_at {s : ByteArray} {i : Nat} (h : i < s.size) : s.data.toList.getD i 0 = s[i] := by
  rw [List.getD_eq_getElem?_getD, List.getElem?_eq_getElem (by rw [Array.length_toList]; exact h)]
  rfl
set_option maxRecDepth 20000 in
theorem name_any (s : ByteArray) (w : World) (hs : s.size ≤ 4611686018427) :
    Calls Try.prog 28 #[.string s] w fun e w' => e = .returned (.bool (nameB s)) ∧ Below w.heap.size w w' := by
  have HS := Aside0.mk hs
  have HN : Aside0 (nameB s = (bytesOk s s.size && (decide (s.size ≤ 20) && W.isWord s))) := ⟨rfl⟩
  obtain ⟨q, hq⟩ : ∃ q, q = nameB s := ⟨_, rfl⟩
  rw [← hq] at HN ⊢
  obtain ⟨qw, hqw⟩ : ∃ q, q = W.isWord s := ⟨_, rfl⟩
  rw [← hqw] at HN
  have HI : Aside0 (∀ V, Calls Try.prog 15 #[.string s] V fun e w' => e = .returned (.bool qw) ∧ Below V.heap.size V w') := ⟨fun V => by rw [hqw]; exact W.is_any s V hs⟩
  clear hs hq hqw
  go_enter Try.func28, Try.ntmps28
  go_wp2
  go_loopw [6] (fun t6 wr => ∃ i : Nat, i ≤ s.size ∧ t6 = .int .i64 (i : Int) ∧ Aside0 (Below w.heap.size w wr) ∧ Aside0 (bytesOk s i = true)) (fun t6 _ => s.size - (intOf t6).toNat)
  case atStart => exact ⟨0, Nat.zero_le _, rfl, ⟨Below.refl _ w⟩, ⟨rfl⟩⟩
  case round =>
    obtain ⟨i, hi, rfl, HB, HO⟩ := hrel
    by_cases hlt : i < s.size
    · have d1 : decide (i < s.size) = true := decide_eq_true hlt
      obtain ⟨b, hb⟩ : ∃ b, b = s[i] := ⟨_, rfl⟩
      have HE : Aside0 (bytesOk s (i + 1) = byteOk b (i == 0)) := ⟨by simp only [bytesOk]; rw [HO.out, byte_at hlt, ← hb]; rfl⟩
      have Hlt := Aside0.mk hlt
      replace hb := hb.symm
      have STOP : Aside0 (byteOk b (i == 0) = false → q = false) := ⟨fun h => by
        rw [HN.out, bytesOk_not (HE.out.trans h) s.size (by have := Hlt.out; omega)]; rfl⟩
      have HE2 : Aside0 (byteOk b (i == 0) = true → bytesOk s (i + 1) = true) := ⟨fun h => HE.out.trans h⟩
      clear HE
      obtain ⟨m, hm⟩ : ∃ m : Nat, m = b.toNat := ⟨_, rfl⟩
      have HM := Aside0.mk hm
      replace hm := hm.symm
      by_cases h128 : 128 ≤ m
      · have c1 : decide ((128 : Int) ≤ (m : Int)) = true := decide_eq_true (by omega)
        have HF : Aside0 (q = false) := ⟨STOP.out (by unfold byteOk; rw [← HM.out]; simp; omega)⟩
        go_wp2
        go_ret
        exact ⟨by rw [HF.out]; rfl, HB.out⟩
      · have c1 : decide ((128 : Int) ≤ (m : Int)) = false := decide_eq_false (by omega)
        have H128 := Aside0.mk h128
        clear h128
        by_cases hi0 : i = 0
        · have HI0 := Aside0.mk hi0
          by_cases h48 : 48 ≤ m
          · have c2 : decide ((48 : Int) ≤ (m : Int)) = true := decide_eq_true (by omega)
            by_cases h57 : m ≤ 57
            · have c3 : decide ((m : Int) ≤ (57 : Int)) = true := decide_eq_true (by omega)
              have HF : Aside0 (q = false) := ⟨STOP.out (by unfold byteOk; rw [← HM.out, HI0.out]; simp; omega)⟩
              clear h48 h57
              subst hi0
              go_wp2
              go_ret
              exact ⟨by rw [HF.out]; rfl, HB.out⟩
            · have c3 : decide ((m : Int) ≤ (57 : Int)) = false := decide_eq_false (by omega)
              have R := Aside0.mk (HE2.out (by unfold byteOk; rw [← HM.out, HI0.out]; have := H128.out; simp; omega))
              clear h48 h57
              subst hi0
              go_wp2
              go_roundw
              case rel => exact ⟨1, by have := Hlt.out; omega, rfl, HB, R⟩
              case measure => have h1 := Hlt.out; simp [intOf]; omega
          · have c2 : decide ((48 : Int) ≤ (m : Int)) = false := decide_eq_false (by omega)
            have R := Aside0.mk (HE2.out (by unfold byteOk; rw [← HM.out, HI0.out]; have := H128.out; simp; omega))
            clear h48
            subst hi0
            go_wp2
            go_roundw
            case rel => exact ⟨1, by have := Hlt.out; omega, rfl, HB, R⟩
            case measure => have h1 := Hlt.out; simp [intOf]; omega
        · have c0 : decide (i = 0) = false := decide_eq_false hi0
          have R := Aside0.mk (HE2.out (by unfold byteOk; rw [← HM.out]; have := H128.out; simp [hi0]; omega))
          go_wp2
          go_roundw
          case rel => exact ⟨i + 1, by have := Hlt.out; omega, by rw [w64_in _ (by have := Hlt.out; have := HS.out; omega)]; rfl, HB, R⟩
          case measure => have h1 := Hlt.out; have h2 := HS.out; rw [w64_in _ (by omega)]; simp [intOf]; omega
    · have d1 : decide (i < s.size) = false := decide_eq_false hlt
      have HQ : Aside0 (q = (decide (s.size ≤ 20) && qw)) := ⟨by rw [HN.out, show s.size = i by omega, HO.out]; rfl⟩
      by_cases h20 : s.size ≤ 20
      · have c1 : decide ((s.size : Int) ≤ 20) = true := decide_eq_true (by omega)
        have HQ2 : Aside0 (q = qw) := ⟨by rw [HQ.out, decide_eq_true h20]; rfl⟩
        clear hlt hi h20
        go_wp2_with (go_at_call 15; refine (HI.out _).mono ?_; rintro e w1 ⟨rfl, hb1⟩; have HB1 := Aside0.mk (below_step HB.out hb1); clear hb1)
        go_ret
        exact ⟨by rw [HQ2.out]; simp, HB1.out⟩
      · have c1 : decide ((s.size : Int) ≤ 20) = false := decide_eq_false (by omega)
        have HQ2 : Aside0 (q = false) := ⟨by rw [HQ.out, decide_eq_false h20]; rfl⟩
        clear hlt hi h20
        go_wp2
        go_ret
        exact ⟨by rw [HQ2.out]; simp, HB.out⟩
end Go.Proofs.Ytfejjfbhlmjkeaa.C
