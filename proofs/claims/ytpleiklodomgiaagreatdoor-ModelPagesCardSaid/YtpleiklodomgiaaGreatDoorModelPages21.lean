import Derived.Lib.ItoaNum
import Derived.OwnWalk
import Derived.LoopTactic
import Derived.WalkKit
import Derived.KernelRfl
import Derived.OpenShut
import Derived.Test.YtpleiklodomgiaaGreatDoorModelPages2
import Derived.Test.YtpleiklodomgiaaGreatDoorModelPages3
import Derived.Test.YtpleiklodomgiaaGreatDoorModelPages4
import Derived.Test.YtpleiklodomgiaaGreatDoorModelPages5
import Derived.Test.YtpleiklodomgiaaGreatDoorModelPages6
import Derived.Test.YtpleiklodomgiaaGreatDoorModelPages9
import Derived.Test.YtpleiklodomgiaaGreatDoorModelPages10
import Derived.Test.YtpleiklodomgiaaGreatDoorModelPages11
import Derived.Test.YtpleiklodomgiaaGreatDoorModelPages12
import Derived.Test.YtpleiklodomgiaaGreatDoorModelPages14
import Derived.Test.YtpleiklodomgiaaGreatDoorModelPages7
set_option linter.unusedVariables false
set_option linter.unusedSimpArgs false
section
namespace Go.Proofs.YtpleiklodomgiaaGreatDoor.B
end Go.Proofs.YtpleiklodomgiaaGreatDoor.B
namespace Go.Proofs.YtpleiklodomgiaaGreatDoor.Bt
end Go.Proofs.YtpleiklodomgiaaGreatDoor.Bt
namespace Go.Proofs.YtpleiklodomgiaaGreatDoor.Vi
end Go.Proofs.YtpleiklodomgiaaGreatDoor.Vi
namespace Go.Proofs.YtpleiklodomgiaaGreatDoor.N
open Go.RowKit Go.Proofs.YtpleiklodomgiaaGreatDoorW.PrintWords Go.Proofs.YtpleiklodomgiaaGreatDoorW.PrintLast Go.Proofs.YtpleiklodomgiaaGreatDoor.Bt Go.Proofs.YtpleiklodomgiaaGreatDoor.B Go.Proofs.YtpleiklodomgiaaGreatDoor.Vi
theorem cut_any {P : Program} (t e : TypeId) (kl : IntKind) {i : TypeInfo} (ht : P.underlying t = some (.slice e)) (hi : P.info? e = some i) (hsz : i.size = 1) (b off n c m : Nat) (hm : m ≤ n) (hc : n ≤ c) :
  ∃ off', (∀ W : World, (Instr.slice t (.slice (some ⟨b, off, none⟩) n c) (some (.int kl (m : Int))) none none).run P W = .ok (.slice (some ⟨b, off', none⟩) (n - m) (c - m)) W) ∧ (m < n → off' = off + m) := by
 refine ⟨if c = m then off else off + m, fun W => ?_, fun h => if_neg (by omega)⟩
 have hel : P.elem t = e := by simp [Program.elem, ht]
 have hu : P.underlying t = some (.slice (P.elem t)) := by rw [hel]; exact ht
 rw [run_slice_l W t (some ⟨b, off, none⟩) n c hu kl (m : Int) (Int.natCast_nonneg _) (by omega), hel]
 by_cases hcm : c = m
 ·simp [sizeOf, typeInfo, hi, hsz, sliced, Result.andThen, hcm]
 ·have ha : (⟨b, off, none⟩ : Addr).add m = ⟨b, off + m, none⟩ := by unfold Addr.add; split <;> simp_all
  simp [sizeOf, typeInfo, hi, hsz, sliced, Result.andThen, hcm, ha]
end Go.Proofs.YtpleiklodomgiaaGreatDoor.N
end
section
namespace Go.Proofs.YtpleiklodomgiaaGreatDoor.N
open Go.RowKit Go.Proofs.YtpleiklodomgiaaGreatDoorW.PrintWords Go.Proofs.YtpleiklodomgiaaGreatDoorW.PrintLast Go.Proofs.YtpleiklodomgiaaGreatDoor.Bt Go.Proofs.YtpleiklodomgiaaGreatDoor.B Go.Proofs.YtpleiklodomgiaaGreatDoor.Vi
theorem low7 {q : Nat} (hq : q < 256) : Go.bits .and .u8 (q : Int) 127 = ((q % 128 : Nat) : Int) := by
 have h := bits_mask .u8 8 (by decide) wraps_u8 7 (by decide) (q : Int) (by omega) (by omega)
 have e : ((2 : Int) ^ 7 - 1) = 127 := by decide
 rw [e] at h
 rw [h]
 omega
theorem acc_eq {acc q i : Nat} (ha : acc < 128 ^ i) (hq : q < 256) (hi : i ≤ 9) (h9 : i = 9 → q ≤ 1) :
  Go.bits .or .u64 (acc : Int) (IntKind.u64.wrap (IntKind.u64.wrap (Go.bits .and .u8 (q : Int) 127) * 2 ^ (7 * i))) = ((acc + 128 ^ i * (q % 128) : Nat) : Int) := by
 have hp : 128 ^ i = 2 ^ (7 * i) := by rw [show (128 : Nat) = 2 ^ 7 by decide, ← Nat.pow_mul]
 have hle : 128 ^ i * (q % 128) < 18446744073709551616 := by
  by_cases h : i = 9
  ·subst h
   have h1 : (128 : Nat) ^ 9 = 9223372036854775808 := by decide
   have h2 := h9 rfl
   rw [h1]
   omega
  ·have h1 : 128 ^ i ≤ 128 ^ 8 := Nat.pow_le_pow_right (by decide) (by omega)
   have h2 : (128 : Nat) ^ 8 = 72057594037927936 := by decide
   have h3 : 128 ^ i * (q % 128) ≤ 128 ^ i * 127 := Nat.mul_le_mul_left _ (by omega)
   omega
 have hal : acc < 18446744073709551616 := by
  have h1 : 128 ^ i ≤ 128 ^ 9 := Nat.pow_le_pow_right (by decide) hi
  have h2 : (128 : Nat) ^ 9 = 9223372036854775808 := by decide
  omega
 rw [low7 hq, u64_wrap, u64_wrap]
 have e1 : (((q % 128 : Nat) : Int) % 18446744073709551616) = ((q % 128 : Nat) : Int) := by omega
 have e2 : (((q % 128 : Nat) : Int) * 2 ^ (7 * i)) = ((128 ^ i * (q % 128) : Nat) : Int) := by
  rw [hp]
  simp [Int.mul_comm]
 rw [e1, e2]
 have e3 : (((128 ^ i * (q % 128) : Nat) : Int) % 18446744073709551616) = ((128 ^ i * (q % 128) : Nat) : Int) := by
  generalize 128 ^ i * (q % 128) = z at hle
  omega
 rw [e3, or64 hal hle, Nat.or_comm]
 congr 1
 rw [hp] at ha ⊢
 rw [← Nat.two_pow_add_eq_or_of_lt ha, Nat.add_comm]
end Go.Proofs.YtpleiklodomgiaaGreatDoor.N
end
section
namespace Go.Proofs.YtpleiklodomgiaaGreatDoor.N
open Go.RowKit Go.Proofs.YtpleiklodomgiaaGreatDoor.Vi
def val : List UInt8 → Nat
 | [] => 0
 | b :: t => b.toNat % 128 + 128 * val t
end Go.Proofs.YtpleiklodomgiaaGreatDoor.N
end
