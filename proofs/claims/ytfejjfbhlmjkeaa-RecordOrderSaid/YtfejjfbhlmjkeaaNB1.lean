/- What the writers of layer 1 compute: Size, Uint, Int, Text, Bool, over whatever bytes the call owns. -/
import Derived.Test.YtfejjfbhlmjkeaaB
import Derived.Test.YtfejjfbhlmjkeaaSBits
import Derived.Test.YtfejjfbhlmjkeaaVint
import Derived.Test.YtfejjfbhlmjkeaaCon
import Derived.Test.YtfejjfbhlmjkeaaWLast
import Derived.OwnWalk
import Derived.LoopTactic
import Derived.WalkKit
import Derived.KernelRfl
import Derived.OpenShut
set_option linter.unusedVariables false
set_option linter.unusedSimpArgs false
namespace Go.Proofs.Ytfejjfbhlmjkeaa.N
open Go.RowKit Go.Proofs.YtfejjfbhlmjkeaaW.PrintWords Go.Proofs.YtfejjfbhlmjkeaaW.PrintLast Go.Proofs.Ytfejjfbhlmjkeaa.Bt Go.Proofs.Ytfejjfbhlmjkeaa.B Go.Proofs.Ytfejjfbhlmjkeaa.Vi

theorem info8 : (Try.prog.info? 5).map (fun i => (i.zero, i.size, i.bytes)) = some (some (.int .u8 0), 1, 1) := by kernel_rfl
theorem ret_int {k : IntKind} {a b : Int} (h : a = b) : Ending.returned (.int k a) = .returned (.int k b) := by rw [h]

set_option maxHeartbeats 400000 in
theorem size_any (n : Nat) (hn : n < 18446744073709551616) (w : World) : Calls Try.prog 83 #[.int .u64 (n : Int)] w fun e w' => e = .returned (.int .i64 ((vint n).length : Int)) ∧ w = w' := by
  have hs := size_bits hn
  have hb : Lib.bitLen n ≤ 76 := by
    have := vint_le10 hn
    omega
  obtain ⟨q, hq⟩ : ∃ q, q = Lib.bitLen n := ⟨_, rfl⟩
  rw [← hq] at hs hb
  have hc : ∀ W, Calls Try.prog 94 #[.int .u64 (n : Int)] W fun e w' => e = .returned (.int .i64 (q : Int)) ∧ W = w' := fun W => by
    refine (Try.bits_Len64 (n : Int) W (by omega) (by omega)).mono ?_
    rintro e w' ⟨rfl, rfl⟩
    exact ⟨by rw [hq]; simp, rfl⟩
  have hs' := Aside0.mk hs
  clear hs hq hn
  go_enter Try.func83, Try.ntmps83
  go_wp2_with fail
  ((with_reducible refine (hc _).mono ?_); rintro e w' ⟨rfl, rfl⟩)
  clear hc
  go_wp2
  all_goals
    go_ret
    refine ⟨ret_int ?_, rfl⟩
    rw [← hs'.out]
    omega
theorem or128 : ∀ a : Nat, a < 256 → a ||| 128 = a % 128 + 128 := by decide +kernel
theorem high_cell (n : Nat) : Value.int .u8 (Go.bits .or .u8 ((n : Int) % 256) 128) = bv (UInt8.ofNat (n % 128 + 128)) := by
  have e : ((n : Int) % 256) = ((n % 256 : Nat) : Int) := by omega
  have h := (bits_nat .u8 8 (by decide) (fun m h0 h1 => by rw [IntKind.wrap_u8]; omega) (n % 256) 128 (by omega) (by decide)).2
  have e2 : (128 : Int) = ((128 : Nat) : Int) := rfl
  rw [e, e2, h, or128 _ (by omega)]
  unfold bv
  rw [UInt8.toNat_ofNat']
  congr 1
  omega
theorem low_cell {n : Nat} (h : n < 128) : Value.int .u8 ((n : Int) % 256) = bv (UInt8.ofNat n) := by
  unfold bv
  rw [UInt8.toNat_ofNat']
  congr 1
set_option maxHeartbeats 800000 in
theorem uint_any (base : Nat) (v : Value) (l : List UInt8) (n : Nat) (w : World) (hO : Own w base 5 v (cs l)) (hbase : base ≤ w.heap.size) (hl : l.length ≤ 4611686018427) (hn : n < 18446744073709551616) :
    Calls Try.prog 81 #[v, .int .u64 (n : Int)] w fun e w' => ∃ v', e = .returned v' ∧ Own w' base 5 v' (cs (l ++ vint n)) ∧ w.grownBy w' v.ownBlock ∧ Near w v v' := by
  have hO' := Aside0.mk hO
  have hbs := Aside0.mk hbase
  have hll := Aside0.mk hl
  have hnn := Aside0.mk hn
  clear hO hbase hl hn
  go_enter Try.func81, Try.ntmps81
  go_wp2
  go_loopw [0, 1] (fun t0 t1 wr => ∃ (l' : List UInt8) (m : Nat), t1 = .int .u64 (m : Int) ∧ Aside0 (m < 18446744073709551616) ∧ Aside0 (l ++ vint n = l' ++ vint m) ∧ Aside0 (Own wr base 5 t0 (cs l')) ∧ Aside0 (w.grownBy wr v.ownBlock) ∧ Aside0 (Near w v t0)) (fun _ t1 _ => (intOf t1).toNat)
  case atStart => exact ⟨l, n, rfl, hnn, ⟨rfl⟩, hO', ⟨grown_refl _ _⟩, ⟨Near.refl _ _⟩⟩
  case round =>
    clear hO'
    obtain ⟨l', m, rfl, hm, hlv, HO, HG, HN⟩ := hrel
    have hsz : Aside0 (l'.length ≤ 4611686018437) := ⟨by
      have h1 := congrArg List.length hlv.out
      rw [List.length_append, List.length_append] at h1
      have h2 := vint_le10 hnn.out
      have h3 := hll.out
      omega⟩
    obtain ⟨A, c, rfl, -, -⟩ := HO.out.shape
    have hsw := Aside0.mk HG.out.size
    by_cases hlt : m < 128
    · have hcH := Aside0.mk (low_cell hlt)
      have hltH := Aside0.mk hlt
      have cc : decide ((128 : Int) ≤ (m : Int)) = false := decide_eq_false (by omega)
      clear hlt
      go_wp2_with (at_builtin; refine wpList_append_b base rfl (.tmp 15) (.tmp 18) 52 5 (.int .u8 0) 1 rfl Try.underlying52 info8 rfl (by decide) (.slice A (cs l').length c) (cs l') rfl (HO.out.alloc _) (some ⟨wr.heap.size, 0, none⟩) 1 1 [bv (UInt8.ofNat m)] rfl rfl ?hn1 (fun h => by cases h) (by intro u hu; simp at hu; subst hu; rfl) (by have := hsz.out; rw [cs_length]; omega) (by have := hbs.out; have := hsw.out; simp; omega) ?_)
      case hn1 =>
        rw [← hcH.out]
        exact news_row wr [_] _
      intro v' w' hown hgr hat
      go_wp2
      go_ret
      refine ⟨v', rfl, ?_, grown_then (grown_alloc HG.out _) hgr HN.out, HN.out.trans (Near.of_at (w0 := wr) hat (by omega)) hsw.out⟩
      rw [hlv.out, vint_small hltH.out, cs_append]
      exact hown
    · have hltH := Aside0.mk hlt
      have cc : decide ((128 : Int) ≤ (m : Int)) = true := decide_eq_true (by omega)
      obtain ⟨b, hb⟩ : ∃ b, b = UInt8.ofNat (m % 128 + 128) := ⟨_, rfl⟩
      have hbH := Aside0.mk hb
      clear hlt hb
      go_wp2_with (at_builtin; refine wpList_append_b base rfl (.tmp 7) (.tmp 11) 52 5 (.int .u8 0) 1 rfl Try.underlying52 info8 rfl (by decide) (.slice A (cs l').length c) (cs l') rfl (HO.out.alloc _) (some ⟨wr.heap.size, 0, none⟩) 1 1 [bv b] rfl rfl ?hn2 (fun h => by cases h) (by intro u hu; simp at hu; subst hu; rfl) (by have := hsz.out; rw [cs_length]; omega) (by have := hbs.out; have := hsw.out; simp; omega) ?_)
      case hn2 =>
        rw [hbH.out, ← high_cell]
        exact news_row wr [_] _
      intro v' w' hown hgr hat
      go_wp2
      go_roundw
      case rel =>
        refine ⟨l' ++ [b], m / 128, by go_num, ⟨by have := hm.out; omega⟩, ⟨?_⟩, ⟨?_⟩, ⟨grown_then (grown_alloc HG.out _) hgr HN.out⟩, ⟨HN.out.trans (Near.of_at (w0 := wr) hat (by omega)) hsw.out⟩⟩
        · rw [hlv.out, vint_big hltH.out, hbH.out]
          simp
        · rw [cs_append]
          exact hown
      case measure => have := hltH.out; simp [intOf]; omega
end Go.Proofs.Ytfejjfbhlmjkeaa.N
