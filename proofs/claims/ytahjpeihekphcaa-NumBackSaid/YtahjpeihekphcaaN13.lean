/- Items that are put and read: what put computes. -/
import Derived.Test.YtahjpeihekphcaaN11
set_option linter.unusedVariables false
set_option linter.unusedSimpArgs false
namespace Go.Proofs.Ytahjpeihekphcaa.N
open Go.RowKit Go.Proofs.YtahjpeihekphcaaW.PrintWords Go.Proofs.YtahjpeihekphcaaW.PrintLast Go.Proofs.Ytahjpeihekphcaa.Bt Go.Proofs.Ytahjpeihekphcaa.B Go.Proofs.Ytahjpeihekphcaa.Vi Go.Proofs.Ytahjpeihekphcaa.Reg

/-- An item. -/
structure It where
  kind : Int
  n : Nat
  s : ByteArray
/-- It as a value. -/
def It.val (x : It) : Value := .agg #[.int .i64 x.kind, .int .u64 (x.n : Int), .string x.s]
theorem wrap64_ge (n : Int) : -9223372036854775808 ≤ wrap64 n ∧ wrap64 n ≤ 9223372036854775807 := by unfold wrap64; omega
/-- Its bytes. -/
def It.bytes (x : It) : List UInt8 :=
  if x.kind = 0 then vint x.n else if x.kind = 1 then vint (zig (wrap64 (x.n : Int))) else if x.kind = 2 then vint x.s.size ++ x.s.data.toList else vint (if x.n % 2 = 1 then 1 else 0)
theorem near_alloc {w : World} {v v' : Value} (o : Obj) (h : Near (w.alloc o) v v') : Near w v v' := Near.trans (Near.refl w v) h (World.grownBy_alloc w o none).size
theorem size_alloc_le (w : World) (o : Obj) {n : Nat} (h : n ≤ w.heap.size) : n ≤ (w.alloc o).heap.size := Nat.le_trans h (World.grownBy_alloc w o none).size
set_option maxHeartbeats 1000000 in
theorem put_c0 (base : Nat) (v : Value) (l L : List UInt8) (kind : Int) (n : Nat) (s : ByteArray) (w : World) (k0 : kind = 0) (HC : Aside0 (∀ W o, W = w.alloc o → Calls Try.prog 22 #[v, .int .u64 (n : Int)] W fun e w' => ∃ v', e = .returned v' ∧ Own w' base 5 v' (cs (l ++ L)) ∧ (W).grownBy w' v.ownBlock ∧ Near (W) v v')) :
    Calls Try.prog 39 #[v, .agg #[.int .i64 kind, .int .u64 (n : Int), .string s]] w fun e w' => ∃ v', e = .returned v' ∧ Own w' base 5 v' (cs (l ++ L)) ∧ w.grownBy w' v.ownBlock ∧ Near w v v' := by
  subst k0
  go_enter Try.func39, Try.ntmps39
  go_wp2_with fail
  ((refine (HC.out _ _ rfl).mono ?_); rintro e w2 ⟨v2, rfl, hO2, hg2, hn2⟩)
  have H2 := Aside0.mk hO2
  have H3 := Aside0.mk (World.grownBy.trans (World.grownBy_alloc w _ v.ownBlock) hg2)
  have H4 := Aside0.mk (near_alloc _ hn2)
  clear hO2 hg2 hn2 HC
  go_wp2_with fail
  go_ret
  exact ⟨v2, rfl, H2.out, H3.out, H4.out⟩
set_option maxHeartbeats 1000000 in
theorem put_c1 (base : Nat) (v : Value) (l L : List UInt8) (kind : Int) (n : Nat) (s : ByteArray) (w : World) (k1 : kind = 1) (HC : Aside0 (∀ W o, W = w.alloc o → Calls Try.prog 28 #[v, .int .i64 (wrap64 (n : Int))] W fun e w' => ∃ v', e = .returned v' ∧ Own w' base 5 v' (cs (l ++ L)) ∧ (W).grownBy w' v.ownBlock ∧ Near (W) v v')) :
    Calls Try.prog 39 #[v, .agg #[.int .i64 kind, .int .u64 (n : Int), .string s]] w fun e w' => ∃ v', e = .returned v' ∧ Own w' base 5 v' (cs (l ++ L)) ∧ w.grownBy w' v.ownBlock ∧ Near w v v' := by
  subst k1
  go_enter Try.func39, Try.ntmps39
  go_wp2_with fail
  ((refine (HC.out _ _ rfl).mono ?_); rintro e w2 ⟨v2, rfl, hO2, hg2, hn2⟩)
  have H2 := Aside0.mk hO2
  have H3 := Aside0.mk (World.grownBy.trans (World.grownBy_alloc w _ v.ownBlock) hg2)
  have H4 := Aside0.mk (near_alloc _ hn2)
  clear hO2 hg2 hn2 HC
  go_wp2_with fail
  go_ret
  exact ⟨v2, rfl, H2.out, H3.out, H4.out⟩
set_option maxHeartbeats 1000000 in
theorem put_c2 (base : Nat) (v : Value) (l L : List UInt8) (kind : Int) (n : Nat) (s : ByteArray) (w : World) (k2 : kind = 2) (HC : Aside0 (∀ W o, W = w.alloc o → Calls Try.prog 31 #[v, .string s] W fun e w' => ∃ v', e = .returned v' ∧ Own w' base 5 v' (cs (l ++ L)) ∧ (W).grownBy w' v.ownBlock ∧ Near (W) v v')) :
    Calls Try.prog 39 #[v, .agg #[.int .i64 kind, .int .u64 (n : Int), .string s]] w fun e w' => ∃ v', e = .returned v' ∧ Own w' base 5 v' (cs (l ++ L)) ∧ w.grownBy w' v.ownBlock ∧ Near w v v' := by
  subst k2
  go_enter Try.func39, Try.ntmps39
  go_wp2_with fail
  ((refine (HC.out _ _ rfl).mono ?_); rintro e w2 ⟨v2, rfl, hO2, hg2, hn2⟩)
  have H2 := Aside0.mk hO2
  have H3 := Aside0.mk (World.grownBy.trans (World.grownBy_alloc w _ v.ownBlock) hg2)
  have H4 := Aside0.mk (near_alloc _ hn2)
  clear hO2 hg2 hn2 HC
  go_wp2_with fail
  go_ret
  exact ⟨v2, rfl, H2.out, H3.out, H4.out⟩
set_option maxHeartbeats 1000000 in
theorem put_c3 (base : Nat) (v : Value) (l L : List UInt8) (kind : Int) (n : Nat) (s : ByteArray) (w : World) (z : Bool) (he : (((n : Int) % 2) == 1) = z) (hk0 : (kind == 0) = false) (hk1 : (kind == 1) = false) (hk2 : (kind == 2) = false) (HC : Aside0 (∀ W o, W = w.alloc o → Calls Try.prog 33 #[v, .bool z] W fun e w' => ∃ v', e = .returned v' ∧ Own w' base 5 v' (cs (l ++ L)) ∧ (W).grownBy w' v.ownBlock ∧ Near (W) v v')) :
    Calls Try.prog 39 #[v, .agg #[.int .i64 kind, .int .u64 (n : Int), .string s]] w fun e w' => ∃ v', e = .returned v' ∧ Own w' base 5 v' (cs (l ++ L)) ∧ w.grownBy w' v.ownBlock ∧ Near w v v' := by
  go_enter Try.func39, Try.ntmps39
  go_wp2_with fail
  ((refine (HC.out _ _ rfl).mono ?_); rintro e w2 ⟨v2, rfl, hO2, hg2, hn2⟩)
  have H2 := Aside0.mk hO2
  have H3 := Aside0.mk (World.grownBy.trans (World.grownBy_alloc w _ v.ownBlock) hg2)
  have H4 := Aside0.mk (near_alloc _ hn2)
  clear hO2 hg2 hn2 HC
  go_wp2_with fail
  go_ret
  exact ⟨v2, rfl, H2.out, H3.out, H4.out⟩
theorem put_any (base : Nat) (v : Value) (l : List UInt8) (x : It) (w : World) (hO : Own w base 5 v (cs l)) (hbase : base ≤ w.heap.size) (hl : l.length ≤ 4611686018427) (hn : x.n < 18446744073709551616) (hs : x.s.size ≤ 4611686018427) :
    Calls Try.prog 39 #[v, x.val] w fun e w' => ∃ v', e = .returned v' ∧ Own w' base 5 v' (cs (l ++ x.bytes)) ∧ w.grownBy w' v.ownBlock ∧ Near w v v' := by
  obtain ⟨kind, n, s⟩ := x
  simp only at hn hs
  by_cases k0 : kind = 0
  · have hby : It.bytes ⟨kind, n, s⟩ = vint n := by unfold It.bytes; simp only; rw [if_pos k0]
    rw [hby]
    exact put_c0 base v l _ kind n s w k0 ⟨fun W o hW => by subst hW; exact uint_any base v l n _ (hO.alloc _) (size_alloc_le _ _ hbase) hl hn⟩
  by_cases k1 : kind = 1
  · have hby : It.bytes ⟨kind, n, s⟩ = vint (zig (wrap64 (n : Int))) := by unfold It.bytes; simp only; rw [if_neg k0, if_pos k1]
    rw [hby]
    exact put_c1 base v l _ kind n s w k1 ⟨fun W o hW => by subst hW; exact int_any base v l (wrap64 (n : Int)) _ (hO.alloc _) (size_alloc_le _ _ hbase) hl (wrap64_ge _).1 (wrap64_ge _).2⟩
  by_cases k2 : kind = 2
  · have hby : It.bytes ⟨kind, n, s⟩ = vint s.size ++ s.data.toList := by unfold It.bytes; simp only; rw [if_neg k0, if_neg k1, if_pos k2]
    rw [hby]
    exact put_c2 base v l _ kind n s w k2 ⟨fun W o hW => by subst hW; exact text_any base v l s _ (hO.alloc _) (size_alloc_le _ _ hbase) hl hs⟩
  have hby : It.bytes ⟨kind, n, s⟩ = vint (if decide (n % 2 = 1) = true then 1 else 0) := by
    unfold It.bytes
    simp only
    rw [if_neg k0, if_neg k1, if_neg k2]
    simp
  have he : (((n : Int) % 2) == 1) = decide (n % 2 = 1) := by
    have : (n : Int) % 2 = ((n % 2 : Nat) : Int) := by omega
    rw [this]
    rcases Nat.mod_two_eq_zero_or_one n with h | h <;> rw [h] <;> rfl
  rw [hby]
  exact put_c3 base v l _ kind n s w _ he (by simpa using k0) (by simpa using k1) (by simpa using k2) ⟨fun W o hW => by subst hW; exact bool_any base v l (decide (n % 2 = 1)) _ (hO.alloc _) (size_alloc_le _ _ hbase) hl⟩
end Go.Proofs.Ytahjpeihekphcaa.N
