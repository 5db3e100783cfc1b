import Derived.Shelf.AbstractIn
import Derived.Deep.LoopGhost
import Derived.Lib.SliceRun
import Derived.Test.YtpleiklodomgiaaGreatDoorModelPages11
set_option linter.unusedVariables false
set_option linter.unusedSimpArgs false
section
namespace Go.Proofs.YtpleiklodomgiaaGreatDoor.B
end Go.Proofs.YtpleiklodomgiaaGreatDoor.B
namespace Go.Proofs.YtpleiklodomgiaaGreatDoor.CQ
end Go.Proofs.YtpleiklodomgiaaGreatDoor.CQ
namespace Go.Proofs.YtpleiklodomgiaaGreatDoor.PModelIs
end Go.Proofs.YtpleiklodomgiaaGreatDoor.PModelIs
namespace Go.Proofs.YtpleiklodomgiaaGreatDoor.C
open Go.RowKit Go.Sort Go.Proofs.YtpleiklodomgiaaGreatDoorW.PrintWords Go.Proofs.YtpleiklodomgiaaGreatDoorW.PrintLast Go.Proofs.YtpleiklodomgiaaGreatDoorW.PrintMore Go.Proofs.YtpleiklodomgiaaGreatDoor.B Go.Proofs.YtpleiklodomgiaaGreatDoor.PModelIs Go.Proofs.YtpleiklodomgiaaGreatDoor.CQ
def RowE {w0 : World} (W : World) (blk off : Nat) (l : List (EntIn w0)) : Prop := ∀ i x, l[i]? = some x → W.cell? ⟨blk, off + i * 3, none⟩ = some (.int .i64 x.1.at_) ∧ W.cell? ⟨blk, off + i * 3 + 1, none⟩ = some (.slice x.1.A x.1.ls.length x.1.c) ∧ W.cell? ⟨blk, off + i * 3 + 2, none⟩ = some (.string x.1.line)
theorem run_clear_row (W : World) (ty : TypeId) (blk off s m c : Nat) (F : Array Value) (h : Holds id W blk off F) (hs : s + m * 3 = F.size) (hm : 0 < m) :
  (Builtin.clear_ #[39] ty #[.slice (some ⟨blk, off + s, none⟩) m c]).run Tryz.prog W = .ok (.tuple #[]) (W.setCells blk (off + s) (Builtin.zeroCells #[.int .i64 0, .slice none 0 0, .string ⟨#[]⟩] m).toList) := by
 have hv : ∀ w, (zeroValue 26).run Tryz.prog w = .ok (.agg #[.int .i64 0, .slice none 0 0, .string ⟨#[]⟩]) w := fun w => Tryz.zeroValue26 w
 have hst := stores_of_holds Tryz.prog h s (Builtin.zeroCells #[.int .i64 0, .slice none 0 0, .string ⟨#[]⟩] m).toList (by rw [Array.length_toList, size_zeroCells]; exact Nat.le_of_eq hs) (by
  intro v hv'
  unfold Builtin.zeroCells at hv'
  simp only [Array.mem_toList_iff, Array.mem_map, Array.mem_range] at hv'
  obtain ⟨i, _, rfl⟩ := hv'
  have h3 : i % 3 = 0 ∨ i % 3 = 1 ∨ i % 3 = 2 := by omega
  show (#[Value.int .i64 0, .slice none 0 0, .string ⟨#[]⟩][i % 3]!).oneCell' = true
  rcases h3 with h3 | h3 | h3 <;> rw [h3] <;> rfl)
 obtain ⟨k, rfl⟩ : ∃ k, m = k + 1 := ⟨m - 1, by omega⟩
 have hc : (Value.agg #[.int .i64 0, .slice none 0 0, .string ⟨#[]⟩]).cells = #[.int .i64 0, .slice none 0 0, .string ⟨#[]⟩] := rfl
 simp [Builtin.clear_, run_underlying Tryz.underlying39, hv, hc, hst]
set_option maxHeartbeats 4000000 in
set_option maxRecDepth 1000000 in
theorem compact_any {w0 w : World} (blk off cap : Nat) (d : Array (EntIn w0)) (hw : Below w0.heap.size w0 w) (hn : w0.heap.size ≤ blk) (hblk : blk < w.heap.size) (hH : HoldsK enc 3 w blk off d) (hsz : d.size ≤ 4611686018427387904) (hcap : d.size ≤ cap) :
  Calls Tryz.prog 37 #[.slice (some ⟨blk, off, none⟩) d.size cap, .func (.func 38) #[] #[]] w fun e w' =>
   e = .returned (.slice (some ⟨blk, off, none⟩) (once eqE d d.size).length cap) ∧ Below w0.heap.size w0 w' ∧ RowE w' blk off (once eqE d d.size) := by
 have mixed : Tryz.prog.follows .mixedOrders = true := by kernel_rfl
 have eg : ∀ args w, (callFunc 38 args).run Tryz.prog w = .ok (.enter 38 args) w := enters_of Tryz.func38 (by kernel_rfl) rfl
 have HW := Aside0.mk hw
 have HN := Aside0.mk hn
 have HBk := Aside0.mk hblk
 have HH := Aside0.mk hH
 have HNw : Aside0 (w0.heap.size ≤ w.heap.size) := ⟨by omega⟩
 have HST : Aside0 (w = sortWorldK enc 3 w blk off 0 d #[]) := ⟨by unfold sortWorldK; rw [grow_empty]; exact (putRowK_self enc 3 w blk off d hH).symm⟩
 have HALL : Aside0 ((∀ j, 0 < j → j < d.size → eqE d[j]! d[j - 1]! = false) → ∀ W, HoldsK enc 3 W blk off d → (once eqE d d.size).length = d.size ∧ RowE W blk off (once eqE d d.size)) := ⟨fun h W hW => by
  have e := once_all eqE d d.size h
  rw [e]
  refine ⟨by simp, fun i x hx => ?_⟩
  rw [List.getElem?_map] at hx
  rcases Nat.lt_or_ge i d.size with hi | hi
  ·rw [List.getElem?_range hi] at hx
   have hx' : d[i]! = x := by simpa using hx
   have := holdsK_cell hW hi hx'
   exact ⟨this.1, this.2.1, this.2.2.1⟩
  ·rw [List.getElem?_eq_none (by simpa using hi)] at hx; cases hx⟩
 clear hw hn hblk hH
 by_cases h2 : d.size < 2
 ·go_enter Tryz.func37, Tryz.ntmps37
  go_wp2
  go_ret
  obtain ⟨e1, e2⟩ := HALL.out (fun j h0 h1 => by omega) w HH.out
  exact ⟨by rw [e1]; rfl, HW.out, e2⟩
 ·go_enter Tryz.func37, Tryz.ntmps37
  go_wp2
  go_loopg [5] d.size (fun g s5 wr => ∃ (k n : Nat) (os : Array Obj), 1 ≤ k ∧ k ≤ d.size ∧ d.size - k ≤ g ∧ s5 = .int .i64 k ∧ wr = sortWorldK enc 3 w blk off n d os ∧ Aside0 (∀ j, 0 < j → j < k → eqE d[j]! d[j - 1]! = false))
  case atStart => exact ⟨1, 0, #[], Nat.le_refl _, by omega, by omega, rfl, HST.out, ⟨fun j h0 h1 => by omega⟩⟩
  case round =>
   obtain ⟨k, n, os, hk1, hk, hg, rfl, rfl, HK⟩ := hrel
   by_cases hlt : k < d.size
   ·obtain ⟨kp, rfl⟩ : ∃ kp, k = kp + 1 := ⟨k - 1, by omega⟩
    have hwp : IntKind.i64.wrap (kp : Int) = (kp : Int) := by rw [IntKind.wrap_i64]; omega
    have jz : (kp : Int) + 1 < (d.size : Int) := by omega
    have jz1 : (kp : Int) < (d.size : Int) := by omega
    have p0 : (0 : Int) ≤ (kp : Int) + 1 := by omega
    have e0 : ((kp : Int) + 1).toNat = kp + 1 := by omega
    obtain ⟨x, hx⟩ : ∃ x, d[kp + 1]! = x := ⟨_, rfl⟩
    obtain ⟨y, hy⟩ : ∃ y, d[kp]! = y := ⟨_, rfl⟩
    have hcls : ∀ n' os', grow ((sortWorldK enc 3 w blk off n d os).drewN n') os' = sortWorldK enc 3 w blk off (n + n') d (os ++ os') := fun n' os' => sortWorldK_grown_c enc 3 w blk off n n' d os os'
    have hHc : ∀ n' os', HoldsK enc 3 (grow ((sortWorldK enc 3 w blk off n d os).drewN n') os') blk off d := fun n' os' => by rw [hcls]; exact holdsK_sortWorldK_c enc 3 w blk off d d _ _ HH.out HBk.out rfl
    have hb : Below w0.heap.size w0 (sortWorldK enc 3 w blk off n d os) := below_sortW HW.out HN.out HNw.out
    have hbs : w0.heap.size ≤ (sortWorldK enc 3 w blk off n d os).heap.size := Nat.le_trans HNw.out (size_sortWorldK_c enc 3 w blk off n d os)
    have hcg : ∀ n' os', Calls Tryz.prog 38 #[x.1.val, y.1.val] (grow ((sortWorldK enc 3 w blk off n d os).drewN n') os') fun e w' => e = .returned (.bool (eqE x y)) ∧ ∃ q os'', w' = grow ((grow ((sortWorldK enc 3 w blk off n d os).drewN n') os').drewN q) os'' := fun n' os' => same_in x y _ (below_class hb hbs n' os')
    have c0 : ∀ n' os', (grow ((sortWorldK enc 3 w blk off n d os).drewN n') os').cell? ⟨blk, off + (kp + 1) * 3, none⟩ = some (.int .i64 x.1.at_) := fun n' os' => (holdsK_cell (hHc n' os') hlt hx).1
    have c1 : ∀ n' os', (grow ((sortWorldK enc 3 w blk off n d os).drewN n') os').cell? ⟨blk, off + (kp + 1) * 3 + 1, none⟩ = some (.slice x.1.A x.1.ls.length x.1.c) := fun n' os' => (holdsK_cell (hHc n' os') hlt hx).2.1
    have c2 : ∀ n' os', (grow ((sortWorldK enc 3 w blk off n d os).drewN n') os').cell? ⟨blk, off + (kp + 1) * 3 + 2, none⟩ = some (.string x.1.line) := fun n' os' => (holdsK_cell (hHc n' os') hlt hx).2.2.1
    have f0 : ∀ n' os', (grow ((sortWorldK enc 3 w blk off n d os).drewN n') os').cell? ⟨blk, off + kp * 3, none⟩ = some (.int .i64 y.1.at_) := fun n' os' => (holdsK_cell (hHc n' os') (by omega) hy).1
    have f1 : ∀ n' os', (grow ((sortWorldK enc 3 w blk off n d os).drewN n') os').cell? ⟨blk, off + kp * 3 + 1, none⟩ = some (.slice y.1.A y.1.ls.length y.1.c) := fun n' os' => (holdsK_cell (hHc n' os') (by omega) hy).2.1
    have f2 : ∀ n' os', (grow ((sortWorldK enc 3 w blk off n d os).drewN n') os').cell? ⟨blk, off + kp * 3 + 2, none⟩ = some (.string y.1.line) := fun n' os' => (holdsK_cell (hHc n' os') (by omega) hy).2.2.1
    have CLS := Aside0.mk hcls
    clear hcls hHc hb hbs
    generalize hwq : sortWorldK enc 3 w blk off n d os = wq at c0 c1 c2 f0 f1 f2 hcg CLS ⊢
    have HXY : Aside0 (d[kp + 1]! = x ∧ d[kp]! = y) := ⟨hx, hy⟩
    clear hx hy
    obtain ⟨bq, hbq⟩ : ∃ b, b = eqE x y := ⟨_, rfl⟩
    rw [← hbq] at hcg
    have HQ := Aside0.mk hbq
    clear hbq
    have HQd := Aside0.mk hwq
    clear hwq
    by_cases hdup : bq = true
    ·subst hdup
     go_wp2_with fail
     go_quiet_grown (first | (go_at_fn 38; refine Calls.grown_of (hcg _ _)))
     go_wp2_with fail
     go_loopg [5, 7] d.size (fun g s5 s7 wr => ∃ (kk k2 n2 : Nat) (dk : Array (EntIn w0)) (os2 : Array Obj), s5 = .int .i64 kk ∧ s7 = .int .i64 k2 ∧ 1 ≤ k2 ∧ kp + 1 + k2 ≤ d.size ∧ d.size - (kp + 1 + k2) ≤ g ∧ wr = sortWorldK enc 3 w blk off n2 dk os2 ∧ Aside0 (OnceInv eqE d (kp + 1 + k2) kk dk))
     case atStart => exact ⟨kp + 1, 1, n + nq, d, os ++ osq, rfl, rfl, Nat.le_refl _, by omega, by omega, CLS.out nq osq, ⟨OnceInv.start (Nat.succ_pos _) HK.out (by rw [HXY.out.1, show kp + 1 - 1 = kp from rfl, HXY.out.2]; exact HQ.out.symm)⟩⟩
     case round =>
      obtain ⟨kk, k2, n2, dk, os2, rfl, rfl, h1, hle, hg2, rfl, HI⟩ := hrel
      clear c0 c1 c2 f0 f1 f2 hcg
      clear CLS HQd
      clear jz jz1 p0 e0 hwp
      have hkl := HI.out.lt
      have hds := HI.out.size
      have hHk : HoldsK enc 3 (sortWorldK enc 3 w blk off n2 dk os2) blk off dk := holdsK_sortWorldK_c enc 3 w blk off d dk _ _ HH.out HBk.out hds
      by_cases hlt2 : kp + 1 + k2 < d.size
      ·obtain ⟨kq, rfl⟩ : ∃ kq, k2 = kq + 1 := ⟨k2 - 1, by omega⟩
       have hwq2 : IntKind.i64.wrap (kq : Int) = (kq : Int) := by rw [IntKind.wrap_i64]; omega
       have q0 : (0 : Int) ≤ (kq : Int) + 1 := by omega
       have jq1 : (kq : Int) < ((d.size - (kp + 1) : Nat) : Int) := by omega
       have jq2 : kq < d.size - (kp + 1) := by omega
       have qe : ((kq : Int) + 1).toNat = kq + 1 := by omega
       obtain ⟨u, hu⟩ : ∃ u, d[kp + 1 + (kq + 1)]! = u := ⟨_, rfl⟩
       obtain ⟨v, hv⟩ : ∃ v, d[kp + 1 + kq]! = v := ⟨_, rfl⟩
       have hu' : dk[kp + 1 + (kq + 1)]! = u := by rw [HI.out.high _ (by omega)]; exact hu
       have hv' : dk[kp + 1 + kq]! = v := by rw [HI.out.high _ (by omega)]; exact hv
       have hcls : ∀ n' os', grow ((sortWorldK enc 3 w blk off n2 dk os2).drewN n') os' = sortWorldK enc 3 w blk off (n2 + n') dk (os2 ++ os') := fun n' os' => sortWorldK_grown_c enc 3 w blk off n2 n' dk os2 os'
       have hHc : ∀ n' os', HoldsK enc 3 (grow ((sortWorldK enc 3 w blk off n2 dk os2).drewN n') os') blk off dk := fun n' os' => by rw [hcls]; exact holdsK_sortWorldK_c enc 3 w blk off d dk _ _ HH.out HBk.out hds
       have hb : Below w0.heap.size w0 (sortWorldK enc 3 w blk off n2 dk os2) := below_sortW HW.out HN.out HNw.out
       have hbs : w0.heap.size ≤ (sortWorldK enc 3 w blk off n2 dk os2).heap.size := Nat.le_trans HNw.out (size_sortWorldK_c enc 3 w blk off n2 dk os2)
       have hcg : ∀ n' os', Calls Tryz.prog 38 #[u.1.val, v.1.val] (grow ((sortWorldK enc 3 w blk off n2 dk os2).drewN n') os') fun e w' => e = .returned (.bool (eqE u v)) ∧ ∃ q os'', w' = grow ((grow ((sortWorldK enc 3 w blk off n2 dk os2).drewN n') os').drewN q) os'' := fun n' os' => same_in u v _ (below_class hb hbs n' os')
       have a1 : off + (kp + 1 + (kq + 1)) * 3 = off + (kp + 1) * 3 + (kq + 1) * 3 := by omega
       have a2 : off + (kp + 1 + kq) * 3 = off + (kp + 1) * 3 + kq * 3 := by omega
       have cu : ∀ n' os', _ := fun n' os' => holdsK_cell (hHc n' os') (show kp + 1 + (kq + 1) < dk.size by omega) hu'
       have cv : ∀ n' os', _ := fun n' os' => holdsK_cell (hHc n' os') (show kp + 1 + kq < dk.size by omega) hv'
       rw [a1] at cu
       rw [a2] at cv
       have c0 := fun n' os' => (cu n' os').1
       have c1 := fun n' os' => (cu n' os').2.1
       have c2 := fun n' os' => (cu n' os').2.2.1
       have f0 := fun n' os' => (cv n' os').1
       have f1 := fun n' os' => (cv n' os').2.1
       have f2 := fun n' os' => (cv n' os').2.2.1
       obtain ⟨F0, hF0⟩ : ∃ F, F = flatK enc 3 dk := ⟨_, rfl⟩
       have hFs : F0.size = d.size * 3 := by rw [hF0, size_flatK, hds]
       have hG0 : ∀ n' os', Holds id (grow ((sortWorldK enc 3 w blk off n2 dk os2).drewN n') os') blk off F0 := fun n' os' => by rw [hF0]; exact hHc n' os'
       have hG1 : ∀ n' os', Holds id ((grow ((sortWorldK enc 3 w blk off n2 dk os2).drewN n') os').setCell ⟨blk, off + kk * 3, none⟩ (.int .i64 u.1.at_)) blk off (setMany F0 (kk * 3) [(.int .i64 u.1.at_)]) := fun n' os' => holds_setCells_c (hG0 n' os') (kk * 3) [(.int .i64 u.1.at_)] (by rw [hFs]; show kk * 3 + 1 ≤ _; omega)
       have hG2 : ∀ n' os', Holds id (((grow ((sortWorldK enc 3 w blk off n2 dk os2).drewN n') os').setCell ⟨blk, off + kk * 3, none⟩ (.int .i64 u.1.at_)).setCell ⟨blk, off + kk * 3 + 1, none⟩ (.slice u.1.A u.1.ls.length u.1.c)) blk off (setMany F0 (kk * 3) [(.int .i64 u.1.at_), (.slice u.1.A u.1.ls.length u.1.c)]) := fun n' os' => holds_setCells_c (hG0 n' os') (kk * 3) [(.int .i64 u.1.at_), (.slice u.1.A u.1.ls.length u.1.c)] (by rw [hFs]; show kk * 3 + 2 ≤ _; omega)
       obtain ⟨z0, hz0⟩ : ∃ z, z = F0[kk * 3]! := ⟨_, rfl⟩
       have g0 : ∀ n' os', (grow ((sortWorldK enc 3 w blk off n2 dk os2).drewN n') os').cell? ⟨blk, off + kk * 3, none⟩ = some z0 := fun n' os' => by rw [hz0]; exact (hG0 n' os' (kk * 3) (by rw [hFs]; omega)).1
       have k0 : ∀ n' os', (grow ((sortWorldK enc 3 w blk off n2 dk os2).drewN n') os').frozen? ⟨blk, off + kk * 3, none⟩ = false := fun n' os' => (hG0 n' os' (kk * 3) (by rw [hFs]; omega)).2
       obtain ⟨z1, hz1⟩ : ∃ z, z = (setMany F0 (kk * 3) [(.int .i64 u.1.at_)])[kk * 3 + 1]! := ⟨_, rfl⟩
       have g1 : ∀ n' os', ((grow ((sortWorldK enc 3 w blk off n2 dk os2).drewN n') os').setCell ⟨blk, off + kk * 3, none⟩ (.int .i64 u.1.at_)).cell? ⟨blk, off + kk * 3 + 1, none⟩ = some z1 := fun n' os' => by rw [hz1]; exact (hG1 n' os' (kk * 3 + 1) (by rw [size_setMany]; rw [hFs]; omega)).1
       have k1 : ∀ n' os', ((grow ((sortWorldK enc 3 w blk off n2 dk os2).drewN n') os').setCell ⟨blk, off + kk * 3, none⟩ (.int .i64 u.1.at_)).frozen? ⟨blk, off + kk * 3 + 1, none⟩ = false := fun n' os' => (hG1 n' os' (kk * 3 + 1) (by rw [size_setMany]; rw [hFs]; omega)).2
       obtain ⟨z2, hz2⟩ : ∃ z, z = (setMany F0 (kk * 3) [(.int .i64 u.1.at_), (.slice u.1.A u.1.ls.length u.1.c)])[kk * 3 + 2]! := ⟨_, rfl⟩
       have g2 : ∀ n' os', (((grow ((sortWorldK enc 3 w blk off n2 dk os2).drewN n') os').setCell ⟨blk, off + kk * 3, none⟩ (.int .i64 u.1.at_)).setCell ⟨blk, off + kk * 3 + 1, none⟩ (.slice u.1.A u.1.ls.length u.1.c)).cell? ⟨blk, off + kk * 3 + 2, none⟩ = some z2 := fun n' os' => by rw [hz2]; exact (hG2 n' os' (kk * 3 + 2) (by rw [size_setMany]; rw [hFs]; omega)).1
       have k2 : ∀ n' os', (((grow ((sortWorldK enc 3 w blk off n2 dk os2).drewN n') os').setCell ⟨blk, off + kk * 3, none⟩ (.int .i64 u.1.at_)).setCell ⟨blk, off + kk * 3 + 1, none⟩ (.slice u.1.A u.1.ls.length u.1.c)).frozen? ⟨blk, off + kk * 3 + 2, none⟩ = false := fun n' os' => (hG2 n' os' (kk * 3 + 2) (by rw [size_setMany]; rw [hFs]; omega)).2
       have SW : Aside0 (∀ n' os', (grow ((sortWorldK enc 3 w blk off n2 dk os2).drewN n') os').setCells blk (off + kk * 3) (enc u) = sortWorldK enc 3 w blk off (n2 + n') (dk.setIfInBounds kk u) (os2 ++ os')) := ⟨fun n' os' => store_in HBk.out (hcls n' os') (by omega) u⟩
       have CLS := Aside0.mk hcls
       clear hcls hHc hb hbs cu cv a1 a2 hHk
       clear hG0 hG1 hG2 hF0 hFs hz0 hz1 hz2
       generalize hwq : sortWorldK enc 3 w blk off n2 dk os2 = wq at c0 c1 c2 f0 f1 f2 hcg CLS g0 g1 g2 k0 k1 k2 SW ⊢
       have HUV : Aside0 (d[kp + 1 + (kq + 1)]! = u ∧ d[kp + 1 + kq]! = v) := ⟨hu, hv⟩
       clear hu hv hu' hv' hwq
       obtain ⟨bq, hbq⟩ : ∃ b, b = eqE u v := ⟨_, rfl⟩
       rw [← hbq] at hcg
       have HQ2 := Aside0.mk hbq
       clear hbq
       by_cases hdup : bq = true
       ·subst hdup
        go_wp2_with fail
        go_quiet_grown (first | (go_at_fn 38; refine Calls.grown_of (hcg _ _)))
        go_wp2_with fail
        go_roundg (d.size - (kp + 1 + (kq + 1 + 1)))
        case measure => omega
        case rel => exact ⟨kk, kq + 1 + 1, n2 + nq, dk, os2 ++ osq, rfl, by go_num, by omega, by omega, Nat.le_refl _, CLS.out nq osq, ⟨HI.out.skip (by omega) (by rw [HUV.out.1, show kp + 1 + (kq + 1) - 1 = kp + 1 + kq by omega, HUV.out.2]; exact HQ2.out.symm)⟩⟩
       ·have hdup : bq = false := by simpa using hdup
        subst hdup
        go_wp2_with fail
        go_quiet_grown (first | (go_at_fn 38; refine Calls.grown_of (hcg _ _)))
        go_wp2_with fail
        go_roundg (d.size - (kp + 1 + (kq + 1 + 1)))
        case measure => omega
        case rel =>
         refine ⟨kk + 1, kq + 1 + 1, n2 + nq, dk.setIfInBounds kk u, os2 ++ osq, by go_num, by go_num, by omega, by omega, Nat.le_refl _, SW.out nq osq, ⟨?_⟩⟩
         have := HI.out.keep hlt2 (by rw [HUV.out.1, show kp + 1 + (kq + 1) - 1 = kp + 1 + kq by omega, HUV.out.2]; exact HQ2.out.symm)
         rw [HUV.out.1] at this
         exact this
      ·have hend : kp + 1 + k2 = d.size := by omega
       have hkd : kk < d.size := by omega
       have hcl : ∀ ty, _ := fun ty => run_clear_row (sortWorldK enc 3 w blk off n2 dk os2) ty blk off (kk * 3) (d.size - kk) (cap - kk) (flatK enc 3 dk) hHk (by rw [size_flatK]; omega) (by omega)
       obtain ⟨zs, hzs⟩ : ∃ zs, zs = (Builtin.zeroCells #[Value.int .i64 0, .slice none 0 0, .string ⟨#[]⟩] (d.size - kk)).toList := ⟨_, rfl⟩
       rw [← hzs] at hcl
       have hzl : kk * 3 + zs.length ≤ (flatK enc 3 dk).size := by rw [hzs, Array.length_toList, size_zeroCells, size_flatK]; show kk * 3 + (d.size - kk) * 3 ≤ _; omega
       have hE : Aside0 ((once eqE d d.size).length = kk ∧ RowE ((sortWorldK enc 3 w blk off n2 dk os2).setCells blk (off + kk * 3) zs) blk off (once eqE d d.size)) := ⟨by
        have hI := HI.out
        rw [hend] at hI
        refine ⟨hI.len, fun i x hx => ?_⟩
        have hi : i < kk := by
         rcases Nat.lt_or_ge i kk with h | h
         ·exact h
         ·rw [List.getElem?_eq_none (by rw [hI.len]; exact h)] at hx; cases hx
        have hx' : dk[i]! = x := by rw [hI.low i hi, List.getElem!_eq_getElem?_getD, hx]; rfl
        have h2 := holds_setCells_c hHk (kk * 3) zs hzl
        have c : ∀ r, r < 3 → ((sortWorldK enc 3 w blk off n2 dk os2).setCells blk (off + kk * 3) zs).cell? ⟨blk, off + i * 3 + r, none⟩ = some (enc x)[r]! := fun r hr => by
         have h3 := (h2 (i * 3 + r) (by rw [size_setMany, size_flatK]; omega)).1
         rw [get_setMany _ _ _ _ (by rw [size_flatK]; omega), if_neg (by omega), get_flatK _ _ _ _ (by omega), show (i * 3 + r) / 3 = i by omega, show (i * 3 + r) % 3 = r by omega, hx', ← Nat.add_assoc] at h3
         exact h3
        exact ⟨c 0 (by omega), c 1 (by omega), c 2 (by omega)⟩⟩
       have hB : Aside0 (Below w0.heap.size w0 ((sortWorldK enc 3 w blk off n2 dk os2).setCells blk (off + kk * 3) zs)) := ⟨by
        have e : (sortWorldK enc 3 w blk off n2 dk os2).setCells blk (off + kk * 3) zs = putRow id (sortWorldK enc 3 w blk off n2 dk os2) blk off (setMany (flatK enc 3 dk) (kk * 3) zs) := by
         conv => lhs; rw [← putRow_self id _ blk off (flatK enc 3 dk) hHk]
         exact setCells_putRow _ _ _ _ _ _ hzl
        rw [e]
        exact below_putRow (below_sortW HW.out HN.out HNw.out) HN.out⟩
       clear hHk hzs hzl hds
       generalize sortWorldK enc 3 w blk off n2 dk os2 = wq at hcl hE hB ⊢
       go_wp2
       go_ret
       exact ⟨by rw [hE.out.1]; rfl, hB.out, hE.out.2⟩
    ·have hdup : bq = false := by simpa using hdup
     subst hdup
     go_wp2_with fail
     go_quiet_grown (first | (go_at_fn 38; refine Calls.grown_of (hcg _ _)))
     go_wp2_with fail
     go_roundg (d.size - (kp + 1 + 1))
     case measure => omega
     case rel =>
      refine ⟨kp + 1 + 1, n + nq, os ++ osq, by omega, by omega, Nat.le_refl _, by go_num, CLS.out nq osq, ⟨fun j h0 h1 => ?_⟩⟩
      by_cases e : j = kp + 1
      ·subst e
       rw [HXY.out.1, show kp + 1 - 1 = kp from rfl, HXY.out.2]
       exact HQ.out.symm
      ·exact HK.out j h0 (by omega)
   ·have : k = d.size := by omega
    subst this
    have hHk : HoldsK enc 3 (sortWorldK enc 3 w blk off n d os) blk off d := holdsK_sortWorldK_c enc 3 w blk off d d _ _ HH.out HBk.out rfl
    have HE := Aside0.mk (HALL.out HK.out _ hHk)
    have hb : Below w0.heap.size w0 (sortWorldK enc 3 w blk off n d os) := below_sortW HW.out HN.out HNw.out
    have HB := Aside0.mk hb
    clear hHk hb
    go_wp2
    go_ret
    exact ⟨by rw [HE.out.1]; rfl, HB.out, HE.out.2⟩
end Go.Proofs.YtpleiklodomgiaaGreatDoor.C
end
