import Derived.Lib.OthersKept
import Derived.Lib.RuneCount
import Derived.WalkSmall
import Derived.Shelf.Abstract
import Derived.Shelf.RegionOpen
import Derived.LoopNIn
import Derived.Test.YtpleiklodomgiaaGreatDoorModelPages15
import Derived.Test.YtpleiklodomgiaaGreatDoorModelPages16
set_option linter.unusedVariables false
set_option linter.unusedSimpArgs false
section
namespace Go.Proofs.YtpleiklodomgiaaGreatDoor.B
end Go.Proofs.YtpleiklodomgiaaGreatDoor.B
namespace Go.Proofs.YtpleiklodomgiaaGreatDoor.It
end Go.Proofs.YtpleiklodomgiaaGreatDoor.It
namespace Go.Proofs.YtpleiklodomgiaaGreatDoor.W
open Go.RowKit Go.Shelf Go.Proofs.YtpleiklodomgiaaGreatDoorW.PrintWords Go.Proofs.YtpleiklodomgiaaGreatDoorW.PrintLast Go.Proofs.YtpleiklodomgiaaGreatDoor.B Go.Proofs.YtpleiklodomgiaaGreatDoor.It
attribute [local go_sem] Oper.semAt_some
def spansFrom (s : ByteArray) (pos : Nat) (fr : Option Nat) : List (Nat × Nat) :=
 if h : pos < s.size then
  if letter ((Utf8.decode s pos).1 : Int) = true then spansFrom s (pos + (Utf8.decode s pos).2) (some (fr.getD pos))
  else match fr with
   | some f => (f, pos) :: spansFrom s (pos + (Utf8.decode s pos).2) none
   | none => spansFrom s (pos + (Utf8.decode s pos).2) none
 else match fr with
  | some f => [(f, s.size)]
  | none => []
termination_by s.size - pos
decreasing_by
 all_goals (have := Lib.decode_width_pos s pos h; omega)
theorem spansFrom_end {s : ByteArray} {pos : Nat} (h : ¬ pos < s.size) (fr : Option Nat) : spansFrom s pos fr = match fr with | some f => [(f, s.size)] | none => [] := by rw [spansFrom.eq_def, dif_neg h]
theorem spansFrom_is {s : ByteArray} {pos : Nat} (h : pos < s.size) (hl : letter ((Utf8.decode s pos).1 : Int) = true) (fr : Option Nat) : spansFrom s pos fr = spansFrom s (pos + (Utf8.decode s pos).2) (some (fr.getD pos)) := by
 rw [spansFrom.eq_def, dif_pos h, if_pos hl]
theorem spansFrom_none {s : ByteArray} {pos : Nat} (h : pos < s.size) (hl : letter ((Utf8.decode s pos).1 : Int) = false) : spansFrom s pos none = spansFrom s (pos + (Utf8.decode s pos).2) none := by
 rw [spansFrom.eq_def, dif_pos h, if_neg (by simp [hl])]
theorem spansFrom_some {s : ByteArray} {pos : Nat} (h : pos < s.size) (hl : letter ((Utf8.decode s pos).1 : Int) = false) (f : Nat) : spansFrom s pos (some f) = (f, pos) :: spansFrom s (pos + (Utf8.decode s pos).2) none := by
 rw [spansFrom.eq_def, dif_pos h, if_neg (by simp [hl])]
def fi : Option Nat → Int
 | some f => (f : Int)
 | none => -1
abbrev Sp (s : ByteArray) := { x : Nat × Nat // x.1 ≤ x.2 ∧ x.2 ≤ s.size }
def sp (x : Nat × Nat) : Value := .agg #[.int .i64 (x.1 : Int), .int .i64 (x.2 : Int)]
theorem grown_iterAt (w : World) (k : Nat) (s : ByteArray) (pos : Nat) : w.grownBy (w.iterAt k s pos) (some k) :=
 ⟨rfl, rfl, rfl, by rw [Lib.iterAt_size]; exact Nat.le_refl _, fun i _ hi => Lib.iterAt_other w k i s pos (fun e => hi (by rw [e]))⟩
set_option maxRecDepth 20000 in
set_option maxHeartbeats 4000000 in
theorem spans_seq (n : Nat) (hn : 1 ≤ n) (bs : Nat) (s : ByteArray) (Kp : World → World → Prop) (Φ : World → Prop) (hKw : ∀ A B, Φ A → Kp A B → KeepsWalks A B) (hKs : ∀ A B, Φ A → Kp A B → A.cell? ⟨bs, 0, none⟩ = some (.string s) → B.cell? ⟨bs, 0, none⟩ = some (.string s))
  (w : World) (hbox : w.cell? ⟨bs, 0, none⟩ = some (.string s)) (hbs : bs < w.heap.size) (hs : s.size ≤ 4611686018427) (n₀ : Nat) :
  Seq Fence.wide n Tryz.prog 95 #[.pointer (some ⟨bs, 0, none⟩)] (fun x : Sp s => #[sp x.1]) Kp Φ (fun xs => xs.map (·.1) = spansFrom s 0 none) (fun xs => xs.map (·.1) <+: spansFrom s 0 none) w n₀ := by
 intro l J Jx W hB _ hJ hJx hΦ hY h0
 obtain ⟨all, hall⟩ : ∃ all, all = spansFrom s 0 none := ⟨_, rfl⟩
 rw [← hall] at hY ⊢
 have hbW : W.cell? ⟨bs, 0, none⟩ = some (.string s) := (hB.cell (p := ⟨bs, 0, none⟩) hbs).trans hbox
 refine callsIn_of_wp Tryz.func95 rfl trivial ?_ rfl
 simp only [Tryz.ntmps95, List.size_toArray, List.length_cons, List.length_nil, Nat.reduceAdd, Nat.reduceSub, Array.replicate_succ, Array.replicate_zero, List.push_toArray, List.append_toArray, List.nil_append, List.cons_append]
 gi_wp2
 have Hall := Aside0.mk hall
 have HJ := Aside0.mk hJ
 have HY := Aside0.mk hY
 have HΦ := Aside0.mk hΦ
 have hle : w.heap.size ≤ W.heap.size := hB.size
 have Hbs : Aside0 (bs < W.heap.size) := ⟨by omega⟩
 have Hs := Aside0.mk hs
 clear hall hJ hJx hY hΦ hB hbox hs
 have H0 := Aside0.mk (HJ.out [] W (W.iter s 0) none h0 (World.grownBy_alloc W (.stringIter s 0) none) (fun r e => by cases e))
 have Hc0 : Aside0 ((W.iter s 0).cell? ⟨bs, 0, none⟩ = some (.string s)) := ⟨((Below.refl W.heap.size W).alloc (Nat.le_refl _) (.stringIter s 0)).cell (p := ⟨bs, 0, none⟩) Hbs.out |>.trans hbW⟩
 have Hi0 : Aside0 ((W.iter s 0).heap[W.heap.size]? = some (.stringIter s 0)) := ⟨World.iter_heap W s 0⟩
 clear h0 hbW
 gi_loopw [3] (fun t3 wr => ∃ (pos : Nat) (fr : Option Nat) (pre : List (Sp s)), t3 = .int .i64 (fi fr) ∧ Aside0 (wr.heap[W.heap.size]? = some (.stringIter s pos)) ∧ Aside0 (pre.map (·.1) ++ spansFrom s pos fr = all) ∧ Aside0 (J pre wr) ∧ Aside0 (wr.cell? ⟨bs, 0, none⟩ = some (.string s)) ∧ Aside0 (∀ f, fr = some f → f ≤ pos ∧ f < s.size)) (fun t3 wr => s.size - wr.iterPos W.heap.size)
 case atStart => exact ⟨0, none, [], rfl, Hi0, ⟨by rw [Hall.out]; rfl⟩, H0, Hc0, ⟨fun f h => by cases h⟩⟩
 case round =>
  clear H0 Hc0 Hi0
  obtain ⟨pos, fr, pre, rfl, hit, hsp, hj, hcs, hfr⟩ := hrel
  by_cases hp : pos < s.size
  ·have hnx : ∀ ty, (Instr.next (.pointer (some ⟨W.heap.size, 0, none⟩)) true ty).run Tryz.prog wr = _ := fun ty => Lib.run_next_any_at wr W.heap.size s pos ty hit.out hp
   have hwd := Lib.decode_width_pos s pos hp
   have hd1 := decode_le s pos
   have hJ2 := Aside0.mk (HJ.out pre wr (wr.iterAt W.heap.size s (pos + (Utf8.decode s pos).2)) (some W.heap.size) hj.out (grown_iterAt wr W.heap.size s _) (fun r e => by cases e; exact ⟨Nat.le_refl _, _, hit.out, rfl⟩))
   have hit2 := Aside0.mk (Lib.iterAt_heap wr W.heap.size s pos (pos + (Utf8.decode s pos).2) hit.out)
   have hcs2 := Aside0.mk ((World.cell?_of_block (a := ⟨bs, 0, none⟩) (Lib.iterAt_other wr W.heap.size bs s (pos + (Utf8.decode s pos).2) (by have := Hbs.out; omega))).trans hcs.out)
   have hmeas : Aside0 (s.size - (pos + (Utf8.decode s pos).2) < s.size - pos) := ⟨by omega⟩
   have hm0 : Aside0 (wr.iterPos W.heap.size = pos) := ⟨iterPos_of hit.out⟩
   obtain ⟨W2, hW2⟩ : ∃ W2, W2 = wr.iterAt W.heap.size s (pos + (Utf8.decode s pos).2) := ⟨_, rfl⟩
   rw [← hW2] at hJ2 hit2 hcs2
   simp only [← hW2] at hnx
   have Hp := Aside0.mk hp
   have hp64 : pos ≤ 4611686018427 := by have := Hs.out; omega
   have hgt : pos ≤ pos + (Utf8.decode s pos).2 := by omega
   clear hit hcs hj hwd hd1 hW2 hp
   have hlet := Aside0.mk (fun W => callsIn_wide (n := n - 1).2 (letter_any ((Utf8.decode s pos).1 : Int) W))
   cases hl : letter ((Utf8.decode s pos).1 : Int) with
   | true =>
    have Hsp := Aside0.mk (spansFrom_is Hp.out hl fr)
    rw [hl] at hlet
    clear hl
    cases fr with
    | none =>
     have d1 : decide ((-1 : Int) < 0) = true := rfl
     simp only [fi]
     gi_wp2_with (refine ⟨trivial, ?_⟩; gi_at_call 96; refine (hlet.out _).mono ?_; rintro e w3 ⟨rfl, rfl⟩)
     go_roundw
     case rel => exact ⟨_, some pos, pre, rfl, hit2, ⟨by have h := hsp.out; rw [Hsp.out] at h; exact h⟩, hJ2, hcs2, ⟨fun f h => by cases h; exact ⟨by omega, Hp.out⟩⟩⟩
     case measure => rw [hm0.out, iterPos_of hit2.out]; exact hmeas.out
    | some f =>
     have d1 : decide ((f : Int) < 0) = false := decide_eq_false (by omega)
     simp only [fi]
     gi_wp2_with (refine ⟨trivial, ?_⟩; gi_at_call 96; refine (hlet.out _).mono ?_; rintro e w3 ⟨rfl, rfl⟩)
     go_roundw
     case rel => exact ⟨_, some f, pre, rfl, hit2, ⟨by have h := hsp.out; rw [Hsp.out] at h; exact h⟩, hJ2, hcs2, ⟨fun f' h => by have := hfr.out f' h; exact ⟨by omega, this.2⟩⟩⟩
     case measure => rw [hm0.out, iterPos_of hit2.out]; exact hmeas.out
   | false =>
    rw [hl] at hlet
    cases fr with
    | none =>
     have Hsp := Aside0.mk (spansFrom_none Hp.out hl)
     clear hl
     simp only [fi]
     gi_wp2_with (refine ⟨trivial, ?_⟩; gi_at_call 96; refine (hlet.out _).mono ?_; rintro e w3 ⟨rfl, rfl⟩)
     go_roundw
     case rel => exact ⟨_, none, pre, rfl, hit2, ⟨by have h := hsp.out; rw [Hsp.out] at h; exact h⟩, hJ2, hcs2, ⟨fun f h => by cases h⟩⟩
     case measure => rw [hm0.out, iterPos_of hit2.out]; exact hmeas.out
    | some f =>
     have Hsp := Aside0.mk (spansFrom_some Hp.out hl f)
     have d1 : decide ((f : Int) < 0) = false := decide_eq_false (by omega)
     have d2 : decide (0 ≤ (f : Int)) = true := decide_eq_true (by omega)
     clear hl
     have hall2 := hsp.out
     rw [Hsp.out] at hall2
     obtain ⟨fn, tmps, assign, body, hy, hR⟩ := HY.out pre ⟨(f, pos), (hfr.out f rfl).1, Nat.le_of_lt Hp.out⟩ W2 hJ2.out ⟨spansFrom s (pos + (Utf8.decode s pos).2) none, by rw [← hall2]; simp⟩
     simp only [sp] at hy
     have Hall2 := Aside0.mk hall2
     have HRn := Aside0.mk hR
     clear hall2 hR
     simp only [fi]
     gi_wp2_with (refine ⟨trivial, ?_⟩; gi_at_call 96; refine (hlet.out _).mono ?_; rintro e w3 ⟨rfl, rfl⟩)
     refine HRn.out.mono ?_
     rintro e W3 (⟨rfl, hJ3, hk3⟩ | ⟨rfl, hJx3, _⟩)
     ·have hit3 := Aside0.mk ((hKw _ _ (HΦ.out _ _ hJ2.out) hk3).same _ _ hit2.out rfl)
      have hcs3 := Aside0.mk (hKs _ _ (HΦ.out _ _ hJ2.out) hk3 hcs2.out)
      have HJ3 := Aside0.mk hJ3
      clear hJ3 hk3
      gi_wp2
      go_roundw
      case rel => exact ⟨_, none, pre ++ [_], rfl, hit3, ⟨by rw [← Hall2.out]; simp⟩, HJ3, hcs3, ⟨fun f h => by cases h⟩⟩
      case measure => rw [hm0.out, iterPos_of hit3.out]; exact hmeas.out
     ·have HJx3 := Aside0.mk hJx3
      clear hJx3
      gi_wp2
      refine bodyPost_ret (results_none rfl _ _ _) rfl ?_
      exact ⟨⟨_, rfl⟩, .inr ⟨pre ++ [_], ⟨spansFrom s (pos + (Utf8.decode s pos).2) none, by rw [← Hall2.out]; simp⟩, HJx3.out⟩⟩
  ·have hnx : ∀ ty, (Instr.next (.pointer (some ⟨W.heap.size, 0, none⟩)) true ty).run Tryz.prog wr = _ := fun ty => Lib.run_next_end_at wr W.heap.size s pos ty hit.out hp
   have Hsp := Aside0.mk (spansFrom_end hp fr)
   cases fr with
   | none =>
    simp only [fi]
    gi_wp2
    go_end0
    have h := hsp.out
    rw [Hsp.out] at h
    simp only [List.append_nil] at h
    subst h
    exact ⟨⟨_, rfl⟩, .inl ⟨_, rfl, hj.out⟩⟩
   | some f =>
    have d2 : decide (0 ≤ (f : Int)) = true := decide_eq_true (by omega)
    have hall2 := hsp.out
    rw [Hsp.out] at hall2
    obtain ⟨fn, tmps, assign, body, hy, hR⟩ := HY.out pre ⟨(f, s.size), Nat.le_of_lt (hfr.out f rfl).2, Nat.le_refl _⟩ wr hj.out ⟨[], by rw [← hall2]; simp⟩
    simp only [sp] at hy
    have hc := hcs.out
    have Hall2 := Aside0.mk hall2
    have HRn := Aside0.mk hR
    clear hall2 hR
    simp only [fi]
    gi_wp2
    refine HRn.out.mono ?_
    rintro e W3 (⟨rfl, hJ3, hk3⟩ | ⟨rfl, hJx3, _⟩)
    ·have HJ3 := Aside0.mk hJ3
     clear hJ3 hk3
     gi_wp2
     go_end0
     exact ⟨⟨_, rfl⟩, .inl ⟨_, by rw [← Hall2.out]; simp, HJ3.out⟩⟩
    ·have HJx3 := Aside0.mk hJx3
     clear hJx3
     gi_wp2
     go_end0
     exact ⟨⟨_, rfl⟩, .inr ⟨pre ++ [_], ⟨[], by rw [← Hall2.out]; simp⟩, HJx3.out⟩⟩
end Go.Proofs.YtpleiklodomgiaaGreatDoor.W
end
section
namespace Go.Proofs.YtpleiklodomgiaaGreatDoor.W
open Go.RowKit Go.Shelf Go.Proofs.YtpleiklodomgiaaGreatDoorW.PrintWords Go.Proofs.YtpleiklodomgiaaGreatDoorW.PrintLast Go.Proofs.YtpleiklodomgiaaGreatDoor.B Go.Proofs.YtpleiklodomgiaaGreatDoor.It
attribute [local go_sem] Oper.semAt_some
theorem spans_any (s : ByteArray) (w : World) : Calls Tryz.prog 84 #[.string s] w fun e w' => e = .returned (.func (.func 95) #[] #[.pointer (some ⟨w.heap.size, 0, none⟩)]) ∧ w' = w.alloc (.cells #[.string s] 9) := by
 go_enter Tryz.func84, Tryz.ntmps84
 go_wp2
 go_ret
 exact ⟨rfl, rfl⟩
end Go.Proofs.YtpleiklodomgiaaGreatDoor.W
end
