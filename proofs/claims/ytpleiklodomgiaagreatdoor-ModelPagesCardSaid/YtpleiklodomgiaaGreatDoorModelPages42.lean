import Derived.Deep.DeepCutAuto
import Derived.WalkSmall
import Derived.Shelf.Abstract
import Derived.LoopNIn
import Derived.Test.YtpleiklodomgiaaGreatDoorModelPages36
import Derived.Test.YtpleiklodomgiaaGreatDoorModelPages40
import Derived.Test.YtpleiklodomgiaaGreatDoorModelPages7
import Derived.Test.YtpleiklodomgiaaGreatDoorModelPages41
import Derived.Test.YtpleiklodomgiaaGreatDoorModelPages14
import Derived.Test.YtpleiklodomgiaaGreatDoorModelPages16
import Derived.Test.YtpleiklodomgiaaGreatDoorModelPages24
import Derived.Test.YtpleiklodomgiaaGreatDoorModelPages26
set_option linter.unusedVariables false
set_option linter.unusedSimpArgs false
section
namespace Go.Proofs.YtpleiklodomgiaaGreatDoor.B
end Go.Proofs.YtpleiklodomgiaaGreatDoor.B
namespace Go.Proofs.YtpleiklodomgiaaGreatDoor.C
end Go.Proofs.YtpleiklodomgiaaGreatDoor.C
namespace Go.Proofs.YtpleiklodomgiaaGreatDoor.CQ
end Go.Proofs.YtpleiklodomgiaaGreatDoor.CQ
namespace Go.Proofs.YtpleiklodomgiaaGreatDoor.Q
end Go.Proofs.YtpleiklodomgiaaGreatDoor.Q
namespace Go.Proofs.YtpleiklodomgiaaGreatDoor.Y
open Go.RowKit Go.Proofs.YtpleiklodomgiaaGreatDoorW.PrintWords Go.Proofs.YtpleiklodomgiaaGreatDoorW.PrintLast Go.Proofs.YtpleiklodomgiaaGreatDoorW.PrintMore Go.Proofs.YtpleiklodomgiaaGreatDoor.B Go.Proofs.YtpleiklodomgiaaGreatDoor.C Go.Proofs.YtpleiklodomgiaaGreatDoor.Q Go.Proofs.YtpleiklodomgiaaGreatDoor.CQ
def coll (q : Qv) (rs : List Rw) : List Ent := rs.flatMap fun r => r.xs.filter (keepB q)
theorem coll_take (q : Qv) (rs : List Rw) (i : Nat) (h : i < rs.length) : coll q (rs.take (i + 1)) = coll q (rs.take i) ++ (rs[i].xs.filter (keepB q)) := by
 unfold coll; rw [List.take_succ_eq_append_getElem h, List.flatMap_append]; simp
theorem filt_take (q : Qv) (xs : List Ent) (j : Nat) (h : j < xs.length) : (xs.take (j + 1)).filter (keepB q) = (xs.take j).filter (keepB q) ++ (if keepB q xs[j] = true then [xs[j]] else []) := by
 rw [List.take_succ_eq_append_getElem h, List.filter_append]
 congr 1
 cases hk : keepB q xs[j] <;> simp [hk]
theorem coll_len (q : Qv) : ∀ rs : List Rw, (∀ r ∈ rs, r.xs.length ≤ 1000) → (coll q rs).length ≤ rs.length * 1000
 | [], _ => Nat.zero_le _
 | r :: rs, h => by
  have ih := coll_len q rs (fun x hx => h x (List.mem_cons_of_mem _ hx))
  have h1 := List.length_filter_le (keepB q) r.xs
  have h2 := h r (List.mem_cons_self ..)
  unfold coll at *
  rw [List.flatMap_cons, List.length_append, List.length_cons]
  omega
theorem coll_mem {q : Qv} {rs : List Rw} {y : Ent} : y ∈ coll q rs ↔ ∃ r ∈ rs, y ∈ r.xs ∧ keepB q y = true := by
 unfold coll; simp [List.mem_flatMap, List.mem_filter]
structure RJ (w : World) (A : Option Addr) (ys : List Ent) : Prop where
 row : RowV w A ys
 in_ : ∀ y ∈ ys, y.In w ∧ y.line.size ≤ 1000
 few : ys.length ≤ 20000
theorem RJ.below {w w' : World} {A : Option Addr} {ys : List Ent} (h : RJ w A ys) (hb : Below w.heap.size w w') : RJ w' A ys := ⟨h.row.below hb, fun y hy => ⟨in_below (h.in_ y hy).1 hb, (h.in_ y hy).2⟩, h.few⟩
structure Sd (desc : Bool) (xs ys : List Ent) : Prop where
 up : Up (cmpO desc) (ys.map Ent.key)
 keys : ∀ k, k ∈ ys.map Ent.key ↔ k ∈ xs.map Ent.key
theorem Sd.eq {desc : Bool} {xs ys zs : List Ent} (h : Sd desc xs ys) (k : Sd desc xs zs) : ys.map Ent.key = zs.map Ent.key := up_unique (cmpO_c desc) h.up k.up fun x => (h.keys x).trans (k.keys x).symm
theorem Sd.of {desc : Bool} {xs ys zs : List Ent} (h : Sd desc xs ys) (hk : ∀ k, k ∈ zs.map Ent.key ↔ k ∈ xs.map Ent.key) : Sd desc zs ys := ⟨h.up, fun k => (h.keys k).trans (hk k).symm⟩
set_option maxRecDepth 20000 in
set_option maxHeartbeats 8000000 in
theorem answer_any {W : World} (hC : Go.Proofs.YtpleiklodomgiaaGreatDoor.W.Con W) (hS : Go.Proofs.YtpleiklodomgiaaGreatDoor.M.Spl W) (q : Qv) (A1 A2 : Option Addr) (c1 c2 : Nat) (page : ByteArray) (A : Option Addr) (rs : List Rw) (cap : Nat) (w : World) (hb : Below W.heap.size W w) (hq : IsQ w q A1 c1 A2 c2) (hR : RowsV w A rs) :
  Calls Tryz.prog 11 #[qV q A1 c1 A2 c2 page, .slice A rs.length cap] w fun e w' => ∃ A' c' zs, e = .returned (.slice A' (List.length zs) c') ∧ zs.length ≤ c' ∧ RJ w' A' zs ∧ Sd q.desc (coll q rs) zs ∧ (∀ z ∈ zs, z ∈ coll q rs) ∧ Below w.heap.size w w' := by
 obtain ⟨i0, hi, hz0, hz1, hz2⟩ := infoE3
 obtain ⟨V, hV⟩ : ∃ V, V = w.alloc (.cells #[.int .i64 q.fr, .int .i64 q.till, .slice A1 q.ms.length c1, .int .i64 q.T.f0, .string q.T.f1, .string q.T.f2, .slice A2 q.T.f3.length c2, .bool q.desc, .int .i64 q.lim, .string page] 37) := ⟨_, rfl⟩
 obtain ⟨bq, hbq⟩ : ∃ b, b = w.heap.size := ⟨_, rfl⟩
 have hb0 : Below w.heap.size w V := by rw [hV]; exact below_alloc (Below.refl _ _) _
 have HBx : Aside0 (∀ V', Below V.heap.size V V' → V'.heap[bq]? = some (.cells #[.int .i64 q.fr, .int .i64 q.till, .slice A1 q.ms.length c1, .int .i64 q.T.f0, .string q.T.f1, .string q.T.f2, .slice A2 q.T.f3.length c2, .bool q.desc, .int .i64 q.lim, .string page] 37 (0, 0))) := ⟨fun V' h => heap_below h (by rw [hV, hbq]; exact Go.heap_alloc_new _ _)⟩
 have HB0 := Aside0.mk hb0
 have HR := Aside0.mk (hR.below hb0)
 have HQ := Aside0.mk (fun (x : Ent) (V' : World) (h : Below V.heap.size V V') (hx : x.In V') (hl : x.line.size ≤ 1000) => query_m hC hS q A1 A2 c1 c2 page x V' (below_step (below_step hb hb0) h) ((hq.below hb0).below h) hx hl)
 have HSo := Aside0.mk (fun (A : Option Addr) (c : Nat) (xs : List Ent) (V' : World) (hr : RowV V' A xs) (hi : ∀ x ∈ xs, x.In V') (hl : xs.length ≤ 100000) => sort_gen q.desc A xs c hr hi hl)
 have HWd := Aside0.mk hV
 have HJd := Aside0.mk hbq
 clear hV hbq hb0 hR hq hb hC hS
 have HQk := Aside0.mk (fun x : Ent => (rfl : keepB q x = keepB q x))
 obtain ⟨kp, hkp⟩ : ∃ kp : Ent → Bool, kp = keepB q := ⟨_, rfl⟩
 have HKp := Aside0.mk hkp
 rw [← hkp] at HQ
 clear hkp HQk
 unfold qV at HQ ⊢
 unfold Ent.val at HQ
 go_enter Tryz.func11, Tryz.ntmps11
 go_wp2
 try rw [← HWd.out]
 try rw [← HJd.out]
 have HVB : Aside0 (Below V.heap.size V V) := ⟨Below.refl _ _⟩
 go_loopw [5, 12] (fun t5 t12 wr => ∃ (i : Nat) (v : Value) (acc : List Ent), i ≤ rs.length ∧ t5 = v ∧ t12 = .int .i64 (i : Int) ∧ Aside0 (Below V.heap.size V wr) ∧ Aside0 (OwnE wr V.heap.size v acc) ∧ Aside0 (acc = coll q (rs.take i))) (fun _ t12 _ => rs.length - (intOf t12).toNat)
 case atStart => exact ⟨0, _, [], Nat.zero_le _, rfl, rfl, HVB, ⟨OwnE.nil _ _⟩, ⟨rfl⟩⟩
 case round =>
  clear HVB
  obtain ⟨i, v, acc, hi, hv, rfl, HB, HO, HA⟩ := hrel
  replace hv := hv.symm
  subst hv
  by_cases hlt : i < rs.length
  ·obtain ⟨a, rfl⟩ := HR.out.some hlt
   have k0 := (HR.out.below HB.out).cells a rfl i hlt
   have hrw := HR.out.rows _ (List.getElem_mem hlt)
   have hrl := HR.out.few.2 _ (List.getElem_mem hlt)
   have HCt : Aside0 (coll q (rs.take (i + 1)) = acc ++ (rs[i].xs.filter kp)) := ⟨by rw [coll_take q rs i hlt, HA.out, HKp.out]⟩
   obtain ⟨r, hr⟩ : ∃ r, r = rs[i] := ⟨_, rfl⟩
   rw [← hr] at k0 hrw hrl HCt
   have HRr := Aside0.mk hrw
   have HRl := Aside0.mk hrl
   have Hlt := Aside0.mk hlt
   have HAl : Aside0 (acc.length ≤ 10000) := ⟨by
    rw [HA.out]
    have h1 := coll_len q (rs.take i) (fun r hr => HR.out.few.2 r (List.mem_of_mem_take hr))
    have h2 := HR.out.few.1
    rw [List.length_take] at h1
    have h3 := Hlt.out
    have h4 : min i rs.length ≤ 9 := by omega
    have h5 : min i rs.length * 1000 ≤ 9 * 1000 := Nat.mul_le_mul_right _ h4
    omega⟩
   clear hr hrw hrl HA
   obtain ⟨rA, rc, rx⟩ := r
   dsimp only at k0 HCt HRr HRl
   go_wp2
   clear k0 hlt hi
   have HF0 : Aside0 (acc = acc ++ ((rx.take 0).filter kp)) := ⟨by simp⟩
   obtain ⟨wo, hwo⟩ : ∃ wo, wo = wr := ⟨_, rfl⟩
   subst hwo
   go_loopw [5, 18] (fun t5 t18 wr => ∃ (j : Nat) (v : Value) (ac : List Ent), j ≤ rx.length ∧ t5 = v ∧ t18 = .int .i64 (j : Int) ∧ Aside0 (Below V.heap.size V wr) ∧ Aside0 (OwnE wr V.heap.size v ac) ∧ Aside0 (ac = acc ++ ((rx.take j).filter kp))) (fun _ t18 _ => rx.length - (intOf t18).toNat)
   case atStart => exact ⟨0, _, acc, Nat.zero_le _, rfl, rfl, HB, HO, HF0⟩
   case round =>
    clear HB HO HF0
    obtain ⟨j, v, ac, hj, hv, rfl, HB, HO, HA⟩ := hrel
    replace hv := hv.symm
    subst hv
    by_cases hlt : j < rx.length
    ·obtain ⟨a2, ha2, k0, k1, k2⟩ := (HRr.out.1.below HB.out).get j hlt
     have hxi := HRr.out.2 _ (List.getElem_mem hlt)
     have HFt := Aside0.mk (filt_take q rx j hlt)
     obtain ⟨x, hx⟩ : ∃ x, x = rx[j] := ⟨_, rfl⟩
     rw [← hx] at k0 k1 k2 hxi HFt
     have HXi := Aside0.mk hxi
     obtain ⟨W2, hW2⟩ : ∃ W2, W2 = wr.alloc (.cells #[.int .i64 x.at_, .slice x.A x.ls.length x.c, .string x.line] 26) := ⟨_, rfl⟩
     obtain ⟨bx, hbx⟩ : ∃ b, b = wr.heap.size := ⟨_, rfl⟩
     have hb1 : Below wr.heap.size wr W2 := by rw [hW2]; exact below_alloc (Below.refl _ _) _
     have HB2 := Aside0.mk (below_step HB.out hb1)
     have HO2 := Aside0.mk (HO.out.below hb1)
     have XA : Aside0 (BoxE W2 bx x) := ⟨by rw [hW2, hbx]; exact Go.heap_alloc_new _ _⟩
     have HWd := Aside0.mk hW2
     have HJd := Aside0.mk hbx
     have Hlt := Aside0.mk hlt
     have hqc := HBx.out wr HB.out
     have Q0 : ∀ o : Obj, (wr.alloc o).cell? ⟨bq, 0, none⟩ = some _ := fun o => blk_cell (heap_below (below_alloc (Below.refl _ wr) o) hqc) 0
     have Q1 : ∀ o : Obj, (wr.alloc o).cell? ⟨bq, 1, none⟩ = some _ := fun o => blk_cell (heap_below (below_alloc (Below.refl _ wr) o) hqc) 1
     have Q2 : ∀ o : Obj, (wr.alloc o).cell? ⟨bq, 2, none⟩ = some _ := fun o => blk_cell (heap_below (below_alloc (Below.refl _ wr) o) hqc) 2
     have Q3 : ∀ o : Obj, (wr.alloc o).cell? ⟨bq, 3, none⟩ = some _ := fun o => blk_cell (heap_below (below_alloc (Below.refl _ wr) o) hqc) 3
     have Q4 : ∀ o : Obj, (wr.alloc o).cell? ⟨bq, 4, none⟩ = some _ := fun o => blk_cell (heap_below (below_alloc (Below.refl _ wr) o) hqc) 4
     have Q5 : ∀ o : Obj, (wr.alloc o).cell? ⟨bq, 5, none⟩ = some _ := fun o => blk_cell (heap_below (below_alloc (Below.refl _ wr) o) hqc) 5
     have Q6 : ∀ o : Obj, (wr.alloc o).cell? ⟨bq, 6, none⟩ = some _ := fun o => blk_cell (heap_below (below_alloc (Below.refl _ wr) o) hqc) 6
     have Q7 : ∀ o : Obj, (wr.alloc o).cell? ⟨bq, 7, none⟩ = some _ := fun o => blk_cell (heap_below (below_alloc (Below.refl _ wr) o) hqc) 7
     have Q8 : ∀ o : Obj, (wr.alloc o).cell? ⟨bq, 8, none⟩ = some _ := fun o => blk_cell (heap_below (below_alloc (Below.refl _ wr) o) hqc) 8
     have Q9 : ∀ o : Obj, (wr.alloc o).cell? ⟨bq, 9, none⟩ = some _ := fun o => blk_cell (heap_below (below_alloc (Below.refl _ wr) o) hqc) 9
     have hcall := HQ.out x W2 HB2.out (in_below (in_below HXi.out.1 HB.out) hb1) HXi.out.2
     obtain ⟨k, hk⟩ : ∃ k, k = kp x := ⟨_, rfl⟩
     rw [← hk] at hcall
     rw [← HKp.out, ← hk] at HFt
     have HCa := Aside0.mk hcall
     subst ha2
     clear hx hW2 hbx hb1 hqc hcall hk hxi hj
     go_wp2_with fail
     try rw [← HWd.out]
     try rw [← HJd.out]
     clear Q0 Q1 Q2 Q3 Q4 Q5 Q6 Q7 Q8 Q9 k0 k1 k2 HWd HJd hlt
     ((refine (HCa.out).mono ?_); rintro e W3 ⟨rfl, hb3⟩)
     have HB := Aside0.mk (below_step HB2.out hb3)
     have HO := Aside0.mk (HO2.out.below hb3)
     have XA := Aside0.mk (XA.out.below hb3)
     clear hb3 HB2 HO2 HCa
     cases k with
     | true =>
      rw [if_pos rfl] at HFt
      have HA2 : Aside0 (ac ++ [x] = acc ++ ((rx.take (j + 1)).filter kp)) := ⟨by rw [HA.out, HFt.out, List.append_assoc]⟩
      have HAc : Aside0 (ac.length ≤ 20000) := ⟨by
       rw [HA.out, List.length_append]
       have h1 := List.length_filter_le kp (rx.take j)
       have h2 := HRl.out
       have h3 := HAl.out
       rw [List.length_take] at h1
       omega⟩
      have x0 := XA.out.c0
      have x1 := XA.out.c1
      have x2 := XA.out.c2
      obtain ⟨Av, cv, hv, -, -, -⟩ := HO.out.row
      subst hv
      go_wp2_with (at_builtin; refine wpList_append_own _ rfl _ _ 39 rfl V.heap.size 26 i0 _ 3 48 Tryz.underlying39 hi hz0 hz1 hz2 rfl (by omega) _ _ _ rfl (World.ownsRow.alloc HO.out (.cells #[.int .i64 x.at_, .slice x.A x.ls.length x.c, .string x.line] 26)) ⟨W3.heap.size, 0, none⟩ 1 1 x.cells rfl ?qc1 ?qc2 ?qc3 ?qc4 ?qc5 ?qc6 ?_)
      case qc1 => rfl
      case qc2 =>
       intro j' u hj'
       rw [add_at, Nat.zero_add]
       refine (blk_cell (Go.heap_alloc_new W3 _) j').trans ?_
       show (x.cells.toArray)[j']? = _
       rw [List.getElem?_toArray]
       exact hj'
      case qc3 => exact cells_one x
      case qc4 => have := HAc.out; unfold maxLen; omega
      case qc5 => have := HAc.out; omega
      case qc6 => have := HB.out.size; simp; omega
      intro v' w1 hown hgrow hnil
      have hb4 := below_alloc (Below.refl _ W3) (.cells #[.int .i64 x.at_, .slice x.A x.ls.length x.c, .string x.line] 26)
      have HO4 : Aside0 (OwnE w1 V.heap.size v' (ac ++ [x])) := ⟨by unfold OwnE; rw [entC_app, List.length_append]; simpa [entC] using hown⟩
      have HB4 : Aside0 (Below V.heap.size V w1) := ⟨(below_step HB.out hb4).grown hgrow (below_step HB.out hb4).size (fun k hk => owns_block HO.out k hk)⟩
      clear hown hgrow hnil hb4 x0 x1 x2 HO HB
      go_wp2
      go_roundw
      case rel => exact ⟨j + 1, v', ac ++ [x], by have := Hlt.out; omega, rfl, by rw [w64y _ (by have := Hlt.out; have := HRl.out; omega)]; rfl, HB4, HO4, HA2⟩
      case measure => have h1 := Hlt.out; have h2 := HRl.out; rw [w64y _ (by omega)]; simp [intOf]; omega
     | false =>
      rw [if_neg (by decide), List.append_nil] at HFt
      have HA2 : Aside0 (ac = acc ++ ((rx.take (j + 1)).filter kp)) := ⟨by rw [HA.out, HFt.out]⟩
      go_wp2
      go_roundw
      case rel => exact ⟨j + 1, _, ac, by have := Hlt.out; omega, rfl, by rw [w64y _ (by have := Hlt.out; have := HRl.out; omega)]; rfl, HB, HO, HA2⟩
      case measure => have h1 := Hlt.out; have h2 := HRl.out; rw [w64y _ (by omega)]; simp [intOf]; omega
    ·obtain rfl : j = rx.length := by omega
     have HA2 : Aside0 (ac = coll q (rs.take (i + 1))) := ⟨by rw [HA.out, HCt.out, List.take_length]⟩
     go_wp2
     go_roundw
     case rel => exact ⟨i + 1, _, ac, by have := Hlt.out; omega, rfl, by rw [w64y _ (by have := Hlt.out; have := HR.out.few.1; omega)]; rfl, HB, HO, HA2⟩
     case measure => have h1 := Hlt.out; have h2 := HR.out.few.1; rw [w64y _ (by omega)]; simp [intOf]; omega
  ·obtain rfl : i = rs.length := by omega
   have hacc : acc = coll q rs := by rw [HA.out, List.take_length]
   have hlen : acc.length ≤ 20000 := by
    rw [hacc]
    have h1 := coll_len q rs HR.out.few.2
    have h2 := HR.out.few.1
    have h5 : rs.length * 1000 ≤ 10 * 1000 := Nat.mul_le_mul_right _ h2
    omega
   have hmem : ∀ y ∈ acc, (y.In wr ∧ y.line.size ≤ 1000) ∧ keepB q y = true := fun y hy => by
    rw [hacc] at hy
    obtain ⟨r, hr, hy, hk⟩ := coll_mem.1 hy
    exact ⟨⟨in_below ((HR.out.rows r hr).2 y hy).1 HB.out, ((HR.out.rows r hr).2 y hy).2⟩, hk⟩
   obtain ⟨Av, cv, hv, hlc, hrow, -⟩ := HO.out.row
   subst hv
   have HSr := Aside0.mk (HSo.out Av cv acc wr hrow (fun y hy => (hmem y hy).1.1) (by omega))
   have q7 : wr.cell? ⟨bq, 7, none⟩ = some (.bool q.desc) := blk_cell (HBx.out wr HB.out) 7
   have Hacc := Aside0.mk hacc
   have Hlen := Aside0.mk hlen
   have Hmem := Aside0.mk hmem
   clear hacc hlen hmem hrow hlc HSo HQ HA hi hlt
   go_wp2_with fail
   ((refine (HSr.out).mono ?_); rintro e w4 ⟨A', c', zs, rfl, h2, h3, h4, h5, h6, h7, h8⟩)
   have Hres : Aside0 (zs.length ≤ c' ∧ RJ w4 A' zs ∧ Sd q.desc (coll q rs) zs ∧ (∀ z ∈ zs, z ∈ coll q rs) ∧ Below V.heap.size V w4) := ⟨h2, ⟨h3, fun z hz' => ⟨in_below (Hmem.out z (h4 z hz')).1.1 h5, (Hmem.out z (h4 z hz')).1.2⟩, by have := Hlen.out; omega⟩,
    ⟨h7, by rw [← Hacc.out]; exact h8⟩, fun z hz' => by rw [← Hacc.out]; exact h4 z hz', below_step HB.out h5⟩
   clear h2 h3 h4 h5 h6 h7 h8 q7
   go_wp2
   go_ret
   exact ⟨A', c', zs, rfl, Hres.out.1, Hres.out.2.1, Hres.out.2.2.1, Hres.out.2.2.2.1, below_step HB0.out Hres.out.2.2.2.2⟩
end Go.Proofs.YtpleiklodomgiaaGreatDoor.Y
end
section
namespace Go.Proofs.YtpleiklodomgiaaGreatDoor.Reg
end Go.Proofs.YtpleiklodomgiaaGreatDoor.Reg
namespace Go.Proofs.YtpleiklodomgiaaGreatDoor.Y
open Go.RowKit Go.Proofs.YtpleiklodomgiaaGreatDoorW.PrintWords Go.Proofs.YtpleiklodomgiaaGreatDoorW.PrintLast Go.Proofs.YtpleiklodomgiaaGreatDoorW.PrintMore Go.Proofs.YtpleiklodomgiaaGreatDoor.B Go.Proofs.YtpleiklodomgiaaGreatDoor.Reg Go.Proofs.YtpleiklodomgiaaGreatDoor.C Go.Proofs.YtpleiklodomgiaaGreatDoor.Q Go.Proofs.YtpleiklodomgiaaGreatDoor.CQ
theorem goesV_ {P : Program} {ops : Array Oper} {Q : Exit → Act → World → Prop} {oi : Oper} {N : Option Tmp} {a : Act} {w : World} {K : Act → World → Prop} {f : FuncId} {c : Operand} {ags : Array Operand} {ts : Array TypeId} (he : ∀ args w, (callFunc f args).run P w = .ok (.enter f args) w) (args : Array Value)
  (hw : Region.wanted oi (yielded ops a.tmps) = true) (hN : oi.dst = N) (hop : oi.op = .call { callee := .value c, args := ags, argTypes := ts }) (hc : a.eval c = .func (.func f) #[] #[]) (hargs : ags.map a.eval = args)
  (h : Calls P f args w fun e w' => ∃ v, e = .returned v ∧ K (a.put N v) w') : if Region.wanted oi (yielded ops a.tmps) = true then Oper.wp P oi a w K Q else K (a.put N undef) w := by
 refine call_ f args hw hN ?_ h
 have he := he args w
 unfold execOp
 simp [hop, resolve, Deferred.ofValue, invoke, hc, hargs, he]
structure Low (desc : Bool) (t : Key) (ys : List Ent) (i : Nat) : Prop where
 le : i ≤ ys.length
 lo : ∀ k (hk : k < ys.length), k < i → cmpO desc ys[k].key t = -1
 hi : ∀ k (hk : k < ys.length), i ≤ k → cmpO desc ys[k].key t ≠ -1
theorem up_at {desc : Bool} {ys : List Ent} (h : Up (cmpO desc) (ys.map Ent.key)) {i j : Nat} (hi : i < ys.length) (hj : j < ys.length) (hij : i < j) : cmpO desc ys[i].key ys[j].key = -1 := by
 have := List.pairwise_iff_getElem.1 h i j (by simpa using hi) (by simpa using hj) hij
 simpa using this
theorem low_lo {desc : Bool} {t : Key} {ys : List Ent} (h : Up (cmpO desc) (ys.map Ent.key)) {m : Nat} (hm : m < ys.length) (hc : cmpO desc ys[m].key t = -1) : ∀ k (hk : k < ys.length), k < m + 1 → cmpO desc ys[k].key t = -1 := fun k hk hkm => by
 by_cases e : k = m
 ·subst e; exact hc
 ·exact (cmpO_c desc).trans _ _ _ (up_at h hk hm (by omega)) hc
theorem low_hi {desc : Bool} {t : Key} {ys : List Ent} (h : Up (cmpO desc) (ys.map Ent.key)) {m : Nat} (hm : m < ys.length) (hc : cmpO desc ys[m].key t ≠ -1) : ∀ k (hk : k < ys.length), m ≤ k → cmpO desc ys[k].key t ≠ -1 := fun k hk hkm => by
 by_cases e : k = m
 ·subst e; exact hc
 ·intro h1
  exact hc ((cmpO_c desc).trans _ _ _ (up_at h hm hk (by omega)) h1)
theorem ord_any (desc : Bool) (x y : Ent) (V : World) (hx : x.In V) (hy : y.In V) : Calls Tryz.prog (ordF desc) #[x.val, y.val] V fun e w' => e = .returned (.int .i64 (cmpO desc x.key y.key)) ∧ Below V.heap.size V w' := by
 cases desc
 ·exact (compare_any x y V hx hy).mono fun _ _ ⟨he, hb⟩ => ⟨he, hb.below⟩
 ·exact (turned_any x y V hx hy).mono fun _ _ ⟨he, hb⟩ => ⟨he, hb.below⟩
def T_api_Entry_5 : Bool × List (List Nat × List Nat) := (true, [([], []), ([], []), ([], []), ([1, 2], [1, 2]), ([3], [3]), ([], []), ([0, 4, 5], [0, 4, 5]), ([6], [6])])
def B_api_Entry_5 : List Nat := [0, 0, 0, 6, 14, 0, 63, 127]
theorem tab_api_Entry_5 : rtab .any (opsOf Tryz.f25 5) = T_api_Entry_5 := by kernel_rfl
theorem bits_api_Entry_5 : waitsOk T_api_Entry_5.2 B_api_Entry_5 = true := by kernel_rfl
def T_api_Entry_8 : Bool × List (List Nat × List Nat) := (true, [([], []), ([], []), ([], []), ([1, 2], [1, 2]), ([3], [3]), ([4], [4]), ([4], [4]), ([4], [4]), ([6, 7, 4], [4, 6, 7]), ([8, 4], [4, 8]), ([4], [4]), ([5, 9, 10, 4, 4], [4, 5, 9, 10]), ([11, 4], [4, 11]), ([4, 12], [4, 12]), ([0, 11, 0], [0]), ([13, 14, 0, 1, 2, 3, 4, 5, 6, 7, 8, 9, 10, 11, 12, 13, 14], [13])])
def B_api_Entry_8 : List Nat := [0, 0, 0, 6, 14, 30, 30, 30, 222, 478, 30, 2046, 4094, 8190, 4095, 32767]
theorem tab_api_Entry_8 : rtab .any (opsOf Tryz.f25 8) = T_api_Entry_8 := by kernel_rfl
theorem bits_api_Entry_8 : waitsOk T_api_Entry_8.2 B_api_Entry_8 = true := by kernel_rfl
set_option maxRecDepth 20000 in
set_option maxHeartbeats 8000000 in
theorem bsearch_any (desc : Bool) (A : Option Addr) (ys : List Ent) (c : Nat) (t : Ent) (w : World) (hR : RowV w A ys) (hI : ∀ y ∈ ys, y.In w) (hT : t.In w) (hU : Up (cmpO desc) (ys.map Ent.key)) (hl : ys.length ≤ 20000) :
  Calls Tryz.prog 25 #[.slice A ys.length c, t.val, .func (.func (ordF desc)) #[] #[]] w fun e w' => ∃ (i : Nat) (b : Bool), e = .returned (.tuple #[.int .i64 (i : Int), .bool b]) ∧ Low desc t.key ys i ∧ (b = true ↔ ∃ h : i < ys.length, ys[i].key = t.key) ∧ Below w.heap.size w w' := by
 obtain ⟨V, hV⟩ : ∃ V, V = w.alloc (.cells #[.int .i64 t.at_, .slice t.A t.ls.length t.c, .string t.line] 26) := ⟨_, rfl⟩
 obtain ⟨bt, hbt⟩ : ∃ b, b = w.heap.size := ⟨_, rfl⟩
 have hb0 : Below w.heap.size w V := by rw [hV]; exact below_alloc (Below.refl _ _) _
 have HT : Aside0 (∀ V', Below V.heap.size V V' → BoxE V' bt t) := ⟨fun V' h => heap_below h (by rw [hV, hbt]; exact Go.heap_alloc_new _ _)⟩
 have HB0 := Aside0.mk hb0
 have HR := Aside0.mk (hR.below hb0)
 have HO := Aside0.mk (fun (x : Ent) (hx : x ∈ ys) (V' : World) (h : Below V.heap.size V V') => ord_any desc x t V' (in_below (in_below (hI x hx) hb0) h) (in_below (in_below hT hb0) h))
 have HU := Aside0.mk hU
 have HM := Aside0.mk hl
 have HWd := Aside0.mk hV
 have HJd := Aside0.mk hbt
 clear hV hbt hb0 hR hI hT hU hl
 unfold Ent.val at HO ⊢
 have Hen := Aside0.mk (ord_enters desc)
 obtain ⟨fo, hfo⟩ : ∃ f, f = ordF desc := ⟨_, rfl⟩
 rw [← hfo] at HO Hen ⊢
 clear hfo
 go_enter Tryz.func25, Tryz.ntmps25
 go_wp2
 try rw [← HWd.out]
 try rw [← HJd.out]
 have HVB : Aside0 (Below V.heap.size V V) := ⟨Below.refl _ _⟩
 have HL0 : Aside0 (∀ k (hk : k < ys.length), k < 0 → cmpO desc ys[k].key t.key = -1) := ⟨fun k hk h => absurd h (Nat.not_lt_zero k)⟩
 have HH0 : Aside0 (∀ k (hk : k < ys.length), ys.length ≤ k → cmpO desc ys[k].key t.key ≠ -1) := ⟨fun k hk h => absurd hk (by omega)⟩
 go_loopw [9, 10] (fun t9 t10 wr => ∃ (i j : Nat), i ≤ j ∧ j ≤ ys.length ∧ t9 = .int .i64 (i : Int) ∧ t10 = .int .i64 (j : Int) ∧ Aside0 (Below V.heap.size V wr) ∧ Aside0 (∀ k (hk : k < ys.length), k < i → cmpO desc ys[k].key t.key = -1) ∧ Aside0 (∀ k (hk : k < ys.length), j ≤ k → cmpO desc ys[k].key t.key ≠ -1)) (fun t9 t10 _ => (intOf t10).toNat - (intOf t9).toNat)
 case atStart => exact ⟨0, ys.length, Nat.zero_le _, Nat.le_refl _, rfl, rfl, HVB, HL0, HH0⟩
 case round =>
  clear HVB HL0 HH0
  obtain ⟨i, j, hij, hj, rfl, rfl, HB, HLo, HHi⟩ := hrel
  by_cases hlt : i < j
  ·have hm20 := HM.out
   have hz : (i : Int) < (j : Int) := by omega
   have c1 : (i : Int) + (j : Int) ≤ 40000 := by omega
   go_wp2_with fail
   obtain ⟨m, hm⟩ : ∃ m : Nat, ((i : Int) + (j : Int)) / 2 = (m : Int) := ⟨(i + j) / 2, by omega⟩
   rw [hm]
   have him : i ≤ m := by omega
   have hmj : m < j := by omega
   have hmn : m < ys.length := by omega
   obtain ⟨a, hA, k0, k1, k2⟩ := (HR.out.below HB.out).get m hmn
   obtain ⟨x, hx⟩ : ∃ x, x = ys[m] := ⟨_, rfl⟩
   rw [← hx] at k0 k1 k2
   obtain ⟨cv, hcv⟩ : ∃ cv, cv = cmpO desc x.key t.key := ⟨_, rfl⟩
   have HOx : Aside0 (∀ V', Below V.heap.size V V' → Calls Tryz.prog fo #[.agg #[.int .i64 x.at_, .slice x.A x.ls.length x.c, .string x.line], .agg #[.int .i64 t.at_, .slice t.A t.ls.length t.c, .string t.line]] V' fun e w' => e = .returned (.int .i64 cv) ∧ Below V'.heap.size V' w') := ⟨fun V' h => by rw [hcv]; exact HO.out x (by rw [hx]; exact List.getElem_mem hmn) V' h⟩
   have HCv : Aside0 (cv = cmpO desc (ys[m]'hmn).key t.key) := ⟨by rw [hcv, hx]⟩
   have HIx := Aside0.mk (And.intro him (And.intro hmj (And.intro hmn hj)))
   have HTx := Aside0.mk (HT.out wr HB.out)
   have K0 := Aside0.mk k0
   have K1 := Aside0.mk k1
   have K2 := Aside0.mk k2
   have HBS := HB
   subst hA
   clear hx hcv hm hz c1 hm20 hij hj hlt him hmj k0 k1 k2
   have hz2 : (m : Int) < (ys.length : Int) := by omega
   clear HB
   obtain ⟨V2, hV2⟩ : ∃ V2, V2 = wr := ⟨_, rfl⟩
   subst hV2
   have HB : Aside0 (Below V2.heap.size V2 V2) := ⟨Below.refl _ _⟩
   by_cases hc : cv = -1
   ·have hneg : cv < 0 := by omega
    have HC := Aside0.mk hc
    clear hc
    refine start_ (n := 8) (S := fun x_ => Below V2.heap.size V2 x_) (ds := []) #[false, false, false, false, false, false, false, false] (by kernel_rfl) rfl rfl (pw_below_drewN (Below.refl _ _) 1) (fun hHeld => ?_)
    refine with_tabW tab_api_Entry_5 bits_api_Entry_5 (fun HT_ HW_ => ?_)
    have HB := Aside0.mk (pw_below_drewN HB.out 1)
    change Aside0 (Below _ _ (World.drew V2)) at HB
    change Below _ _ (World.drew V2) at hHeld
    have hSz : (World.drew V2).heap.size = V2.heap.size := rfl
    have K0 := Aside0.mk (show (World.drew V2).cell? _ = _ from K0.out)
    have K1 := Aside0.mk (show (World.drew V2).cell? _ = _ from K1.out)
    have K2 := Aside0.mk (show (World.drew V2).cell? _ = _ from K2.out)
    have HTx := Aside0.mk (show BoxE (World.drew V2) bt t from HTx.out)
    have HBS := Aside0.mk (show Below V.heap.size V (World.drew V2) from pw_below_drewN HBS.out 1)
    refine wpAnyLast_str (S' := fun x_ => Below (World.drew V2).heap.size (World.drew V2) x_) (fun x_ hx_ => below_step hHeld hx_) (Below.refl _ _) ?_
    clear hHeld hSz
    generalize World.drew V2 = V2d at *
    have HS := Aside0.mk (Below.refl V2d.heap.size V2d)
    refine pure_ (i := 0) (N := (some 24)) (v := ?_) (a' := ?_) #[true, false, false, false, false, false, false, false] rfl rfl (any_of HT_.out (by kernel_rfl)) (fun _ _ _ h => h) (Or.inl ⟨by rfl, ?_⟩) ?_ ?_
    rotate_left
    ·intro w_
     go_simp
     try with_reducible rfl
    rotate_left
    ·simp only [Act.put, List.setIfInBounds_toArray, List.set_cons_zero, List.set_cons_succ, i64_w, i32_w]
     rfl
    refine pure_ (i := 1) (N := (some 25)) (v := ?_) (a' := ?_) #[true, true, false, false, false, false, false, false] rfl rfl (any_of HT_.out (by kernel_rfl)) (fun _ _ _ h => h) (Or.inl ⟨by rfl, ?_⟩) ?_ ?_
    rotate_left
    ·intro w_
     go_simp
     try with_reducible rfl
    rotate_left
    ·simp only [Act.put, List.setIfInBounds_toArray, List.set_cons_zero, List.set_cons_succ, i64_w, i32_w]
     rfl
    refine pure_ (i := 2) (N := (some 26)) (v := ?_) (a' := ?_) #[true, true, true, false, false, false, false, false] rfl rfl (any_of HT_.out (by kernel_rfl)) (fun _ _ _ h => h) (Or.inl ⟨by rfl, ?_⟩) ?_ ?_
    rotate_left
    ·intro w_
     go_simp
     try with_reducible rfl
    rotate_left
    ·simp only [Act.put, List.setIfInBounds_toArray, List.set_cons_zero, List.set_cons_succ, i64_w, i32_w]
     rfl
    refine pure_ (i := 3) (N := (some 27)) (v := ?_) (a' := ?_) #[true, true, true, true, false, false, false, false] rfl rfl (any_of HT_.out (by kernel_rfl)) (fun _ _ _ h => h) (Or.inl ⟨by rfl, ?_⟩) ?_ ?_
    rotate_left
    ·intro w_
     go_simp
     try with_reducible rfl
    rotate_left
    ·simp only [Act.put, List.setIfInBounds_toArray, List.set_cons_zero, List.set_cons_succ, i64_w, i32_w]
     rfl
    refine take_ (i := 4) (N := (some 28)) (v := ?_) (a' := ?_) #[true, true, true, true, true, false, false, false] rfl rfl (take_ofW HT_.out HW_.out (by kernel_rfl)) (fun _ _ _ h => h) (Or.inl ⟨by rfl, ?_⟩) (Below.refl _ _) ?_ ?_
    rotate_left
    ·intro Wx hWx
     have h0 := pw_cell_below hWx K0.out
     have h1 := pw_cell_below hWx K1.out
     have h2 := pw_cell_below hWx K2.out
     go_simp
     try with_reducible rfl
    rotate_left
    ·simp only [Act.put, List.setIfInBounds_toArray, List.set_cons_zero, List.set_cons_succ, i64_w, i32_w]
     rfl
    refine take_ (i := 5) (N := (some 29)) (v := ?_) (a' := ?_) #[true, true, true, true, true, true, false, false] rfl rfl (take_ofW HT_.out HW_.out (by kernel_rfl)) (fun _ _ _ h => h) (Or.inl ⟨by rfl, ?_⟩) (Below.refl _ _) ?_ ?_
    rotate_left
    ·intro Wx hWx
     have h0 := (HTx.out.below hWx).c0
     have h1 := (HTx.out.below hWx).c1
     have h2 := (HTx.out.below hWx).c2
     go_simp
     try with_reducible rfl
    rotate_left
    ·simp only [Act.put, List.setIfInBounds_toArray, List.set_cons_zero, List.set_cons_succ, i64_w, i32_w]
     rfl
    refine one_ (i := 6) (N := (some 30)) #[true, true, true, true, true, true, true, false] rfl rfl (one_of HT_.out (by kernel_rfl)) (by decide) (fun K hK => ?_)
    refine goesV_ Hen.out #[.agg #[.int .i64 x.at_, .slice x.A x.ls.length x.c, .string x.line], .agg #[.int .i64 t.at_, .slice t.A t.ls.length t.c, .string t.line]] (by rfl) rfl rfl (by rfl) (by (try simp only [List.map_toArray, List.map_cons, List.map_nil]); first | done | rfl) ?_
    refine (HOx.out _ HBS.out).mono ?_
    rintro e w5_6 ⟨rfl, hb_1⟩
    refine ⟨_, rfl, ?_⟩
    have HBS := Aside0.mk (below_step HBS.out hb_1)
    have hb_ : Below V2d.heap.size V2d w5_6 := hb_1
    have HB := Aside0.mk (below_step HB.out hb_)
    refine hK.out _ _ hb_ (fun hHeld => ?_)
    clear hK K
    refine wpAnyLast_str (S' := fun x_ => Below w5_6.heap.size w5_6 x_) (fun x_ hx_ => below_step hHeld hx_) (Below.refl _ _) ?_
    clear hHeld
    (try clear hb)
    clear hb_
    have HS := Aside0.mk (Below.refl w5_6.heap.size w5_6)
    refine norm_ (a' := ?_) ?_ ?_
    rotate_left
    ·show Act.put _ (some 30) _ = _
     simp only [Act.put, List.setIfInBounds_toArray, List.set_cons_zero, List.set_cons_succ, i64_w, i32_w]
     rfl
    refine pure_ (i := 7) (N := (some 31)) (v := ?_) (a' := ?_) #[true, true, true, true, true, true, true, true] rfl rfl (any_of HT_.out (by kernel_rfl)) (fun _ _ _ h => h) (Or.inl ⟨by rfl, ?_⟩) ?_ ?_
    rotate_left
    ·intro w_
     go_simp
     try with_reducible rfl
    rotate_left
    ·simp only [Act.put, List.setIfInBounds_toArray, List.set_cons_zero, List.set_cons_succ, i64_w, i32_w]
     rfl
    refine done_ (done_of HT_.out (by kernel_rfl)) ?_
    clear HB
    go_wp2
    go_roundw
    case rel => exact ⟨m + 1, j, by have := HIx.out.2.1; omega, HIx.out.2.2.2, by rw [w64y _ (by have := HIx.out.2.2.1; have := HM.out; omega)]; rfl, rfl, HBS, ⟨low_lo HU.out HIx.out.2.2.1 (by rw [← HCv.out]; exact HC.out)⟩, HHi⟩
    case measure => have h1 := HIx.out.1; have h2 := HIx.out.2.1; have h3 := HIx.out.2.2.1; have h4 := HM.out; rw [w64y _ (by omega)]; simp [intOf]; omega
   ·have hneg : ¬ cv < 0 := by
     have h1 := (cmpO_c desc).tri (ys[m]'hmn).key t.key
     rw [← HCv.out] at h1
     omega
    have hneg2 : 0 ≤ cv := by omega
    have HC := Aside0.mk hc
    clear hc
    refine start_ (n := 8) (S := fun x_ => Below V2.heap.size V2 x_) (ds := []) #[false, false, false, false, false, false, false, false] (by kernel_rfl) rfl rfl (pw_below_drewN (Below.refl _ _) 1) (fun hHeld => ?_)
    refine with_tabW tab_api_Entry_5 bits_api_Entry_5 (fun HT_ HW_ => ?_)
    have HB := Aside0.mk (pw_below_drewN HB.out 1)
    change Aside0 (Below _ _ (World.drew V2)) at HB
    change Below _ _ (World.drew V2) at hHeld
    have hSz : (World.drew V2).heap.size = V2.heap.size := rfl
    have K0 := Aside0.mk (show (World.drew V2).cell? _ = _ from K0.out)
    have K1 := Aside0.mk (show (World.drew V2).cell? _ = _ from K1.out)
    have K2 := Aside0.mk (show (World.drew V2).cell? _ = _ from K2.out)
    have HTx := Aside0.mk (show BoxE (World.drew V2) bt t from HTx.out)
    have HBS := Aside0.mk (show Below V.heap.size V (World.drew V2) from pw_below_drewN HBS.out 1)
    refine wpAnyLast_str (S' := fun x_ => Below (World.drew V2).heap.size (World.drew V2) x_) (fun x_ hx_ => below_step hHeld hx_) (Below.refl _ _) ?_
    clear hHeld hSz
    generalize World.drew V2 = V2d at *
    have HS := Aside0.mk (Below.refl V2d.heap.size V2d)
    refine pure_ (i := 0) (N := (some 24)) (v := ?_) (a' := ?_) #[true, false, false, false, false, false, false, false] rfl rfl (any_of HT_.out (by kernel_rfl)) (fun _ _ _ h => h) (Or.inl ⟨by rfl, ?_⟩) ?_ ?_
    rotate_left
    ·intro w_
     go_simp
     try with_reducible rfl
    rotate_left
    ·simp only [Act.put, List.setIfInBounds_toArray, List.set_cons_zero, List.set_cons_succ, i64_w, i32_w]
     rfl
    refine pure_ (i := 1) (N := (some 25)) (v := ?_) (a' := ?_) #[true, true, false, false, false, false, false, false] rfl rfl (any_of HT_.out (by kernel_rfl)) (fun _ _ _ h => h) (Or.inl ⟨by rfl, ?_⟩) ?_ ?_
    rotate_left
    ·intro w_
     go_simp
     try with_reducible rfl
    rotate_left
    ·simp only [Act.put, List.setIfInBounds_toArray, List.set_cons_zero, List.set_cons_succ, i64_w, i32_w]
     rfl
    refine pure_ (i := 2) (N := (some 26)) (v := ?_) (a' := ?_) #[true, true, true, false, false, false, false, false] rfl rfl (any_of HT_.out (by kernel_rfl)) (fun _ _ _ h => h) (Or.inl ⟨by rfl, ?_⟩) ?_ ?_
    rotate_left
    ·intro w_
     go_simp
     try with_reducible rfl
    rotate_left
    ·simp only [Act.put, List.setIfInBounds_toArray, List.set_cons_zero, List.set_cons_succ, i64_w, i32_w]
     rfl
    refine pure_ (i := 3) (N := (some 27)) (v := ?_) (a' := ?_) #[true, true, true, true, false, false, false, false] rfl rfl (any_of HT_.out (by kernel_rfl)) (fun _ _ _ h => h) (Or.inl ⟨by rfl, ?_⟩) ?_ ?_
    rotate_left
    ·intro w_
     go_simp
     try with_reducible rfl
    rotate_left
    ·simp only [Act.put, List.setIfInBounds_toArray, List.set_cons_zero, List.set_cons_succ, i64_w, i32_w]
     rfl
    refine take_ (i := 4) (N := (some 28)) (v := ?_) (a' := ?_) #[true, true, true, true, true, false, false, false] rfl rfl (take_ofW HT_.out HW_.out (by kernel_rfl)) (fun _ _ _ h => h) (Or.inl ⟨by rfl, ?_⟩) (Below.refl _ _) ?_ ?_
    rotate_left
    ·intro Wx hWx
     have h0 := pw_cell_below hWx K0.out
     have h1 := pw_cell_below hWx K1.out
     have h2 := pw_cell_below hWx K2.out
     go_simp
     try with_reducible rfl
    rotate_left
    ·simp only [Act.put, List.setIfInBounds_toArray, List.set_cons_zero, List.set_cons_succ, i64_w, i32_w]
     rfl
    refine take_ (i := 5) (N := (some 29)) (v := ?_) (a' := ?_) #[true, true, true, true, true, true, false, false] rfl rfl (take_ofW HT_.out HW_.out (by kernel_rfl)) (fun _ _ _ h => h) (Or.inl ⟨by rfl, ?_⟩) (Below.refl _ _) ?_ ?_
    rotate_left
    ·intro Wx hWx
     have h0 := (HTx.out.below hWx).c0
     have h1 := (HTx.out.below hWx).c1
     have h2 := (HTx.out.below hWx).c2
     go_simp
     try with_reducible rfl
    rotate_left
    ·simp only [Act.put, List.setIfInBounds_toArray, List.set_cons_zero, List.set_cons_succ, i64_w, i32_w]
     rfl
    refine one_ (i := 6) (N := (some 30)) #[true, true, true, true, true, true, true, false] rfl rfl (one_of HT_.out (by kernel_rfl)) (by decide) (fun K hK => ?_)
    refine goesV_ Hen.out #[.agg #[.int .i64 x.at_, .slice x.A x.ls.length x.c, .string x.line], .agg #[.int .i64 t.at_, .slice t.A t.ls.length t.c, .string t.line]] (by rfl) rfl rfl (by rfl) (by (try simp only [List.map_toArray, List.map_cons, List.map_nil]); first | done | rfl) ?_
    refine (HOx.out _ HBS.out).mono ?_
    rintro e w5_6 ⟨rfl, hb_1⟩
    refine ⟨_, rfl, ?_⟩
    have HBS := Aside0.mk (below_step HBS.out hb_1)
    have hb_ : Below V2d.heap.size V2d w5_6 := hb_1
    have HB := Aside0.mk (below_step HB.out hb_)
    refine hK.out _ _ hb_ (fun hHeld => ?_)
    clear hK K
    refine wpAnyLast_str (S' := fun x_ => Below w5_6.heap.size w5_6 x_) (fun x_ hx_ => below_step hHeld hx_) (Below.refl _ _) ?_
    clear hHeld
    (try clear hb)
    clear hb_
    have HS := Aside0.mk (Below.refl w5_6.heap.size w5_6)
    refine norm_ (a' := ?_) ?_ ?_
    rotate_left
    ·show Act.put _ (some 30) _ = _
     simp only [Act.put, List.setIfInBounds_toArray, List.set_cons_zero, List.set_cons_succ, i64_w, i32_w]
     rfl
    refine pure_ (i := 7) (N := (some 31)) (v := ?_) (a' := ?_) #[true, true, true, true, true, true, true, true] rfl rfl (any_of HT_.out (by kernel_rfl)) (fun _ _ _ h => h) (Or.inl ⟨by rfl, ?_⟩) ?_ ?_
    rotate_left
    ·intro w_
     go_simp
     try with_reducible rfl
    rotate_left
    ·simp only [Act.put, List.setIfInBounds_toArray, List.set_cons_zero, List.set_cons_succ, i64_w, i32_w]
     rfl
    refine done_ (done_of HT_.out (by kernel_rfl)) ?_
    clear HB
    go_wp2
    go_roundw
    case rel => exact ⟨i, m, HIx.out.1, by have := HIx.out.2.2.1; omega, rfl, rfl, HBS, HLo, ⟨low_hi HU.out HIx.out.2.2.1 (by rw [← HCv.out]; exact HC.out)⟩⟩
    case measure => have h1 := HIx.out.1; have h2 := HIx.out.2.1; simp [intOf]; omega
  ·obtain rfl : i = j := by omega
   have HLow : Aside0 (Low desc t.key ys i) := ⟨⟨hj, HLo.out, HHi.out⟩⟩
   clear HLo HHi hij
   obtain ⟨V2, hV2⟩ : ∃ V2, V2 = wr := ⟨_, rfl⟩
   subst hV2
   by_cases hn : i < ys.length
   ·have HBS := HB
    obtain ⟨a, hA, k0, k1, k2⟩ := (HR.out.below HB.out).get i hn
    obtain ⟨x, hx⟩ : ∃ x, x = ys[i] := ⟨_, rfl⟩
    rw [← hx] at k0 k1 k2
    obtain ⟨cv, hcv⟩ : ∃ cv, cv = cmpO desc x.key t.key := ⟨_, rfl⟩
    have HOx : Aside0 (∀ V', Below V.heap.size V V' → Calls Tryz.prog fo #[.agg #[.int .i64 x.at_, .slice x.A x.ls.length x.c, .string x.line], .agg #[.int .i64 t.at_, .slice t.A t.ls.length t.c, .string t.line]] V' fun e w' => e = .returned (.int .i64 cv) ∧ Below V'.heap.size V' w') := ⟨fun V' h => by rw [hcv]; exact HO.out x (by rw [hx]; exact List.getElem_mem hn) V' h⟩
    have HCv : Aside0 ((cv == 0) = true ↔ ∃ h : i < ys.length, ys[i].key = t.key) := ⟨by
     rw [hcv, hx, beq_iff_eq, (cmpO_c desc).eq0]
     exact ⟨fun h => ⟨hn, h⟩, fun ⟨_, h⟩ => h⟩⟩
    have HTx := Aside0.mk (HT.out V2 HB.out)
    have K0 := Aside0.mk k0
    have K1 := Aside0.mk k1
    have K2 := Aside0.mk k2
    subst hA
    have hz2 : (i : Int) < (ys.length : Int) := by omega
    have dn : decide (i < ys.length) = true := decide_eq_true hn
    clear hx hcv hj k0 k1 k2 HB
    have HB : Aside0 (Below V2.heap.size V2 V2) := ⟨Below.refl _ _⟩
    go_wp2_with fail
    refine start_ (n := 16) (S := fun x_ => Below V2.heap.size V2 x_) (ds := []) #[false, false, false, false, false, false, false, false, false, false, false, false, false, false, false, false] (by kernel_rfl) rfl rfl (pw_below_drewN (Below.refl _ _) 1) (fun hHeld => ?_)
    refine with_tabW tab_api_Entry_8 bits_api_Entry_8 (fun HT_ HW_ => ?_)
    have HB := Aside0.mk (pw_below_drewN HB.out 1)
    change Aside0 (Below _ _ (World.drew V2)) at HB
    change Below _ _ (World.drew V2) at hHeld
    have hSz : (World.drew V2).heap.size = V2.heap.size := rfl
    have K0 := Aside0.mk (show (World.drew V2).cell? _ = _ from K0.out)
    have K1 := Aside0.mk (show (World.drew V2).cell? _ = _ from K1.out)
    have K2 := Aside0.mk (show (World.drew V2).cell? _ = _ from K2.out)
    have HTx := Aside0.mk (show BoxE (World.drew V2) bt t from HTx.out)
    have HBS := Aside0.mk (show Below V.heap.size V (World.drew V2) from pw_below_drewN HBS.out 1)
    refine wpAnyLast_str (S' := fun x_ => Below (World.drew V2).heap.size (World.drew V2) x_) (fun x_ hx_ => below_step hHeld hx_) (Below.refl _ _) ?_
    clear hHeld hSz
    generalize World.drew V2 = V2d at *
    have HS := Aside0.mk (Below.refl V2d.heap.size V2d)
    refine pure_ (i := 0) (N := (some 35)) (v := ?_) (a' := ?_) #[true, false, false, false, false, false, false, false, false, false, false, false, false, false, false, false] rfl rfl (any_of HT_.out (by kernel_rfl)) (fun _ _ _ h => h) (Or.inl ⟨by rfl, ?_⟩) ?_ ?_
    rotate_left
    ·intro w_
     go_simp
     try with_reducible rfl
    rotate_left
    ·simp only [Act.put, List.setIfInBounds_toArray, List.set_cons_zero, List.set_cons_succ, i64_w, i32_w]
     rfl
    refine pure_ (i := 1) (N := (some 36)) (v := ?_) (a' := ?_) #[true, true, false, false, false, false, false, false, false, false, false, false, false, false, false, false] rfl rfl (any_of HT_.out (by kernel_rfl)) (fun _ _ _ h => h) (Or.inl ⟨by rfl, ?_⟩) ?_ ?_
    rotate_left
    ·intro w_
     go_simp
     try with_reducible rfl
    rotate_left
    ·simp only [Act.put, List.setIfInBounds_toArray, List.set_cons_zero, List.set_cons_succ, i64_w, i32_w]
     rfl
    refine pure_ (i := 2) (N := (some 37)) (v := ?_) (a' := ?_) #[true, true, true, false, false, false, false, false, false, false, false, false, false, false, false, false] rfl rfl (any_of HT_.out (by kernel_rfl)) (fun _ _ _ h => h) (Or.inl ⟨by rfl, ?_⟩) ?_ ?_
    rotate_left
    ·intro w_
     go_simp
     try with_reducible rfl
    rotate_left
    ·simp only [Act.put, List.setIfInBounds_toArray, List.set_cons_zero, List.set_cons_succ, i64_w, i32_w]
     rfl
    refine pure_ (i := 3) (N := (some 38)) (v := ?_) (a' := ?_) #[true, true, true, true, false, false, false, false, false, false, false, false, false, false, false, false] rfl rfl (any_of HT_.out (by kernel_rfl)) (fun _ _ _ h => h) (Or.inl ⟨by rfl, ?_⟩) ?_ ?_
    rotate_left
    ·intro w_
     go_simp
     try with_reducible rfl
    rotate_left
    ·simp only [Act.put, List.setIfInBounds_toArray, List.set_cons_zero, List.set_cons_succ, i64_w, i32_w]
     rfl
    refine pure_ (i := 4) (N := (some 39)) (v := ?_) (a' := ?_) #[true, true, true, true, true, false, false, false, false, false, false, false, false, false, false, false] rfl rfl (any_of HT_.out (by kernel_rfl)) (fun _ _ _ h => h) (Or.inl ⟨by rfl, ?_⟩) ?_ ?_
    rotate_left
    ·intro w_
     go_simp
     try with_reducible rfl
    rotate_left
    ·simp only [Act.put, List.setIfInBounds_toArray, List.set_cons_zero, List.set_cons_succ, i64_w, i32_w]
     rfl
    refine pure_ (i := 5) (N := (some 40)) (v := ?_) (a' := ?_) #[true, true, true, true, true, true, false, false, false, false, false, false, false, false, false, false] rfl rfl (any_of HT_.out (by kernel_rfl)) (fun _ _ _ h => h) (Or.inl ⟨by rfl, ?_⟩) ?_ ?_
    rotate_left
    ·intro w_
     go_simp
     try with_reducible rfl
    rotate_left
    ·simp only [Act.put, List.setIfInBounds_toArray, List.set_cons_zero, List.set_cons_succ, i64_w, i32_w]
     rfl
    refine pure_ (i := 6) (N := (some 41)) (v := ?_) (a' := ?_) #[true, true, true, true, true, true, true, false, false, false, false, false, false, false, false, false] rfl rfl (any_of HT_.out (by kernel_rfl)) (fun _ _ _ h => h) (Or.inl ⟨by rfl, ?_⟩) ?_ ?_
    rotate_left
    ·intro w_
     go_simp
     try with_reducible rfl
    rotate_left
    ·simp only [Act.put, List.setIfInBounds_toArray, List.set_cons_zero, List.set_cons_succ, i64_w, i32_w]
     rfl
    refine pure_ (i := 7) (N := (some 42)) (v := ?_) (a' := ?_) #[true, true, true, true, true, true, true, true, false, false, false, false, false, false, false, false] rfl rfl (any_of HT_.out (by kernel_rfl)) (fun _ _ _ h => h) (Or.inl ⟨by rfl, ?_⟩) ?_ ?_
    rotate_left
    ·intro w_
     go_simp
     try with_reducible rfl
    rotate_left
    ·simp only [Act.put, List.setIfInBounds_toArray, List.set_cons_zero, List.set_cons_succ, i64_w, i32_w]
     rfl
    refine pure_ (i := 8) (N := (some 43)) (v := ?_) (a' := ?_) #[true, true, true, true, true, true, true, true, true, false, false, false, false, false, false, false] rfl rfl (any_of HT_.out (by kernel_rfl)) (fun _ _ _ h => h) (Or.inl ⟨by rfl, ?_⟩) ?_ ?_
    rotate_left
    ·intro w_
     go_simp
     try with_reducible rfl
    rotate_left
    ·simp only [Act.put, List.setIfInBounds_toArray, List.set_cons_zero, List.set_cons_succ, i64_w, i32_w]
     rfl
    refine take_ (i := 9) (N := (some 44)) (v := ?_) (a' := ?_) #[true, true, true, true, true, true, true, true, true, true, false, false, false, false, false, false] rfl rfl (take_ofW HT_.out HW_.out (by kernel_rfl)) (fun _ _ _ h => h) (Or.inl ⟨by rfl, ?_⟩) (Below.refl _ _) ?_ ?_
    rotate_left
    ·intro Wx hWx
     have h0 := pw_cell_below hWx K0.out
     have h1 := pw_cell_below hWx K1.out
     have h2 := pw_cell_below hWx K2.out
     go_simp
     try with_reducible rfl
    rotate_left
    ·simp only [Act.put, List.setIfInBounds_toArray, List.set_cons_zero, List.set_cons_succ, i64_w, i32_w]
     rfl
    refine take_ (i := 10) (N := (some 45)) (v := ?_) (a' := ?_) #[true, true, true, true, true, true, true, true, true, true, true, false, false, false, false, false] rfl rfl (take_ofW HT_.out HW_.out (by kernel_rfl)) (fun _ _ _ h => h) (Or.inl ⟨by rfl, ?_⟩) (Below.refl _ _) ?_ ?_
    rotate_left
    ·intro Wx hWx
     have h0 := (HTx.out.below hWx).c0
     have h1 := (HTx.out.below hWx).c1
     have h2 := (HTx.out.below hWx).c2
     go_simp
     try with_reducible rfl
    rotate_left
    ·simp only [Act.put, List.setIfInBounds_toArray, List.set_cons_zero, List.set_cons_succ, i64_w, i32_w]
     rfl
    refine one_ (i := 11) (N := (some 46)) #[true, true, true, true, true, true, true, true, true, true, true, true, false, false, false, false] rfl rfl (one_of HT_.out (by kernel_rfl)) (by decide) (fun K hK => ?_)
    refine goesV_ Hen.out #[.agg #[.int .i64 x.at_, .slice x.A x.ls.length x.c, .string x.line], .agg #[.int .i64 t.at_, .slice t.A t.ls.length t.c, .string t.line]] (by rfl) rfl rfl (by rfl) (by (try simp only [List.map_toArray, List.map_cons, List.map_nil]); first | done | rfl) ?_
    refine (HOx.out _ HBS.out).mono ?_
    rintro e w8_11 ⟨rfl, hb_1⟩
    refine ⟨_, rfl, ?_⟩
    have HBS := Aside0.mk (below_step HBS.out hb_1)
    have hb_ : Below V2d.heap.size V2d w8_11 := hb_1
    have HB := Aside0.mk (below_step HB.out hb_)
    refine hK.out _ _ hb_ (fun hHeld => ?_)
    clear hK K
    refine wpAnyLast_str (S' := fun x_ => Below w8_11.heap.size w8_11 x_) (fun x_ hx_ => below_step hHeld hx_) (Below.refl _ _) ?_
    clear hHeld
    (try clear hb)
    clear hb_
    have HS := Aside0.mk (Below.refl w8_11.heap.size w8_11)
    refine norm_ (a' := ?_) ?_ ?_
    rotate_left
    ·show Act.put _ (some 46) _ = _
     simp only [Act.put, List.setIfInBounds_toArray, List.set_cons_zero, List.set_cons_succ, i64_w, i32_w]
     rfl
    refine pure_ (i := 12) (N := (some 47)) (v := ?_) (a' := ?_) #[true, true, true, true, true, true, true, true, true, true, true, true, true, false, false, false] rfl rfl (any_of HT_.out (by kernel_rfl)) (fun _ _ _ h => h) (Or.inl ⟨by rfl, ?_⟩) ?_ ?_
    rotate_left
    ·intro w_
     go_simp
     try with_reducible rfl
    rotate_left
    ·simp only [Act.put, List.setIfInBounds_toArray, List.set_cons_zero, List.set_cons_succ, i64_w, i32_w]
     rfl
    refine pure_ (i := 13) (N := (some 48)) (v := ?_) (a' := ?_) #[true, true, true, true, true, true, true, true, true, true, true, true, true, true, false, false] rfl rfl (any_of HT_.out (by kernel_rfl)) (fun _ _ _ h => h) (Or.inl ⟨by rfl, ?_⟩) ?_ ?_
    rotate_left
    ·intro w_
     go_simp
     try with_reducible rfl
    rotate_left
    ·simp only [Act.put, List.setIfInBounds_toArray, List.set_cons_zero, List.set_cons_succ, i64_w, i32_w]
     rfl
    refine pure_ (i := 14) (N := (some 6)) (v := ?_) (a' := ?_) #[true, true, true, true, true, true, true, true, true, true, true, true, true, true, true, false] rfl rfl (any_of HT_.out (by kernel_rfl)) (fun _ _ _ h => h) (Or.inl ⟨by rfl, ?_⟩) ?_ ?_
    rotate_left
    ·intro w_
     go_simp
     try with_reducible rfl
    rotate_left
    ·simp only [Act.put, List.setIfInBounds_toArray, List.set_cons_zero, List.set_cons_succ, i64_w, i32_w]
     rfl
    refine pure_ (i := 15) (N := (some 7)) (v := ?_) (a' := ?_) #[true, true, true, true, true, true, true, true, true, true, true, true, true, true, true, true] rfl rfl (any_of HT_.out (by kernel_rfl)) (fun _ _ _ h => h) (Or.inl ⟨by rfl, ?_⟩) ?_ ?_
    rotate_left
    ·intro w_
     go_simp
     try with_reducible rfl
    rotate_left
    ·simp only [Act.put, List.setIfInBounds_toArray, List.set_cons_zero, List.set_cons_succ, i64_w, i32_w]
     rfl
    refine done_ (done_of HT_.out (by kernel_rfl)) ?_
    go_wp2
    go_ret2
    exact ⟨i, _, rfl, HLow.out, HCv.out, below_step HB0.out HBS.out⟩
   ·obtain rfl : i = ys.length := by omega
    have HB2 := HB
    clear hj hn HB
    have HB : Aside0 (Below V2.heap.size V2 V2) := ⟨Below.refl _ _⟩
    go_wp2_with fail
    refine start_ (n := 16) (S := fun x_ => Below V2.heap.size V2 x_) (ds := []) #[false, false, false, false, false, false, false, false, false, false, false, false, false, false, false, false] (by kernel_rfl) rfl rfl (pw_below_drewN (Below.refl _ _) 1) (fun hHeld => ?_)
    refine with_tabW tab_api_Entry_8 bits_api_Entry_8 (fun HT_ HW_ => ?_)
    have HB := Aside0.mk (pw_below_drewN HB.out 1)
    change Aside0 (Below _ _ (World.drew V2)) at HB
    change Below _ _ (World.drew V2) at hHeld
    have hSz : (World.drew V2).heap.size = V2.heap.size := rfl
    have HBS := Aside0.mk (show Below V.heap.size V (World.drew V2) from pw_below_drewN HB2.out 1)
    refine wpAnyLast_str (S' := fun x_ => Below (World.drew V2).heap.size (World.drew V2) x_) (fun x_ hx_ => below_step hHeld hx_) (Below.refl _ _) ?_
    clear hHeld hSz
    generalize World.drew V2 = V2d at *
    have HS := Aside0.mk (Below.refl V2d.heap.size V2d)
    refine pure_ (i := 0) (N := (some 35)) (v := ?_) (a' := ?_) #[true, false, false, false, false, false, false, false, false, false, false, false, false, false, false, false] rfl rfl (any_of HT_.out (by kernel_rfl)) (fun _ _ _ h => h) (Or.inl ⟨by rfl, ?_⟩) ?_ ?_
    rotate_left
    ·intro w_
     go_simp
     try with_reducible rfl
    rotate_left
    ·simp only [Act.put, List.setIfInBounds_toArray, List.set_cons_zero, List.set_cons_succ, i64_w, i32_w]
     rfl
    refine pure_ (i := 1) (N := (some 36)) (v := ?_) (a' := ?_) #[true, true, false, false, false, false, false, false, false, false, false, false, false, false, false, false] rfl rfl (any_of HT_.out (by kernel_rfl)) (fun _ _ _ h => h) (Or.inl ⟨by rfl, ?_⟩) ?_ ?_
    rotate_left
    ·intro w_
     go_simp
     try with_reducible rfl
    rotate_left
    ·simp only [Act.put, List.setIfInBounds_toArray, List.set_cons_zero, List.set_cons_succ, i64_w, i32_w]
     rfl
    refine pure_ (i := 2) (N := (some 37)) (v := ?_) (a' := ?_) #[true, true, true, false, false, false, false, false, false, false, false, false, false, false, false, false] rfl rfl (any_of HT_.out (by kernel_rfl)) (fun _ _ _ h => h) (Or.inl ⟨by rfl, ?_⟩) ?_ ?_
    rotate_left
    ·intro w_
     go_simp
     try with_reducible rfl
    rotate_left
    ·simp only [Act.put, List.setIfInBounds_toArray, List.set_cons_zero, List.set_cons_succ, i64_w, i32_w]
     rfl
    refine pure_ (i := 3) (N := (some 38)) (v := ?_) (a' := ?_) #[true, true, true, true, false, false, false, false, false, false, false, false, false, false, false, false] rfl rfl (any_of HT_.out (by kernel_rfl)) (fun _ _ _ h => h) (Or.inl ⟨by rfl, ?_⟩) ?_ ?_
    rotate_left
    ·intro w_
     go_simp
     try with_reducible rfl
    rotate_left
    ·simp only [Act.put, List.setIfInBounds_toArray, List.set_cons_zero, List.set_cons_succ, i64_w, i32_w]
     rfl
    refine pure_ (i := 4) (N := (some 39)) (v := ?_) (a' := ?_) #[true, true, true, true, true, false, false, false, false, false, false, false, false, false, false, false] rfl rfl (any_of HT_.out (by kernel_rfl)) (fun _ _ _ h => h) (Or.inl ⟨by rfl, ?_⟩) ?_ ?_
    rotate_left
    ·intro w_
     go_simp
     try with_reducible rfl
    rotate_left
    ·simp only [Act.put, List.setIfInBounds_toArray, List.set_cons_zero, List.set_cons_succ, i64_w, i32_w]
     rfl
    refine pure_ (i := 5) (N := (some 40)) (v := undef) (a' := ?_) #[true, true, true, true, true, true, false, false, false, false, false, false, false, false, false, false] rfl rfl (any_of HT_.out (by kernel_rfl)) (fun _ _ _ h => h) (Or.inr ⟨by rfl, rfl⟩) ?_ ?_
    rotate_left
    ·simp only [Act.put, List.setIfInBounds_toArray, List.set_cons_zero, List.set_cons_succ, i64_w, i32_w]
     rfl
    refine pure_ (i := 6) (N := (some 41)) (v := undef) (a' := ?_) #[true, true, true, true, true, true, true, false, false, false, false, false, false, false, false, false] rfl rfl (any_of HT_.out (by kernel_rfl)) (fun _ _ _ h => h) (Or.inr ⟨by rfl, rfl⟩) ?_ ?_
    rotate_left
    ·simp only [Act.put, List.setIfInBounds_toArray, List.set_cons_zero, List.set_cons_succ, i64_w, i32_w]
     rfl
    refine pure_ (i := 7) (N := (some 42)) (v := undef) (a' := ?_) #[true, true, true, true, true, true, true, true, false, false, false, false, false, false, false, false] rfl rfl (any_of HT_.out (by kernel_rfl)) (fun _ _ _ h => h) (Or.inr ⟨by rfl, rfl⟩) ?_ ?_
    rotate_left
    ·simp only [Act.put, List.setIfInBounds_toArray, List.set_cons_zero, List.set_cons_succ, i64_w, i32_w]
     rfl
    refine pure_ (i := 8) (N := (some 43)) (v := undef) (a' := ?_) #[true, true, true, true, true, true, true, true, true, false, false, false, false, false, false, false] rfl rfl (any_of HT_.out (by kernel_rfl)) (fun _ _ _ h => h) (Or.inr ⟨by rfl, rfl⟩) ?_ ?_
    rotate_left
    ·simp only [Act.put, List.setIfInBounds_toArray, List.set_cons_zero, List.set_cons_succ, i64_w, i32_w]
     rfl
    refine pure_ (i := 9) (N := (some 44)) (v := undef) (a' := ?_) #[true, true, true, true, true, true, true, true, true, true, false, false, false, false, false, false] rfl rfl (any_of HT_.out (by kernel_rfl)) (fun _ _ _ h => h) (Or.inr ⟨by rfl, rfl⟩) ?_ ?_
    rotate_left
    ·simp only [Act.put, List.setIfInBounds_toArray, List.set_cons_zero, List.set_cons_succ, i64_w, i32_w]
     rfl
    refine pure_ (i := 10) (N := (some 45)) (v := undef) (a' := ?_) #[true, true, true, true, true, true, true, true, true, true, true, false, false, false, false, false] rfl rfl (any_of HT_.out (by kernel_rfl)) (fun _ _ _ h => h) (Or.inr ⟨by rfl, rfl⟩) ?_ ?_
    rotate_left
    ·simp only [Act.put, List.setIfInBounds_toArray, List.set_cons_zero, List.set_cons_succ, i64_w, i32_w]
     rfl
    refine pure_ (i := 11) (N := (some 46)) (v := undef) (a' := ?_) #[true, true, true, true, true, true, true, true, true, true, true, true, false, false, false, false] rfl rfl (any_of HT_.out (by kernel_rfl)) (fun _ _ _ h => h) (Or.inr ⟨by rfl, rfl⟩) ?_ ?_
    rotate_left
    ·simp only [Act.put, List.setIfInBounds_toArray, List.set_cons_zero, List.set_cons_succ, i64_w, i32_w]
     rfl
    refine pure_ (i := 12) (N := (some 47)) (v := undef) (a' := ?_) #[true, true, true, true, true, true, true, true, true, true, true, true, true, false, false, false] rfl rfl (any_of HT_.out (by kernel_rfl)) (fun _ _ _ h => h) (Or.inr ⟨by rfl, rfl⟩) ?_ ?_
    rotate_left
    ·simp only [Act.put, List.setIfInBounds_toArray, List.set_cons_zero, List.set_cons_succ, i64_w, i32_w]
     rfl
    refine pure_ (i := 13) (N := (some 48)) (v := ?_) (a' := ?_) #[true, true, true, true, true, true, true, true, true, true, true, true, true, true, false, false] rfl rfl (any_of HT_.out (by kernel_rfl)) (fun _ _ _ h => h) (Or.inl ⟨by rfl, ?_⟩) ?_ ?_
    rotate_left
    ·intro w_
     go_simp
     try with_reducible rfl
    rotate_left
    ·simp only [Act.put, List.setIfInBounds_toArray, List.set_cons_zero, List.set_cons_succ, i64_w, i32_w]
     rfl
    refine pure_ (i := 14) (N := (some 6)) (v := ?_) (a' := ?_) #[true, true, true, true, true, true, true, true, true, true, true, true, true, true, true, false] rfl rfl (any_of HT_.out (by kernel_rfl)) (fun _ _ _ h => h) (Or.inl ⟨by rfl, ?_⟩) ?_ ?_
    rotate_left
    ·intro w_
     go_simp
     try with_reducible rfl
    rotate_left
    ·simp only [Act.put, List.setIfInBounds_toArray, List.set_cons_zero, List.set_cons_succ, i64_w, i32_w]
     rfl
    refine pure_ (i := 15) (N := (some 7)) (v := ?_) (a' := ?_) #[true, true, true, true, true, true, true, true, true, true, true, true, true, true, true, true] rfl rfl (any_of HT_.out (by kernel_rfl)) (fun _ _ _ h => h) (Or.inl ⟨by rfl, ?_⟩) ?_ ?_
    rotate_left
    ·intro w_
     go_simp
     try with_reducible rfl
    rotate_left
    ·simp only [Act.put, List.setIfInBounds_toArray, List.set_cons_zero, List.set_cons_succ, i64_w, i32_w]
     rfl
    refine done_ (done_of HT_.out (by kernel_rfl)) ?_
    go_wp2
    go_ret2
    exact ⟨ys.length, _, rfl, HLow.out, ⟨fun h => (by cases h), fun ⟨h, _⟩ => absurd h (Nat.lt_irrefl _)⟩, below_step HB0.out HBS.out⟩
end Go.Proofs.YtpleiklodomgiaaGreatDoor.Y
end
section
namespace Go.Proofs.YtpleiklodomgiaaGreatDoor.Y
open Go.RowKit Go.Shelf Go.Proofs.YtpleiklodomgiaaGreatDoorW.PrintWords Go.Proofs.YtpleiklodomgiaaGreatDoorW.PrintLast Go.Proofs.YtpleiklodomgiaaGreatDoorW.PrintMore Go.Proofs.YtpleiklodomgiaaGreatDoor.B Go.Proofs.YtpleiklodomgiaaGreatDoor.Reg Go.Proofs.YtpleiklodomgiaaGreatDoor.C Go.Proofs.YtpleiklodomgiaaGreatDoor.Q Go.Proofs.YtpleiklodomgiaaGreatDoor.CQ
def behind (desc has : Bool) (t : Key) (ys : List Ent) : List Ent := if has = true then ys.filter (fun y => decide (cmpO desc t y.key = -1)) else ys
theorem behind_drop {desc : Bool} {t : Key} {ys : List Ent} (hU : Up (cmpO desc) (ys.map Ent.key)) {i : Nat} {b : Bool} (hL : Low desc t ys i) (hb : b = true ↔ ∃ h : i < ys.length, ys[i].key = t) : (i + (if b = true then 1 else 0)) ≤ ys.length ∧ behind desc true t ys = ys.drop (i + (if b = true then 1 else 0)) := by
 have hc := cmpO_c desc
 have hle : i + (if b = true then 1 else 0) ≤ ys.length := by
  cases b with
  | false => simpa using hL.le
  | true => obtain ⟨h, _⟩ := hb.1 rfl; simp; omega
 refine ⟨hle, ?_⟩
 obtain ⟨p, hp⟩ : ∃ p, p = i + (if b = true then 1 else 0) := ⟨_, rfl⟩
 rw [← hp] at hle ⊢
 unfold behind
 rw [if_pos rfl]
 have hsplit : ys = ys.take p ++ ys.drop p := (List.take_append_drop p ys).symm
 have h1 : (ys.take p).filter (fun y => decide (cmpO desc t y.key = -1)) = [] := by
  rw [List.filter_eq_nil_iff]
  intro y hy
  obtain ⟨k, hk, rfl⟩ := List.getElem_of_mem hy
  rw [List.length_take] at hk
  rw [List.getElem_take]
  have hkn : k < ys.length := by omega
  have ha := hc.anti ys[k].key t
  rw [decide_eq_true_iff, ha]
  by_cases hki : k < i
  ·rw [hL.lo k hkn hki]; decide
  ·cases b with
   | false => simp at hp; omega
   | true =>
    obtain ⟨h, e⟩ := hb.1 rfl
    have : k = i := by simp at hp; omega
    subst this
    rw [(hc.eq0 _ _).2 e]; decide
 have h2 : (ys.drop p).filter (fun y => decide (cmpO desc t y.key = -1)) = ys.drop p := by
  rw [List.filter_eq_self]
  intro y hy
  obtain ⟨k, hk, rfl⟩ := List.getElem_of_mem hy
  rw [List.length_drop] at hk
  rw [List.getElem_drop]
  have hkn : p + k < ys.length := by omega
  have ha := hc.anti ys[p + k].key t
  rw [decide_eq_true_iff, ha]
  have hn1 := hL.hi (p + k) hkn (by split at hp <;> omega)
  rcases hc.tri ys[p + k].key t with h | h | h
  ·exact absurd h hn1
  ·exfalso
   have e := (hc.eq0 _ _).1 h
   cases b with
   | true =>
    obtain ⟨hi, e2⟩ := hb.1 rfl
    have hlt : i < p + k := by simp at hp; omega
    have := up_at hU hi hkn hlt
    rw [e, e2, (hc.eq0 _ _).2 rfl] at this
    cases this
   | false =>
    have hpi : p = i := by simpa using hp
    subst hpi
    by_cases hk0 : k = 0
    ·subst hk0
     have : (false : Bool) = true := hb.2 ⟨by omega, by simpa using e⟩
     cases this
    ·have hin : p < ys.length := by omega
     have h3 := up_at hU hin hkn (by omega)
     rw [e] at h3
     exact hL.hi p hin (Nat.le_refl _) h3
  ·rw [h]
 conv => lhs; rw [hsplit]
 rw [List.filter_append, h1, h2, List.nil_append]
theorem drop_take_len (ys : List Ent) (p n : Nat) (hp : p ≤ ys.length) : (ys.drop p).take (min n (ys.length - p)) = (ys.drop p).take n := by
 by_cases h : n ≤ ys.length - p
 ·rw [Nat.min_eq_left h]
 ·rw [Nat.min_eq_right (by omega), List.take_of_length_le (by rw [List.length_drop]; exact Nat.le_refl _), List.take_of_length_le (by rw [List.length_drop]; omega)]
theorem slice_both (A : Option Addr) (n c p e : Nat) (w : World) (h : p ≤ e) (he : e ≤ n) (hc : n ≤ c) : (Instr.slice 39 (.slice A n c) (some (.int .i64 (p : Int))) (some (.int .i64 (e : Int))) none).run Tryz.prog w = .ok (.slice (dropA A p c) (e - p) (c - p)) w := by
 have he' : Tryz.prog.elem 39 = 26 := by kernel_rfl
 have hu : Tryz.prog.underlying 39 = some (.slice (Tryz.prog.elem 39)) := by rw [he']; exact Tryz.underlying39
 have hz := Tryz.sizeOf26
 unfold dropA
 rw [run_slice_lh w 39 A n c hu .i64 .i64 (p : Int) (e : Int) (by omega) (by omega) (by omega)]
 simp [he', hz, sliced]
theorem clone_gen (w : World) (A : Option Addr) (xs : List Ent) (c : Nat) (hR : RowV w A xs) (hl : xs.length ≤ 100000) :
  Calls Tryz.prog 27 #[.slice A xs.length c] w fun e w' => ∃ v', e = .returned v' ∧ OwnE w' w.heap.size v' xs ∧ Below w.heap.size w w' := by
 cases A with
 | none =>
  obtain rfl := hR.nil rfl
  refine (AnyE.slices_Clone_nil Tryz.cloneEnt 0 c w).mono ?_
  rintro e w' ⟨rfl, rfl⟩
  exact ⟨_, rfl, OwnE.nil _ _, Below.refl _ _⟩
 | some a => exact (clone_row w a xs c hR hl).mono fun e w' ⟨v', h1, h2, _, h3⟩ => ⟨v', h1, h2, h3⟩
def T_model_Cut_3 : Bool × List (List Nat × List Nat) := (true, [([], []), ([], []), ([1], [1]), ([], []), ([3], [3]), ([0, 2, 4, 4], [0, 2, 4]), ([5], [5]), ([6], [6]), ([6], [6]), ([7, 5, 0, 1, 2, 3, 4, 5, 6, 7], [7]), ([8, 9, 0, 1, 2, 3, 4, 5, 6, 7, 8, 9], [8])])
def B_model_Cut_3 : List Nat := [0, 0, 2, 0, 8, 31, 63, 127, 127, 255, 1023]
theorem tab_model_Cut_3 : rtab .any (opsOf Tryz.f12 3) = T_model_Cut_3 := by kernel_rfl
theorem bits_model_Cut_3 : waitsOk T_model_Cut_3.2 B_model_Cut_3 = true := by kernel_rfl
set_option maxRecDepth 20000 in
set_option maxHeartbeats 8000000 in
theorem cut_any (desc has : Bool) (A : Option Addr) (ys : List Ent) (c : Nat) (t : Ent) (n : Int) (w : World) (hR : RJ w A ys) (hcap : ys.length ≤ c) (hT : has = true → t.In w) (hU : Up (cmpO desc) (ys.map Ent.key)) (hn : -9223372036854775808 ≤ n ∧ n ≤ 9223372036854775807) :
  Calls Tryz.prog 12 #[.slice A ys.length c, .bool desc, .agg #[.bool has, .int .i64 t.at_, .slice t.A t.ls.length t.c, .string t.line], .int .i64 n] w fun e w' => ∃ A' c' zs, e = .returned (.tuple #[.slice A' (List.length zs) c', .bool (decide ((behind desc has t.key ys).length ≤ n.toNat))]) ∧ zs.length ≤ c' ∧ RJ w' A' zs ∧ zs = (behind desc has t.key ys).take n.toNat ∧ (∀ a, A' = some a → w.heap.size ≤ a.block ∧ a.block < w'.heap.size) ∧ Below w.heap.size w w' := by
 obtain ⟨V, hV⟩ : ∃ V, V = w.alloc (.cells #[.bool has, .int .i64 t.at_, .slice t.A t.ls.length t.c, .string t.line] 28) := ⟨_, rfl⟩
 obtain ⟨bm, hbm⟩ : ∃ b, b = w.heap.size := ⟨_, rfl⟩
 have hb0 : Below w.heap.size w V := by rw [hV]; exact below_alloc (Below.refl _ _) _
 have HT : Aside0 (∀ V', Below V.heap.size V V' → V'.heap[bm]? = some (.cells #[.bool has, .int .i64 t.at_, .slice t.A t.ls.length t.c, .string t.line] 28 (0, 0))) := ⟨fun V' h => heap_below h (by rw [hV, hbm]; exact Go.heap_alloc_new _ _)⟩
 have HB0 := Aside0.mk hb0
 have HR := Aside0.mk (hR.below hb0)
 have HBs := Aside0.mk (fun (hh : has = true) (V' : World) (h : Below V.heap.size V V') => bsearch_any desc A ys c t V' ((hR.row.below hb0).below h) (fun y hy => in_below (in_below (hR.in_ y hy).1 hb0) h) (in_below (in_below (hT hh) hb0) h) hU hR.few)
 have HOrd : Aside0 (∀ V' : World, Calls Tryz.prog 26 #[.bool desc] V' fun e w' => e = .returned (.func (.func (ordF desc)) #[] #[]) ∧ Below V'.heap.size V' w') := ⟨fun V' => (order_any desc V').mono fun e w' ⟨h1, h2⟩ => ⟨h1, h2 ▸ Below.refl _ _⟩⟩
 have HCl := Aside0.mk (fun (A : Option Addr) (xs : List Ent) (c : Nat) (V' : World) (h1 : RowV V' A xs) (h2 : xs.length ≤ 100000) => clone_gen V' A xs c h1 h2)
 have HU := Aside0.mk hU
 have HM : Aside0 (ys.length ≤ 20000) := ⟨hR.few⟩
 have HCp := Aside0.mk hcap
 have HN := Aside0.mk hn
 have HWd := Aside0.mk hV
 have HJd := Aside0.mk hbm
 have m0 : V.cell? ⟨bm, 0, none⟩ = some (.bool has) := blk_cell (HT.out V (Below.refl _ _)) 0
 rw [hV, hbm] at m0
 clear hV hbm hb0 hR hT hU hcap
 unfold Ent.val at HBs
 obtain ⟨fo, hfo⟩ : ∃ f, f = ordF desc := ⟨_, rfl⟩
 rw [← hfo] at HBs HOrd
 clear hfo
 obtain ⟨bh, hbh⟩ : ∃ l, l = behind desc has t.key ys := ⟨_, rfl⟩
 have HBh := Aside0.mk hbh
 rw [← hbh]
 clear hbh
 go_enter Tryz.func12, Tryz.ntmps12
 go_upto_if 15 with (fail)
 try rw [← HWd.out]
 try rw [← HJd.out]
 have HVB : Aside0 (Below V.heap.size V V) := ⟨Below.refl _ _⟩
 clear m0
 go_cut [10] (fun v10 wc => ∃ p : Nat, v10 = .int .i64 (p : Int) ∧ Aside0 (p ≤ ys.length ∧ bh = ys.drop p) ∧ Aside0 (Below V.heap.size V wc))
 case first =>
  cases has with
  | false =>
   have HP : Aside0 (0 ≤ ys.length ∧ bh = ys.drop 0) := ⟨Nat.zero_le _, by rw [HBh.out]; unfold behind; simp⟩
   go_wp2
   go_meet
   case rel => exact ⟨0, rfl, HP, HVB⟩
  | true =>
   have HB1 := Aside0.mk (fun V' h => HBs.out rfl V' h)
   have HBS := HVB
   have HTx : Aside0 (V.heap[bm]? = some (.cells #[.bool true, .int .i64 t.at_, .slice t.A t.ls.length t.c, .string t.line] 28 (0, 0))) := ⟨HT.out V (Below.refl _ _)⟩
   clear HBs HVB HT
   have HB : Aside0 (Below V.heap.size V V) := ⟨Below.refl _ _⟩
   go_wp2_with fail
   refine start_ (n := 11) (S := fun x_ => Below V.heap.size V x_) (ds := []) #[false, false, false, false, false, false, false, false, false, false, false] (by kernel_rfl) rfl rfl (pw_below_drewN (Below.refl _ _) 1) (fun hHeld => ?_)
   refine with_tabW tab_model_Cut_3 bits_model_Cut_3 (fun HT_ HW_ => ?_)
   have HB := Aside0.mk (pw_below_drewN HB.out 1)
   change Aside0 (Below _ _ (World.drew V)) at HB
   change Below _ _ (World.drew V) at hHeld
   have hSz : (World.drew V).heap.size = V.heap.size := rfl
   have HTx := Aside0.mk (show (World.drew V).heap[bm]? = some (.cells #[.bool true, .int .i64 t.at_, .slice t.A t.ls.length t.c, .string t.line] 28 (0, 0)) from HTx.out)
   have HBS := Aside0.mk (show Below V.heap.size V (World.drew V) from pw_below_drewN HBS.out 1)
   refine wpAnyLast_str (S' := fun x_ => Below (World.drew V).heap.size (World.drew V) x_) (fun x_ hx_ => below_step hHeld hx_) (Below.refl _ _) ?_
   clear hHeld hSz
   generalize World.drew V = Vd at *
   have HS := Aside0.mk (Below.refl Vd.heap.size Vd)
   refine pure_ (i := 0) (N := (some 17)) (v := ?_) (a' := ?_) #[true, false, false, false, false, false, false, false, false, false, false] rfl rfl (any_of HT_.out (by kernel_rfl)) (fun _ _ _ h => h) (Or.inl ⟨by rfl, ?_⟩) ?_ ?_
   rotate_left
   ·intro w_
    go_simp
    try with_reducible rfl
   rotate_left
   ·simp only [Act.put, List.setIfInBounds_toArray, List.set_cons_zero, List.set_cons_succ, i64_w, i32_w]
    rfl
   refine pure_ (i := 1) (N := (some 18)) (v := ?_) (a' := ?_) #[true, true, false, false, false, false, false, false, false, false, false] rfl rfl (any_of HT_.out (by kernel_rfl)) (fun _ _ _ h => h) (Or.inl ⟨by rfl, ?_⟩) ?_ ?_
   rotate_left
   ·intro w_
    go_simp
    try with_reducible rfl
   rotate_left
   ·simp only [Act.put, List.setIfInBounds_toArray, List.set_cons_zero, List.set_cons_succ, i64_w, i32_w]
    rfl
   refine pure_ (i := 3) (N := (some 20)) (v := ?_) (a' := ?_) #[true, true, false, true, false, false, false, false, false, false, false] rfl rfl (any_of HT_.out (by kernel_rfl)) (fun _ _ _ h => h) (Or.inl ⟨by rfl, ?_⟩) ?_ ?_
   rotate_left
   ·intro w_
    go_simp
    try with_reducible rfl
   rotate_left
   ·simp only [Act.put, List.setIfInBounds_toArray, List.set_cons_zero, List.set_cons_succ, i64_w, i32_w]
    rfl
   refine take_ (i := 2) (N := (some 19)) (v := ?_) (a' := ?_) #[true, true, true, true, false, false, false, false, false, false, false] rfl rfl (take_ofW HT_.out HW_.out (by kernel_rfl)) (fun _ _ _ h => h) (Or.inl ⟨by rfl, ?_⟩) (Below.refl _ _) ?_ ?_
   rotate_left
   ·intro Wx hWx
    have hm := heap_below hWx HTx.out
    have h1 : Wx.cell? ⟨bm, 1, none⟩ = some _ := (blk_cell hm 1).trans rfl
    have h2 : Wx.cell? ⟨bm, 2, none⟩ = some _ := (blk_cell hm 2).trans rfl
    have h3 : Wx.cell? ⟨bm, 3, none⟩ = some _ := (blk_cell hm 3).trans rfl
    go_simp
    try with_reducible rfl
   rotate_left
   ·simp only [Act.put, List.setIfInBounds_toArray, List.set_cons_zero, List.set_cons_succ, i64_w, i32_w]
    rfl
   refine one_ (i := 4) (N := (some 21)) #[true, true, true, true, true, false, false, false, false, false, false] rfl rfl (one_of HT_.out (by kernel_rfl)) (by decide) (fun K hK => ?_)
   refine goes_ Tryz.func26 (by kernel_rfl) rfl #[.bool desc] (by rfl) rfl rfl (by (try simp only [List.map_toArray, List.map_cons, List.map_nil]); first | done | rfl) ?_
   refine (HOrd.out _).mono ?_
   rintro e w3_4 ⟨rfl, hb_1⟩
   refine ⟨_, rfl, ?_⟩
   have HTx := Aside0.mk (heap_below hb_1 HTx.out)
   have HBS := Aside0.mk (below_step HBS.out hb_1)
   have hb_ : Below Vd.heap.size Vd w3_4 := hb_1
   have HB := Aside0.mk (below_step HB.out hb_)
   refine hK.out _ _ hb_ (fun hHeld => ?_)
   clear hK K
   refine wpAnyLast_str (S' := fun x_ => Below w3_4.heap.size w3_4 x_) (fun x_ hx_ => below_step hHeld hx_) (Below.refl _ _) ?_
   clear hHeld
   (try clear hb)
   clear hb_
   have HS := Aside0.mk (Below.refl w3_4.heap.size w3_4)
   refine norm_ (a' := ?_) ?_ ?_
   rotate_left
   ·show Act.put _ (some 21) _ = _
    simp only [Act.put, List.setIfInBounds_toArray, List.set_cons_zero, List.set_cons_succ, i64_w, i32_w]
    rfl
   refine one_ (i := 5) (N := (some 22)) #[true, true, true, true, true, true, false, false, false, false, false] rfl rfl (one_of HT_.out (by kernel_rfl)) (by decide) (fun K hK => ?_)
   refine goes_ Tryz.func25 (by kernel_rfl) rfl #[.slice A ys.length c, .agg #[.int .i64 t.at_, .slice t.A t.ls.length t.c, .string t.line], .func (.func fo) #[] #[]] (by rfl) rfl rfl (by (try simp only [List.map_toArray, List.map_cons, List.map_nil]); first | done | rfl) ?_
   refine (HB1.out _ HBS.out).mono ?_
   rintro e w3_5 ⟨ix, bx, rfl, hlow, hbx, hb_1⟩
   refine ⟨_, rfl, ?_⟩
   have HLow := Aside0.mk hlow
   have HBx := Aside0.mk hbx
   have HBS := Aside0.mk (below_step HBS.out hb_1)
   clear hlow hbx
   have hb_ : Below w3_4.heap.size w3_4 w3_5 := hb_1
   have HB := Aside0.mk (below_step HB.out hb_)
   refine hK.out _ _ hb_ (fun hHeld => ?_)
   clear hK K
   refine wpAnyLast_str (S' := fun x_ => Below w3_5.heap.size w3_5 x_) (fun x_ hx_ => below_step hHeld hx_) (Below.refl _ _) ?_
   clear hHeld
   (try clear hb)
   clear hb_
   have HS := Aside0.mk (Below.refl w3_5.heap.size w3_5)
   refine norm_ (a' := ?_) ?_ ?_
   rotate_left
   ·show Act.put _ (some 22) _ = _
    simp only [Act.put, List.setIfInBounds_toArray, List.set_cons_zero, List.set_cons_succ, i64_w, i32_w]
    rfl
   refine pure_ (i := 6) (N := (some 16)) (v := ?_) (a' := ?_) #[true, true, true, true, true, true, true, false, false, false, false] rfl rfl (any_of HT_.out (by kernel_rfl)) (fun _ _ _ h => h) (Or.inl ⟨by rfl, ?_⟩) ?_ ?_
   rotate_left
   ·intro w_
    go_simp
    try with_reducible rfl
   rotate_left
   ·simp only [Act.put, List.setIfInBounds_toArray, List.set_cons_zero, List.set_cons_succ, i64_w, i32_w]
    rfl
   refine pure_ (i := 7) (N := (some 23)) (v := ?_) (a' := ?_) #[true, true, true, true, true, true, true, true, false, false, false] rfl rfl (any_of HT_.out (by kernel_rfl)) (fun _ _ _ h => h) (Or.inl ⟨by rfl, ?_⟩) ?_ ?_
   rotate_left
   ·intro w_
    go_simp
    try with_reducible rfl
   rotate_left
   ·simp only [Act.put, List.setIfInBounds_toArray, List.set_cons_zero, List.set_cons_succ, i64_w, i32_w]
    rfl
   refine pure_ (i := 8) (N := (some 24)) (v := ?_) (a' := ?_) #[true, true, true, true, true, true, true, true, true, false, false] rfl rfl (any_of HT_.out (by kernel_rfl)) (fun _ _ _ h => h) (Or.inl ⟨by rfl, ?_⟩) ?_ ?_
   rotate_left
   ·intro w_
    go_simp
    try with_reducible rfl
   rotate_left
   ·simp only [Act.put, List.setIfInBounds_toArray, List.set_cons_zero, List.set_cons_succ, i64_w, i32_w]
    rfl
   refine pure_ (i := 9) (N := (some 11)) (v := ?_) (a' := ?_) #[true, true, true, true, true, true, true, true, true, true, false] rfl rfl (any_of HT_.out (by kernel_rfl)) (fun _ _ _ h => h) (Or.inl ⟨by rfl, ?_⟩) ?_ ?_
   rotate_left
   ·intro w_
    go_simp
    try with_reducible rfl
   rotate_left
   ·simp only [Act.put, List.setIfInBounds_toArray, List.set_cons_zero, List.set_cons_succ, i64_w, i32_w]
    rfl
   refine pure_ (i := 10) (N := (some 12)) (v := ?_) (a' := ?_) #[true, true, true, true, true, true, true, true, true, true, true] rfl rfl (any_of HT_.out (by kernel_rfl)) (fun _ _ _ h => h) (Or.inl ⟨by rfl, ?_⟩) ?_ ?_
   rotate_left
   ·intro w_
    go_simp
    try with_reducible rfl
   rotate_left
   ·simp only [Act.put, List.setIfInBounds_toArray, List.set_cons_zero, List.set_cons_succ, i64_w, i32_w]
    rfl
   refine done_ (done_of HT_.out (by kernel_rfl)) ?_
   have HP := Aside0.mk (behind_drop HU.out HLow.out HBx.out)
   cases bx with
   | true =>
    have hle : (ix : Int) + 1 ≤ 20001 := by have h1 := HP.out.1; have h2 := HM.out; simp at h1; omega
    go_wp2
    go_meet
    case rel => exact ⟨ix + 1, by congr 1, ⟨by simpa using HP.out.1, by rw [HBh.out, HP.out.2]; simp⟩, HBS⟩
   | false =>
    go_wp2
    go_meet
    case rel => exact ⟨ix, rfl, ⟨by simpa using HP.out.1, by rw [HBh.out, HP.out.2]; simp⟩, HBS⟩
 case rest =>
  clear HVB HBs HOrd
  obtain ⟨p, rfl, HP, HBS⟩ := hcut
  go_upto_region 8 with (fail)
  have hp1 := HP.out.1
  have hm20 := HM.out
  have hn0 := HN.out
  have he0 : wrap64 ((p : Int) + min (max n 0) (wrap64 ((ys.length : Int) - (p : Int)))) = ((p + min n.toNat (ys.length - p) : Nat) : Int) := by
   rw [show wrap64 ((ys.length : Int) - (p : Int)) = (ys.length : Int) - (p : Int) by unfold wrap64; omega]
   unfold wrap64
   omega
  obtain ⟨e, he⟩ : ∃ e, e = p + min n.toNat (ys.length - p) := ⟨_, rfl⟩
  rw [he0, ← he]
  have HEe : Aside0 (p ≤ e ∧ e ≤ ys.length ∧ e - p = min n.toNat (ys.length - p)) := ⟨by omega, by omega, by omega⟩
  obtain ⟨xs, hxs⟩ : ∃ xs, xs = (ys.drop p).take (min n.toNat (ys.length - p)) := ⟨_, rfl⟩
  have hxl : xs.length = e - p := by rw [hxs, List.length_take, List.length_drop]; omega
  have HXr : Aside0 (∀ V', Below V.heap.size V V' → RowV V' (dropA A p c) xs) := ⟨fun V' h => by rw [hxs]; exact ((HR.out.row.below h).dropA p c HCp.out).take _⟩
  have HXm : Aside0 (∀ x ∈ xs, x ∈ ys) := ⟨fun x hx => by rw [hxs] at hx; exact List.mem_of_mem_drop (List.mem_of_mem_take hx)⟩
  have HXe : Aside0 (xs = bh.take n.toNat) := ⟨by rw [hxs, HP.out.2, drop_take_len ys p n.toNat hp1]⟩
  have HEq : Aside0 (((e : Int) == (ys.length : Int)) = decide (bh.length ≤ n.toNat)) := ⟨by
   rw [HP.out.2, List.length_drop]
   by_cases h : ys.length - p ≤ n.toNat
   ·rw [decide_eq_true h]; simp; omega
   ·rw [decide_eq_false h]; simp; omega⟩
  have HC1 : Aside0 (Calls Tryz.prog 27 #[.slice (dropA A p c) (e - p) (c - p)] wc fun e w' => ∃ v', e = .returned v' ∧ OwnE w' wc.heap.size v' xs ∧ Below wc.heap.size wc w') := ⟨by
   have h := HCl.out (dropA A p c) xs (c - p) wc (HXr.out wc HBS.out) (by omega)
   rw [hxl] at h
   exact h⟩
  have slb : ∀ V, _ = _ := fun V => slice_both A ys.length c p e V HEe.out.1 HEe.out.2.1 HCp.out
  obtain ⟨D, hD⟩ : ∃ D, D = dropA A p c := ⟨_, rfl⟩
  obtain ⟨q, hq⟩ : ∃ q, q = e - p := ⟨_, rfl⟩
  obtain ⟨r, hr⟩ : ∃ r, r = c - p := ⟨_, rfl⟩
  rw [← hD, ← hq, ← hr] at slb HC1
  have HEd := Aside0.mk he
  clear hD hq hr hp1 hm20 hn0 he0 he hxs hxl HCl
  go_wp2_with fail
  ((refine (HC1.out).mono ?_); rintro er w4 ⟨v', rfl, ho, hb4⟩)
  have HO := Aside0.mk ho
  have HB4 := Aside0.mk (below_step HBS.out hb4)
  clear ho hb4 slb
  obtain ⟨A', c', hv, hlc, hrow, hfr⟩ := HO.out.row
  have HRow := Aside0.mk (And.intro hlc hrow)
  have HFr := Aside0.mk hfr
  subst hv
  clear hlc hrow hfr
  go_wp2
  go_ret2
  have hxsl : xs.length ≤ 20000 := by
   have h1 : xs.length ≤ ys.length := by
    rw [HXe.out, HP.out.2, List.length_take, List.length_drop]
    omega
   have h2 := HM.out
   omega
  refine ⟨A', c', xs, ?_, HRow.out.1, ⟨HRow.out.2, fun x hx => ⟨in_below (HR.out.in_ x (HXm.out x hx)).1 HB4.out, (HR.out.in_ x (HXm.out x hx)).2⟩, hxsl⟩, HXe.out, fun a ha => ⟨by have h1 := (HFr.out a ha).1; have h2 := HB0.out.size; have h3 := HBS.out.size; omega, (HFr.out a ha).2.1⟩, below_step HB0.out HB4.out⟩
  rw [← HEq.out]
  rfl
end Go.Proofs.YtpleiklodomgiaaGreatDoor.Y
end
section
namespace Go.Proofs.YtpleiklodomgiaaGreatDoor.F
end Go.Proofs.YtpleiklodomgiaaGreatDoor.F
namespace Go.Proofs.YtpleiklodomgiaaGreatDoor.Y
open Go.RowKit Go.Shelf Go.Proofs.YtpleiklodomgiaaGreatDoorW.PrintWords Go.Proofs.YtpleiklodomgiaaGreatDoorW.PrintLast Go.Proofs.YtpleiklodomgiaaGreatDoorW.PrintMore Go.Proofs.YtpleiklodomgiaaGreatDoor.B Go.Proofs.YtpleiklodomgiaaGreatDoor.Reg Go.Proofs.YtpleiklodomgiaaGreatDoor.C Go.Proofs.YtpleiklodomgiaaGreatDoor.Q Go.Proofs.YtpleiklodomgiaaGreatDoor.CQ Go.Proofs.YtpleiklodomgiaaGreatDoor.F
theorem qcells {w : World} {j : Nat} {a0 a1 a2 a3 a4 a5 a6 a7 a8 a9 : Value} {t : TypeId} (h : w.heap[j]? = some (.cells #[a0, a1, a2, a3, a4, a5, a6, a7, a8, a9] t (0, 0))) : w.cell? ⟨j, 0, none⟩ = some a0 ∧ w.cell? ⟨j, 1, none⟩ = some a1 ∧ w.cell? ⟨j, 2, none⟩ = some a2 ∧ w.cell? ⟨j, 3, none⟩ = some a3 ∧ w.cell? ⟨j, 4, none⟩ = some a4 ∧ w.cell? ⟨j, 5, none⟩ = some a5 ∧ w.cell? ⟨j, 6, none⟩ = some a6 ∧ w.cell? ⟨j, 7, none⟩ = some a7 ∧ w.cell? ⟨j, 8, none⟩ = some a8 ∧ w.cell? ⟨j, 9, none⟩ = some a9 :=
 ⟨blk_cell h 0, blk_cell h 1, blk_cell h 2, blk_cell h 3, blk_cell h 4, blk_cell h 5, blk_cell h 6, blk_cell h 7, blk_cell h 8, blk_cell h 9⟩
theorem mcells {w : World} {j : Nat} {a0 a1 a2 a3 : Value} {t : TypeId} (h : w.heap[j]? = some (.cells #[a0, a1, a2, a3] t (0, 0))) : w.cell? ⟨j, 0, none⟩ = some a0 ∧ w.cell? ⟨j, 1, none⟩ = some a1 ∧ w.cell? ⟨j, 2, none⟩ = some a2 ∧ w.cell? ⟨j, 3, none⟩ = some a3 := ⟨blk_cell h 0, blk_cell h 1, blk_cell h 2, blk_cell h 3⟩
def markV (has : Bool) (t : Ent) : Value := .agg #[.bool has, .int .i64 t.at_, .slice t.A t.ls.length t.c, .string t.line]
def T_model_Page_1 : Bool × List (List Nat × List Nat) := (true, [([], []), ([], []), ([0, 1], [0, 1]), ([], []), ([3], [3]), ([], []), ([], []), ([6], [6]), ([2, 4, 5, 7, 2], [2, 4, 5, 7]), ([8], [8]), ([8], [8]), ([9, 8, 0, 1, 2, 3, 4, 5, 6, 7, 8, 9, 10], [9]), ([10, 11, 0, 1, 2, 3, 4, 5, 6, 7, 8, 9, 10, 11], [10])])
def B_model_Page_1 : List Nat := [0, 0, 3, 0, 8, 0, 0, 64, 255, 511, 511, 2047, 4095]
theorem tab_model_Page_1 : rtab .any (opsOf Tryz.f14 1) = T_model_Page_1 := by kernel_rfl
theorem bits_model_Page_1 : waitsOk T_model_Page_1.2 B_model_Page_1 = true := by kernel_rfl
set_option maxRecDepth 20000 in
set_option maxHeartbeats 8000000 in
theorem page_any {W : World} (hC : Go.Proofs.YtpleiklodomgiaaGreatDoor.W.Con W) (hS : Go.Proofs.YtpleiklodomgiaaGreatDoor.M.Spl W) (q : Qv) (A1 A2 : Option Addr) (c1 c2 : Nat) (page : ByteArray) (has : Bool) (t : Ent) (A : Option Addr) (rs : List Rw) (cap : Nat) (w : World) (hb : Below W.heap.size W w) (hq : IsQ w q A1 c1 A2 c2) (hT : has = true → t.In w) (hR : RowsV w A rs) :
  Calls Tryz.prog 14 #[qV q A1 c1 A2 c2 page, markV has t, .slice A rs.length cap] w fun e w' => ∃ A' c' zs ys, e = .returned (.tuple #[.slice A' (List.length zs) c', .bool (decide ((behind q.desc has t.key ys).length ≤ q.lim.toNat))]) ∧ zs.length ≤ c' ∧ RJ w' A' zs ∧ zs = (behind q.desc has t.key ys).take q.lim.toNat ∧ Sd q.desc (coll q rs) ys ∧ (∀ y ∈ ys, y ∈ coll q rs) ∧ (∀ a, A' = some a → w.heap.size ≤ a.block ∧ a.block < w'.heap.size) ∧ Below w.heap.size w w' := by
 obtain ⟨V, hV⟩ : ∃ V, V = (w.alloc (.cells #[.int .i64 q.fr, .int .i64 q.till, .slice A1 q.ms.length c1, .int .i64 q.T.f0, .string q.T.f1, .string q.T.f2, .slice A2 q.T.f3.length c2, .bool q.desc, .int .i64 q.lim, .string page] 37)).alloc (.cells #[.bool has, .int .i64 t.at_, .slice t.A t.ls.length t.c, .string t.line] 28) := ⟨_, rfl⟩
 obtain ⟨bm, hbm⟩ : ∃ b, b = w.heap.size + 1 := ⟨_, rfl⟩
 obtain ⟨bq, hbq⟩ : ∃ b, b = w.heap.size := ⟨_, rfl⟩
 have hb0 : Below w.heap.size w V := by rw [hV]; exact below_alloc (below_alloc (Below.refl _ _) _) _
 have HTx : Aside0 (V.heap[bm]? = some (.cells #[.bool has, .int .i64 t.at_, .slice t.A t.ls.length t.c, .string t.line] 28 (0, 0))) := ⟨by rw [hV, hbm]; exact box1 _ _ _⟩
 have HQx : Aside0 (V.heap[bq]? = some (.cells #[.int .i64 q.fr, .int .i64 q.till, .slice A1 q.ms.length c1, .int .i64 q.T.f0, .string q.T.f1, .string q.T.f2, .slice A2 q.T.f3.length c2, .bool q.desc, .int .i64 q.lim, .string page] 37 (0, 0))) := ⟨by rw [hV, hbq]; exact box0 _ _ _⟩
 have HB0 := Aside0.mk hb0
 have HAn := Aside0.mk (fun (V' : World) (h : Below V.heap.size V V') => answer_any hC hS q A1 A2 c1 c2 page A rs cap V' (below_step (below_step hb hb0) h) ((hq.below hb0).below h) ((hR.below hb0).below h))
 have HTi := Aside0.mk (fun (V' : World) (h : Below V.heap.size V V') (hh : has = true) => in_below (in_below (hT hh) hb0) h)
 have HLm : Aside0 (1 ≤ q.lim ∧ q.lim ≤ 8) := ⟨hq.lim⟩
 have HCu := Aside0.mk (fun (A : Option Addr) (ys : List Ent) (c : Nat) (V' : World) (h1 : RJ V' A ys) (h2 : ys.length ≤ c) (h3 : has = true → t.In V') (h4 : Up (cmpO q.desc) (ys.map Ent.key)) => cut_any q.desc has A ys c t q.lim V' h1 h2 h3 h4 (by have := hq.lim; omega))
 have HWd := Aside0.mk hV
 have HJd := Aside0.mk hbm
 have HKd := Aside0.mk hbq
 clear hV hbm hbq hb0 hC hS hq hT hR hb
 unfold qV at HAn ⊢
 unfold markV
 go_enter Tryz.func14, Tryz.ntmps14
 go_wp2_with fail
 try rw [← HWd.out]
 try rw [← HJd.out]
 try rw [← HKd.out]
 clear HWd HJd HKd
 have HBS : Aside0 (Below V.heap.size V V) := ⟨Below.refl _ _⟩
 have HB : Aside0 (Below V.heap.size V V) := ⟨Below.refl _ _⟩
 refine start_ (n := 13) (S := fun x_ => Below V.heap.size V x_) (ds := []) #[false, false, false, false, false, false, false, false, false, false, false, false, false] (by kernel_rfl) rfl rfl (pw_below_drewN (Below.refl _ _) 1) (fun hHeld => ?_)
 refine with_tabW tab_model_Page_1 bits_model_Page_1 (fun HT_ HW_ => ?_)
 have HB := Aside0.mk (pw_below_drewN HB.out 1)
 change Aside0 (Below _ _ (World.drew V)) at HB
 change Below _ _ (World.drew V) at hHeld
 have hSz : (World.drew V).heap.size = V.heap.size := rfl
 have HTx := Aside0.mk (show (World.drew V).heap[bm]? = _ from HTx.out)
 have HQx := Aside0.mk (show (World.drew V).heap[bq]? = _ from HQx.out)
 have HBS := Aside0.mk (show Below V.heap.size V (World.drew V) from pw_below_drewN HBS.out 1)
 refine wpAnyLast_str (S' := fun x_ => Below (World.drew V).heap.size (World.drew V) x_) (fun x_ hx_ => below_step hHeld hx_) (Below.refl _ _) ?_
 clear hHeld hSz
 generalize World.drew V = Vd at *
 have HS := Aside0.mk (Below.refl Vd.heap.size Vd)
 refine pure_ (i := 1) (N := (some 9)) (v := ?_) (a' := ?_) #[false, true, false, false, false, false, false, false, false, false, false, false, false] rfl rfl (any_of HT_.out (by kernel_rfl)) (fun _ _ _ h => h) (Or.inl ⟨by rfl, ?_⟩) ?_ ?_
 rotate_left
 ·intro w_
  go_simp
  try with_reducible rfl
 rotate_left
 ·simp only [Act.put, List.setIfInBounds_toArray, List.set_cons_zero, List.set_cons_succ, i64_w, i32_w]
  rfl
 refine pure_ (i := 3) (N := (some 11)) (v := ?_) (a' := ?_) #[false, true, false, true, false, false, false, false, false, false, false, false, false] rfl rfl (any_of HT_.out (by kernel_rfl)) (fun _ _ _ h => h) (Or.inl ⟨by rfl, ?_⟩) ?_ ?_
 rotate_left
 ·intro w_
  go_simp
  try with_reducible rfl
 rotate_left
 ·simp only [Act.put, List.setIfInBounds_toArray, List.set_cons_zero, List.set_cons_succ, i64_w, i32_w]
  rfl
 refine pure_ (i := 6) (N := (some 14)) (v := ?_) (a' := ?_) #[false, true, false, true, false, false, true, false, false, false, false, false, false] rfl rfl (any_of HT_.out (by kernel_rfl)) (fun _ _ _ h => h) (Or.inl ⟨by rfl, ?_⟩) ?_ ?_
 rotate_left
 ·intro w_
  go_simp
  try with_reducible rfl
 rotate_left
 ·simp only [Act.put, List.setIfInBounds_toArray, List.set_cons_zero, List.set_cons_succ, i64_w, i32_w]
  rfl
 refine take_ (i := 0) (N := (some 8)) (v := ?_) (a' := ?_) #[true, true, false, true, false, false, true, false, false, false, false, false, false] rfl rfl (take_ofW HT_.out HW_.out (by kernel_rfl)) (fun _ _ _ h => h) (Or.inl ⟨by rfl, ?_⟩) (Below.refl _ _) ?_ ?_
 rotate_left
 ·intro Wx hWx
  obtain ⟨m0, m1, m2, m3, m4, m5, m6, m7, m8, m9⟩ := qcells (heap_below hWx HQx.out)
  go_simp
  try with_reducible rfl
 rotate_left
 ·simp only [Act.put, List.setIfInBounds_toArray, List.set_cons_zero, List.set_cons_succ, i64_w, i32_w]
  rfl
 refine take_ (i := 4) (N := (some 12)) (v := ?_) (a' := ?_) #[true, true, false, true, true, false, true, false, false, false, false, false, false] rfl rfl (take_ofW HT_.out HW_.out (by kernel_rfl)) (fun _ _ _ h => h) (Or.inl ⟨by rfl, ?_⟩) (Below.refl _ _) ?_ ?_
 rotate_left
 ·intro Wx hWx
  obtain ⟨m0, m1, m2, m3, m4, m5, m6, m7, m8, m9⟩ := qcells (heap_below hWx HQx.out)
  go_simp
  try with_reducible rfl
 rotate_left
 ·simp only [Act.put, List.setIfInBounds_toArray, List.set_cons_zero, List.set_cons_succ, i64_w, i32_w]
  rfl
 refine take_ (i := 5) (N := (some 13)) (v := ?_) (a' := ?_) #[true, true, false, true, true, true, true, false, false, false, false, false, false] rfl rfl (take_ofW HT_.out HW_.out (by kernel_rfl)) (fun _ _ _ h => h) (Or.inl ⟨by rfl, ?_⟩) (Below.refl _ _) ?_ ?_
 rotate_left
 ·intro Wx hWx
  obtain ⟨m0, m1, m2, m3⟩ := mcells (heap_below hWx HTx.out)
  go_simp
  try with_reducible rfl
 rotate_left
 ·simp only [Act.put, List.setIfInBounds_toArray, List.set_cons_zero, List.set_cons_succ, i64_w, i32_w]
  rfl
 refine take_ (i := 7) (N := (some 15)) (v := ?_) (a' := ?_) #[true, true, false, true, true, true, true, true, false, false, false, false, false] rfl rfl (take_ofW HT_.out HW_.out (by kernel_rfl)) (fun _ _ _ h => h) (Or.inl ⟨by rfl, ?_⟩) (Below.refl _ _) ?_ ?_
 rotate_left
 ·intro Wx hWx
  obtain ⟨m0, m1, m2, m3, m4, m5, m6, m7, m8, m9⟩ := qcells (heap_below hWx HQx.out)
  go_simp
  try with_reducible rfl
 rotate_left
 ·simp only [Act.put, List.setIfInBounds_toArray, List.set_cons_zero, List.set_cons_succ, i64_w, i32_w]
  rfl
 refine one_ (i := 2) (N := (some 10)) #[true, true, true, true, true, true, true, true, false, false, false, false, false] rfl rfl (one_of HT_.out (by kernel_rfl)) (by decide) (fun K hK => ?_)
 refine goes_ Tryz.func11 (by kernel_rfl) rfl #[.agg #[.int .i64 q.fr, .int .i64 q.till, .slice A1 q.ms.length c1, .int .i64 q.T.f0, .string q.T.f1, .string q.T.f2, .slice A2 q.T.f3.length c2, .bool q.desc, .int .i64 q.lim, .string page], .slice A rs.length cap] (by rfl) rfl rfl (by (try simp only [List.map_toArray, List.map_cons, List.map_nil]); first | done | rfl) ?_
 refine (HAn.out _ HBS.out).mono ?_
 rintro e w1_2 ⟨A3, c3, ys, rfl, hcap, hrj, hsd, hkp, hb_1⟩
 refine ⟨_, rfl, ?_⟩
 have HBS := Aside0.mk (below_step HBS.out hb_1)
 have HQx := Aside0.mk (heap_below hb_1 HQx.out)
 have HTx := Aside0.mk (heap_below hb_1 HTx.out)
 have HSd := Aside0.mk hsd
 have HKp := Aside0.mk hkp
 have HCa := Aside0.mk (HCu.out A3 ys c3 _ hrj hcap (HTi.out _ HBS.out) hsd.up)
 have HSz : Aside0 (V.heap.size ≤ w1_2.heap.size) := ⟨HBS.out.size⟩
 clear hcap hrj hsd hkp
 have hb_ : Below Vd.heap.size Vd w1_2 := hb_1
 have HB := Aside0.mk (below_step HB.out hb_)
 refine hK.out _ _ hb_ (fun hHeld => ?_)
 clear hK K
 refine wpAnyLast_str (S' := fun x_ => Below w1_2.heap.size w1_2 x_) (fun x_ hx_ => below_step hHeld hx_) (Below.refl _ _) ?_
 clear hHeld
 (try clear hb)
 clear hb_
 have HS := Aside0.mk (Below.refl w1_2.heap.size w1_2)
 refine norm_ (a' := ?_) ?_ ?_
 rotate_left
 ·show Act.put _ (some 10) _ = _
  simp only [Act.put, List.setIfInBounds_toArray, List.set_cons_zero, List.set_cons_succ, i64_w, i32_w]
  rfl
 refine one_ (i := 8) (N := (some 16)) #[true, true, true, true, true, true, true, true, true, false, false, false, false] rfl rfl (one_of HT_.out (by kernel_rfl)) (by decide) (fun K hK => ?_)
 refine goes_ Tryz.func12 (by kernel_rfl) rfl #[.slice A3 (List.length ys) c3, .bool q.desc, .agg #[.bool has, .int .i64 t.at_, .slice t.A t.ls.length t.c, .string t.line], .int .i64 q.lim] (by rfl) rfl rfl (by (try simp only [List.map_toArray, List.map_cons, List.map_nil]); first | done | rfl) ?_
 refine (HCa.out).mono ?_
 rintro e w1_8 ⟨A4, c4, zs, rfl, hcap, hrj, hzs, hfr, hb_1⟩
 refine ⟨_, rfl, ?_⟩
 have HBS := Aside0.mk (below_step HBS.out hb_1)
 have HRz := Aside0.mk (And.intro hcap (And.intro hrj (And.intro hzs hfr)))
 clear hcap hrj hzs hfr
 have hb_ : Below w1_2.heap.size w1_2 w1_8 := hb_1
 have HB := Aside0.mk (below_step HB.out hb_)
 refine hK.out _ _ hb_ (fun hHeld => ?_)
 clear hK K
 refine wpAnyLast_str (S' := fun x_ => Below w1_8.heap.size w1_8 x_) (fun x_ hx_ => below_step hHeld hx_) (Below.refl _ _) ?_
 clear hHeld
 (try clear hb)
 clear hb_
 have HS := Aside0.mk (Below.refl w1_8.heap.size w1_8)
 refine norm_ (a' := ?_) ?_ ?_
 rotate_left
 ·show Act.put _ (some 16) _ = _
  simp only [Act.put, List.setIfInBounds_toArray, List.set_cons_zero, List.set_cons_succ, i64_w, i32_w]
  rfl
 refine pure_ (i := 9) (N := (some 17)) (v := ?_) (a' := ?_) #[true, true, true, true, true, true, true, true, true, true, false, false, false] rfl rfl (any_of HT_.out (by kernel_rfl)) (fun _ _ _ h => h) (Or.inl ⟨by rfl, ?_⟩) ?_ ?_
 rotate_left
 ·intro w_
  go_simp
  try with_reducible rfl
 rotate_left
 ·simp only [Act.put, List.setIfInBounds_toArray, List.set_cons_zero, List.set_cons_succ, i64_w, i32_w]
  rfl
 refine pure_ (i := 10) (N := (some 18)) (v := ?_) (a' := ?_) #[true, true, true, true, true, true, true, true, true, true, true, false, false] rfl rfl (any_of HT_.out (by kernel_rfl)) (fun _ _ _ h => h) (Or.inl ⟨by rfl, ?_⟩) ?_ ?_
 rotate_left
 ·intro w_
  go_simp
  try with_reducible rfl
 rotate_left
 ·simp only [Act.put, List.setIfInBounds_toArray, List.set_cons_zero, List.set_cons_succ, i64_w, i32_w]
  rfl
 refine pure_ (i := 11) (N := (some 6)) (v := ?_) (a' := ?_) #[true, true, true, true, true, true, true, true, true, true, true, true, false] rfl rfl (any_of HT_.out (by kernel_rfl)) (fun _ _ _ h => h) (Or.inl ⟨by rfl, ?_⟩) ?_ ?_
 rotate_left
 ·intro w_
  go_simp
  try with_reducible rfl
 rotate_left
 ·simp only [Act.put, List.setIfInBounds_toArray, List.set_cons_zero, List.set_cons_succ, i64_w, i32_w]
  rfl
 refine pure_ (i := 12) (N := (some 7)) (v := ?_) (a' := ?_) #[true, true, true, true, true, true, true, true, true, true, true, true, true] rfl rfl (any_of HT_.out (by kernel_rfl)) (fun _ _ _ h => h) (Or.inl ⟨by rfl, ?_⟩) ?_ ?_
 rotate_left
 ·intro w_
  go_simp
  try with_reducible rfl
 rotate_left
 ·simp only [Act.put, List.setIfInBounds_toArray, List.set_cons_zero, List.set_cons_succ, i64_w, i32_w]
  rfl
 refine done_ (done_of HT_.out (by kernel_rfl)) ?_
 go_wp2
 go_ret2
 exact ⟨A4, c4, zs, ys, rfl, HRz.out.1, HRz.out.2.1, HRz.out.2.2.1, HSd.out, HKp.out, fun a ha => ⟨by have h1 := (HRz.out.2.2.2 a ha).1; have h2 := HB0.out.size; have h3 := HSz.out; omega, (HRz.out.2.2.2 a ha).2⟩, below_step HB0.out HBS.out⟩
end Go.Proofs.YtpleiklodomgiaaGreatDoor.Y
end
section
namespace Go.Proofs.YtpleiklodomgiaaGreatDoor.Y
open Go.RowKit Go.Proofs.YtpleiklodomgiaaGreatDoorW.PrintWords Go.Proofs.YtpleiklodomgiaaGreatDoorW.PrintLast Go.Proofs.YtpleiklodomgiaaGreatDoorW.PrintMore Go.Proofs.YtpleiklodomgiaaGreatDoor.B Go.Proofs.YtpleiklodomgiaaGreatDoor.C Go.Proofs.YtpleiklodomgiaaGreatDoor.Q Go.Proofs.YtpleiklodomgiaaGreatDoor.CQ Go.Proofs.YtpleiklodomgiaaGreatDoor.F
def eK (k : Int) : Ent := ⟨k, none, 0, [], ⟨#[]⟩⟩
def kK (k : Int) : Key := ⟨k, [], ⟨#[]⟩⟩
def q0 : Qv := ⟨1, 9, [], ⟨1, ⟨#[]⟩, ⟨#[]⟩, []⟩, false, 2⟩
def l0 : List Ent := [eK 3, eK 1, eK 2, eK 1]
theorem coll0 (a : Addr) : coll q0 [⟨some a, 4, l0⟩] = l0 := rfl
theorem keys0 {ys : List Ent} (h : Sd false l0 ys) : ys.map Ent.key = [kK 1, kK 2, kK 3] := by
 refine up_unique (cmpO_c false) h.up ?_ fun k => (h.keys k).trans ?_
 ·unfold Up
  simp only [List.pairwise_cons, List.mem_cons, List.not_mem_nil, or_false, List.Pairwise.nil, and_true]
  refine ⟨fun y hy => ?_, fun y hy => ?_, fun y hy => hy.elim⟩
  ·rcases hy with rfl | rfl <;> rfl
  ·subst hy; rfl
 ·show k ∈ [kK 3, kK 1, kK 2, kK 1] ↔ _
  simp only [List.mem_cons, List.not_mem_nil, or_false]
  constructor
  ·rintro (h | h | h | h)
   ·exact .inr (.inr h)
   ·exact .inl h
   ·exact .inr (.inl h)
   ·exact .inl h
  ·rintro (h | h | h)
   ·exact .inr (.inl h)
   ·exact .inr (.inr (.inl h))
   ·exact .inl h
theorem behind0 {ys : List Ent} (h : Sd false l0 ys) : ys.length = 3 ∧ ∃ z, behind false true (kK 2) ys = [z] ∧ z.at_ = 3 := by
 have hk := keys0 h
 rcases ys with _ | ⟨a, _ | ⟨b, _ | ⟨c, _ | ⟨d, r⟩⟩⟩⟩
 ·simp at hk
 ·simp at hk
 ·simp at hk
 ·simp only [List.map_cons, List.map_nil, List.cons.injEq, and_true] at hk
  obtain ⟨h1, h2, h3⟩ := hk
  refine ⟨rfl, c, ?_, congrArg Key.at_ h3⟩
  unfold behind
  rw [if_pos rfl]
  have e1 : decide (cmpO false (kK 2) a.key = -1) = false := by rw [h1]; rfl
  have e2 : decide (cmpO false (kK 2) b.key = -1) = false := by rw [h2, ((cmpO_c false).eq0 _ _).2 rfl]; rfl
  have e3 : decide (cmpO false (kK 2) c.key = -1) = true := by rw [h3]; rfl
  simp only [List.filter_cons, e1, e2, e3, List.filter_nil]
  rfl
 ·simp at hk
theorem in0 (k : Int) (w : World) : (eK k).In w := ⟨⟨rfl, by simp [eK], fun h => absurd h (Nat.lt_irrefl 0)⟩, Nat.le_refl _, by simp [eK]⟩
theorem isQ0 (w : World) : IsQ w q0 none 0 none 0 := ⟨⟨rfl, by simp [q0], fun h => absurd h (Nat.lt_irrefl 0)⟩, Nat.le_refl _, by simp [q0], ⟨leaf_ok 3 1 (by decide) _ _ (by decide) (by decide), ⟨rfl, by simp [q0], fun h => absurd h (Nat.lt_irrefl 0)⟩, Nat.le_refl _⟩, by decide, by decide⟩
theorem rows0 {w : World} {b r : Nat} {t t' : TypeId} (hb : w.heap[b]? = some (.cells #[.int .i64 3, .slice none 0 0, .string ⟨#[]⟩, .int .i64 1, .slice none 0 0, .string ⟨#[]⟩, .int .i64 2, .slice none 0 0, .string ⟨#[]⟩, .int .i64 1, .slice none 0 0, .string ⟨#[]⟩] t (0, 0)))
  (hr : w.heap[r]? = some (.cells #[.slice (some ⟨b, 0, none⟩) 4 4] t' (0, 0))) : RowsV w (some ⟨r, 0, none⟩) [⟨some ⟨b, 0, none⟩, 4, l0⟩] := by
 refine ⟨fun e => (by cases e), fun a ha i hi => ?_, fun x hx => ?_, ?_, fun x hx => ?_⟩
 ·cases ha
  have : i = 0 := by simp at hi; omega
  subst this
  rw [add_at, blk_cell hr]
  rfl
 ·rw [List.mem_singleton.1 hx]
  refine ⟨⟨fun e => (by cases e), fun a ha j u hu => ?_⟩, fun y hy => ?_⟩
  ·cases ha
   rw [add_at, Nat.zero_add, blk_cell hb]
   show ((entC l0).toArray)[j]? = _
   rw [List.getElem?_toArray]
   exact hu
  ·have hy' : y = eK 3 ∨ y = eK 1 ∨ y = eK 2 ∨ y = eK 1 := by simpa [l0] using hy
   rcases hy' with rfl | rfl | rfl | rfl <;> exact ⟨in0 _ _, by simp [eK, ByteArray.size]⟩
 ·simp
 ·rw [List.mem_singleton.1 hx]; simp [l0]
theorem page0 {W w : World} (hC : Go.Proofs.YtpleiklodomgiaaGreatDoor.W.Con W) (hS : Go.Proofs.YtpleiklodomgiaaGreatDoor.M.Spl W) (b r : Nat) (hb : Below W.heap.size W w) (hR : RowsV w (some ⟨r, 0, none⟩) [⟨some ⟨b, 0, none⟩, 4, l0⟩]) :
  Calls Tryz.prog 14 #[.agg #[.int .i64 1, .int .i64 9, .slice none 0 0, .int .i64 1, .string ⟨#[]⟩, .string ⟨#[]⟩, .slice none 0 0, .bool false, .int .i64 2, .string ⟨#[]⟩], .agg #[.bool true, .int .i64 2, .slice none 0 0, .string ⟨#[]⟩], .slice (some ⟨r, 0, none⟩) 1 1] w fun e w' => ∃ (a : Addr) (c : Nat), e = .returned (.tuple #[.slice (some a) 1 c, .bool true]) ∧ w'.cell? a = some (.int .i64 3) ∧ Below w.heap.size w w' := by
 refine (page_any hC hS q0 none none 0 0 ⟨#[]⟩ true (eK 2) (some ⟨r, 0, none⟩) _ 1 w hb (isQ0 w) (fun _ => in0 2 w) hR).mono ?_
 rintro e w' ⟨A', c', zs, ys, rfl, hcap, hrj, hzs, hsd, -, -, hbw⟩
 rw [coll0] at hsd
 obtain ⟨-, z, hz, hz3⟩ := behind0 hsd
 have hb2 : behind q0.desc true (eK 2).key ys = [z] := hz
 rw [hb2] at hzs ⊢
 have hzs' : zs = [z] := hzs
 subst hzs'
 cases A' with
 | none => have := hrj.row.nil rfl; cases this
 | some a =>
  have h0 := hrj.row.cells a rfl 0 (.int .i64 z.at_) rfl
  have e0 : a.add 0 = a := by unfold Addr.add; simp
  rw [e0, hz3] at h0
  exact ⟨a, c', rfl, h0, hbw⟩
theorem answer0 {W w : World} (hC : Go.Proofs.YtpleiklodomgiaaGreatDoor.W.Con W) (hS : Go.Proofs.YtpleiklodomgiaaGreatDoor.M.Spl W) (b r : Nat) (hb : Below W.heap.size W w) (hR : RowsV w (some ⟨r, 0, none⟩) [⟨some ⟨b, 0, none⟩, 4, l0⟩]) :
  Calls Tryz.prog 11 #[.agg #[.int .i64 1, .int .i64 9, .slice none 0 0, .int .i64 1, .string ⟨#[]⟩, .string ⟨#[]⟩, .slice none 0 0, .bool false, .int .i64 2, .string ⟨#[]⟩], .slice (some ⟨r, 0, none⟩) 1 1] w fun e w' => ∃ (A : Option Addr) (c : Nat), e = .returned (.slice A 3 c) ∧ Below w.heap.size w w' := by
 refine (answer_any hC hS q0 none none 0 0 ⟨#[]⟩ (some ⟨r, 0, none⟩) _ 1 w hb (isQ0 w) hR).mono ?_
 rintro e w' ⟨A', c', ys, rfl, -, -, hsd, -, hbw⟩
 rw [coll0] at hsd
 rw [(behind0 hsd).1]
 exact ⟨A', c', rfl, hbw⟩
set_option maxRecDepth 20000 in
set_option maxHeartbeats 4000000 in
theorem alive11 {W : World} (hC : Go.Proofs.YtpleiklodomgiaaGreatDoor.W.Con W) (hS : Go.Proofs.YtpleiklodomgiaaGreatDoor.M.Spl W) (w : World) (hb : Below W.heap.size W w) : Calls Tryz.prog 5 #[] w fun e w' => e = .returned (.bool true) ∧ Below w.heap.size w w' := by
 obtain ⟨oE, hoE⟩ : ∃ o, o = Obj.cells #[.int .i64 3, .slice none 0 0, .string ⟨#[]⟩, .int .i64 1, .slice none 0 0, .string ⟨#[]⟩, .int .i64 2, .slice none 0 0, .string ⟨#[]⟩, .int .i64 1, .slice none 0 0, .string ⟨#[]⟩] 26 := ⟨_, rfl⟩
 obtain ⟨oQ, hoQ⟩ : ∃ o, o = Obj.cells #[.int .i64 1, .int .i64 9, .slice none 0 0, .int .i64 1, .string ⟨#[]⟩, .string ⟨#[]⟩, .slice none 0 0, .bool false, .int .i64 2, .string ⟨#[]⟩] 37 := ⟨_, rfl⟩
 obtain ⟨oR, hoR⟩ : ∃ o, o = Obj.cells #[.slice (some ⟨w.heap.size, 0, none⟩) 4 4] 39 := ⟨_, rfl⟩
 obtain ⟨V, hV⟩ : ∃ V, V = ((w.alloc oE).alloc oQ).alloc oR := ⟨_, rfl⟩
 have hb0 : Below w.heap.size w V := by rw [hV]; exact below_alloc (below_alloc (below_alloc (Below.refl _ _) _) _) _
 have hE : V.heap[w.heap.size]? = some oE := by rw [hV]; exact blk_alloc (blk_alloc (Go.heap_alloc_new w oE) _) _
 have hQ : V.heap[w.heap.size + 1]? = some oQ := by rw [hV]; exact blk_alloc (box1 w oE oQ) _
 have hR : V.heap[w.heap.size + 1 + 1]? = some oR := by rw [hV]; have := Go.heap_alloc_new ((w.alloc oE).alloc oQ) oR; simpa using this
 have HP := Aside0.mk (page0 hC hS w.heap.size (w.heap.size + 1 + 1) (below_step hb hb0) (rows0 (hE.trans (congrArg some hoE)) (hR.trans (congrArg some hoR))))
 have HA : Aside0 (∀ V', Below V.heap.size V V' → Calls Tryz.prog 11 #[.agg #[.int .i64 1, .int .i64 9, .slice none 0 0, .int .i64 1, .string ⟨#[]⟩, .string ⟨#[]⟩, .slice none 0 0, .bool false, .int .i64 2, .string ⟨#[]⟩], .slice (some ⟨V'.heap.size, 0, none⟩) 1 1] (V'.alloc oR) fun e w' => ∃ (A : Option Addr) (c : Nat), e = .returned (.slice A 3 c) ∧ Below (V'.alloc oR).heap.size (V'.alloc oR) w') := ⟨fun V' h => by
  have hb1 := below_step h (below_alloc (Below.refl _ V') oR)
  exact answer0 hC hS w.heap.size V'.heap.size (below_step (below_step hb hb0) hb1) (rows0 ((heap_below hb1 hE).trans (congrArg some hoE)) ((Go.heap_alloc_new V' oR).trans (congrArg some hoR)))⟩
 have HQc := Aside0.mk (fun V' (h : Below V.heap.size V V') => qcells ((heap_below h hQ).trans (congrArg some hoQ)))
 have HB0 := Aside0.mk hb0
 have HV := Aside0.mk hV
 clear hE hQ hR hb0 hC hS hb hV
 subst hoE hoQ hoR
 go_enter Tryz.func5, Tryz.ntmps5
 go_wp2_with fail
 rw [← HV.out]
 clear HV
 ((refine (HP.out).mono ?_); rintro e w1 ⟨a, c, rfl, hc, hb1⟩)
 have HB1 := Aside0.mk hb1
 obtain ⟨m0, m1, m2, m3, m4, m5, m6, m7, m8, m9⟩ := HQc.out w1 hb1
 have HCc := Aside0.mk hc
 clear hb1 hc HP
 go_wp2_with fail
 clear m0 m1 m2 m3 m4 m5 m6 m7 m8 m9
 ((refine (HA.out w1 HB1.out).mono ?_); rintro e w2 ⟨A2, c2, rfl, hb2⟩)
 have hb3 := below_step (below_alloc (Below.refl _ w1) (.cells #[.slice (some ⟨w.heap.size, 0, none⟩) 4 4] 39)) hb2
 have hc := pw_cell_below hb3 HCc.out
 have HB2 := Aside0.mk (below_step HB1.out hb3)
 clear hb2 hb3
 go_wp2
 go_ret
 exact ⟨rfl, below_step HB0.out HB2.out⟩
end Go.Proofs.YtpleiklodomgiaaGreatDoor.Y
end
section
namespace Go.Proofs.YtpleiklodomgiaaGreatDoor.Y
open Go.RowKit Go.Proofs.YtpleiklodomgiaaGreatDoorW.PrintWords Go.Proofs.YtpleiklodomgiaaGreatDoorW.PrintLast Go.Proofs.YtpleiklodomgiaaGreatDoorW.PrintMore Go.Proofs.YtpleiklodomgiaaGreatDoor.B Go.Proofs.YtpleiklodomgiaaGreatDoor.Reg Go.Proofs.YtpleiklodomgiaaGreatDoor.C Go.Proofs.YtpleiklodomgiaaGreatDoor.Q Go.Proofs.YtpleiklodomgiaaGreatDoor.CQ
theorem wpList_append_at {P : Program} {ops : Array Oper} {Q : Exit → Act → World → Prop} {rest : List Oper} {o : Oper} {a : Act} {w w1 : World} {v y v1 : Value} (hg : o.guard = none) (s x : Operand) (t : TypeId)
  (ho : o.op = .call { callee := .builtin .append, args := #[s, x], argTypes := #[t, t] }) (hs : a.eval s = v) (hx : a.eval x = y) (hrun : ∀ ty, (Builtin.append_ #[t, t] ty #[v, y]).run P w = .ok v1 w1)
  (h : wpList P ops Q rest (a.put o.dst v1) w1) : wpList P ops Q (o :: rest) a w := by
 refine wpList_plain hg fun K hK => ?_
 have hr : (execOp a.eval o).run P w = .ok (.value v1) w1 := by
  unfold execOp
  simp only [ho, resolve, invoke, builtin, Sem.run_bind, Sem.run_pure, Result.andThen_ok, List.map_toArray, List.map_cons, List.map_nil, hs, hx, hrun]
 unfold Oper.wp
 rw [hr]
 exact hK _ _ h
end Go.Proofs.YtpleiklodomgiaaGreatDoor.Y
end
section
namespace Go.Proofs.YtpleiklodomgiaaGreatDoor.Y
open Go.RowKit Go.Proofs.YtpleiklodomgiaaGreatDoorW.PrintWords Go.Proofs.YtpleiklodomgiaaGreatDoorW.PrintLast Go.Proofs.YtpleiklodomgiaaGreatDoorW.PrintMore Go.Proofs.YtpleiklodomgiaaGreatDoor.B Go.Proofs.YtpleiklodomgiaaGreatDoor.C Go.Proofs.YtpleiklodomgiaaGreatDoor.Q Go.Proofs.YtpleiklodomgiaaGreatDoor.CQ
def rowVals (rs : List Rw) : List Value := rs.map fun r => .slice r.A r.xs.length r.c
theorem up_nodup {desc : Bool} {l : List Key} (h : Up (cmpO desc) l) : l.Nodup := by
 unfold Up at h
 refine h.imp fun {a b} hab e => ?_
 rw [e, ((cmpO_c desc).eq0 b b).2 rfl] at hab
 cases hab
theorem count_one {k : Key} : ∀ {zs : List Ent}, (zs.map Ent.key).Nodup → k ∈ zs.map Ent.key → (zs.filter fun z => sameK z.key k).length = 1
 | [], _, h => by simp at h
 | z :: zs, hn, hm => by
  rw [List.map_cons, List.nodup_cons] at hn
  by_cases e : z.key = k
  ·have hno : (zs.filter fun z => sameK z.key k) = [] := by
    rw [List.filter_eq_nil_iff]
    intro y hy hs
    have := (sameK_iff _ _).1 hs
    exact hn.1 (by rw [e, ← this]; exact List.mem_map_of_mem hy)
   rw [List.filter_cons_of_pos (by rw [e]; exact (sameK_iff _ _).2 rfl), hno]
   rfl
  ·have hm2 : k ∈ zs.map Ent.key := by
    rcases List.mem_cons.1 hm with h | h
    ·exact absurd h.symm e
    ·exact h
   rw [List.filter_cons_of_neg (by intro hs; exact e ((sameK_iff _ _).1 hs))]
   exact count_one hn.2 hm2
end Go.Proofs.YtpleiklodomgiaaGreatDoor.Y
end
section
namespace Go.Proofs.YtpleiklodomgiaaGreatDoor.Y
open Go.RowKit Go.Proofs.YtpleiklodomgiaaGreatDoorW.PrintWords Go.Proofs.YtpleiklodomgiaaGreatDoorW.PrintLast Go.Proofs.YtpleiklodomgiaaGreatDoorW.PrintMore Go.Proofs.YtpleiklodomgiaaGreatDoor.B Go.Proofs.YtpleiklodomgiaaGreatDoor.Reg Go.Proofs.YtpleiklodomgiaaGreatDoor.C Go.Proofs.YtpleiklodomgiaaGreatDoor.Q Go.Proofs.YtpleiklodomgiaaGreatDoor.CQ
theorem nodup_len : ∀ {l m : List Key}, l.Nodup → (∀ k ∈ l, k ∈ m) → l.length ≤ m.length
 | [], _, _, _ => Nat.zero_le _
 | y :: l, m, hn, hs => by
  rw [List.nodup_cons] at hn
  obtain ⟨a, b, rfl⟩ := List.append_of_mem (hs y (List.mem_cons_self ..))
  have ih := nodup_len (l := l) (m := a ++ b) hn.2 (fun k hk => by
   rcases List.mem_append.1 (hs k (List.mem_cons_of_mem _ hk)) with h | h
   ·exact List.mem_append_left _ h
   ·rcases List.mem_cons.1 h with h | h
    ·subst h; exact absurd hk hn.1
    ·exact List.mem_append_right _ h)
  rw [List.length_append] at ih ⊢
  rw [List.length_cons, List.length_cons]
  omega
theorem coll_60 (q : Qv) : ∀ rs : List Rw, (∀ r ∈ rs, r.xs.length ≤ 60) → (coll q rs).length ≤ rs.length * 60
 | [], _ => Nat.zero_le _
 | r :: rs, h => by
  have ih := coll_60 q rs (fun x hx => h x (List.mem_cons_of_mem _ hx))
  have h1 := List.length_filter_le (keepB q) r.xs
  have h2 := h r (List.mem_cons_self ..)
  unfold coll at *
  rw [List.flatMap_cons, List.length_append, List.length_cons]
  omega
end Go.Proofs.YtpleiklodomgiaaGreatDoor.Y
end
section
namespace Go.Proofs.YtpleiklodomgiaaGreatDoor.Y
open Go.RowKit Go.Proofs.YtpleiklodomgiaaGreatDoorW.PrintWords Go.Proofs.YtpleiklodomgiaaGreatDoorW.PrintLast Go.Proofs.YtpleiklodomgiaaGreatDoorW.PrintMore Go.Proofs.YtpleiklodomgiaaGreatDoor.B Go.Proofs.YtpleiklodomgiaaGreatDoor.C Go.Proofs.YtpleiklodomgiaaGreatDoor.Q Go.Proofs.YtpleiklodomgiaaGreatDoor.CQ
set_option maxRecDepth 20000 in
set_option maxHeartbeats 8000000 in
theorem refAnswer_any {W : World} (hD : Go.Proofs.YtpleiklodomgiaaGreatDoor.W.Dec W) (q : Qv) (A1 A2 : Option Addr) (c1 c2 : Nat) (page : ByteArray) (A : Option Addr) (rs : List Rw) (cap : Nat) (w : World) (hb : Below W.heap.size W w) (hq : IsQ w q A1 c1 A2 c2) (hR : RowsV w A rs) (h6 : rs.length ≤ 6) (h60 : ∀ r ∈ rs, r.xs.length ≤ 60) :
  Calls Tryz.prog 9 #[qV q A1 c1 A2 c2 page, .slice A rs.length cap] w fun e w' => ∃ A' c' zs, e = .returned (.slice A' (List.length zs) c') ∧ zs.length ≤ c' ∧ RJ w' A' zs ∧ Sd q.desc (coll q rs) zs ∧ Below w.heap.size w w' := by
 obtain ⟨i0, hi, hz0, hz1, hz2⟩ := infoE3
 obtain ⟨V, hV⟩ : ∃ V, V = w.alloc (.cells #[.int .i64 q.fr, .int .i64 q.till, .slice A1 q.ms.length c1, .int .i64 q.T.f0, .string q.T.f1, .string q.T.f2, .slice A2 q.T.f3.length c2, .bool q.desc, .int .i64 q.lim, .string page] 37) := ⟨_, rfl⟩
 obtain ⟨bq, hbq⟩ : ∃ b, b = w.heap.size := ⟨_, rfl⟩
 have hb0 : Below w.heap.size w V := by rw [hV]; exact below_alloc (Below.refl _ _) _
 have HBx : Aside0 (∀ V', Below V.heap.size V V' → V'.heap[bq]? = some (.cells #[.int .i64 q.fr, .int .i64 q.till, .slice A1 q.ms.length c1, .int .i64 q.T.f0, .string q.T.f1, .string q.T.f2, .slice A2 q.T.f3.length c2, .bool q.desc, .int .i64 q.lim, .string page] 37 (0, 0))) := ⟨fun V' h => heap_below h (by rw [hV, hbq]; exact Go.heap_alloc_new _ _)⟩
 have HB0 := Aside0.mk hb0
 have HR := Aside0.mk (hR.below hb0)
 have HQ := Aside0.mk (fun (x : Ent) (V' : World) (h : Below V.heap.size V V') (hx : x.In V') (hl : x.line.size ≤ 1000) => refQuery_m hD q A1 A2 c1 c2 page x V' (below_step (below_step hb hb0) h) ((hq.below hb0).below h) hx hl)
 have HSo := Aside0.mk (fun (A : Option Addr) (c : Nat) (xs : List Ent) (V' : World) (hr : RowV V' A xs) (hi : ∀ x ∈ xs, x.In V') (hl : xs.length ≤ 1000) => refSort_any q.desc A xs c V' hr hi hl)
 have HWd := Aside0.mk hV
 have HJd := Aside0.mk hbq
 have H6 : Aside0 ((coll q rs).length ≤ 360) := ⟨by have := coll_60 q rs h60; omega⟩
 clear h6 h60 hV hbq hb0 hR hq hb hD
 have HQk := Aside0.mk (fun x : Ent => (rfl : keepB q x = keepB q x))
 obtain ⟨kp, hkp⟩ : ∃ kp : Ent → Bool, kp = keepB q := ⟨_, rfl⟩
 have HKp := Aside0.mk hkp
 rw [← hkp] at HQ
 clear hkp HQk
 unfold qV at HQ ⊢
 unfold Ent.val at HQ
 go_enter Tryz.func9, Tryz.ntmps9
 go_wp2
 try rw [← HWd.out]
 try rw [← HJd.out]
 have HVB : Aside0 (Below V.heap.size V V) := ⟨Below.refl _ _⟩
 go_loopw [5, 12] (fun t5 t12 wr => ∃ (i : Nat) (v : Value) (acc : List Ent), i ≤ rs.length ∧ t5 = v ∧ t12 = .int .i64 (i : Int) ∧ Aside0 (Below V.heap.size V wr) ∧ Aside0 (OwnE wr V.heap.size v acc) ∧ Aside0 (acc = coll q (rs.take i))) (fun _ t12 _ => rs.length - (intOf t12).toNat)
 case atStart => exact ⟨0, _, [], Nat.zero_le _, rfl, rfl, HVB, ⟨OwnE.nil _ _⟩, ⟨rfl⟩⟩
 case round =>
  clear HVB
  obtain ⟨i, v, acc, hi, hv, rfl, HB, HO, HA⟩ := hrel
  replace hv := hv.symm
  subst hv
  by_cases hlt : i < rs.length
  ·obtain ⟨a, rfl⟩ := HR.out.some hlt
   have k0 := (HR.out.below HB.out).cells a rfl i hlt
   have hrw := HR.out.rows _ (List.getElem_mem hlt)
   have hrl := HR.out.few.2 _ (List.getElem_mem hlt)
   have HCt : Aside0 (coll q (rs.take (i + 1)) = acc ++ (rs[i].xs.filter kp)) := ⟨by rw [coll_take q rs i hlt, HA.out, HKp.out]⟩
   obtain ⟨r, hr⟩ : ∃ r, r = rs[i] := ⟨_, rfl⟩
   rw [← hr] at k0 hrw hrl HCt
   have HRr := Aside0.mk hrw
   have HRl := Aside0.mk hrl
   have Hlt := Aside0.mk hlt
   have HAl : Aside0 (acc.length ≤ 10000) := ⟨by
    rw [HA.out]
    have h1 := coll_len q (rs.take i) (fun r hr => HR.out.few.2 r (List.mem_of_mem_take hr))
    have h2 := HR.out.few.1
    rw [List.length_take] at h1
    have h3 := Hlt.out
    have h4 : min i rs.length ≤ 9 := by omega
    have h5 : min i rs.length * 1000 ≤ 9 * 1000 := Nat.mul_le_mul_right _ h4
    omega⟩
   clear hr hrw hrl HA
   obtain ⟨rA, rc, rx⟩ := r
   dsimp only at k0 HCt HRr HRl
   go_wp2
   clear k0 hlt hi
   have HF0 : Aside0 (acc = acc ++ ((rx.take 0).filter kp)) := ⟨by simp⟩
   obtain ⟨wo, hwo⟩ : ∃ wo, wo = wr := ⟨_, rfl⟩
   subst hwo
   go_loopw [5, 18] (fun t5 t18 wr => ∃ (j : Nat) (v : Value) (ac : List Ent), j ≤ rx.length ∧ t5 = v ∧ t18 = .int .i64 (j : Int) ∧ Aside0 (Below V.heap.size V wr) ∧ Aside0 (OwnE wr V.heap.size v ac) ∧ Aside0 (ac = acc ++ ((rx.take j).filter kp))) (fun _ t18 _ => rx.length - (intOf t18).toNat)
   case atStart => exact ⟨0, _, acc, Nat.zero_le _, rfl, rfl, HB, HO, HF0⟩
   case round =>
    clear HB HO HF0
    obtain ⟨j, v, ac, hj, hv, rfl, HB, HO, HA⟩ := hrel
    replace hv := hv.symm
    subst hv
    by_cases hlt : j < rx.length
    ·obtain ⟨a2, ha2, k0, k1, k2⟩ := (HRr.out.1.below HB.out).get j hlt
     have hxi := HRr.out.2 _ (List.getElem_mem hlt)
     have HFt := Aside0.mk (filt_take q rx j hlt)
     obtain ⟨x, hx⟩ : ∃ x, x = rx[j] := ⟨_, rfl⟩
     rw [← hx] at k0 k1 k2 hxi HFt
     have HXi := Aside0.mk hxi
     obtain ⟨W2, hW2⟩ : ∃ W2, W2 = wr.alloc (.cells #[.int .i64 x.at_, .slice x.A x.ls.length x.c, .string x.line] 26) := ⟨_, rfl⟩
     obtain ⟨bx, hbx⟩ : ∃ b, b = wr.heap.size := ⟨_, rfl⟩
     have hb1 : Below wr.heap.size wr W2 := by rw [hW2]; exact below_alloc (Below.refl _ _) _
     have HB2 := Aside0.mk (below_step HB.out hb1)
     have HO2 := Aside0.mk (HO.out.below hb1)
     have XA : Aside0 (BoxE W2 bx x) := ⟨by rw [hW2, hbx]; exact Go.heap_alloc_new _ _⟩
     have HWd := Aside0.mk hW2
     have HJd := Aside0.mk hbx
     have Hlt := Aside0.mk hlt
     have hqc := HBx.out wr HB.out
     have Q0 : ∀ o : Obj, (wr.alloc o).cell? ⟨bq, 0, none⟩ = some _ := fun o => blk_cell (heap_below (below_alloc (Below.refl _ wr) o) hqc) 0
     have Q1 : ∀ o : Obj, (wr.alloc o).cell? ⟨bq, 1, none⟩ = some _ := fun o => blk_cell (heap_below (below_alloc (Below.refl _ wr) o) hqc) 1
     have Q2 : ∀ o : Obj, (wr.alloc o).cell? ⟨bq, 2, none⟩ = some _ := fun o => blk_cell (heap_below (below_alloc (Below.refl _ wr) o) hqc) 2
     have Q3 : ∀ o : Obj, (wr.alloc o).cell? ⟨bq, 3, none⟩ = some _ := fun o => blk_cell (heap_below (below_alloc (Below.refl _ wr) o) hqc) 3
     have Q4 : ∀ o : Obj, (wr.alloc o).cell? ⟨bq, 4, none⟩ = some _ := fun o => blk_cell (heap_below (below_alloc (Below.refl _ wr) o) hqc) 4
     have Q5 : ∀ o : Obj, (wr.alloc o).cell? ⟨bq, 5, none⟩ = some _ := fun o => blk_cell (heap_below (below_alloc (Below.refl _ wr) o) hqc) 5
     have Q6 : ∀ o : Obj, (wr.alloc o).cell? ⟨bq, 6, none⟩ = some _ := fun o => blk_cell (heap_below (below_alloc (Below.refl _ wr) o) hqc) 6
     have Q7 : ∀ o : Obj, (wr.alloc o).cell? ⟨bq, 7, none⟩ = some _ := fun o => blk_cell (heap_below (below_alloc (Below.refl _ wr) o) hqc) 7
     have Q8 : ∀ o : Obj, (wr.alloc o).cell? ⟨bq, 8, none⟩ = some _ := fun o => blk_cell (heap_below (below_alloc (Below.refl _ wr) o) hqc) 8
     have Q9 : ∀ o : Obj, (wr.alloc o).cell? ⟨bq, 9, none⟩ = some _ := fun o => blk_cell (heap_below (below_alloc (Below.refl _ wr) o) hqc) 9
     have hcall := HQ.out x W2 HB2.out (in_below (in_below HXi.out.1 HB.out) hb1) HXi.out.2
     obtain ⟨k, hk⟩ : ∃ k, k = kp x := ⟨_, rfl⟩
     rw [← hk] at hcall
     rw [← HKp.out, ← hk] at HFt
     have HCa := Aside0.mk hcall
     subst ha2
     clear hx hW2 hbx hb1 hqc hcall hk hxi hj
     go_wp2_with fail
     try rw [← HWd.out]
     try rw [← HJd.out]
     clear Q0 Q1 Q2 Q3 Q4 Q5 Q6 Q7 Q8 Q9 k0 k1 k2 HWd HJd hlt
     ((refine (HCa.out).mono ?_); rintro e W3 ⟨rfl, hb3⟩)
     have HB := Aside0.mk (below_step HB2.out hb3)
     have HO := Aside0.mk (HO2.out.below hb3)
     have XA := Aside0.mk (XA.out.below hb3)
     clear hb3 HB2 HO2 HCa
     cases k with
     | true =>
      rw [if_pos rfl] at HFt
      have HA2 : Aside0 (ac ++ [x] = acc ++ ((rx.take (j + 1)).filter kp)) := ⟨by rw [HA.out, HFt.out, List.append_assoc]⟩
      have HAc : Aside0 (ac.length ≤ 20000) := ⟨by
       rw [HA.out, List.length_append]
       have h1 := List.length_filter_le kp (rx.take j)
       have h2 := HRl.out
       have h3 := HAl.out
       rw [List.length_take] at h1
       omega⟩
      have x0 := XA.out.c0
      have x1 := XA.out.c1
      have x2 := XA.out.c2
      obtain ⟨Av, cv, hv, -, -, -⟩ := HO.out.row
      subst hv
      go_wp2_with (at_builtin; refine wpList_append_own _ rfl _ _ 39 rfl V.heap.size 26 i0 _ 3 48 Tryz.underlying39 hi hz0 hz1 hz2 rfl (by omega) _ _ _ rfl (World.ownsRow.alloc HO.out (.cells #[.int .i64 x.at_, .slice x.A x.ls.length x.c, .string x.line] 26)) ⟨W3.heap.size, 0, none⟩ 1 1 x.cells rfl ?qc1 ?qc2 ?qc3 ?qc4 ?qc5 ?qc6 ?_)
      case qc1 => rfl
      case qc2 =>
       intro j' u hj'
       rw [add_at, Nat.zero_add]
       refine (blk_cell (Go.heap_alloc_new W3 _) j').trans ?_
       show (x.cells.toArray)[j']? = _
       rw [List.getElem?_toArray]
       exact hj'
      case qc3 => exact cells_one x
      case qc4 => have := HAc.out; unfold maxLen; omega
      case qc5 => have := HAc.out; omega
      case qc6 => have := HB.out.size; simp; omega
      intro v' w1 hown hgrow hnil
      have hb4 := below_alloc (Below.refl _ W3) (.cells #[.int .i64 x.at_, .slice x.A x.ls.length x.c, .string x.line] 26)
      have HO4 : Aside0 (OwnE w1 V.heap.size v' (ac ++ [x])) := ⟨by unfold OwnE; rw [entC_app, List.length_append]; simpa [entC] using hown⟩
      have HB4 : Aside0 (Below V.heap.size V w1) := ⟨(below_step HB.out hb4).grown hgrow (below_step HB.out hb4).size (fun k hk => owns_block HO.out k hk)⟩
      clear hown hgrow hnil hb4 x0 x1 x2 HO HB
      go_wp2
      go_roundw
      case rel => exact ⟨j + 1, v', ac ++ [x], by have := Hlt.out; omega, rfl, by rw [w64y _ (by have := Hlt.out; have := HRl.out; omega)]; rfl, HB4, HO4, HA2⟩
      case measure => have h1 := Hlt.out; have h2 := HRl.out; rw [w64y _ (by omega)]; simp [intOf]; omega
     | false =>
      rw [if_neg (by decide), List.append_nil] at HFt
      have HA2 : Aside0 (ac = acc ++ ((rx.take (j + 1)).filter kp)) := ⟨by rw [HA.out, HFt.out]⟩
      go_wp2
      go_roundw
      case rel => exact ⟨j + 1, _, ac, by have := Hlt.out; omega, rfl, by rw [w64y _ (by have := Hlt.out; have := HRl.out; omega)]; rfl, HB, HO, HA2⟩
      case measure => have h1 := Hlt.out; have h2 := HRl.out; rw [w64y _ (by omega)]; simp [intOf]; omega
    ·obtain rfl : j = rx.length := by omega
     have HA2 : Aside0 (ac = coll q (rs.take (i + 1))) := ⟨by rw [HA.out, HCt.out, List.take_length]⟩
     go_wp2
     go_roundw
     case rel => exact ⟨i + 1, _, ac, by have := Hlt.out; omega, rfl, by rw [w64y _ (by have := Hlt.out; have := HR.out.few.1; omega)]; rfl, HB, HO, HA2⟩
     case measure => have h1 := Hlt.out; have h2 := HR.out.few.1; rw [w64y _ (by omega)]; simp [intOf]; omega
  ·obtain rfl : i = rs.length := by omega
   have hacc : acc = coll q rs := by rw [HA.out, List.take_length]
   have hlen : acc.length ≤ 360 := by rw [hacc]; exact H6.out
   have hmem : ∀ y ∈ acc, (y.In wr ∧ y.line.size ≤ 1000) := fun y hy => by
    rw [hacc] at hy
    obtain ⟨r, hr, hy, hk⟩ := coll_mem.1 hy
    exact ⟨in_below ((HR.out.rows r hr).2 y hy).1 HB.out, ((HR.out.rows r hr).2 y hy).2⟩
   obtain ⟨Av, cv, hv, hlc, hrow, -⟩ := HO.out.row
   subst hv
   have HSr := Aside0.mk (HSo.out Av cv acc wr hrow (fun y hy => (hmem y hy).1) (by omega))
   have q7 : wr.cell? ⟨bq, 7, none⟩ = some (.bool q.desc) := blk_cell (HBx.out wr HB.out) 7
   have Hacc := Aside0.mk hacc
   have Hlen := Aside0.mk hlen
   have Hmem := Aside0.mk hmem
   clear hacc hlen hmem hrow hlc HSo HQ HA hi hlt
   go_wp2_with fail
   ((refine (HSr.out).mono ?_); rintro e w4 ⟨v', rfl, ho, h5⟩)
   obtain ⟨A', c', hv', hlc', hrow', -⟩ := ho.row
   have Hlc := Aside0.mk hlc'
   have Hres : Aside0 (RJ w4 A' (sortR q.desc acc) ∧ Sd q.desc (coll q rs) (sortR q.desc acc) ∧ Below V.heap.size V w4) := ⟨⟨hrow', fun z hz => ⟨in_below (Hmem.out z (sortR_mem hz)).1 h5, (Hmem.out z (sortR_mem hz)).2⟩, by have h1 := sortR_len q.desc acc; have := Hlen.out; omega⟩,
    ⟨sortR_up q.desc acc, fun k => by rw [sortR_keys, Hacc.out]⟩, below_step HB.out h5⟩
   have Hv := Aside0.mk hv'
   clear ho h5 hrow' hv' hlc' q7
   go_wp2
   go_ret
   exact ⟨A', c', sortR q.desc acc, by rw [Hv.out]; rfl, Hlc.out, Hres.out.1, Hres.out.2.1, below_step HB0.out Hres.out.2.2⟩
end Go.Proofs.YtpleiklodomgiaaGreatDoor.Y
end
section
namespace Go.Proofs.YtpleiklodomgiaaGreatDoor.Y
open Go.RowKit Go.Shelf Go.Proofs.YtpleiklodomgiaaGreatDoorW.PrintWords Go.Proofs.YtpleiklodomgiaaGreatDoorW.PrintLast Go.Proofs.YtpleiklodomgiaaGreatDoorW.PrintMore Go.Proofs.YtpleiklodomgiaaGreatDoor.B Go.Proofs.YtpleiklodomgiaaGreatDoor.C Go.Proofs.YtpleiklodomgiaaGreatDoor.Q Go.Proofs.YtpleiklodomgiaaGreatDoor.CQ
def passB (desc has : Bool) (t k : Key) : Bool := !has || aheadO desc t k
theorem behind_eq (desc has : Bool) (t : Key) (ys : List Ent) : behind desc has t ys = ys.filter (fun y => passB desc has t y.key) := by
 unfold behind passB aheadO
 cases has with
 | true => simp
 | false => simp only [Bool.false_eq_true, if_false, Bool.not_false, Bool.true_or]; exact (List.filter_eq_self.2 (fun _ _ => rfl)).symm
end Go.Proofs.YtpleiklodomgiaaGreatDoor.Y
end
section
namespace Go.Proofs.YtpleiklodomgiaaGreatDoor.Y
open Go.RowKit Go.Proofs.YtpleiklodomgiaaGreatDoorW.PrintWords Go.Proofs.YtpleiklodomgiaaGreatDoorW.PrintLast Go.Proofs.YtpleiklodomgiaaGreatDoorW.PrintMore Go.Proofs.YtpleiklodomgiaaGreatDoor.B Go.Proofs.YtpleiklodomgiaaGreatDoor.C Go.Proofs.YtpleiklodomgiaaGreatDoor.Q Go.Proofs.YtpleiklodomgiaaGreatDoor.CQ
section
variable {κ : Type}
def chunks (n : Nat) (l : List κ) : List (List κ) :=
 if h : l.length ≤ n + 1 then [l] else l.take (n + 1) :: chunks n (l.drop (n + 1))
termination_by l.length
decreasing_by rw [List.length_drop]; omega
theorem chunks_last {n : Nat} {l : List κ} (h : l.length ≤ n + 1) : chunks n l = [l] := by rw [chunks.eq_def, dif_pos h]
theorem chunks_more {n : Nat} {l : List κ} (h : ¬ l.length ≤ n + 1) : chunks n l = l.take (n + 1) :: chunks n (l.drop (n + 1)) := by rw [chunks.eq_def, dif_neg h]
theorem chunks_flat (n : Nat) : ∀ (k : Nat) (l : List κ), l.length ≤ k → (chunks n l).flatten = l
 | 0, l, h => by rw [chunks_last (by omega)]; simp
 | k + 1, l, h => by
  by_cases hl : l.length ≤ n + 1
  ·rw [chunks_last hl]; simp
  ·rw [chunks_more hl, List.flatten_cons, chunks_flat n k _ (by rw [List.length_drop]; omega), List.take_append_drop]
theorem chunks_at (n : Nat) : ∀ (k : Nat) (l : List κ), l.length ≤ k → ∀ (i : Nat) (c : List κ), (chunks n l)[i]? = some c → c.length ≤ n + 1 ∧ (i + 1 < (chunks n l).length → c.length = n + 1) ∧ (0 < i → 0 < c.length) ∧ (l ≠ [] → 0 < c.length)
 | 0, l, h, i, c, hc => by
  rw [chunks_last (by omega)] at hc ⊢
  cases i with
  | zero => simp at hc; subst hc; refine ⟨by omega, by simp, by simp, fun hne => ?_⟩; exact absurd (List.eq_nil_of_length_eq_zero (by omega)) hne
  | succ i => simp at hc
 | k + 1, l, h, i, c, hc => by
  by_cases hl : l.length ≤ n + 1
  ·rw [chunks_last hl] at hc ⊢
   cases i with
   | zero => simp at hc; subst hc; exact ⟨hl, by simp, by simp, fun hne => List.length_pos_iff.2 hne⟩
   | succ i => simp at hc
  ·rw [chunks_more hl] at hc ⊢
   cases i with
   | zero =>
    simp at hc
    subst hc
    rw [List.length_take]
    exact ⟨by omega, fun _ => by omega, by simp, fun _ => by omega⟩
   | succ i =>
    simp only [List.getElem?_cons_succ] at hc
    have ih := chunks_at n k (l.drop (n + 1)) (by rw [List.length_drop]; omega) i c hc
    have hne : l.drop (n + 1) ≠ [] := by intro e; have := congrArg List.length e; rw [List.length_drop] at this; simp at this; omega
    exact ⟨ih.1, fun h => ih.2.1 (by simpa using h), fun _ => ih.2.2.2 hne, fun _ => ih.2.2.2 hne⟩
theorem chunks_len (n : Nat) : ∀ (k : Nat) (l : List κ), l.length ≤ k → (chunks n l).length = max ((l.length + n) / (n + 1)) 1
 | 0, l, h => by
  rw [chunks_last (by omega), show l.length = 0 by omega]
  have : (0 + n) / (n + 1) = 0 := Nat.div_eq_of_lt (by omega)
  rw [this]; rfl
 | k + 1, l, h => by
  by_cases hl : l.length ≤ n + 1
  ·rw [chunks_last hl]
   have : (l.length + n) / (n + 1) ≤ 1 := by
    rw [Nat.div_le_iff_le_mul_add_pred (by omega)]; omega
   show 1 = _
   omega
  ·rw [chunks_more hl, List.length_cons, chunks_len n k _ (by rw [List.length_drop]; omega), List.length_drop]
   have e : l.length + n = (l.length - (n + 1) + n) + (n + 1) := by omega
   rw [e, Nat.add_div_right _ (by omega)]
   have h1 : 1 ≤ (l.length - (n + 1) + n) / (n + 1) := by
    rw [Nat.le_div_iff_mul_le (by omega)]; omega
   omega
end
theorem behind_keys (desc has : Bool) (t : Key) (ys : List Ent) : (behind desc has t ys).map Ent.key = (ys.map Ent.key).filter (passB desc has t) := by
 rw [behind_eq, List.filter_map]; rfl
def BoxM (w : World) (j : Nat) (has : Bool) (x : Ent) : Prop := w.heap[j]? = some (.cells #[.bool has, .int .i64 x.at_, .slice x.A x.ls.length x.c, .string x.line] 28 (0, 0))
theorem BoxM.below {w w' : World} {j : Nat} {has : Bool} {x : Ent} (h : BoxM w j has x) (hb : Below w.heap.size w w') : BoxM w' j has x := heap_below hb h
theorem BoxM.cells {w : World} {j : Nat} {has : Bool} {x : Ent} (h : BoxM w j has x) : w.cell? ⟨j, 0, none⟩ = some (.bool has) ∧ w.cell? ⟨j, 1, none⟩ = some (.int .i64 x.at_) ∧ w.cell? ⟨j, 2, none⟩ = some (.slice x.A x.ls.length x.c) ∧ w.cell? ⟨j, 3, none⟩ = some (.string x.line) := mcells h
theorem behind_key {desc : Bool} {K a b : List Key} {k : Key} (hU : Up (cmpO desc) K) (hK : K = a ++ k :: b) : K.filter (passB desc true k) = b := by
 have hc := cmpO_c desc
 unfold Up at hU
 rw [hK] at hU
 rw [List.pairwise_append] at hU
 obtain ⟨_, h2, h3⟩ := hU
 rw [List.pairwise_cons] at h2
 have hp : ∀ y, passB desc true k y = decide (cmpO desc k y = -1) := fun y => by unfold passB aheadO; simp
 have ha : a.filter (passB desc true k) = [] := by
  rw [List.filter_eq_nil_iff]
  intro y hy
  rw [hp, decide_eq_true_iff]
  have h := h3 y hy k (List.mem_cons_self ..)
  have := hc.anti y k
  rw [this, h]; decide
 have hk : passB desc true k k = false := by
  rw [hp, decide_eq_false_iff_not, (hc.eq0 k k).2 rfl]; decide
 have hb : b.filter (passB desc true k) = b := by
  rw [List.filter_eq_self]
  intro y hy
  rw [hp, decide_eq_true_iff]
  exact h2.1 y hy
 rw [hK, List.filter_append, ha, List.filter_cons_of_neg (by rw [hk]; decide), hb, List.nil_append]
noncomputable def least (p : Nat → Prop) : Nat := Classical.epsilon (fun m => p m ∧ ∀ k, p k → m ≤ k)
theorem least_is {p : Nat → Prop} : ∀ (m : Nat), p m → ∃ m, p m ∧ ∀ k, p k → m ≤ k := by
 intro m
 induction m using Nat.strongRecOn with
 | _ m ih =>
  intro hm
  by_cases h : ∃ k, k < m ∧ p k
  ·obtain ⟨k, hk, hp⟩ := h
   exact ih k hk hp
  ·exact ⟨m, hm, fun k hp => Nat.le_of_not_lt fun hk => h ⟨k, hk, hp⟩⟩
theorem least_spec {p : Nat → Prop} (h : ∃ m, p m) : p (least p) ∧ ∀ k, p k → least p ≤ k := by
 obtain ⟨m, hm⟩ := h
 exact Classical.epsilon_spec (p := fun m => p m ∧ ∀ k, p k → m ≤ k) (least_is m hm)
end Go.Proofs.YtpleiklodomgiaaGreatDoor.Y
end
section
namespace Go.Proofs.YtpleiklodomgiaaGreatDoor.It
end Go.Proofs.YtpleiklodomgiaaGreatDoor.It
namespace Go.Proofs.YtpleiklodomgiaaGreatDoor.W
end Go.Proofs.YtpleiklodomgiaaGreatDoor.W
namespace Go.Proofs.YtpleiklodomgiaaGreatDoor.Y
open Go.RowKit Go.Shelf Go.Proofs.YtpleiklodomgiaaGreatDoorW.PrintWords Go.Proofs.YtpleiklodomgiaaGreatDoorW.PrintLast Go.Proofs.YtpleiklodomgiaaGreatDoorW.PrintMore Go.Proofs.YtpleiklodomgiaaGreatDoor.B Go.Proofs.YtpleiklodomgiaaGreatDoor.C Go.Proofs.YtpleiklodomgiaaGreatDoor.Q Go.Proofs.YtpleiklodomgiaaGreatDoor.CQ Go.Proofs.YtpleiklodomgiaaGreatDoor.W Go.Proofs.YtpleiklodomgiaaGreatDoor.It
attribute [local go_sem] Oper.semAt_some
theorem pages_any (q : Qv) (A1 A2 : Option Addr) (c1 c2 : Nat) (page : ByteArray) (A : Option Addr) (n cap : Nat) (w : World) : Calls Tryz.prog 16 #[qV q A1 c1 A2 c2 page, .slice A n cap] w fun e w' => e = .returned (.func (.func 29) #[] #[.pointer (some ⟨w.heap.size, 0, none⟩), .pointer (some ⟨w.heap.size + 1, 0, none⟩)]) ∧ w' = (w.alloc (.cells #[.int .i64 q.fr, .int .i64 q.till, .slice A1 q.ms.length c1, .int .i64 q.T.f0, .string q.T.f1, .string q.T.f2, .slice A2 q.T.f3.length c2, .bool q.desc, .int .i64 q.lim, .string page] 37)).alloc (.cells #[.slice A n cap] 23) := by
 unfold qV
 go_enter Tryz.func16, Tryz.ntmps16
 go_wp2
 go_ret
 exact ⟨rfl, rfl⟩
structure ToldP (G : World → Prop) (M : World → Nat → Prop) : Prop where
 told : Go.Proofs.YtpleiklodomgiaaGreatDoor.W.Told G M
 free : ∀ A B r, G A → ¬ M A r → A.grownBy B (some r) → ∀ k, M B k → M A k
theorem aside_stop {p : Prop} (h : Aside0 p) : p := h.out
def pk (r : Rw) : List Key := r.xs.map Ent.key
def encR (r : Rw) : Array Value := #[.slice r.A r.xs.length r.c]
def PxR (M : World → Nat → Prop) (base : Nat) (r : Rw) (W : World) : Prop := base < W.heap.size ∧ RowV W r.A r.xs ∧ ∀ a, r.A = some a → base < a.block ∧ a.block < W.heap.size ∧ ¬ M W a.block
def SR (N : Nat) (K : List Key) (cs : List Ent) (ps : List Rw) : Prop := ps.map pk = chunks N K ∧ ∀ r ∈ ps, ∀ y ∈ r.xs, y ∈ cs
def SpR (N : Nat) (K : List Key) (cs : List Ent) (ps : List Rw) : Prop := ps.map pk <+: chunks N K ∧ ∀ r ∈ ps, ∀ y ∈ r.xs, y ∈ cs
theorem cell_block {w : World} {p : Addr} {u : Value} (h : w.cell? p = some u) : ∃ o : Obj, w.heap[p.block]? = some o ∧ o.isCells = true := by
 unfold World.cell? at h
 cases hb : w.heap[p.block]? with
 | none => rw [hb] at h; cases h
 | some o =>
  refine ⟨o, rfl, ?_⟩
  rw [hb] at h
  cases o <;> first | rfl | (simp at h)
theorem cell_same {w w' : World} {p : Addr} {u : Value} (h : w.cell? p = some u) (hs : w'.heap[p.block]? = w.heap[p.block]?) : w'.cell? p = some u := by
 unfold World.cell? at h ⊢
 rw [hs]; exact h
theorem row_kpB {M : World → Nat → Prop} {n₀ : Nat} {W W' : World} {A : Option Addr} {xs : List Ent} (h : RowV W A xs) (hk : KpB M n₀ W W') (hn : ∀ a, A = some a → ¬ M W a.block) : RowV W' A xs :=
 ⟨h.nil, fun a ha j u hu => by
  have hc := h.cells a ha j u hu
  obtain ⟨o, ho, hcl⟩ := cell_block hc
  rw [add_block] at ho
  refine cell_same hc ?_
  rw [add_block, ho]
  exact hk.same a.block o ho (hn a ha) (.inl hcl)⟩
theorem row_own {W W' : World} {A : Option Addr} {xs : List Ent} {row : Option Nat} (h : RowV W A xs) (hg : W.grownBy W' row) (hr : ∀ r, row = some r → ∃ o : Obj, W.heap[r]? = some o ∧ o.isCells = false) : RowV W' A xs :=
 ⟨h.nil, fun a ha j u hu => by
  have hc := h.cells a ha j u hu
  obtain ⟨o, ho, hcl⟩ := cell_block hc
  refine hg.cell hc fun e => ?_
  obtain ⟨o', h1, h2⟩ := hr _ e.symm
  rw [ho] at h1
  cases h1
  rw [hcl] at h2
  cases h2⟩
theorem grown_set' (w : World) (g i : Nat) (u : Value) : w.grownBy (w.setCell ⟨g, i, none⟩ u) (some g) :=
 ⟨rfl, rfl, rfl, by simp [World.setCell], fun k hk hr => Below.heap_setCell w ⟨g, i, none⟩ u k (fun e => hr (by rw [e]))⟩
theorem put4 {w : World} {j : Nat} {a b c d : Value} {t : TypeId} (h : w.heap[j]? = some (.cells #[a, b, c, d] t (0, 0))) (x y z u : Value) :
  ((((w.setCell ⟨j, 0, none⟩ x).setCell ⟨j, 1, none⟩ y).setCell ⟨j, 2, none⟩ z).setCell ⟨j, 3, none⟩ u).heap[j]? = some (.cells #[x, y, z, u] t (0, 0)) := blk_set (blk_set (blk_set (blk_set h 0 x) 1 y) 2 z) 3 u
theorem grown_put4 (w : World) (j : Nat) (x y z u : Value) : w.grownBy ((((w.setCell ⟨j, 0, none⟩ x).setCell ⟨j, 1, none⟩ y).setCell ⟨j, 2, none⟩ z).setCell ⟨j, 3, none⟩ u) (some j) :=
 World.grownBy.trans (World.grownBy.trans (World.grownBy.trans (grown_set' w j 0 x) (grown_set' _ j 1 y)) (grown_set' _ j 2 z)) (grown_set' _ j 3 u)
def PI (J : List Rw → World → Prop) (M : World → Nat → Prop) (bm : Nat) (desc : Bool) (N : Nat) (K : List Key) (cs : List Ent) (m : Nat) (wr : World) : Prop :=
 ∃ (pre : List Rw) (has : Bool) (t : Ent) (rest a : List Key), J pre wr ∧ BoxM wr bm has t ∧ ¬ M wr bm ∧ (has = true → t ∈ cs) ∧ K = a ++ rest ∧ K.filter (passB desc has t.key) = rest ∧ pre.map pk ++ chunks N rest = chunks N K ∧ (∀ r ∈ pre, ∀ y ∈ r.xs, y ∈ cs) ∧ (has = true → rest ≠ []) ∧ rest.length = m
theorem mem_in {w : World} {q : Qv} {A : Option Addr} {rs : List Rw} (h : RowsV w A rs) {t : Ent} (ht : t ∈ coll q rs) : t.In w := by
 obtain ⟨r, hr, hy, _⟩ := coll_mem.1 ht
 exact ((h.rows r hr).2 t hy).1
theorem page_next {N : Nat} {K rest : List Key} {cs : List Ent} {pre : List Rw} {r : Rw} (hch : pre.map pk ++ chunks N rest = chunks N K) (hpk : pk r = rest.take (N + 1)) (hcs : ∀ r ∈ pre, ∀ y ∈ r.xs, y ∈ cs) (hr : ∀ y ∈ r.xs, y ∈ cs) :
  (∀ p ∈ pre ++ [r], ∀ y ∈ p.xs, y ∈ cs) ∧ SpR N K cs (pre ++ [r]) ∧ (rest.length ≤ N + 1 → (pre ++ [r]).map pk = chunks N K) ∧ (¬ rest.length ≤ N + 1 → (pre ++ [r]).map pk ++ chunks N (rest.drop (N + 1)) = chunks N K) := by
 have hall : ∀ p ∈ pre ++ [r], ∀ y ∈ p.xs, y ∈ cs := fun p hp => by
  rcases List.mem_append.1 hp with h | h
  ·exact hcs p h
  ·rw [List.mem_singleton.1 h]; exact hr
 have h1 : rest.length ≤ N + 1 → (pre ++ [r]).map pk = chunks N K := fun h => by
  rw [← hch, chunks_last h, List.map_append, List.map_singleton, hpk, List.take_of_length_le h]
 have h2 : ¬ rest.length ≤ N + 1 → (pre ++ [r]).map pk ++ chunks N (rest.drop (N + 1)) = chunks N K := fun h => by
  rw [← hch, chunks_more h, List.map_append, List.map_singleton, hpk, List.append_assoc]; rfl
 refine ⟨hall, ⟨?_, hall⟩, h1, h2⟩
 by_cases h : rest.length ≤ N + 1
 ·rw [h1 h]; exact List.prefix_refl _
 ·exact ⟨_, h2 h⟩
set_option maxRecDepth 20000 in
set_option maxHeartbeats 16000000 in
theorem pages_seq {W0 : World} (hC : Go.Proofs.YtpleiklodomgiaaGreatDoor.W.Con W0) (hS : Go.Proofs.YtpleiklodomgiaaGreatDoor.M.Spl W0) (n : Nat) (hn : 5 ≤ n) (q : Qv) (A1 A2 : Option Addr) (c1 c2 : Nat) (A : Option Addr) (rs : List Rw) (cap bq br N : Nat) (K : List Key) (hN : q.lim.toNat = N + 1) (hK : ∀ ys, Sd q.desc (coll q rs) ys → ys.map Ent.key = K) (hU : Up (cmpO q.desc) K) (G : World → Prop) (M : World → Nat → Prop) (hM : ToldP G M) (w : World) (hb : Below W0.heap.size W0 w) (hq : IsQ w q A1 c1 A2 c2) (hR : RowsV w A rs) (hbq : BoxQ w bq q A1 c1 A2 c2) (hbr : Boxed w br 23 (.slice A rs.length cap)) (n₀ : Nat) :
  SeqP Fence.wide n Tryz.prog 29 #[.pointer (some ⟨bq, 0, none⟩), .pointer (some ⟨br, 0, none⟩)] encR (KpM G M n₀) (fun V => G V ∧ Below w.heap.size w V) (SR N K (coll q rs)) (SpR N K (coll q rs)) (PxR M) w n₀ := by
 intro l J Jx W hB hn0 hJ hJx hΦ hJb hY h0
 obtain ⟨cs, hcs⟩ : ∃ cs, cs = coll q rs := ⟨_, rfl⟩
 rw [← hcs] at hY ⊢
 have HCs := Aside0.mk hcs
 refine callsIn_of_wp Tryz.func29 rfl trivial ?_ rfl
 simp only [Tryz.ntmps29, List.size_toArray, List.length_cons, List.length_nil, Nat.reduceAdd, Nat.reduceSub, Array.replicate_succ, Array.replicate_zero, List.push_toArray, List.append_toArray, List.nil_append, List.cons_append]
 have hn1 : 1 ≤ n := by omega
 gi_wp2
 obtain ⟨V0, hV0⟩ : ∃ V, V = W.alloc (.cells #[.bool false, .int .i64 0, .slice none 0 0, .string ⟨#[]⟩] 28) := ⟨_, rfl⟩
 rw [← hV0]
 obtain ⟨bm, hbm⟩ : ∃ b, b = W.heap.size := ⟨_, rfl⟩
 rw [← hbm]
 have hg0 := (hΦ _ _ h0).1
 have H0 : Aside0 (∃ m, PI J M bm q.desc N K cs m V0) := ⟨⟨K.length, [], false, ⟨0, none, 0, [], ⟨#[]⟩⟩, K, [], by rw [hV0]; exact hJ.alloc _ h0, by rw [hV0, hbm]; exact Go.heap_alloc_new _ _, fun h => by
  rw [hV0] at h
  have := hM.told.lt hg0 ((hM.told.alloc _ hg0).2 _ h)
  omega, fun h => (by cases h), rfl, by
   rw [List.filter_eq_self]; intro y _; rfl, rfl, fun r hr => (by cases hr), fun h => (by cases h), rfl⟩⟩
 rw [← hbm] at hJ hJx hJb hY
 have HJ := Aside0.mk hJ
 have HJb := Aside0.mk hJb
 have HY := Aside0.mk hY
 have HΦ := Aside0.mk hΦ
 have HM := Aside0.mk hM
 have HK := Aside0.mk hK
 have HU := Aside0.mk hU
 have Hn0 : Aside0 (n₀ ≤ bm) := ⟨by omega⟩
 have HN := Aside0.mk hN
 have HPg := Aside0.mk (fun (has : Bool) (t : Ent) (V : World) (h : Below w.heap.size w V) (ht : has = true → t.In V) => page_any hC hS q A1 A2 c1 c2 ⟨#[]⟩ has t A rs cap V (below_step hb h) (hq.below h) ht (hR.below h))
 have HIn := Aside0.mk (fun (t : Ent) (ht : t ∈ cs) (V : World) (h : Below w.heap.size w V) => mem_in (hR.below h) (hcs ▸ ht))
 have HQc := Aside0.mk (fun (V : World) (h : Below w.heap.size w V) => (hbq.below h).cells)
 have HRc : Aside0 (∀ V, Below w.heap.size w V → V.cell? ⟨br, 0, none⟩ = some (.slice A rs.length cap)) := ⟨fun V h => Boxed.cell (show Boxed V br _ _ from heap_below h hbr)⟩
 have HWd := Aside0.mk hV0
 have HJd := Aside0.mk hbm
 clear hV0 hbm hg0 hJ hJx hJb hY hΦ hM hK hU hn0 hN hC hS hq hR hbq hbr hb hB h0 hcs
 unfold qV markV at HPg
 gi_loopw [] (fun wr => ∃ m, PI J M bm q.desc N K cs m wr) (fun wr => least (fun m => PI J M bm q.desc N K cs m wr))
 case atStart => exact H0.out
 case round =>
  clear H0 HWd HJd
  have hls := (least_spec hrel).1
  have Hls := Aside0.mk (least_spec hrel).2
  obtain ⟨lm, hlm⟩ : ∃ lm, lm = least (fun m => PI J M bm q.desc N K cs m wr) := ⟨_, rfl⟩
  rw [← hlm] at hls Hls
  have HLm := Aside0.mk hlm
  clear hlm hrel
  obtain ⟨pre, has, t, rest, a0, hj, hbx, hnm, hti, hKa, hKf, hch, hpcs, hne, hm⟩ := hls
  obtain ⟨hg, hbw⟩ := HΦ.out _ _ hj
  have hP := HPg.out has t wr hbw (fun hh => HIn.out t (hti hh) wr hbw)
  obtain ⟨m0, m1, m2, m3, m4, m5, m6, m7, m8, m9⟩ := HQc.out wr hbw
  obtain ⟨e0, e1, e2, e3⟩ := hbx.cells
  have r0 := HRc.out wr hbw
  have HP := Aside0.mk (callsIn_wide (n := n - 1).2 hP)
  have Hj := Aside0.mk (And.intro hj (And.intro hbx (And.intro hnm (And.intro hg hbw))))
  have HKs := Aside0.mk (And.intro hti (And.intro hKa (And.intro hKf (And.intro hch (And.intro hpcs (And.intro hne hm))))))
  clear hj hbx hnm hg hbw hti hKa hKf hch hpcs hne hm hP
  gi_wp2_with (refine ⟨trivial, ?_⟩; gi_at_call 14; refine (HP.out).mono ?_; rintro e W2 ⟨A', c', zs, ys, rfl, hcap, hrj, hzs, hsd, hin, hfr, hb2⟩; replace hzs := Aside0.mk hzs; refine aside_stop ?_)
  replace hzs := hzs.out
  clear e0 e1 e2 e3 m0 m1 m2 m3 m4 m5 m6 m7 m8 m9 r0 HP
  obtain ⟨hj, hbx, hnm, hg, hbw⟩ := Hj.out
  obtain ⟨hti, hKa, hKf, hch, hpcs, hne, hm⟩ := HKs.out
  have hkeys : (behind q.desc has t.key ys).map Ent.key = rest := by rw [behind_keys, HK.out ys hsd, hKf]
  have hlen : (behind q.desc has t.key ys).length = rest.length := by have := congrArg List.length hkeys; simpa using this
  have hpk : zs.map Ent.key = rest.take (N + 1) := by rw [hzs, HN.out, List.map_take, hkeys]
  have hgr : wr.grownBy W2 none := grown_of_below hb2 none
  have hj2 : J pre W2 := HJ.out pre wr W2 none hj hgr (fun r e => by cases e)
  have hMw : ∀ k, M W2 k → M wr k := (HM.out.told.own wr W2 none hg hgr (fun r e => by cases e)).2
  have hbx2 : BoxM W2 bm has t := hbx.below hb2
  have hnm2 : ¬ M W2 bm := fun h => hnm (hMw _ h)
  have hlt : bm < wr.heap.size := blk_lt hbx
  have hzc : ∀ y ∈ zs, y ∈ cs := fun y hy => by
   rw [hzs, behind_eq] at hy
   rw [HCs.out]
   exact hin y (List.mem_filter.1 (List.mem_of_mem_take hy)).1
  obtain ⟨hall, hsp, hend, hmore⟩ := page_next (cs := cs) hch (show pk ⟨A', c', zs⟩ = rest.take (N + 1) from hpk) hpcs hzc
  have hpx : PxR M bm ⟨A', c', zs⟩ W2 := ⟨Nat.lt_of_lt_of_le hlt hb2.size, hrj.row, fun a ha => ⟨Nat.lt_of_lt_of_le hlt (hfr a ha).1, (hfr a ha).2, fun h => by
   have h1 := HM.out.told.lt hg (hMw _ h)
   have h2 := (hfr a ha).1
   omega⟩⟩
  rw [hlen, HN.out]
  obtain ⟨al, hal⟩ : ∃ b, b = decide (rest.length ≤ N + 1) := ⟨_, rfl⟩
  rw [← hal]
  have hYd := HY.out pre ⟨A', c', zs⟩ W2 hj2 hsp hpx
  obtain ⟨fn, tmps, assign, body, hy, hR⟩ := hYd
  simp only [encR] at hy
  have HR := Aside0.mk hR
  have H2 := Aside0.mk (And.intro hj2 (And.intro hbx2 (And.intro hnm2 (And.intro hpk (And.intro hal (And.intro hlt hfr))))))
  have HRow : Aside0 (RowV W2 A' zs) := ⟨hrj.row⟩
  have HNm : Aside0 (∀ a, A' = some a → ¬ M W2 a.block) := ⟨fun a ha => (hpx.2.2 a ha).2.2⟩
  have HAll := Aside0.mk (And.intro hall (And.intro hsp (And.intro hend hmore)))
  have HZl : Aside0 (zs.length ≤ 20000) := ⟨hrj.few⟩
  have HZc := Aside0.mk hzc
  have hzl : zs.length = min (N + 1) rest.length := by have := congrArg List.length hpk; simpa using this
  have Hzl := Aside0.mk hzl
  have e0 := hbx2.cells.1
  clear hj hbx hnm hg hbw hti hKa hKf hch hpcs hne hm hkeys hlen hpk hgr hj2 hMw hbx2 hnm2 hlt hzc hall hsp hend hmore hpx hR hcap hrj hzs hsd hin hfr hb2 Hj hzl
  have HRl := Aside0.mk hal
  obtain ⟨zl, hzl'⟩ : ∃ k, k = zs.length := ⟨_, rfl⟩
  rw [← hzl'] at hy ⊢
  have HZ := Aside0.mk hzl'
  clear hal hzl'
  by_cases hz : zl = 0
  ·have hr0 : rest.length = 0 := by have h1 := Hzl.out; have h2 := HZ.out; omega
   obtain ⟨hti, hKa, hKf, hch, hpcs, hne, hm⟩ := HKs.out
   have hhas : has = false := by
    cases has with
    | false => rfl
    | true => exact absurd (List.eq_nil_of_length_eq_zero hr0) (hne rfl)
   have hal1 : al = true := by rw [HRl.out]; exact decide_eq_true (by omega)
   have Hend : Aside0 ((pre ++ [(⟨A', c', zs⟩ : Rw)]).map pk = chunks N K) := ⟨HAll.out.2.2.1 (by omega)⟩
   subst hhas
   subst hal1
   subst hz
   clear hti hKa hKf hch hpcs hne hm hr0
   refine Aside0.mk ?_
   gi_wp2
   refine HR.out.mono ?_
   rintro e W3 (⟨rfl, hJ3, hk3⟩ | ⟨rfl, hJx3, _⟩)
   ·have HJ3 := Aside0.mk hJ3
    clear hJ3 hk3
    gi_wp2
    refine bodyPost_ret (results_none rfl _ _ _) rfl ?_
    exact ⟨⟨_, rfl⟩, .inl ⟨_, ⟨Hend.out, HAll.out.1⟩, HJ3.out⟩⟩
   ·have HJx3 := Aside0.mk hJx3
    clear hJx3
    gi_wp2
    refine bodyPost_ret (results_none rfl _ _ _) rfl ?_
    exact ⟨⟨_, rfl⟩, .inr ⟨_, HAll.out.2.1, HJx3.out⟩⟩
  ·have d0 : ((zl : Int) == 0) = false := by
    rw [beq_eq_false_iff_ne]; omega
   have Hz := Aside0.mk hz
   clear hz
   refine Aside0.mk ?_
   cases al with
   | true =>
    gi_wp2
    refine HR.out.mono ?_
    rintro e W3 (⟨rfl, hJ3, hk3⟩ | ⟨rfl, hJx3, _⟩)
    ·have HJ3 := Aside0.mk hJ3
     clear hJ3 hk3
     gi_wp2
     refine bodyPost_ret (results_none rfl _ _ _) rfl ?_
     exact ⟨⟨_, rfl⟩, .inl ⟨_, ⟨HAll.out.2.2.1 (of_decide_eq_true HRl.out.symm), HAll.out.1⟩, HJ3.out⟩⟩
    ·have HJx3 := Aside0.mk hJx3
     clear hJx3
     gi_wp2
     refine bodyPost_ret (results_none rfl _ _ _) rfl ?_
     exact ⟨⟨_, rfl⟩, .inr ⟨_, HAll.out.2.1, HJx3.out⟩⟩
   | false =>
    gi_wp2
    refine HR.out.mono ?_
    rintro e W3 (⟨rfl, hJ3, hk3⟩ | ⟨rfl, hJx3, _⟩)
    ·obtain ⟨hj2, hbx2, hnm2, hpk, hal, hlt, hfr⟩ := H2.out
     have hg2 := (HΦ.out _ _ hj2).1
     have hkb := (hk3 hg2).2
     have hbx3 : BoxM W3 bm has t := hkb.same bm _ hbx2 hnm2 (.inl rfl)
     have hnm3 : ¬ M W3 bm := hkb.not (blk_lt hbx2) hnm2
     have hrow3 := row_kpB HRow.out hkb HNm.out
     have hn1' : ¬ rest.length ≤ N + 1 := of_decide_eq_false hal.symm
     have hzN : zs.length = N + 1 := by have := Hzl.out; omega
     have hzl := HZ.out
     obtain ⟨a3, hA3, k0, k1, k2⟩ := hrow3.get (zs.length - 1) (by omega)
     have hmem : zs[zs.length - 1]'(by omega) ∈ zs := List.getElem_mem _
     have hsplit : zs = zs.take (zs.length - 1) ++ [zs[zs.length - 1]'(by omega)] := by
      conv => lhs; rw [← List.take_append_drop (zs.length - 1) zs]
      congr 1
      rw [List.drop_eq_getElem_cons (by omega), show zs.length - 1 + 1 = zs.length by omega, List.drop_length]
     obtain ⟨z, hz⟩ : ∃ z, z = zs[zs.length - 1]'(by omega) := ⟨_, rfl⟩
     rw [← hz] at k0 k1 k2 hmem hsplit
     obtain ⟨p, hp⟩ : ∃ p, p = zs.length - 1 := ⟨_, rfl⟩
     rw [← hp] at k0 k1 k2
     have ez1 : IntKind.i64.wrap ((zl : Int) - 1) = (p : Int) := by have := HZl.out; rw [IntKind.wrap_i64]; omega
     have ez3 : wrap64 ((zl : Int) - 1) = (p : Int) := by have := HZl.out; unfold wrap64; omega
     have pz : (p : Int) < (zl : Int) := by omega
     have Hm3 := Aside0.mk (And.intro hJ3 (And.intro hbx3 (And.intro hnm3 (And.intro hmem (And.intro hsplit (And.intro hpk (And.intro hn1' (HΦ.out _ _ hJ3).1)))))))
     obtain ⟨x0, x1, x2, x3⟩ := hbx3.cells
     have f0 : W3.frozen? ⟨bm, 0, none⟩ = false := blk_frozen hbx3 0
     have g1 : ∀ x, (W3.setCell ⟨bm, 0, none⟩ x).cell? ⟨bm, 1, none⟩ = some _ := fun x => blk_cell (blk_set hbx3 0 x) 1
     have f1 : ∀ x, (W3.setCell ⟨bm, 0, none⟩ x).frozen? ⟨bm, 1, none⟩ = false := fun x => blk_frozen (blk_set hbx3 0 x) 1
     have g2 : ∀ x y, ((W3.setCell ⟨bm, 0, none⟩ x).setCell ⟨bm, 1, none⟩ y).cell? ⟨bm, 2, none⟩ = some _ := fun x y => blk_cell (blk_set (blk_set hbx3 0 x) 1 y) 2
     have f2 : ∀ x y, ((W3.setCell ⟨bm, 0, none⟩ x).setCell ⟨bm, 1, none⟩ y).frozen? ⟨bm, 2, none⟩ = false := fun x y => blk_frozen (blk_set (blk_set hbx3 0 x) 1 y) 2
     have g3 : ∀ x y u, (((W3.setCell ⟨bm, 0, none⟩ x).setCell ⟨bm, 1, none⟩ y).setCell ⟨bm, 2, none⟩ u).cell? ⟨bm, 3, none⟩ = some _ := fun x y u => blk_cell (blk_set (blk_set (blk_set hbx3 0 x) 1 y) 2 u) 3
     have f3 : ∀ x y u, (((W3.setCell ⟨bm, 0, none⟩ x).setCell ⟨bm, 1, none⟩ y).setCell ⟨bm, 2, none⟩ u).frozen? ⟨bm, 3, none⟩ = false := fun x y u => blk_frozen (blk_set (blk_set (blk_set hbx3 0 x) 1 y) 2 u) 3
     have Hp := Aside0.mk hp
     subst hA3
     clear hj2 hbx2 hnm2 hpk hal hlt hfr hg2 hkb hbx3 hnm3 hrow3 hn1' hzN hzl hmem hsplit hz hp hJ3 hk3 hy e0
     have HPI : Aside0 (PI J M bm q.desc N K cs (rest.drop (N + 1)).length ((((W3.setCell ⟨bm, 0, none⟩ (.bool true)).setCell ⟨bm, 1, none⟩ (.int .i64 z.at_)).setCell ⟨bm, 2, none⟩ (.slice z.A z.ls.length z.c)).setCell ⟨bm, 3, none⟩ (.string z.line))) := ⟨by
      obtain ⟨hJ3, hbx3, hnm3, hmem, hsplit, hpk, hn1', hg3⟩ := Hm3.out
      obtain ⟨hti, hKa, hKf, hch, hpcs, hne, hm⟩ := HKs.out
      have hgr4 := grown_put4 W3 bm (.bool true) (.int .i64 z.at_) (.slice z.A z.ls.length z.c) (.string z.line)
      have hK2 : K = (a0 ++ rest.take (N + 1)) ++ rest.drop (N + 1) := by rw [List.append_assoc, List.take_append_drop]; exact hKa
      have htk : rest.take (N + 1) = (zs.take (zs.length - 1)).map Ent.key ++ [z.key] := by
       rw [← hpk]
       conv => lhs; rw [hsplit]
       rw [List.map_append]; rfl
      have hK3 : K = (a0 ++ (zs.take (zs.length - 1)).map Ent.key) ++ z.key :: rest.drop (N + 1) := by
       rw [hK2, htk]; simp
      exact ⟨_, true, z, rest.drop (N + 1), a0 ++ rest.take (N + 1), HJb.out _ _ _ hJ3 hgr4, put4 hbx3 _ _ _ _, fun h => hnm3 (HM.out.free W3 _ bm hg3 hnm3 hgr4 bm h), fun _ => HZc.out z hmem, hK2, behind_key HU.out hK3, HAll.out.2.2.2 hn1', HAll.out.1, fun _ e => by
       have := congrArg List.length e
       rw [List.length_drop] at this
       simp at this
       omega, rfl⟩⟩
     have HMs : Aside0 ((rest.drop (N + 1)).length < lm) := ⟨by
      rw [List.length_drop, ← HKs.out.2.2.2.2.2.2]
      have := Hm3.out.2.2.2.2.2.2.1
      omega⟩
     gi_wp2
     go_roundw
     case rel => exact ⟨_, HPI.out⟩
     case measure =>
      rw [← HLm.out]
      exact Nat.lt_of_le_of_lt ((least_spec ⟨_, HPI.out⟩).2 _ HPI.out) HMs.out
    ·have HJx3 := Aside0.mk hJx3
     clear hJx3
     gi_wp2
     refine bodyPost_ret (results_none rfl _ _ _) rfl ?_
     exact ⟨⟨_, rfl⟩, .inr ⟨_, HAll.out.2.1, HJx3.out⟩⟩
end Go.Proofs.YtpleiklodomgiaaGreatDoor.Y
end
section
namespace Go.Proofs.YtpleiklodomgiaaGreatDoor.Y
open Go.RowKit Go.Shelf Go.Proofs.YtpleiklodomgiaaGreatDoorW.PrintWords Go.Proofs.YtpleiklodomgiaaGreatDoorW.PrintLast Go.Proofs.YtpleiklodomgiaaGreatDoorW.PrintMore Go.Proofs.YtpleiklodomgiaaGreatDoor.B Go.Proofs.YtpleiklodomgiaaGreatDoor.C Go.Proofs.YtpleiklodomgiaaGreatDoor.Q Go.Proofs.YtpleiklodomgiaaGreatDoor.CQ Go.Proofs.YtpleiklodomgiaaGreatDoor.W Go.Proofs.YtpleiklodomgiaaGreatDoor.It
attribute [local go_sem] Oper.semAt_some
theorem told_rowP (b : Nat) (t e : TypeId) : ToldP (fun W => ∃ v xs, Boxed W b t v ∧ B.Own W (b + 1) e v xs) (fun W k => k = b ∨ ∃ v, Boxed W b t v ∧ v.ownBlock = some k) := by
 refine ⟨told_row b t e, ?_⟩
 rintro A B r ⟨v, xs, hv, ho⟩ hnm hgr k hk
 have hb : (some b : Option Nat) ≠ some r := fun e => by injection e with e; exact hnm (.inl e.symm)
 refine hk.imp id ?_
 rintro ⟨u, hu, hk⟩
 exact ⟨v, hv, by rw [← boxed_inj hu (hv.kept hgr hb)]; exact hk⟩
def SeqOfP (gf : Nat) (lb : Array Value) (S Sp : List Rw → Prop) (w : World) : Prop :=
 ∀ (n : Nat), 5 ≤ n → ∀ (G : World → Prop) (M : World → Nat → Prop), ToldP G M → ∀ (W : World), Below w.heap.size w W → ∀ n₀, SeqP Fence.wide n Tryz.prog gf lb encR (KpM G M n₀) (fun V => G V ∧ Below w.heap.size w V) S Sp (PxR M) W n₀
theorem seqOf_pages {W0 : World} (hC : Go.Proofs.YtpleiklodomgiaaGreatDoor.W.Con W0) (hS : Go.Proofs.YtpleiklodomgiaaGreatDoor.M.Spl W0) (q : Qv) (A1 A2 : Option Addr) (c1 c2 : Nat) (A : Option Addr) (rs : List Rw) (cap bq br N : Nat) (K : List Key) (hN : q.lim.toNat = N + 1) (hK : ∀ ys, Sd q.desc (coll q rs) ys → ys.map Ent.key = K) (hU : Up (cmpO q.desc) K) (w : World) (hb : Below W0.heap.size W0 w) (hq : IsQ w q A1 c1 A2 c2) (hR : RowsV w A rs) (hbq : BoxQ w bq q A1 c1 A2 c2) (hbr : Boxed w br 23 (.slice A rs.length cap)) :
  SeqOfP 29 #[.pointer (some ⟨bq, 0, none⟩), .pointer (some ⟨br, 0, none⟩)] (SR N K (coll q rs)) (SpR N K (coll q rs)) w :=
 fun n hn G M hM W hW n₀ l J Jx W' hB => pages_seq hC hS n hn q A1 A2 c1 c2 A rs cap bq br N K hN hK hU G M hM w hb hq hR hbq hbr n₀ l J Jx W' (below_step hW hB)
theorem map_take_eq {α β : Type} (f : α → β) {ps : List α} {cs : List β} {m : Nat} {x : α} (h : (ps ++ [x]).map f <+: cs) (hm : ps.length = m) : ps.map f = cs.take m := by
 obtain ⟨t, ht⟩ := h
 rw [← ht, List.map_append, List.append_assoc, ← hm, ← List.length_map (f := f), List.take_left]
set_option maxRecDepth 20000 in
set_option maxHeartbeats 8000000 in
theorem gone_rows (N : Nat) (K : List Key) (cs : List Ent) (bq br : Nat) (most : Int) (w : World) (hseq : SeqOfP 29 #[.pointer (some ⟨bq, 0, none⟩), .pointer (some ⟨br, 0, none⟩)] (SR N K cs) (SpR N K cs) w) (hlen : (chunks N K).length ≤ 1000) :
  Calls Tryz.prog 15 #[.func (.func 29) #[] #[.pointer (some ⟨bq, 0, none⟩), .pointer (some ⟨br, 0, none⟩)], .int .i64 most] w fun e w' => ∃ v ps, e = .returned v ∧ B.Own w' w.heap.size 39 v (rowVals ps) ∧ (∀ r ∈ ps, RowV w' r.A r.xs) ∧ ps.map pk = (chunks N K).take most.toNat ∧ (∀ r ∈ ps, ∀ y ∈ r.xs, y ∈ cs) ∧ Below w.heap.size w w' := by
 have eg := enters_of Tryz.func29 (by kernel_rfl) rfl
 obtain ⟨gf, hgf⟩ : ∃ g, g = 29 := ⟨_, rfl⟩
 rw [← hgf] at hseq eg ⊢
 clear hgf
 refine (callsIn_wide (n := 9)).1 ?_
 refine callsIn_of_wp_marks Tryz.func15 rfl trivial ?_ rfl
 simp only [Tryz.ntmps15, List.size_toArray, List.length_cons, List.length_nil, Nat.reduceAdd, Nat.reduceSub, Array.replicate_succ, Array.replicate_zero, List.push_toArray, List.append_toArray, List.nil_append, List.cons_append]
 have hnl : ∀ W, (binOp .eql 49 (.func (.func gf) #[] #[.pointer (some ⟨bq, 0, none⟩), .pointer (some ⟨br, 0, none⟩)]) .nilFunc).run Tryz.prog W = .ok (.bool false) W := fun W => eql_func_nil W Tryz.underlying49 _ _ _
 gi_wp2
 obtain ⟨W0, hW0⟩ : ∃ W0, W0 = ((w.alloc (.cells #[.int .i64 most] 3)).alloc (.cells #[.slice none 0 0] 23)) := ⟨_, rfl⟩
 have hz0 : W0.heap.size = w.heap.size + 2 := by rw [hW0]; simp
 have hb0 : Boxed W0 w.heap.size 3 (.int .i64 most) := by rw [hW0]; exact (Boxed.new w _ _).alloc _
 have hb1 : Boxed W0 (w.heap.size + 1) 23 (.slice none 0 0) := by
  rw [hW0]
  have h := Boxed.new (w.alloc (.cells #[.int .i64 most] 3)) 23 (.slice none 0 0)
  rw [World.size_alloc] at h
  exact h
 have hB0 : Below w.heap.size w W0 := by
  rw [hW0]
  exact ((Below.refl _ w).alloc (Nat.le_refl _) _).alloc (by simp) _
 rw [← hW0]
 clear hW0 hnl
 have hMP := told_rowP (w.heap.size + 1) 23 39
 have hM := hMP.told
 refine range_lawP (F := Fence.wide) rfl (by omega) (gf := gf) (lb := #[.pointer (some ⟨bq, 0, none⟩), .pointer (some ⟨br, 0, none⟩)]) rfl trivial eg
  (hseq (9 - 1) (by omega) _ _ hMP W0 hB0 _) KpM.trans (fun V l o o' _ hlt h hc hw => KpM.book hM V l o o' hlt h hc hw) (Below.refl _ _) (fun _ => rfl)
  (fun pre W => Boxed W w.heap.size 3 (.int .i64 most) ∧ (∃ v, Boxed W (w.heap.size + 1) 23 v ∧ B.Own W (w.heap.size + 1 + 1) 39 v (rowVals pre) ∧ v.ownBlock ≠ some (W0.heap.size + 2) ∧ ∀ r ∈ pre, RowV W r.A r.xs ∧ ∀ a, r.A = some a → W0.heap.size + 2 < a.block ∧ a.block < W.heap.size ∧ v.ownBlock ≠ some a.block) ∧ pre.length ≤ most.toNat ∧ Below w.heap.size w W ∧ W0.heap.size ≤ W.heap.size)
  (fun c pre W => c = .exit 0 ∧ (∃ p x v, pre = p ++ [x] ∧ p.length = most.toNat ∧ Boxed W (w.heap.size + 1) 23 v ∧ B.Own W (w.heap.size + 1 + 1) 39 v (rowVals p) ∧ ∀ r ∈ p, RowV W r.A r.xs) ∧ Below w.heap.size w W)
  ?inv ?invx
  (fun pre V h => ⟨by obtain ⟨v, h1, h2, _⟩ := h.2.1; exact ⟨v, _, h1, h2⟩, h.2.2.2.1⟩) ?invb ⟨hb0, ⟨_, hb1, Own.nil _ _ _, by simp [Value.ownBlock], fun r hr => (by cases hr)⟩, by simp, hB0, Nat.le_refl _⟩
  (fun x a' W => a' = { tmps := #[.func (.func gf) #[] #[.pointer (some ⟨bq, 0, none⟩), .pointer (some ⟨br, 0, none⟩)], .int .i64 most, undef, .pointer (some ⟨w.heap.size, 0, none⟩), .slice none 0 0, .pointer (some ⟨w.heap.size + 1, 0, none⟩), .slice x.A x.xs.length x.c, .func (.func gf) #[] #[.pointer (some ⟨bq, 0, none⟩), .pointer (some ⟨br, 0, none⟩)], .bool false, .func (.func gf) #[] #[.pointer (some ⟨bq, 0, none⟩), .pointer (some ⟨br, 0, none⟩)], .slice x.A x.xs.length x.c, undef, undef, undef, undef, undef, undef, undef, undef, undef], defers := [] } ∧ (∃ v xs, Boxed W (w.heap.size + 1) 23 v ∧ B.Own W (w.heap.size + 1 + 1) 39 v xs) ∧ PxR (fun W k => k = w.heap.size + 1 ∨ ∃ v, Boxed W (w.heap.size + 1) 23 v ∧ v.ownBlock = some k) (W0.heap.size + 2) x W)
  ?ax ?assign ?body ?done ?stop
 case inv =>
  rintro pre A B row ⟨h1, ⟨v, h2, h3, h7, h8⟩, h4, h5, h6⟩ hg hr
  have hlo : ∀ k, k < W0.heap.size → some k ≠ row := fun k hk e => by have := (hr k e.symm).1; omega
  refine ⟨h1.kept hg (hlo _ (by omega)), ⟨v, h2.kept hg (hlo _ (by omega)), h3.kept hg ?_, h7, fun r hr2 => ⟨row_own (h8 r hr2).1 hg (fun k e => (hr k e).2), fun a ha => ⟨((h8 r hr2).2 a ha).1, Nat.lt_of_lt_of_le ((h8 r hr2).2 a ha).2.1 hg.size, ((h8 r hr2).2 a ha).2.2⟩⟩⟩, h4, h5.grown hg h5.size (fun k e => by have := (hr k e).1; omega), Nat.le_trans h6 hg.size⟩
  cases hvb : v.ownBlock with
  | none => exact .inl rfl
  | some k =>
   refine .inr fun e => ?_
   obtain ⟨_, o, ho, hc⟩ := hr k e.symm
   obtain ⟨o', h7, h8⟩ := own_block h3 k hvb
   rw [ho] at h7
   cases h7
   rw [hc] at h8
   cases h8
 case invx =>
  rintro c pre A B row ⟨h0, ⟨p, x, v, h1, h4, h2, h3, h8⟩, h5⟩ hg hr
  have hlo : ∀ k, k < W0.heap.size → some k ≠ row := fun k hk e => by have := (hr k e.symm).1; omega
  refine ⟨h0, ⟨p, x, v, h1, h4, h2.kept hg (hlo _ (by omega)), h3.kept hg ?_, fun r hr2 => row_own (h8 r hr2) hg (fun k e => (hr k e).2)⟩, h5.grown hg h5.size (fun k e => by have := (hr k e).1; omega)⟩
  cases hvb : v.ownBlock with
  | none => exact .inl rfl
  | some k =>
   refine .inr fun e => ?_
   obtain ⟨_, o, ho, hc⟩ := hr k e.symm
   obtain ⟨o', h7, h8⟩ := own_block h3 k hvb
   rw [ho] at h7
   cases h7
   rw [hc] at h8
   cases h8
 case invb =>
  rintro pre A C ⟨h1, ⟨v, h2, h3, h7, h8⟩, h4, h5, h6⟩ hg
  refine ⟨h1.kept hg (fun e => by injection e with e; omega), ⟨v, h2.kept hg (fun e => by injection e with e; omega), h3.kept hg (.inr h7), h7, fun r hr2 => ⟨(h8 r hr2).1.grown hg (fun a ha e => by injection e with e; have := ((h8 r hr2).2 a ha).1; omega), fun a ha => ⟨((h8 r hr2).2 a ha).1, Nat.lt_of_lt_of_le ((h8 r hr2).2 a ha).2.1 hg.size, ((h8 r hr2).2 a ha).2.2⟩⟩⟩, h4, h5.grown hg h5.size (fun k e => by injection e with e; omega), Nat.le_trans h6 hg.size⟩
 case ax =>
  rintro x a' u A B row ⟨h1, h2, h3, h4, h5⟩ hg hr
  have hown := hM.own A B row h2 hg (fun r e => (hr r e).2)
  exact ⟨h1, hown.1, Nat.lt_of_lt_of_le h3 hg.size, row_own h4 hg (fun k e => (hr k e).2), fun a ha => ⟨(h5 a ha).1, Nat.lt_of_lt_of_le (h5 a ha).2.1 hg.size, fun h => (h5 a ha).2.2 (hown.2 _ h)⟩⟩
 case assign =>
  rintro l pre x W K hI hP hK
  have hG := hI.2.1
  simp only [encR]
  gi_wp2
  exact hK _ _ (KeepsFrom.refl _ _) (KpM.refl hM _) hI ⟨rfl, by obtain ⟨v, h1, h2, _⟩ := hG; exact ⟨v, _, h1, h2⟩, hP⟩
 case body =>
  rintro l pre x a' W hl ⟨r, hr⟩ ⟨h1, ⟨v, h2, h3, h7, h8⟩, h4, h5, h6⟩ ⟨rfl, -, hp1, hp2, hp3⟩ hpre
  have hplen : pre.length + 1 ≤ 1000 := by
   have := hpre.1.length_le
   simp at this
   omega
  have Hp : Aside0 (W0.heap.size + 2 < W.heap.size ∧ RowV W x.A x.xs ∧ ∀ a, x.A = some a → W0.heap.size + 2 < a.block ∧ a.block < W.heap.size ∧ v.ownBlock ≠ some a.block) := ⟨hp1, hp2, fun a ha => ⟨(hp3 a ha).1, (hp3 a ha).2.1, fun e => (hp3 a ha).2.2 (.inr ⟨v, h2, e⟩)⟩⟩
  have H78 := Aside0.mk (And.intro h7 h8)
  clear hp1 hp2 hp3 h7 h8
  obtain ⟨A, c, hv, hcap, hmx⟩ := h3.shape
  have hvl : (rowVals pre).length = pre.length := by unfold rowVals; simp
  rw [hvl] at hv hcap
  subst hv
  have k0 := h1.cell
  have k1 := h2.cell
  have Hcap := Aside0.mk hcap
  have Hmx := Aside0.mk hmx
  have Hpre := Aside0.mk hpre
  have Hinfo := Aside0.mk (show (Tryz.prog.info? 39).map (fun i => (i.zero, i.size, i.bytes)) = some (some (.slice none 0 0), 1, 24) by kernel_rfl)
  have Hvl := Aside0.mk hvl
  clear hcap hmx hpre hvl
  by_cases hm : most ≤ (pre.length : Int)
  ·have d : decide (most ≤ (pre.length : Int)) = true := decide_eq_true hm
   gi_wp2
   exact ⟨KeepsFrom.refl _ _, rfl, ⟨pre, x, _, rfl, by omega, h2, h3, fun r hr => (H78.out.2 r hr).1⟩, h5⟩
  ·have d : decide (most ≤ (pre.length : Int)) = false := decide_eq_false hm
   have hpm : pre.length + 1 ≤ most.toNat := by omega
   have Hpm := Aside0.mk hpm
   clear hm hpm
   gi_wp2_with (gi_at_builtin; refine wpListIn_append_b (w.heap.size + 1 + 1) rfl _ _ 23 39 (.slice none 0 0) 24 rfl Tryz.underlying23 Hinfo.out rfl (by decide) _ _ rfl (h3.alloc _) (some ⟨W.heap.size, 0, none⟩) 1 1 [.slice x.A x.xs.length x.c] rfl rfl (news_row _ _ _) (fun e => by cases e) (fun u hu => by rw [List.mem_singleton.1 hu]; rfl) (by rw [Hvl.out]; omega) (by rw [World.size_alloc]; omega) ?_; intro v' w1 hown' hgrow hnear; obtain ⟨hc1, hc2, hc3, hc4, hc5, hc6⟩ := collected h2 h3 hown' hgrow hnear; have Hc := Aside0.mk (And.intro hc2 (And.intro hc3 (And.intro hc4 (And.intro hc5 hc6)))); have Hg := Aside0.mk hgrow; obtain ⟨A', c', rfl, _, _⟩ := hown'.shape; have hk1 := hc1.cell; have hf1 := hc1.frozen; clear hc1 hc2 hc3 hc4 hc5 hc6 hown' hgrow hnear)
   have hlx : (rowVals pre ++ [Value.slice x.A x.xs.length x.c]).length = pre.length + 1 := by rw [List.length_append, Hvl.out]; rfl
   have hcc := Hc.out
   rw [hlx] at hcc
   obtain ⟨b2, b3, b4, b5, b6⟩ := hcc
   have hpm := Hpm.out
   rw [Hvl.out]
   have hra : rowVals (pre ++ [x]) = rowVals pre ++ [Value.slice x.A x.xs.length x.c] := by unfold rowVals; rw [List.map_append]; rfl
   have hrow : ∀ (r : Rw), (RowV W r.A r.xs ∧ ∀ a, r.A = some a → W0.heap.size + 2 < a.block ∧ a.block < W.heap.size ∧ (Value.slice A pre.length c).ownBlock ≠ some a.block) → (RowV (w1.setCell ⟨w.heap.size + 1, 0, none⟩ (.slice A' (pre.length + 1) c')) r.A r.xs ∧ ∀ a, r.A = some a → W0.heap.size + 2 < a.block ∧ a.block < (w1.setCell ⟨w.heap.size + 1, 0, none⟩ (.slice A' (pre.length + 1) c')).heap.size ∧ (Value.slice A' (pre.length + 1) c').ownBlock ≠ some a.block) := fun r hr2 =>
    ⟨⟨hr2.1.nil, fun a ha j u hu => by
     have hc := hr2.1.cells a ha j u hu
     obtain ⟨o, ho, hcl⟩ := cell_block hc
     rw [add_block] at ho
     refine cell_same hc ?_
     rw [add_block, ho]
     exact b4 _ _ ho (by have := (hr2.2 a ha).1; omega) (hr2.2 a ha).2.2⟩, fun a ha => ⟨(hr2.2 a ha).1, Nat.lt_of_lt_of_le (hr2.2 a ha).2.1 b5, fun e => by
     rcases b6 _ e with h | h
     ·exact (hr2.2 a ha).2.2 h
     ·have := (hr2.2 a ha).2.1; omega⟩⟩
   refine ⟨⟨b5, fun k o hB hk hc => b4 k o hk (by omega) (own_apart h3 hk hc)⟩, fun _ => ⟨⟨_, _, b2, b3⟩, b5, fun k o hk hmm _ => b4 k o hk (fun e => hmm (.inl e)) (fun e => hmm (.inr ⟨_, h2, e⟩)), ?_⟩, b4 _ _ h1 (by omega) (fun e => by have := (h3.lt _ e).1; omega), ⟨_, b2, by rw [hra]; exact b3, fun e => by
     rcases b6 _ e with h | h
     ·exact H78.out.1 h
     ·have := Hp.out.1; omega, fun r hr2 => by
     rcases List.mem_append.1 hr2 with h | h
     ·exact hrow r (H78.out.2 r h)
     ·rw [List.mem_singleton.1 h]; exact hrow x Hp.out.2⟩, by simp; omega,
    ((h5.alloc h5.size _).grown Hg.out (by have := h5.size; rw [World.size_alloc]; omega) (fun k e => by have := (h3.lt k e).1; omega)).setCell (p := ⟨w.heap.size + 1, 0, none⟩) (by simp) _, Nat.le_trans h6 b5⟩
   rintro k (e | ⟨u, hu, hk⟩)
   ·exact .inl (.inl e)
   ·rw [boxed_inj hu b2] at hk
    exact (b6 k hk).imp (fun e => .inr ⟨_, h2, e⟩) id
 case done =>
  rintro D xs W hD hxs ⟨h1, ⟨v, h2, h3, h7, h8⟩, h4, h5, h6⟩ hK
  have k1 := h2.cell
  have Hxs := Aside0.mk (And.intro hxs (And.intro h7 h8))
  clear h7 h8 hxs
  gi_wp2
  refine ⟨by simp, .inl ⟨_, _, rfl, run_takeDeferred hK, ?_⟩⟩
  refine ⟨_, results_tmp rfl _ _ _, v, xs, rfl, (own_putObj h3 _ hK rfl).weaken (by omega), fun r hr => row_own (Hxs.out.2.2 r hr).1 (grownBy_putObj' W D _) (fun k e => by cases e; exact ⟨_, hK, rfl⟩), ?_, Hxs.out.1.2, h5.trans (belowK_b (w := w) (Nat.le_refl _) W D _ _ (by omega) hK rfl rfl)⟩
  rw [List.take_of_length_le (by rw [← Hxs.out.1.1, List.length_map]; exact h4)]
  exact Hxs.out.1.1
 case stop =>
  rintro D c pre W hD hpre ⟨rfl, ⟨p, x, v, h1, h4, h2, h3, h8⟩, h5⟩ hK
  have k1 := h2.cell
  have Hpre := Aside0.mk (And.intro hpre h8)
  clear hpre h8
  gi_wp2
  refine ⟨by simp, .inl ⟨_, _, rfl, run_takeDeferred hK, ?_⟩⟩
  refine ⟨_, results_tmp rfl _ _ _, v, p, rfl, (own_putObj h3 _ hK rfl).weaken (by omega), fun r hr => row_own (Hpre.out.2 r hr) (grownBy_putObj' W D _) (fun k e => by cases e; exact ⟨_, hK, rfl⟩), ?_, fun r hr => Hpre.out.1.2 r (by rw [h1]; exact List.mem_append_left _ hr), h5.trans (belowK_b (w := w) (Nat.le_refl _) W D _ _ (by omega) hK rfl rfl)⟩
  exact map_take_eq pk (by rw [← h1]; exact Hpre.out.1.1) h4
end Go.Proofs.YtpleiklodomgiaaGreatDoor.Y
end
section
namespace Go.Proofs.YtpleiklodomgiaaGreatDoor.Y
open Go.RowKit Go.Proofs.YtpleiklodomgiaaGreatDoorW.PrintWords Go.Proofs.YtpleiklodomgiaaGreatDoorW.PrintLast Go.Proofs.YtpleiklodomgiaaGreatDoorW.PrintMore Go.Proofs.YtpleiklodomgiaaGreatDoor.B Go.Proofs.YtpleiklodomgiaaGreatDoor.Reg Go.Proofs.YtpleiklodomgiaaGreatDoor.C Go.Proofs.YtpleiklodomgiaaGreatDoor.Q Go.Proofs.YtpleiklodomgiaaGreatDoor.CQ Go.Proofs.YtpleiklodomgiaaGreatDoor.F
structure PgV (w : World) (A : Option Addr) (ps : List Rw) : Prop where
 nil : A = none → ps = []
 cells : ∀ a, A = some a → ∀ i (hi : i < ps.length), w.cell? (a.add i) = some (.slice ps[i].A ps[i].xs.length ps[i].c)
 rows : ∀ r ∈ ps, RowV w r.A r.xs
theorem PgV.below {w w' : World} {A : Option Addr} {ps : List Rw} (h : PgV w A ps) (hb : Below w.heap.size w w') : PgV w' A ps := ⟨h.nil, fun a ha i hi => pw_cell_below hb (h.cells a ha i hi), fun r hr => (h.rows r hr).below hb⟩
theorem PgV.some {w : World} {A : Option Addr} {ps : List Rw} {i : Nat} (h : PgV w A ps) (hi : i < ps.length) : ∃ a, A = some a := by
 cases A with
 | none => rw [h.nil rfl] at hi; simp at hi
 | some a => exact ⟨a, rfl⟩
theorem own_pages {w : World} {base : Nat} {e : TypeId} {v : Value} {ps : List Rw} (h : B.Own w base e v (rowVals ps)) (hr : ∀ r ∈ ps, RowV w r.A r.xs) : ∃ A c, v = .slice A ps.length c ∧ PgV w A ps := by
 have hl : (rowVals ps).length = ps.length := by unfold rowVals; simp
 have h' := h
 rcases h with ⟨rfl, h0⟩ | ⟨g, cap, cur, fz, rfl, hb, hg, _⟩
 ·have : ps = [] := by cases ps with | nil => rfl | cons r ps => simp [rowVals] at h0
  subst this
  exact ⟨none, 0, rfl, fun _ => rfl, fun a ha => (by cases ha), hr⟩
 ·refine ⟨some ⟨g, 0, none⟩, cap, by rw [hl], fun e => (by cases e), fun a ha i hi => ?_, hr⟩
  cases ha
  refine h'.cells (g := g) rfl i _ ?_
  unfold rowVals
  rw [List.getElem?_map, List.getElem?_eq_getElem hi]; rfl
def flatP (ps : List Rw) : List Ent := ps.flatMap Rw.xs
theorem flatP_take (ps : List Rw) (i : Nat) (h : i < ps.length) : flatP (ps.take (i + 1)) = flatP (ps.take i) ++ ps[i].xs := by
 unfold flatP; rw [List.take_succ_eq_append_getElem h, List.flatMap_append]; simp
theorem flatP_keys (ps : List Rw) : (flatP ps).map Ent.key = (ps.map pk).flatten := by
 unfold flatP pk
 rw [List.map_flatMap, List.flatMap_def]
theorem flatP_mem {ps : List Rw} {y : Ent} (h : y ∈ flatP ps) : ∃ r ∈ ps, y ∈ r.xs := by
 unfold flatP at h; exact List.mem_flatMap.1 h
theorem flatP_len (ps : List Rw) (i : Nat) : (flatP (ps.take i)).length ≤ (flatP ps).length := by
 have h : flatP ps = flatP (ps.take i) ++ flatP (ps.drop i) := by unfold flatP; rw [← List.flatMap_append, List.take_append_drop]
 rw [h, List.length_append]; omega
theorem chunks_few (n : Nat) (l : List Key) : (chunks n l).length ≤ l.length + 1 := by
 rw [chunks_len n _ l (Nat.le_refl _)]
 have h : (l.length + n) / (n + 1) < l.length + 1 := by
  rw [Nat.div_lt_iff_lt_mul (by omega)]
  have : (l.length + 1) * (n + 1) = l.length * n + l.length + n + 1 := by rw [Nat.add_mul, Nat.mul_add]; omega
  omega
 omega
theorem page_len {ps : List Rw} {N : Nat} {K : List Key} (h : ps.map pk = chunks N K) (i : Nat) (hi : i < ps.length) : ps[i].xs.length ≤ N + 1 ∧ (i + 1 < ps.length → ps[i].xs.length = N + 1) ∧ (0 < i → 0 < ps[i].xs.length) := by
 have hl : (chunks N K).length = ps.length := by rw [← h, List.length_map]
 have hc : (chunks N K)[i]? = some (pk ps[i]) := by rw [← h, List.getElem?_map, List.getElem?_eq_getElem hi]; rfl
 have ha := chunks_at N _ K (Nat.le_refl _) i _ hc
 have hp : (pk ps[i]).length = ps[i].xs.length := by unfold pk; simp
 rw [hp, hl] at ha
 exact ⟨ha.1, ha.2.1, ha.2.2.1⟩
theorem gone_at {W0 : World} (hC : Go.Proofs.YtpleiklodomgiaaGreatDoor.W.Con W0) (hS : Go.Proofs.YtpleiklodomgiaaGreatDoor.M.Spl W0) (q : Qv) (A1 A2 : Option Addr) (c1 c2 : Nat) (A : Option Addr) (rs : List Rw) (cap N : Nat) (K : List Key) (hN : q.lim.toNat = N + 1) (hK : ∀ ys, Sd q.desc (coll q rs) ys → ys.map Ent.key = K) (hU : Up (cmpO q.desc) K) (hl : K.length ≤ 900) (w : World) (hb : Below W0.heap.size W0 w) (hq : IsQ w q A1 c1 A2 c2) (hR : RowsV w A rs) (most : Int) :
  Calls Tryz.prog 15 #[.func (.func 29) #[] #[.pointer (some ⟨w.heap.size, 0, none⟩), .pointer (some ⟨w.heap.size + 1, 0, none⟩)], .int .i64 most] ((w.alloc (.cells #[.int .i64 q.fr, .int .i64 q.till, .slice A1 q.ms.length c1, .int .i64 q.T.f0, .string q.T.f1, .string q.T.f2, .slice A2 q.T.f3.length c2, .bool q.desc, .int .i64 q.lim, .string ⟨#[]⟩] 37)).alloc (.cells #[.slice A rs.length cap] 23)) fun e w' => ∃ Ap cp ps, e = .returned (.slice Ap (List.length ps) cp) ∧ PgV w' Ap ps ∧ ps.map pk = (chunks N K).take most.toNat ∧ (∀ r ∈ ps, ∀ y ∈ r.xs, y ∈ coll q rs) ∧ Below w.heap.size w w' := by
 obtain ⟨V, hV⟩ : ∃ V, V = (w.alloc (.cells #[.int .i64 q.fr, .int .i64 q.till, .slice A1 q.ms.length c1, .int .i64 q.T.f0, .string q.T.f1, .string q.T.f2, .slice A2 q.T.f3.length c2, .bool q.desc, .int .i64 q.lim, .string ⟨#[]⟩] 37)).alloc (.cells #[.slice A rs.length cap] 23) := ⟨_, rfl⟩
 have hb0 : Below w.heap.size w V := by rw [hV]; exact below_alloc (below_alloc (Below.refl _ _) _) _
 have hbq : BoxQ V w.heap.size q A1 c1 A2 c2 := by rw [hV]; exact box0 _ _ _
 have hbr : Boxed V (w.heap.size + 1) 23 (.slice A rs.length cap) := by rw [hV]; exact box1 _ _ _
 rw [← hV]
 refine (gone_rows N K (coll q rs) w.heap.size (w.heap.size + 1) most V (seqOf_pages hC hS q A1 A2 c1 c2 A rs cap _ _ N K hN hK hU V (below_step hb hb0) (hq.below hb0) (hR.below hb0) hbq hbr) (by have := chunks_few N K; omega)).mono ?_
 rintro e w' ⟨v, ps, rfl, ho, hr, hp, hc, hb2⟩
 obtain ⟨Ap, cp, rfl, hpg⟩ := own_pages ho hr
 exact ⟨Ap, cp, ps, rfl, hpg, hp, hc, below_step hb0 hb2⟩
set_option maxRecDepth 20000 in
set_option maxHeartbeats 32000000 in
theorem modelPages_all (L : List Int) (Al : Option Addr) (cl : Nat) (A : Option Addr) (cap : Nat) (rs : List Rw) (most : Int) (W : World) (hC : Go.Proofs.YtpleiklodomgiaaGreatDoor.W.Con W) (hS : Go.Proofs.YtpleiklodomgiaaGreatDoor.M.Spl W) (hD : Go.Proofs.YtpleiklodomgiaaGreatDoor.W.Dec W) (hL : Kd.C (Kd.int .i64) W Al L.length L) (hR : Rws W A cap rs) (hn : -9223372036854775808 ≤ most ∧ most ≤ 9223372036854775807) :
  Calls Tryz.prog 4 #[.slice Al L.length cl, .slice A rs.length cap, .int .i64 most] W fun e w' => e = .returned (.bool true) ∧ Below W.heap.size W w' := by
 have HAl := Aside0.mk (fun w (h : Below W.heap.size W w) => alive11 hC hS w h)
 have HN := Aside0.mk hn
 clear hn
 obtain ⟨g, hg⟩ : ∃ g, g = greatR L.length rs := ⟨_, rfl⟩
 have HG : Aside0 (∀ V, Below W.heap.size W V → Calls Tryz.prog 6 #[.slice Al L.length cl, .slice A rs.length cap] V fun e w' => e = .returned (.bool g) ∧ Below V.heap.size V w') := ⟨fun V h => by rw [hg]; exact great_m Al L.length cl A cap rs V (hR.below h)⟩
 have Hg := Aside0.mk hg
 clear hg
 cases g with
 | true =>
  clear hC hS hL hR hD
  go_enter Tryz.func4, Tryz.ntmps4
  go_wp2_with fail
  ((refine (HAl.out _ (Below.refl _ _)).mono ?_); rintro e w1 ⟨rfl, hb1⟩)
  have HB := Aside0.mk hb1
  clear hb1
  go_wp2_with fail
  ((refine (HG.out _ HB.out).mono ?_); rintro e w2 ⟨rfl, hb2⟩)
  have HB := Aside0.mk (below_step HB.out hb2)
  clear hb2
  go_wp2
  go_ret
  exact ⟨rfl, HB.out⟩
 | false =>
 obtain ⟨hn3, hr6, hV, hr60⟩ := hR.read Hg.out.symm
 have HQy := Aside0.mk (fun w (h : Below W.heap.size W w) => query_any L hn3 Al cl w (Kd.C_below hL h))
 have HRw := Aside0.mk hV
 have HRl := Aside0.mk (And.intro hr6 hr60)
 have HRa := Aside0.mk (fun (q : Qv) (A1 A2 : Option Addr) (c1 c2 : Nat) (V : World) (h : Below W.heap.size W V) (hq : IsQ V q A1 c1 A2 c2) => refAnswer_any hD q A1 A2 c1 c2 ⟨#[]⟩ A rs cap V h hq (hV.below h) hr6 hr60)
 have HGw := Aside0.mk (fun (q : Qv) (A1 A2 : Option Addr) (c1 c2 N : Nat) (K : List Key) (hN : q.lim.toNat = N + 1) (hK : ∀ ys, Sd q.desc (coll q rs) ys → ys.map Ent.key = K) (hU : Up (cmpO q.desc) K) (hl : K.length ≤ 900) (V : World) (h : Below W.heap.size W V) (hq : IsQ V q A1 c1 A2 c2) (k : Int) => gone_at hC hS q A1 A2 c1 c2 A rs cap N K hN hK hU hl V h hq (hV.below h) k)
 clear hC hS hL hR hD hn3 hr6 hV hr60 Hg
 obtain ⟨m, hm⟩ : ∃ m, m = L.length := ⟨_, rfl⟩
 rw [← hm] at HG HQy ⊢
 clear hm
 unfold qV at HRa
 go_enter Tryz.func4, Tryz.ntmps4
 go_wp2_with fail
 ((refine (HAl.out _ (Below.refl _ _)).mono ?_); rintro e w1 ⟨rfl, hb1⟩)
 have HB := Aside0.mk hb1
 clear hb1 HAl
 go_wp2_with fail
 ((refine (HG.out _ HB.out).mono ?_); rintro e w2 ⟨rfl, hb2⟩)
 have HB := Aside0.mk (below_step HB.out hb2)
 clear hb2 HG
 go_wp2_with fail
 ((refine (HQy.out _ HB.out).mono ?_); rintro e w3 ⟨q, A1, c1, A2, c2, rfl, hq, hb3⟩)
 have HB := Aside0.mk (below_step HB.out hb3)
 have HQ := Aside0.mk hq
 clear hb3 hq HQy
 unfold qvVal
 obtain ⟨V1, hV1⟩ : ∃ V, V = w3.alloc (.cells #[.int .i64 q.fr, .int .i64 q.till, .slice A1 q.ms.length c1, .int .i64 q.T.f0, .string q.T.f1, .string q.T.f2, .slice A2 q.T.f3.length c2, .bool q.desc, .int .i64 q.lim, .string ⟨#[]⟩] 37) := ⟨_, rfl⟩
 obtain ⟨bq, hbq⟩ : ∃ b, b = w3.heap.size := ⟨_, rfl⟩
 have hb4 : Below w3.heap.size w3 V1 := by rw [hV1]; exact below_alloc (Below.refl _ _) _
 have HBQ : Aside0 (BoxQ V1 bq q A1 c1 A2 c2) := ⟨by rw [hV1, hbq]; exact Go.heap_alloc_new _ _⟩
 have HB := Aside0.mk (below_step HB.out hb4)
 have HQ := Aside0.mk (HQ.out.below hb4)
 have HVd := Aside0.mk hV1
 have HKd := Aside0.mk hbq
 clear hV1 hbq hb4
 go_wp2_with fail
 try rw [← HVd.out]
 try rw [← HKd.out]
 clear HVd HKd
 have hcall := HRa.out q A1 A2 c1 c2 V1 HB.out HQ.out
 ((refine (hcall).mono ?_); rintro e V ⟨Aw, cw, wz, rfl, hcw, hjw, hsw, hb4⟩)
 have HB := Aside0.mk (below_step HB.out hb4)
 have HQ := Aside0.mk (HQ.out.below hb4)
 have HBQ := Aside0.mk (HBQ.out.below hb4)
 have hlim := HQ.out.lim
 have HWl : Aside0 (wz.length ≤ 360) := ⟨by
  have h1 := nodup_len (up_nodup hsw.up) (fun k hk => (hsw.keys k).1 hk)
  rw [List.length_map, List.length_map] at h1
  have h2 := coll_60 q rs HRl.out.2
  have h3 := HRl.out.1
  omega⟩
 obtain ⟨N, hN⟩ : ∃ N, q.lim.toNat = N + 1 := ⟨q.lim.toNat - 1, by omega⟩
 have HLm : Aside0 (q.lim = (N : Int) + 1 ∧ N ≤ 7) := ⟨by omega, by omega⟩
 have HJw := Aside0.mk (fun V' (h : Below V.heap.size V V') => hjw.below h)
 have HQc := Aside0.mk (fun V' (h : Below V.heap.size V V') => (HBQ.out.below h).cells)
 have HGo := Aside0.mk (fun (k : Int) (V' : World) (h : Below V.heap.size V V') => HGw.out q A1 A2 c1 c2 N (wz.map Ent.key) hN (fun ys hy => hy.eq hsw) hsw.up (by rw [List.length_map]; have := HWl.out; omega) V' (below_step HB.out h) (HQ.out.below h) k)
 have HPa := Aside0.mk (fun (V' : World) => pages_any q A1 A2 c1 c2 ⟨#[]⟩ A rs.length cap V')
 have HCi := Aside0.mk (fun (y : Ent) (hy : y ∈ coll q rs) (V' : World) (h : Below V.heap.size V V') => mem_in (HRw.out.below (below_step HB.out h)) hy)
 unfold qV at HPa
 clear hcall hjw hsw hb4 hcw hlim hN HRa HRw HGw HQ HBQ HRl
 have HVB : Aside0 (Below V.heap.size V V) := ⟨Below.refl _ _⟩
 obtain ⟨m0, m1, m2, m3, m4, m5, m6, m7, m8, m9⟩ := HQc.out V HVB.out
 go_wp2_with fail
 clear m0 m1 m2 m3 m4 m5 m6 m7 m8 m9
 ((refine (HPa.out V).mono ?_); rintro e w4 ⟨rfl, rfl⟩)
 go_wp2_with fail
 ((refine (HGo.out 1000 V HVB.out).mono ?_); rintro e w5 ⟨Ap, cp, ps, rfl, hpg, hps, hpc, hb5⟩)
 have hpl : ps.map pk = chunks N (wz.map Ent.key) := by
  rw [hps, List.take_of_length_le]
  have h1 := chunks_few N (wz.map Ent.key)
  have h2 := HWl.out
  rw [List.length_map] at h1
  show _ ≤ 1000
  omega
 have HB5 := Aside0.mk hb5
 have HPg := Aside0.mk hpg
 have HPl := Aside0.mk hpl
 have HPc := Aside0.mk hpc
 have HPn : Aside0 (ps.length = (chunks N (wz.map Ent.key)).length) := ⟨by rw [← hpl, List.length_map]⟩
 have HPf : Aside0 (ps.length ≤ 361) := ⟨by
  have h1 := chunks_few N (wz.map Ent.key)
  have h2 := HWl.out
  rw [List.length_map] at h1
  rw [HPn.out]; omega⟩
 have HFk : Aside0 ((flatP ps).map Ent.key = wz.map Ent.key) := ⟨by rw [flatP_keys, hpl, chunks_flat N _ _ (Nat.le_refl _)]⟩
 have HFl : Aside0 ((flatP ps).length ≤ 360) := ⟨by have h1 := congrArg List.length HFk.out; rw [List.length_map, List.length_map] at h1; have := HWl.out; omega⟩
 clear hpl hps hpc hpg hb5 HVB
 have HVB : Aside0 (Below w5.heap.size w5 w5) := ⟨Below.refl _ _⟩
 go_wp2_with fail
 go_loopw [10, 29] (fun t10 t29 wr => ∃ (i : Nat) (v : Value), i ≤ ps.length ∧ t10 = v ∧ t29 = .int .i64 (i : Int) ∧ Aside0 (Below w5.heap.size w5 wr) ∧ Aside0 (OwnE wr w5.heap.size v (flatP (ps.take i)))) (fun _ t29 _ => ps.length - (intOf t29).toNat)
 case atStart => exact ⟨0, _, Nat.zero_le _, rfl, rfl, HVB, ⟨OwnE.nil _ _⟩⟩
 case round =>
  clear HVB
  obtain ⟨i, v, hi, hv, rfl, HBS, HO⟩ := hrel
  replace hv := hv.symm
  subst hv
  by_cases hlt : i < ps.length
  ·obtain ⟨a, rfl⟩ := HPg.out.some hlt
   have k0 := (HPg.out.below HBS.out).cells a rfl i hlt
   have hrow := (HPg.out.below HBS.out).rows _ (List.getElem_mem hlt)
   obtain ⟨l1, l2, l3⟩ := page_len HPl.out i hlt
   have hft := flatP_take ps i hlt
   have hfl : (flatP (ps.take i)).length ≤ 360 := Nat.le_trans (flatP_len ps i) HFl.out
   obtain ⟨r, hr⟩ : ∃ r, r = ps[i] := ⟨_, rfl⟩
   rw [← hr] at k0 hrow l1 l2 l3 hft
   obtain ⟨v1, w1, run1, own1, gr1, -, -⟩ := app_own w5.heap.size wr _ _ r.A r.xs r.c HO.out hrow HBS.out.size (by have := HLm.out; omega)
   have HB1 : Aside0 (Below w5.heap.size w5 w1) := ⟨HBS.out.grown gr1 HBS.out.size (fun k hk => owns_block HO.out k hk)⟩
   have HO1 : Aside0 (OwnE w1 w5.heap.size v1 (flatP (ps.take (i + 1)))) := ⟨by rw [hft]; exact own1⟩
   have R1 := Aside0.mk run1
   have d1 : decide (q.lim < (r.xs.length : Int)) = false := decide_eq_false (by have := HLm.out; omega)
   obtain ⟨b2, hb2⟩ : ∃ b, b = decide (i + 1 < ps.length) := ⟨_, rfl⟩
   obtain ⟨b3, hb3⟩ : ∃ b, b = decide (0 < i) := ⟨_, rfl⟩
   have d2 : decide (wrap64 ((i : Int) + 1) < (ps.length : Int)) = b2 := by
    have := HPf.out
    rw [hb2, w64y _ (by omega)]
    by_cases h : i + 1 < ps.length
    ·rw [decide_eq_true h]; exact decide_eq_true (by omega)
    ·rw [decide_eq_false h]; exact decide_eq_false (by omega)
   have d3 : decide (0 < i) = b3 := hb3.symm
   have H4 : Aside0 (b2 = true → ((r.xs.length : Int) != q.lim) = false) := ⟨fun h => by
    rw [hb2, decide_eq_true_iff] at h
    have h1 := l2 h
    have h2 := HLm.out.1
    rw [h2, h1]; simp⟩
   have H5 : Aside0 (b3 = true → ((r.xs.length : Int) == 0) = false) := ⟨fun h => by
    rw [hb3, decide_eq_true_iff] at h
    have h1 := l3 h
    rw [beq_eq_false_iff_ne]; omega⟩
   have Hlt := Aside0.mk hlt
   have m8 : wr.cell? ⟨bq, 8, none⟩ = some (.int .i64 q.lim) := (HQc.out wr (below_step HB5.out HBS.out)).2.2.2.2.2.2.2.2.1
   obtain ⟨rl, hrl⟩ : ∃ k, k = r.xs.length := ⟨_, rfl⟩
   rw [← hrl] at k0 d1 H4 H5 R1
   have HRl := Aside0.mk hrl
   clear hr hrow l1 l2 l3 hft hfl run1 own1 gr1 HBS HO hi hb2 hb3 hrl
   cases b2 <;> cases b3
   all_goals (
    try have d4 := H4.out rfl
    try have d5 := H5.out rfl
    go_wp2_with (at_builtin; refine wpList_append_at rfl _ _ 39 rfl rfl rfl R1.out ?_)
    clear k0
    go_roundw
    case rel => exact ⟨i + 1, v1, by have := Hlt.out; omega, rfl, by rw [w64y _ (by have := Hlt.out; have := HPf.out; omega)]; rfl, HB1, HO1⟩
    case measure => have h1 := Hlt.out; have h2 := HPf.out; rw [w64y _ (by omega)]; simp [intOf]; omega)
  ·obtain rfl : i = ps.length := by omega
   have HO : Aside0 (OwnE wr w5.heap.size v (flatP ps)) := ⟨by have h := HO.out; rw [List.take_length] at h; exact h⟩
   have hwb := below_step HB5.out HBS.out
   have HWb := Aside0.mk hwb
   obtain ⟨Av, cv, hv, -, hrow, -⟩ := HO.out.row
   have hall := all_any Av Aw (flatP ps) wz cv cw wr hrow (HJw.out wr hwb).row (fun y hy => by
    obtain ⟨r, hr, hy⟩ := flatP_mem hy
    exact HCi.out y (HPc.out r hr y hy) wr hwb) (fun y hy => ((HJw.out wr hwb).in_ y hy).1) HFk.out (by have := HFl.out; omega)
   have HAll := Aside0.mk hall
   subst hv
   clear hall hrow hwb hi hlt
   go_wp2_with fail
   ((refine (HAll.out).mono ?_); rintro e w6 ⟨rfl, hb6⟩)
   have HB6 := Aside0.mk (below_step HWb.out hb6)
   clear hb6 HAll
   obtain ⟨m0, m1, m2, m3, m4, m5, m6, m7, m8, m9⟩ := HQc.out w6 HB6.out
   have z0 : ¬ q.lim = 0 := by have := HLm.out.1; omega
   have q0 : ((ps.length : Int) == max (wrap64 ((wrap64 (wrap64 ((wz.length : Int) + q.lim) - 1)).tdiv q.lim)) 1) = true := beq_iff_eq.2 (by
    obtain ⟨h1, h2⟩ := HLm.out
    have h3 := HWl.out
    have e1 : wrap64 (wrap64 ((wz.length : Int) + q.lim) - 1) = ((wz.length + N : Nat) : Int) := by rw [h1]; unfold wrap64; omega
    have e2 : q.lim = ((N + 1 : Nat) : Int) := by rw [h1]; rfl
    have h4 := Nat.div_le_self (wz.length + N) (N + 1)
    have h5 := chunks_len N _ (wz.map Ent.key) (Nat.le_refl _)
    rw [List.length_map, ← HPn.out] at h5
    have h6 : (((wz.length + N : Nat) : Int).tdiv ((N + 1 : Nat) : Int)) = (((wz.length + N) / (N + 1) : Nat) : Int) := (Int.ofNat_tdiv _ _).symm
    obtain ⟨qt, hqt⟩ : ∃ k, k = (wz.length + N) / (N + 1) := ⟨_, rfl⟩
    rw [← hqt] at h4 h5 h6
    rw [e1, e2, h6, w64y _ (by omega)]
    omega)
   go_wp2_with fail
   clear m0 m1 m2 m3 m4 m5 m6 m7 m8 m9 q0 z0
   ((refine (HPa.out w6).mono ?_); rintro e w7 ⟨rfl, rfl⟩)
   go_wp2_with fail
   ((refine (HGo.out most w6 HB6.out).mono ?_); rintro e w8 ⟨Aq, c8, ps2, rfl, -, hp2, -, hb8⟩)
   have hl2 : ps2.length = min most.toNat ps.length := by
    have h1 := congrArg List.length hp2
    rw [List.length_map, List.length_take, ← HPn.out] at h1
    exact h1
   have q1 : ((ps2.length : Int) == min (max most 0) (ps.length : Int)) = true := beq_iff_eq.2 (by omega)
   have HB8 := Aside0.mk (below_step HB6.out hb8)
   clear hl2 hp2 hb8
   go_wp2
   go_ret
   exact ⟨by first | rfl | simp, below_step HB.out HB8.out⟩
end Go.Proofs.YtpleiklodomgiaaGreatDoor.Y
end
