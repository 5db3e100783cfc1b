import Derived.Deep.DeepCutAuto
import Derived.Test.YtpleiklodomgiaaGreatDoorModelIs36
import Derived.Test.YtpleiklodomgiaaGreatDoorModelIs40
import Derived.Test.YtpleiklodomgiaaGreatDoorModelIs7
import Derived.Test.YtpleiklodomgiaaGreatDoorModelIs41
import Derived.Test.YtpleiklodomgiaaGreatDoorModelIs14
set_option linter.unusedVariables false
set_option linter.unusedSimpArgs false
section
namespace Go.Proofs.YtpleiklodomgiaaGreatDoor.B
end Go.Proofs.YtpleiklodomgiaaGreatDoor.B
namespace Go.Proofs.YtpleiklodomgiaaGreatDoor.C
end Go.Proofs.YtpleiklodomgiaaGreatDoor.C
namespace Go.Proofs.YtpleiklodomgiaaGreatDoor.CQ
end Go.Proofs.YtpleiklodomgiaaGreatDoor.CQ
namespace Go.Proofs.YtpleiklodomgiaaGreatDoor.Q
end Go.Proofs.YtpleiklodomgiaaGreatDoor.Q
namespace Go.Proofs.YtpleiklodomgiaaGreatDoor.Y
open Go.RowKit Go.Proofs.YtpleiklodomgiaaGreatDoorW.PrintWords Go.Proofs.YtpleiklodomgiaaGreatDoorW.PrintLast Go.Proofs.YtpleiklodomgiaaGreatDoorW.PrintMore Go.Proofs.YtpleiklodomgiaaGreatDoor.B Go.Proofs.YtpleiklodomgiaaGreatDoor.C Go.Proofs.YtpleiklodomgiaaGreatDoor.Q Go.Proofs.YtpleiklodomgiaaGreatDoor.CQ
def coll (q : Qv) (rs : List Rw) : List Ent := rs.flatMap fun r => r.xs.filter (keepB q)
theorem coll_take (q : Qv) (rs : List Rw) (i : Nat) (h : i < rs.length) : coll q (rs.take (i + 1)) = coll q (rs.take i) ++ (rs[i].xs.filter (keepB q)) := by
 unfold coll; rw [List.take_succ_eq_append_getElem h, List.flatMap_append]; simp
theorem filt_take (q : Qv) (xs : List Ent) (j : Nat) (h : j < xs.length) : (xs.take (j + 1)).filter (keepB q) = (xs.take j).filter (keepB q) ++ (if keepB q xs[j] = true then [xs[j]] else []) := by
 rw [List.take_succ_eq_append_getElem h, List.filter_append]
 congr 1
 cases hk : keepB q xs[j] <;> simp [hk]
theorem coll_len (q : Qv) : ∀ rs : List Rw, (∀ r ∈ rs, r.xs.length ≤ 1000) → (coll q rs).length ≤ rs.length * 1000
 | [], _ => Nat.zero_le _
 | r :: rs, h => by
  have ih := coll_len q rs (fun x hx => h x (List.mem_cons_of_mem _ hx))
  have h1 := List.length_filter_le (keepB q) r.xs
  have h2 := h r (List.mem_cons_self ..)
  unfold coll at *
  rw [List.flatMap_cons, List.length_append, List.length_cons]
  omega
theorem coll_mem {q : Qv} {rs : List Rw} {y : Ent} : y ∈ coll q rs ↔ ∃ r ∈ rs, y ∈ r.xs ∧ keepB q y = true := by
 unfold coll; simp [List.mem_flatMap, List.mem_filter]
structure RJ (w : World) (A : Option Addr) (ys : List Ent) : Prop where
 row : RowV w A ys
 in_ : ∀ y ∈ ys, y.In w ∧ y.line.size ≤ 1000
 few : ys.length ≤ 20000
theorem RJ.below {w w' : World} {A : Option Addr} {ys : List Ent} (h : RJ w A ys) (hb : Below w.heap.size w w') : RJ w' A ys := ⟨h.row.below hb, fun y hy => ⟨in_below (h.in_ y hy).1 hb, (h.in_ y hy).2⟩, h.few⟩
structure Sd (desc : Bool) (xs ys : List Ent) : Prop where
 up : Up (cmpO desc) (ys.map Ent.key)
 keys : ∀ k, k ∈ ys.map Ent.key ↔ k ∈ xs.map Ent.key
theorem Sd.eq {desc : Bool} {xs ys zs : List Ent} (h : Sd desc xs ys) (k : Sd desc xs zs) : ys.map Ent.key = zs.map Ent.key := up_unique (cmpO_c desc) h.up k.up fun x => (h.keys x).trans (k.keys x).symm
theorem Sd.of {desc : Bool} {xs ys zs : List Ent} (h : Sd desc xs ys) (hk : ∀ k, k ∈ zs.map Ent.key ↔ k ∈ xs.map Ent.key) : Sd desc zs ys := ⟨h.up, fun k => (h.keys k).trans (hk k).symm⟩
set_option maxRecDepth 20000 in
set_option maxHeartbeats 8000000 in
theorem answer_any {W : World} (hC : Go.Proofs.YtpleiklodomgiaaGreatDoor.W.Con W) (hS : Go.Proofs.YtpleiklodomgiaaGreatDoor.M.Spl W) (q : Qv) (A1 A2 : Option Addr) (c1 c2 : Nat) (page : ByteArray) (A : Option Addr) (rs : List Rw) (cap : Nat) (w : World) (hb : Below W.heap.size W w) (hq : IsQ w q A1 c1 A2 c2) (hR : RowsV w A rs) :
  Calls Tryz.prog 11 #[qV q A1 c1 A2 c2 page, .slice A rs.length cap] w fun e w' => ∃ A' c' zs, e = .returned (.slice A' (List.length zs) c') ∧ zs.length ≤ c' ∧ RJ w' A' zs ∧ Sd q.desc (coll q rs) zs ∧ (∀ z ∈ zs, z ∈ coll q rs) ∧ Below w.heap.size w w' := by
 obtain ⟨i0, hi, hz0, hz1, hz2⟩ := infoE3
 obtain ⟨V, hV⟩ : ∃ V, V = w.alloc (.cells #[.int .i64 q.fr, .int .i64 q.till, .slice A1 q.ms.length c1, .int .i64 q.T.f0, .string q.T.f1, .string q.T.f2, .slice A2 q.T.f3.length c2, .bool q.desc, .int .i64 q.lim, .string page] 37) := ⟨_, rfl⟩
 obtain ⟨bq, hbq⟩ : ∃ b, b = w.heap.size := ⟨_, rfl⟩
 have hb0 : Below w.heap.size w V := by rw [hV]; exact below_alloc (Below.refl _ _) _
 have HBx : Aside0 (∀ V', Below V.heap.size V V' → V'.heap[bq]? = some (.cells #[.int .i64 q.fr, .int .i64 q.till, .slice A1 q.ms.length c1, .int .i64 q.T.f0, .string q.T.f1, .string q.T.f2, .slice A2 q.T.f3.length c2, .bool q.desc, .int .i64 q.lim, .string page] 37 (0, 0))) := ⟨fun V' h => heap_below h (by rw [hV, hbq]; exact Go.heap_alloc_new _ _)⟩
 have HB0 := Aside0.mk hb0
 have HR := Aside0.mk (hR.below hb0)
 have HQ := Aside0.mk (fun (x : Ent) (V' : World) (h : Below V.heap.size V V') (hx : x.In V') (hl : x.line.size ≤ 1000) => query_m hC hS q A1 A2 c1 c2 page x V' (below_step (below_step hb hb0) h) ((hq.below hb0).below h) hx hl)
 have HSo := Aside0.mk (fun (A : Option Addr) (c : Nat) (xs : List Ent) (V' : World) (hr : RowV V' A xs) (hi : ∀ x ∈ xs, x.In V') (hl : xs.length ≤ 100000) => sort_gen q.desc A xs c hr hi hl)
 have HWd := Aside0.mk hV
 have HJd := Aside0.mk hbq
 clear hV hbq hb0 hR hq hb hC hS
 have HQk := Aside0.mk (fun x : Ent => (rfl : keepB q x = keepB q x))
 obtain ⟨kp, hkp⟩ : ∃ kp : Ent → Bool, kp = keepB q := ⟨_, rfl⟩
 have HKp := Aside0.mk hkp
 rw [← hkp] at HQ
 clear hkp HQk
 unfold qV at HQ ⊢
 unfold Ent.val at HQ
 go_enter Tryz.func11, Tryz.ntmps11
 go_wp2
 try rw [← HWd.out]
 try rw [← HJd.out]
 have HVB : Aside0 (Below V.heap.size V V) := ⟨Below.refl _ _⟩
 go_loopw [5, 12] (fun t5 t12 wr => ∃ (i : Nat) (v : Value) (acc : List Ent), i ≤ rs.length ∧ t5 = v ∧ t12 = .int .i64 (i : Int) ∧ Aside0 (Below V.heap.size V wr) ∧ Aside0 (OwnE wr V.heap.size v acc) ∧ Aside0 (acc = coll q (rs.take i))) (fun _ t12 _ => rs.length - (intOf t12).toNat)
 case atStart => exact ⟨0, _, [], Nat.zero_le _, rfl, rfl, HVB, ⟨OwnE.nil _ _⟩, ⟨rfl⟩⟩
 case round =>
  clear HVB
  obtain ⟨i, v, acc, hi, hv, rfl, HB, HO, HA⟩ := hrel
  replace hv := hv.symm
  subst hv
  by_cases hlt : i < rs.length
  ·obtain ⟨a, rfl⟩ := HR.out.some hlt
   have k0 := (HR.out.below HB.out).cells a rfl i hlt
   have hrw := HR.out.rows _ (List.getElem_mem hlt)
   have hrl := HR.out.few.2 _ (List.getElem_mem hlt)
   have HCt : Aside0 (coll q (rs.take (i + 1)) = acc ++ (rs[i].xs.filter kp)) := ⟨by rw [coll_take q rs i hlt, HA.out, HKp.out]⟩
   obtain ⟨r, hr⟩ : ∃ r, r = rs[i] := ⟨_, rfl⟩
   rw [← hr] at k0 hrw hrl HCt
   have HRr := Aside0.mk hrw
   have HRl := Aside0.mk hrl
   have Hlt := Aside0.mk hlt
   have HAl : Aside0 (acc.length ≤ 10000) := ⟨by
    rw [HA.out]
    have h1 := coll_len q (rs.take i) (fun r hr => HR.out.few.2 r (List.mem_of_mem_take hr))
    have h2 := HR.out.few.1
    rw [List.length_take] at h1
    have h3 := Hlt.out
    have h4 : min i rs.length ≤ 9 := by omega
    have h5 : min i rs.length * 1000 ≤ 9 * 1000 := Nat.mul_le_mul_right _ h4
    omega⟩
   clear hr hrw hrl HA
   obtain ⟨rA, rc, rx⟩ := r
   dsimp only at k0 HCt HRr HRl
   go_wp2
   clear k0 hlt hi
   have HF0 : Aside0 (acc = acc ++ ((rx.take 0).filter kp)) := ⟨by simp⟩
   obtain ⟨wo, hwo⟩ : ∃ wo, wo = wr := ⟨_, rfl⟩
   subst hwo
   go_loopw [5, 18] (fun t5 t18 wr => ∃ (j : Nat) (v : Value) (ac : List Ent), j ≤ rx.length ∧ t5 = v ∧ t18 = .int .i64 (j : Int) ∧ Aside0 (Below V.heap.size V wr) ∧ Aside0 (OwnE wr V.heap.size v ac) ∧ Aside0 (ac = acc ++ ((rx.take j).filter kp))) (fun _ t18 _ => rx.length - (intOf t18).toNat)
   case atStart => exact ⟨0, _, acc, Nat.zero_le _, rfl, rfl, HB, HO, HF0⟩
   case round =>
    clear HB HO HF0
    obtain ⟨j, v, ac, hj, hv, rfl, HB, HO, HA⟩ := hrel
    replace hv := hv.symm
    subst hv
    by_cases hlt : j < rx.length
    ·obtain ⟨a2, ha2, k0, k1, k2⟩ := (HRr.out.1.below HB.out).get j hlt
     have hxi := HRr.out.2 _ (List.getElem_mem hlt)
     have HFt := Aside0.mk (filt_take q rx j hlt)
     obtain ⟨x, hx⟩ : ∃ x, x = rx[j] := ⟨_, rfl⟩
     rw [← hx] at k0 k1 k2 hxi HFt
     have HXi := Aside0.mk hxi
     obtain ⟨W2, hW2⟩ : ∃ W2, W2 = wr.alloc (.cells #[.int .i64 x.at_, .slice x.A x.ls.length x.c, .string x.line] 26) := ⟨_, rfl⟩
     obtain ⟨bx, hbx⟩ : ∃ b, b = wr.heap.size := ⟨_, rfl⟩
     have hb1 : Below wr.heap.size wr W2 := by rw [hW2]; exact below_alloc (Below.refl _ _) _
     have HB2 := Aside0.mk (below_step HB.out hb1)
     have HO2 := Aside0.mk (HO.out.below hb1)
     have XA : Aside0 (BoxE W2 bx x) := ⟨by rw [hW2, hbx]; exact Go.heap_alloc_new _ _⟩
     have HWd := Aside0.mk hW2
     have HJd := Aside0.mk hbx
     have Hlt := Aside0.mk hlt
     have hqc := HBx.out wr HB.out
     have Q0 : ∀ o : Obj, (wr.alloc o).cell? ⟨bq, 0, none⟩ = some _ := fun o => blk_cell (heap_below (below_alloc (Below.refl _ wr) o) hqc) 0
     have Q1 : ∀ o : Obj, (wr.alloc o).cell? ⟨bq, 1, none⟩ = some _ := fun o => blk_cell (heap_below (below_alloc (Below.refl _ wr) o) hqc) 1
     have Q2 : ∀ o : Obj, (wr.alloc o).cell? ⟨bq, 2, none⟩ = some _ := fun o => blk_cell (heap_below (below_alloc (Below.refl _ wr) o) hqc) 2
     have Q3 : ∀ o : Obj, (wr.alloc o).cell? ⟨bq, 3, none⟩ = some _ := fun o => blk_cell (heap_below (below_alloc (Below.refl _ wr) o) hqc) 3
     have Q4 : ∀ o : Obj, (wr.alloc o).cell? ⟨bq, 4, none⟩ = some _ := fun o => blk_cell (heap_below (below_alloc (Below.refl _ wr) o) hqc) 4
     have Q5 : ∀ o : Obj, (wr.alloc o).cell? ⟨bq, 5, none⟩ = some _ := fun o => blk_cell (heap_below (below_alloc (Below.refl _ wr) o) hqc) 5
     have Q6 : ∀ o : Obj, (wr.alloc o).cell? ⟨bq, 6, none⟩ = some _ := fun o => blk_cell (heap_below (below_alloc (Below.refl _ wr) o) hqc) 6
     have Q7 : ∀ o : Obj, (wr.alloc o).cell? ⟨bq, 7, none⟩ = some _ := fun o => blk_cell (heap_below (below_alloc (Below.refl _ wr) o) hqc) 7
     have Q8 : ∀ o : Obj, (wr.alloc o).cell? ⟨bq, 8, none⟩ = some _ := fun o => blk_cell (heap_below (below_alloc (Below.refl _ wr) o) hqc) 8
     have Q9 : ∀ o : Obj, (wr.alloc o).cell? ⟨bq, 9, none⟩ = some _ := fun o => blk_cell (heap_below (below_alloc (Below.refl _ wr) o) hqc) 9
     have hcall := HQ.out x W2 HB2.out (in_below (in_below HXi.out.1 HB.out) hb1) HXi.out.2
     obtain ⟨k, hk⟩ : ∃ k, k = kp x := ⟨_, rfl⟩
     rw [← hk] at hcall
     rw [← HKp.out, ← hk] at HFt
     have HCa := Aside0.mk hcall
     subst ha2
     clear hx hW2 hbx hb1 hqc hcall hk hxi hj
     go_wp2_with fail
     try rw [← HWd.out]
     try rw [← HJd.out]
     clear Q0 Q1 Q2 Q3 Q4 Q5 Q6 Q7 Q8 Q9 k0 k1 k2 HWd HJd hlt
     ((refine (HCa.out).mono ?_); rintro e W3 ⟨rfl, hb3⟩)
     have HB := Aside0.mk (below_step HB2.out hb3)
     have HO := Aside0.mk (HO2.out.below hb3)
     have XA := Aside0.mk (XA.out.below hb3)
     clear hb3 HB2 HO2 HCa
     cases k with
     | true =>
      rw [if_pos rfl] at HFt
      have HA2 : Aside0 (ac ++ [x] = acc ++ ((rx.take (j + 1)).filter kp)) := ⟨by rw [HA.out, HFt.out, List.append_assoc]⟩
      have HAc : Aside0 (ac.length ≤ 20000) := ⟨by
       rw [HA.out, List.length_append]
       have h1 := List.length_filter_le kp (rx.take j)
       have h2 := HRl.out
       have h3 := HAl.out
       rw [List.length_take] at h1
       omega⟩
      have x0 := XA.out.c0
      have x1 := XA.out.c1
      have x2 := XA.out.c2
      obtain ⟨Av, cv, hv, -, -, -⟩ := HO.out.row
      subst hv
      go_wp2_with (at_builtin; refine wpList_append_own _ rfl _ _ 39 rfl V.heap.size 26 i0 _ 3 48 Tryz.underlying39 hi hz0 hz1 hz2 rfl (by omega) _ _ _ rfl (World.ownsRow.alloc HO.out (.cells #[.int .i64 x.at_, .slice x.A x.ls.length x.c, .string x.line] 26)) ⟨W3.heap.size, 0, none⟩ 1 1 x.cells rfl ?qc1 ?qc2 ?qc3 ?qc4 ?qc5 ?qc6 ?_)
      case qc1 => rfl
      case qc2 =>
       intro j' u hj'
       rw [add_at, Nat.zero_add]
       refine (blk_cell (Go.heap_alloc_new W3 _) j').trans ?_
       show (x.cells.toArray)[j']? = _
       rw [List.getElem?_toArray]
       exact hj'
      case qc3 => exact cells_one x
      case qc4 => have := HAc.out; unfold maxLen; omega
      case qc5 => have := HAc.out; omega
      case qc6 => have := HB.out.size; simp; omega
      intro v' w1 hown hgrow hnil
      have hb4 := below_alloc (Below.refl _ W3) (.cells #[.int .i64 x.at_, .slice x.A x.ls.length x.c, .string x.line] 26)
      have HO4 : Aside0 (OwnE w1 V.heap.size v' (ac ++ [x])) := ⟨by unfold OwnE; rw [entC_app, List.length_append]; simpa [entC] using hown⟩
      have HB4 : Aside0 (Below V.heap.size V w1) := ⟨(below_step HB.out hb4).grown hgrow (below_step HB.out hb4).size (fun k hk => owns_block HO.out k hk)⟩
      clear hown hgrow hnil hb4 x0 x1 x2 HO HB
      go_wp2
      go_roundw
      case rel => exact ⟨j + 1, v', ac ++ [x], by have := Hlt.out; omega, rfl, by rw [w64y _ (by have := Hlt.out; have := HRl.out; omega)]; rfl, HB4, HO4, HA2⟩
      case measure => have h1 := Hlt.out; have h2 := HRl.out; rw [w64y _ (by omega)]; simp [intOf]; omega
     | false =>
      rw [if_neg (by decide), List.append_nil] at HFt
      have HA2 : Aside0 (ac = acc ++ ((rx.take (j + 1)).filter kp)) := ⟨by rw [HA.out, HFt.out]⟩
      go_wp2
      go_roundw
      case rel => exact ⟨j + 1, _, ac, by have := Hlt.out; omega, rfl, by rw [w64y _ (by have := Hlt.out; have := HRl.out; omega)]; rfl, HB, HO, HA2⟩
      case measure => have h1 := Hlt.out; have h2 := HRl.out; rw [w64y _ (by omega)]; simp [intOf]; omega
    ·obtain rfl : j = rx.length := by omega
     have HA2 : Aside0 (ac = coll q (rs.take (i + 1))) := ⟨by rw [HA.out, HCt.out, List.take_length]⟩
     go_wp2
     go_roundw
     case rel => exact ⟨i + 1, _, ac, by have := Hlt.out; omega, rfl, by rw [w64y _ (by have := Hlt.out; have := HR.out.few.1; omega)]; rfl, HB, HO, HA2⟩
     case measure => have h1 := Hlt.out; have h2 := HR.out.few.1; rw [w64y _ (by omega)]; simp [intOf]; omega
  ·obtain rfl : i = rs.length := by omega
   have hacc : acc = coll q rs := by rw [HA.out, List.take_length]
   have hlen : acc.length ≤ 20000 := by
    rw [hacc]
    have h1 := coll_len q rs HR.out.few.2
    have h2 := HR.out.few.1
    have h5 : rs.length * 1000 ≤ 10 * 1000 := Nat.mul_le_mul_right _ h2
    omega
   have hmem : ∀ y ∈ acc, (y.In wr ∧ y.line.size ≤ 1000) ∧ keepB q y = true := fun y hy => by
    rw [hacc] at hy
    obtain ⟨r, hr, hy, hk⟩ := coll_mem.1 hy
    exact ⟨⟨in_below ((HR.out.rows r hr).2 y hy).1 HB.out, ((HR.out.rows r hr).2 y hy).2⟩, hk⟩
   obtain ⟨Av, cv, hv, hlc, hrow, -⟩ := HO.out.row
   subst hv
   have HSr := Aside0.mk (HSo.out Av cv acc wr hrow (fun y hy => (hmem y hy).1.1) (by omega))
   have q7 : wr.cell? ⟨bq, 7, none⟩ = some (.bool q.desc) := blk_cell (HBx.out wr HB.out) 7
   have Hacc := Aside0.mk hacc
   have Hlen := Aside0.mk hlen
   have Hmem := Aside0.mk hmem
   clear hacc hlen hmem hrow hlc HSo HQ HA hi hlt
   go_wp2_with fail
   ((refine (HSr.out).mono ?_); rintro e w4 ⟨A', c', zs, rfl, h2, h3, h4, h5, h6, h7, h8⟩)
   have Hres : Aside0 (zs.length ≤ c' ∧ RJ w4 A' zs ∧ Sd q.desc (coll q rs) zs ∧ (∀ z ∈ zs, z ∈ coll q rs) ∧ Below V.heap.size V w4) := ⟨h2, ⟨h3, fun z hz' => ⟨in_below (Hmem.out z (h4 z hz')).1.1 h5, (Hmem.out z (h4 z hz')).1.2⟩, by have := Hlen.out; omega⟩,
    ⟨h7, by rw [← Hacc.out]; exact h8⟩, fun z hz' => by rw [← Hacc.out]; exact h4 z hz', below_step HB.out h5⟩
   clear h2 h3 h4 h5 h6 h7 h8 q7
   go_wp2
   go_ret
   exact ⟨A', c', zs, rfl, Hres.out.1, Hres.out.2.1, Hres.out.2.2.1, Hres.out.2.2.2.1, below_step HB0.out Hres.out.2.2.2.2⟩
end Go.Proofs.YtpleiklodomgiaaGreatDoor.Y
end
section
namespace Go.Proofs.YtpleiklodomgiaaGreatDoor.Reg
end Go.Proofs.YtpleiklodomgiaaGreatDoor.Reg
namespace Go.Proofs.YtpleiklodomgiaaGreatDoor.Y
open Go.RowKit Go.Proofs.YtpleiklodomgiaaGreatDoorW.PrintWords Go.Proofs.YtpleiklodomgiaaGreatDoorW.PrintLast Go.Proofs.YtpleiklodomgiaaGreatDoorW.PrintMore Go.Proofs.YtpleiklodomgiaaGreatDoor.B Go.Proofs.YtpleiklodomgiaaGreatDoor.Reg Go.Proofs.YtpleiklodomgiaaGreatDoor.C Go.Proofs.YtpleiklodomgiaaGreatDoor.Q Go.Proofs.YtpleiklodomgiaaGreatDoor.CQ
theorem goesV_ {P : Program} {ops : Array Oper} {Q : Exit → Act → World → Prop} {oi : Oper} {N : Option Tmp} {a : Act} {w : World} {K : Act → World → Prop} {f : FuncId} {c : Operand} {ags : Array Operand} {ts : Array TypeId} (he : ∀ args w, (callFunc f args).run P w = .ok (.enter f args) w) (args : Array Value)
  (hw : Region.wanted oi (yielded ops a.tmps) = true) (hN : oi.dst = N) (hop : oi.op = .call { callee := .value c, args := ags, argTypes := ts }) (hc : a.eval c = .func (.func f) #[] #[]) (hargs : ags.map a.eval = args)
  (h : Calls P f args w fun e w' => ∃ v, e = .returned v ∧ K (a.put N v) w') : if Region.wanted oi (yielded ops a.tmps) = true then Oper.wp P oi a w K Q else K (a.put N undef) w := by
 refine call_ f args hw hN ?_ h
 have he := he args w
 unfold execOp
 simp [hop, resolve, Deferred.ofValue, invoke, hc, hargs, he]
structure Low (desc : Bool) (t : Key) (ys : List Ent) (i : Nat) : Prop where
 le : i ≤ ys.length
 lo : ∀ k (hk : k < ys.length), k < i → cmpO desc ys[k].key t = -1
 hi : ∀ k (hk : k < ys.length), i ≤ k → cmpO desc ys[k].key t ≠ -1
theorem up_at {desc : Bool} {ys : List Ent} (h : Up (cmpO desc) (ys.map Ent.key)) {i j : Nat} (hi : i < ys.length) (hj : j < ys.length) (hij : i < j) : cmpO desc ys[i].key ys[j].key = -1 := by
 have := List.pairwise_iff_getElem.1 h i j (by simpa using hi) (by simpa using hj) hij
 simpa using this
theorem low_lo {desc : Bool} {t : Key} {ys : List Ent} (h : Up (cmpO desc) (ys.map Ent.key)) {m : Nat} (hm : m < ys.length) (hc : cmpO desc ys[m].key t = -1) : ∀ k (hk : k < ys.length), k < m + 1 → cmpO desc ys[k].key t = -1 := fun k hk hkm => by
 by_cases e : k = m
 ·subst e; exact hc
 ·exact (cmpO_c desc).trans _ _ _ (up_at h hk hm (by omega)) hc
theorem low_hi {desc : Bool} {t : Key} {ys : List Ent} (h : Up (cmpO desc) (ys.map Ent.key)) {m : Nat} (hm : m < ys.length) (hc : cmpO desc ys[m].key t ≠ -1) : ∀ k (hk : k < ys.length), m ≤ k → cmpO desc ys[k].key t ≠ -1 := fun k hk hkm => by
 by_cases e : k = m
 ·subst e; exact hc
 ·intro h1
  exact hc ((cmpO_c desc).trans _ _ _ (up_at h hm hk (by omega)) h1)
theorem ord_any (desc : Bool) (x y : Ent) (V : World) (hx : x.In V) (hy : y.In V) : Calls Tryz.prog (ordF desc) #[x.val, y.val] V fun e w' => e = .returned (.int .i64 (cmpO desc x.key y.key)) ∧ Below V.heap.size V w' := by
 cases desc
 ·exact (compare_any x y V hx hy).mono fun _ _ ⟨he, hb⟩ => ⟨he, hb.below⟩
 ·exact (turned_any x y V hx hy).mono fun _ _ ⟨he, hb⟩ => ⟨he, hb.below⟩
def T_api_Entry_5 : Bool × List (List Nat × List Nat) := (true, [([], []), ([], []), ([], []), ([1, 2], [1, 2]), ([3], [3]), ([], []), ([0, 4, 5], [0, 4, 5]), ([6], [6])])
def B_api_Entry_5 : List Nat := [0, 0, 0, 6, 14, 0, 63, 127]
theorem tab_api_Entry_5 : rtab .any (opsOf Tryz.f25 5) = T_api_Entry_5 := by kernel_rfl
theorem bits_api_Entry_5 : waitsOk T_api_Entry_5.2 B_api_Entry_5 = true := by kernel_rfl
def T_api_Entry_8 : Bool × List (List Nat × List Nat) := (true, [([], []), ([], []), ([], []), ([1, 2], [1, 2]), ([3], [3]), ([4], [4]), ([4], [4]), ([4], [4]), ([6, 7, 4], [4, 6, 7]), ([8, 4], [4, 8]), ([4], [4]), ([5, 9, 10, 4, 4], [4, 5, 9, 10]), ([11, 4], [4, 11]), ([4, 12], [4, 12]), ([0, 11, 0], [0]), ([13, 14, 0, 1, 2, 3, 4, 5, 6, 7, 8, 9, 10, 11, 12, 13, 14], [13])])
def B_api_Entry_8 : List Nat := [0, 0, 0, 6, 14, 30, 30, 30, 222, 478, 30, 2046, 4094, 8190, 4095, 32767]
theorem tab_api_Entry_8 : rtab .any (opsOf Tryz.f25 8) = T_api_Entry_8 := by kernel_rfl
theorem bits_api_Entry_8 : waitsOk T_api_Entry_8.2 B_api_Entry_8 = true := by kernel_rfl
set_option maxRecDepth 20000 in
set_option maxHeartbeats 8000000 in
theorem bsearch_any (desc : Bool) (A : Option Addr) (ys : List Ent) (c : Nat) (t : Ent) (w : World) (hR : RowV w A ys) (hI : ∀ y ∈ ys, y.In w) (hT : t.In w) (hU : Up (cmpO desc) (ys.map Ent.key)) (hl : ys.length ≤ 20000) :
  Calls Tryz.prog 25 #[.slice A ys.length c, t.val, .func (.func (ordF desc)) #[] #[]] w fun e w' => ∃ (i : Nat) (b : Bool), e = .returned (.tuple #[.int .i64 (i : Int), .bool b]) ∧ Low desc t.key ys i ∧ (b = true ↔ ∃ h : i < ys.length, ys[i].key = t.key) ∧ Below w.heap.size w w' := by
 obtain ⟨V, hV⟩ : ∃ V, V = w.alloc (.cells #[.int .i64 t.at_, .slice t.A t.ls.length t.c, .string t.line] 26) := ⟨_, rfl⟩
 obtain ⟨bt, hbt⟩ : ∃ b, b = w.heap.size := ⟨_, rfl⟩
 have hb0 : Below w.heap.size w V := by rw [hV]; exact below_alloc (Below.refl _ _) _
 have HT : Aside0 (∀ V', Below V.heap.size V V' → BoxE V' bt t) := ⟨fun V' h => heap_below h (by rw [hV, hbt]; exact Go.heap_alloc_new _ _)⟩
 have HB0 := Aside0.mk hb0
 have HR := Aside0.mk (hR.below hb0)
 have HO := Aside0.mk (fun (x : Ent) (hx : x ∈ ys) (V' : World) (h : Below V.heap.size V V') => ord_any desc x t V' (in_below (in_below (hI x hx) hb0) h) (in_below (in_below hT hb0) h))
 have HU := Aside0.mk hU
 have HM := Aside0.mk hl
 have HWd := Aside0.mk hV
 have HJd := Aside0.mk hbt
 clear hV hbt hb0 hR hI hT hU hl
 unfold Ent.val at HO ⊢
 have Hen := Aside0.mk (ord_enters desc)
 obtain ⟨fo, hfo⟩ : ∃ f, f = ordF desc := ⟨_, rfl⟩
 rw [← hfo] at HO Hen ⊢
 clear hfo
 go_enter Tryz.func25, Tryz.ntmps25
 go_wp2
 try rw [← HWd.out]
 try rw [← HJd.out]
 have HVB : Aside0 (Below V.heap.size V V) := ⟨Below.refl _ _⟩
 have HL0 : Aside0 (∀ k (hk : k < ys.length), k < 0 → cmpO desc ys[k].key t.key = -1) := ⟨fun k hk h => absurd h (Nat.not_lt_zero k)⟩
 have HH0 : Aside0 (∀ k (hk : k < ys.length), ys.length ≤ k → cmpO desc ys[k].key t.key ≠ -1) := ⟨fun k hk h => absurd hk (by omega)⟩
 go_loopw [9, 10] (fun t9 t10 wr => ∃ (i j : Nat), i ≤ j ∧ j ≤ ys.length ∧ t9 = .int .i64 (i : Int) ∧ t10 = .int .i64 (j : Int) ∧ Aside0 (Below V.heap.size V wr) ∧ Aside0 (∀ k (hk : k < ys.length), k < i → cmpO desc ys[k].key t.key = -1) ∧ Aside0 (∀ k (hk : k < ys.length), j ≤ k → cmpO desc ys[k].key t.key ≠ -1)) (fun t9 t10 _ => (intOf t10).toNat - (intOf t9).toNat)
 case atStart => exact ⟨0, ys.length, Nat.zero_le _, Nat.le_refl _, rfl, rfl, HVB, HL0, HH0⟩
 case round =>
  clear HVB HL0 HH0
  obtain ⟨i, j, hij, hj, rfl, rfl, HB, HLo, HHi⟩ := hrel
  by_cases hlt : i < j
  ·have hm20 := HM.out
   have hz : (i : Int) < (j : Int) := by omega
   have c1 : (i : Int) + (j : Int) ≤ 40000 := by omega
   go_wp2_with fail
   obtain ⟨m, hm⟩ : ∃ m : Nat, ((i : Int) + (j : Int)) / 2 = (m : Int) := ⟨(i + j) / 2, by omega⟩
   rw [hm]
   have him : i ≤ m := by omega
   have hmj : m < j := by omega
   have hmn : m < ys.length := by omega
   obtain ⟨a, hA, k0, k1, k2⟩ := (HR.out.below HB.out).get m hmn
   obtain ⟨x, hx⟩ : ∃ x, x = ys[m] := ⟨_, rfl⟩
   rw [← hx] at k0 k1 k2
   obtain ⟨cv, hcv⟩ : ∃ cv, cv = cmpO desc x.key t.key := ⟨_, rfl⟩
   have HOx : Aside0 (∀ V', Below V.heap.size V V' → Calls Tryz.prog fo #[.agg #[.int .i64 x.at_, .slice x.A x.ls.length x.c, .string x.line], .agg #[.int .i64 t.at_, .slice t.A t.ls.length t.c, .string t.line]] V' fun e w' => e = .returned (.int .i64 cv) ∧ Below V'.heap.size V' w') := ⟨fun V' h => by rw [hcv]; exact HO.out x (by rw [hx]; exact List.getElem_mem hmn) V' h⟩
   have HCv : Aside0 (cv = cmpO desc (ys[m]'hmn).key t.key) := ⟨by rw [hcv, hx]⟩
   have HIx := Aside0.mk (And.intro him (And.intro hmj (And.intro hmn hj)))
   have HTx := Aside0.mk (HT.out wr HB.out)
   have K0 := Aside0.mk k0
   have K1 := Aside0.mk k1
   have K2 := Aside0.mk k2
   have HBS := HB
   subst hA
   clear hx hcv hm hz c1 hm20 hij hj hlt him hmj k0 k1 k2
   have hz2 : (m : Int) < (ys.length : Int) := by omega
   clear HB
   obtain ⟨V2, hV2⟩ : ∃ V2, V2 = wr := ⟨_, rfl⟩
   subst hV2
   have HB : Aside0 (Below V2.heap.size V2 V2) := ⟨Below.refl _ _⟩
   by_cases hc : cv = -1
   ·have hneg : cv < 0 := by omega
    have HC := Aside0.mk hc
    clear hc
    refine start_ (n := 8) (S := fun x_ => Below V2.heap.size V2 x_) (ds := []) #[false, false, false, false, false, false, false, false] (by kernel_rfl) rfl rfl (pw_below_drewN (Below.refl _ _) 1) (fun hHeld => ?_)
    refine with_tabW tab_api_Entry_5 bits_api_Entry_5 (fun HT_ HW_ => ?_)
    have HB := Aside0.mk (pw_below_drewN HB.out 1)
    change Aside0 (Below _ _ (World.drew V2)) at HB
    change Below _ _ (World.drew V2) at hHeld
    have hSz : (World.drew V2).heap.size = V2.heap.size := rfl
    have K0 := Aside0.mk (show (World.drew V2).cell? _ = _ from K0.out)
    have K1 := Aside0.mk (show (World.drew V2).cell? _ = _ from K1.out)
    have K2 := Aside0.mk (show (World.drew V2).cell? _ = _ from K2.out)
    have HTx := Aside0.mk (show BoxE (World.drew V2) bt t from HTx.out)
    have HBS := Aside0.mk (show Below V.heap.size V (World.drew V2) from pw_below_drewN HBS.out 1)
    refine wpAnyLast_str (S' := fun x_ => Below (World.drew V2).heap.size (World.drew V2) x_) (fun x_ hx_ => below_step hHeld hx_) (Below.refl _ _) ?_
    clear hHeld hSz
    generalize World.drew V2 = V2d at *
    have HS := Aside0.mk (Below.refl V2d.heap.size V2d)
    refine pure_ (i := 0) (N := (some 24)) (v := ?_) (a' := ?_) #[true, false, false, false, false, false, false, false] rfl rfl (any_of HT_.out (by kernel_rfl)) (fun _ _ _ h => h) (Or.inl ⟨by rfl, ?_⟩) ?_ ?_
    rotate_left
    ·intro w_
     go_simp
     try with_reducible rfl
    rotate_left
    ·simp only [Act.put, List.setIfInBounds_toArray, List.set_cons_zero, List.set_cons_succ, i64_w, i32_w]
     rfl
    refine pure_ (i := 1) (N := (some 25)) (v := ?_) (a' := ?_) #[true, true, false, false, false, false, false, false] rfl rfl (any_of HT_.out (by kernel_rfl)) (fun _ _ _ h => h) (Or.inl ⟨by rfl, ?_⟩) ?_ ?_
    rotate_left
    ·intro w_
     go_simp
     try with_reducible rfl
    rotate_left
    ·simp only [Act.put, List.setIfInBounds_toArray, List.set_cons_zero, List.set_cons_succ, i64_w, i32_w]
     rfl
    refine pure_ (i := 2) (N := (some 26)) (v := ?_) (a' := ?_) #[true, true, true, false, false, false, false, false] rfl rfl (any_of HT_.out (by kernel_rfl)) (fun _ _ _ h => h) (Or.inl ⟨by rfl, ?_⟩) ?_ ?_
    rotate_left
    ·intro w_
     go_simp
     try with_reducible rfl
    rotate_left
    ·simp only [Act.put, List.setIfInBounds_toArray, List.set_cons_zero, List.set_cons_succ, i64_w, i32_w]
     rfl
    refine pure_ (i := 3) (N := (some 27)) (v := ?_) (a' := ?_) #[true, true, true, true, false, false, false, false] rfl rfl (any_of HT_.out (by kernel_rfl)) (fun _ _ _ h => h) (Or.inl ⟨by rfl, ?_⟩) ?_ ?_
    rotate_left
    ·intro w_
     go_simp
     try with_reducible rfl
    rotate_left
    ·simp only [Act.put, List.setIfInBounds_toArray, List.set_cons_zero, List.set_cons_succ, i64_w, i32_w]
     rfl
    refine take_ (i := 4) (N := (some 28)) (v := ?_) (a' := ?_) #[true, true, true, true, true, false, false, false] rfl rfl (take_ofW HT_.out HW_.out (by kernel_rfl)) (fun _ _ _ h => h) (Or.inl ⟨by rfl, ?_⟩) (Below.refl _ _) ?_ ?_
    rotate_left
    ·intro Wx hWx
     have h0 := pw_cell_below hWx K0.out
     have h1 := pw_cell_below hWx K1.out
     have h2 := pw_cell_below hWx K2.out
     go_simp
     try with_reducible rfl
    rotate_left
    ·simp only [Act.put, List.setIfInBounds_toArray, List.set_cons_zero, List.set_cons_succ, i64_w, i32_w]
     rfl
    refine take_ (i := 5) (N := (some 29)) (v := ?_) (a' := ?_) #[true, true, true, true, true, true, false, false] rfl rfl (take_ofW HT_.out HW_.out (by kernel_rfl)) (fun _ _ _ h => h) (Or.inl ⟨by rfl, ?_⟩) (Below.refl _ _) ?_ ?_
    rotate_left
    ·intro Wx hWx
     have h0 := (HTx.out.below hWx).c0
     have h1 := (HTx.out.below hWx).c1
     have h2 := (HTx.out.below hWx).c2
     go_simp
     try with_reducible rfl
    rotate_left
    ·simp only [Act.put, List.setIfInBounds_toArray, List.set_cons_zero, List.set_cons_succ, i64_w, i32_w]
     rfl
    refine one_ (i := 6) (N := (some 30)) #[true, true, true, true, true, true, true, false] rfl rfl (one_of HT_.out (by kernel_rfl)) (by decide) (fun K hK => ?_)
    refine goesV_ Hen.out #[.agg #[.int .i64 x.at_, .slice x.A x.ls.length x.c, .string x.line], .agg #[.int .i64 t.at_, .slice t.A t.ls.length t.c, .string t.line]] (by rfl) rfl rfl (by rfl) (by (try simp only [List.map_toArray, List.map_cons, List.map_nil]); first | done | rfl) ?_
    refine (HOx.out _ HBS.out).mono ?_
    rintro e w5_6 ⟨rfl, hb_1⟩
    refine ⟨_, rfl, ?_⟩
    have HBS := Aside0.mk (below_step HBS.out hb_1)
    have hb_ : Below V2d.heap.size V2d w5_6 := hb_1
    have HB := Aside0.mk (below_step HB.out hb_)
    refine hK.out _ _ hb_ (fun hHeld => ?_)
    clear hK K
    refine wpAnyLast_str (S' := fun x_ => Below w5_6.heap.size w5_6 x_) (fun x_ hx_ => below_step hHeld hx_) (Below.refl _ _) ?_
    clear hHeld
    (try clear hb)
    clear hb_
    have HS := Aside0.mk (Below.refl w5_6.heap.size w5_6)
    refine norm_ (a' := ?_) ?_ ?_
    rotate_left
    ·show Act.put _ (some 30) _ = _
     simp only [Act.put, List.setIfInBounds_toArray, List.set_cons_zero, List.set_cons_succ, i64_w, i32_w]
     rfl
    refine pure_ (i := 7) (N := (some 31)) (v := ?_) (a' := ?_) #[true, true, true, true, true, true, true, true] rfl rfl (any_of HT_.out (by kernel_rfl)) (fun _ _ _ h => h) (Or.inl ⟨by rfl, ?_⟩) ?_ ?_
    rotate_left
    ·intro w_
     go_simp
     try with_reducible rfl
    rotate_left
    ·simp only [Act.put, List.setIfInBounds_toArray, List.set_cons_zero, List.set_cons_succ, i64_w, i32_w]
     rfl
    refine done_ (done_of HT_.out (by kernel_rfl)) ?_
    clear HB
    go_wp2
    go_roundw
    case rel => exact ⟨m + 1, j, by have := HIx.out.2.1; omega, HIx.out.2.2.2, by rw [w64y _ (by have := HIx.out.2.2.1; have := HM.out; omega)]; rfl, rfl, HBS, ⟨low_lo HU.out HIx.out.2.2.1 (by rw [← HCv.out]; exact HC.out)⟩, HHi⟩
    case measure => have h1 := HIx.out.1; have h2 := HIx.out.2.1; have h3 := HIx.out.2.2.1; have h4 := HM.out; rw [w64y _ (by omega)]; simp [intOf]; omega
   ·have hneg : ¬ cv < 0 := by
     have h1 := (cmpO_c desc).tri (ys[m]'hmn).key t.key
     rw [← HCv.out] at h1
     omega
    have hneg2 : 0 ≤ cv := by omega
    have HC := Aside0.mk hc
    clear hc
    refine start_ (n := 8) (S := fun x_ => Below V2.heap.size V2 x_) (ds := []) #[false, false, false, false, false, false, false, false] (by kernel_rfl) rfl rfl (pw_below_drewN (Below.refl _ _) 1) (fun hHeld => ?_)
    refine with_tabW tab_api_Entry_5 bits_api_Entry_5 (fun HT_ HW_ => ?_)
    have HB := Aside0.mk (pw_below_drewN HB.out 1)
    change Aside0 (Below _ _ (World.drew V2)) at HB
    change Below _ _ (World.drew V2) at hHeld
    have hSz : (World.drew V2).heap.size = V2.heap.size := rfl
    have K0 := Aside0.mk (show (World.drew V2).cell? _ = _ from K0.out)
    have K1 := Aside0.mk (show (World.drew V2).cell? _ = _ from K1.out)
    have K2 := Aside0.mk (show (World.drew V2).cell? _ = _ from K2.out)
    have HTx := Aside0.mk (show BoxE (World.drew V2) bt t from HTx.out)
    have HBS := Aside0.mk (show Below V.heap.size V (World.drew V2) from pw_below_drewN HBS.out 1)
    refine wpAnyLast_str (S' := fun x_ => Below (World.drew V2).heap.size (World.drew V2) x_) (fun x_ hx_ => below_step hHeld hx_) (Below.refl _ _) ?_
    clear hHeld hSz
    generalize World.drew V2 = V2d at *
    have HS := Aside0.mk (Below.refl V2d.heap.size V2d)
    refine pure_ (i := 0) (N := (some 24)) (v := ?_) (a' := ?_) #[true, false, false, false, false, false, false, false] rfl rfl (any_of HT_.out (by kernel_rfl)) (fun _ _ _ h => h) (Or.inl ⟨by rfl, ?_⟩) ?_ ?_
    rotate_left
    ·intro w_
     go_simp
     try with_reducible rfl
    rotate_left
    ·simp only [Act.put, List.setIfInBounds_toArray, List.set_cons_zero, List.set_cons_succ, i64_w, i32_w]
     rfl
    refine pure_ (i := 1) (N := (some 25)) (v := ?_) (a' := ?_) #[true, true, false, false, false, false, false, false] rfl rfl (any_of HT_.out (by kernel_rfl)) (fun _ _ _ h => h) (Or.inl ⟨by rfl, ?_⟩) ?_ ?_
    rotate_left
    ·intro w_
     go_simp
     try with_reducible rfl
    rotate_left
    ·simp only [Act.put, List.setIfInBounds_toArray, List.set_cons_zero, List.set_cons_succ, i64_w, i32_w]
     rfl
    refine pure_ (i := 2) (N := (some 26)) (v := ?_) (a' := ?_) #[true, true, true, false, false, false, false, false] rfl rfl (any_of HT_.out (by kernel_rfl)) (fun _ _ _ h => h) (Or.inl ⟨by rfl, ?_⟩) ?_ ?_
    rotate_left
    ·intro w_
     go_simp
     try with_reducible rfl
    rotate_left
    ·simp only [Act.put, List.setIfInBounds_toArray, List.set_cons_zero, List.set_cons_succ, i64_w, i32_w]
     rfl
    refine pure_ (i := 3) (N := (some 27)) (v := ?_) (a' := ?_) #[true, true, true, true, false, false, false, false] rfl rfl (any_of HT_.out (by kernel_rfl)) (fun _ _ _ h => h) (Or.inl ⟨by rfl, ?_⟩) ?_ ?_
    rotate_left
    ·intro w_
     go_simp
     try with_reducible rfl
    rotate_left
    ·simp only [Act.put, List.setIfInBounds_toArray, List.set_cons_zero, List.set_cons_succ, i64_w, i32_w]
     rfl
    refine take_ (i := 4) (N := (some 28)) (v := ?_) (a' := ?_) #[true, true, true, true, true, false, false, false] rfl rfl (take_ofW HT_.out HW_.out (by kernel_rfl)) (fun _ _ _ h => h) (Or.inl ⟨by rfl, ?_⟩) (Below.refl _ _) ?_ ?_
    rotate_left
    ·intro Wx hWx
     have h0 := pw_cell_below hWx K0.out
     have h1 := pw_cell_below hWx K1.out
     have h2 := pw_cell_below hWx K2.out
     go_simp
     try with_reducible rfl
    rotate_left
    ·simp only [Act.put, List.setIfInBounds_toArray, List.set_cons_zero, List.set_cons_succ, i64_w, i32_w]
     rfl
    refine take_ (i := 5) (N := (some 29)) (v := ?_) (a' := ?_) #[true, true, true, true, true, true, false, false] rfl rfl (take_ofW HT_.out HW_.out (by kernel_rfl)) (fun _ _ _ h => h) (Or.inl ⟨by rfl, ?_⟩) (Below.refl _ _) ?_ ?_
    rotate_left
    ·intro Wx hWx
     have h0 := (HTx.out.below hWx).c0
     have h1 := (HTx.out.below hWx).c1
     have h2 := (HTx.out.below hWx).c2
     go_simp
     try with_reducible rfl
    rotate_left
    ·simp only [Act.put, List.setIfInBounds_toArray, List.set_cons_zero, List.set_cons_succ, i64_w, i32_w]
     rfl
    refine one_ (i := 6) (N := (some 30)) #[true, true, true, true, true, true, true, false] rfl rfl (one_of HT_.out (by kernel_rfl)) (by decide) (fun K hK => ?_)
    refine goesV_ Hen.out #[.agg #[.int .i64 x.at_, .slice x.A x.ls.length x.c, .string x.line], .agg #[.int .i64 t.at_, .slice t.A t.ls.length t.c, .string t.line]] (by rfl) rfl rfl (by rfl) (by (try simp only [List.map_toArray, List.map_cons, List.map_nil]); first | done | rfl) ?_
    refine (HOx.out _ HBS.out).mono ?_
    rintro e w5_6 ⟨rfl, hb_1⟩
    refine ⟨_, rfl, ?_⟩
    have HBS := Aside0.mk (below_step HBS.out hb_1)
    have hb_ : Below V2d.heap.size V2d w5_6 := hb_1
    have HB := Aside0.mk (below_step HB.out hb_)
    refine hK.out _ _ hb_ (fun hHeld => ?_)
    clear hK K
    refine wpAnyLast_str (S' := fun x_ => Below w5_6.heap.size w5_6 x_) (fun x_ hx_ => below_step hHeld hx_) (Below.refl _ _) ?_
    clear hHeld
    (try clear hb)
    clear hb_
    have HS := Aside0.mk (Below.refl w5_6.heap.size w5_6)
    refine norm_ (a' := ?_) ?_ ?_
    rotate_left
    ·show Act.put _ (some 30) _ = _
     simp only [Act.put, List.setIfInBounds_toArray, List.set_cons_zero, List.set_cons_succ, i64_w, i32_w]
     rfl
    refine pure_ (i := 7) (N := (some 31)) (v := ?_) (a' := ?_) #[true, true, true, true, true, true, true, true] rfl rfl (any_of HT_.out (by kernel_rfl)) (fun _ _ _ h => h) (Or.inl ⟨by rfl, ?_⟩) ?_ ?_
    rotate_left
    ·intro w_
     go_simp
     try with_reducible rfl
    rotate_left
    ·simp only [Act.put, List.setIfInBounds_toArray, List.set_cons_zero, List.set_cons_succ, i64_w, i32_w]
     rfl
    refine done_ (done_of HT_.out (by kernel_rfl)) ?_
    clear HB
    go_wp2
    go_roundw
    case rel => exact ⟨i, m, HIx.out.1, by have := HIx.out.2.2.1; omega, rfl, rfl, HBS, HLo, ⟨low_hi HU.out HIx.out.2.2.1 (by rw [← HCv.out]; exact HC.out)⟩⟩
    case measure => have h1 := HIx.out.1; have h2 := HIx.out.2.1; simp [intOf]; omega
  ·obtain rfl : i = j := by omega
   have HLow : Aside0 (Low desc t.key ys i) := ⟨⟨hj, HLo.out, HHi.out⟩⟩
   clear HLo HHi hij
   obtain ⟨V2, hV2⟩ : ∃ V2, V2 = wr := ⟨_, rfl⟩
   subst hV2
   by_cases hn : i < ys.length
   ·have HBS := HB
    obtain ⟨a, hA, k0, k1, k2⟩ := (HR.out.below HB.out).get i hn
    obtain ⟨x, hx⟩ : ∃ x, x = ys[i] := ⟨_, rfl⟩
    rw [← hx] at k0 k1 k2
    obtain ⟨cv, hcv⟩ : ∃ cv, cv = cmpO desc x.key t.key := ⟨_, rfl⟩
    have HOx : Aside0 (∀ V', Below V.heap.size V V' → Calls Tryz.prog fo #[.agg #[.int .i64 x.at_, .slice x.A x.ls.length x.c, .string x.line], .agg #[.int .i64 t.at_, .slice t.A t.ls.length t.c, .string t.line]] V' fun e w' => e = .returned (.int .i64 cv) ∧ Below V'.heap.size V' w') := ⟨fun V' h => by rw [hcv]; exact HO.out x (by rw [hx]; exact List.getElem_mem hn) V' h⟩
    have HCv : Aside0 ((cv == 0) = true ↔ ∃ h : i < ys.length, ys[i].key = t.key) := ⟨by
     rw [hcv, hx, beq_iff_eq, (cmpO_c desc).eq0]
     exact ⟨fun h => ⟨hn, h⟩, fun ⟨_, h⟩ => h⟩⟩
    have HTx := Aside0.mk (HT.out V2 HB.out)
    have K0 := Aside0.mk k0
    have K1 := Aside0.mk k1
    have K2 := Aside0.mk k2
    subst hA
    have hz2 : (i : Int) < (ys.length : Int) := by omega
    have dn : decide (i < ys.length) = true := decide_eq_true hn
    clear hx hcv hj k0 k1 k2 HB
    have HB : Aside0 (Below V2.heap.size V2 V2) := ⟨Below.refl _ _⟩
    go_wp2_with fail
    refine start_ (n := 16) (S := fun x_ => Below V2.heap.size V2 x_) (ds := []) #[false, false, false, false, false, false, false, false, false, false, false, false, false, false, false, false] (by kernel_rfl) rfl rfl (pw_below_drewN (Below.refl _ _) 1) (fun hHeld => ?_)
    refine with_tabW tab_api_Entry_8 bits_api_Entry_8 (fun HT_ HW_ => ?_)
    have HB := Aside0.mk (pw_below_drewN HB.out 1)
    change Aside0 (Below _ _ (World.drew V2)) at HB
    change Below _ _ (World.drew V2) at hHeld
    have hSz : (World.drew V2).heap.size = V2.heap.size := rfl
    have K0 := Aside0.mk (show (World.drew V2).cell? _ = _ from K0.out)
    have K1 := Aside0.mk (show (World.drew V2).cell? _ = _ from K1.out)
    have K2 := Aside0.mk (show (World.drew V2).cell? _ = _ from K2.out)
    have HTx := Aside0.mk (show BoxE (World.drew V2) bt t from HTx.out)
    have HBS := Aside0.mk (show Below V.heap.size V (World.drew V2) from pw_below_drewN HBS.out 1)
    refine wpAnyLast_str (S' := fun x_ => Below (World.drew V2).heap.size (World.drew V2) x_) (fun x_ hx_ => below_step hHeld hx_) (Below.refl _ _) ?_
    clear hHeld hSz
    generalize World.drew V2 = V2d at *
    have HS := Aside0.mk (Below.refl V2d.heap.size V2d)
    refine pure_ (i := 0) (N := (some 35)) (v := ?_) (a' := ?_) #[true, false, false, false, false, false, false, false, false, false, false, false, false, false, false, false] rfl rfl (any_of HT_.out (by kernel_rfl)) (fun _ _ _ h => h) (Or.inl ⟨by rfl, ?_⟩) ?_ ?_
    rotate_left
    ·intro w_
     go_simp
     try with_reducible rfl
    rotate_left
    ·simp only [Act.put, List.setIfInBounds_toArray, List.set_cons_zero, List.set_cons_succ, i64_w, i32_w]
     rfl
    refine pure_ (i := 1) (N := (some 36)) (v := ?_) (a' := ?_) #[true, true, false, false, false, false, false, false, false, false, false, false, false, false, false, false] rfl rfl (any_of HT_.out (by kernel_rfl)) (fun _ _ _ h => h) (Or.inl ⟨by rfl, ?_⟩) ?_ ?_
    rotate_left
    ·intro w_
     go_simp
     try with_reducible rfl
    rotate_left
    ·simp only [Act.put, List.setIfInBounds_toArray, List.set_cons_zero, List.set_cons_succ, i64_w, i32_w]
     rfl
    refine pure_ (i := 2) (N := (some 37)) (v := ?_) (a' := ?_) #[true, true, true, false, false, false, false, false, false, false, false, false, false, false, false, false] rfl rfl (any_of HT_.out (by kernel_rfl)) (fun _ _ _ h => h) (Or.inl ⟨by rfl, ?_⟩) ?_ ?_
    rotate_left
    ·intro w_
     go_simp
     try with_reducible rfl
    rotate_left
    ·simp only [Act.put, List.setIfInBounds_toArray, List.set_cons_zero, List.set_cons_succ, i64_w, i32_w]
     rfl
    refine pure_ (i := 3) (N := (some 38)) (v := ?_) (a' := ?_) #[true, true, true, true, false, false, false, false, false, false, false, false, false, false, false, false] rfl rfl (any_of HT_.out (by kernel_rfl)) (fun _ _ _ h => h) (Or.inl ⟨by rfl, ?_⟩) ?_ ?_
    rotate_left
    ·intro w_
     go_simp
     try with_reducible rfl
    rotate_left
    ·simp only [Act.put, List.setIfInBounds_toArray, List.set_cons_zero, List.set_cons_succ, i64_w, i32_w]
     rfl
    refine pure_ (i := 4) (N := (some 39)) (v := ?_) (a' := ?_) #[true, true, true, true, true, false, false, false, false, false, false, false, false, false, false, false] rfl rfl (any_of HT_.out (by kernel_rfl)) (fun _ _ _ h => h) (Or.inl ⟨by rfl, ?_⟩) ?_ ?_
    rotate_left
    ·intro w_
     go_simp
     try with_reducible rfl
    rotate_left
    ·simp only [Act.put, List.setIfInBounds_toArray, List.set_cons_zero, List.set_cons_succ, i64_w, i32_w]
     rfl
    refine pure_ (i := 5) (N := (some 40)) (v := ?_) (a' := ?_) #[true, true, true, true, true, true, false, false, false, false, false, false, false, false, false, false] rfl rfl (any_of HT_.out (by kernel_rfl)) (fun _ _ _ h => h) (Or.inl ⟨by rfl, ?_⟩) ?_ ?_
    rotate_left
    ·intro w_
     go_simp
     try with_reducible rfl
    rotate_left
    ·simp only [Act.put, List.setIfInBounds_toArray, List.set_cons_zero, List.set_cons_succ, i64_w, i32_w]
     rfl
    refine pure_ (i := 6) (N := (some 41)) (v := ?_) (a' := ?_) #[true, true, true, true, true, true, true, false, false, false, false, false, false, false, false, false] rfl rfl (any_of HT_.out (by kernel_rfl)) (fun _ _ _ h => h) (Or.inl ⟨by rfl, ?_⟩) ?_ ?_
    rotate_left
    ·intro w_
     go_simp
     try with_reducible rfl
    rotate_left
    ·simp only [Act.put, List.setIfInBounds_toArray, List.set_cons_zero, List.set_cons_succ, i64_w, i32_w]
     rfl
    refine pure_ (i := 7) (N := (some 42)) (v := ?_) (a' := ?_) #[true, true, true, true, true, true, true, true, false, false, false, false, false, false, false, false] rfl rfl (any_of HT_.out (by kernel_rfl)) (fun _ _ _ h => h) (Or.inl ⟨by rfl, ?_⟩) ?_ ?_
    rotate_left
    ·intro w_
     go_simp
     try with_reducible rfl
    rotate_left
    ·simp only [Act.put, List.setIfInBounds_toArray, List.set_cons_zero, List.set_cons_succ, i64_w, i32_w]
     rfl
    refine pure_ (i := 8) (N := (some 43)) (v := ?_) (a' := ?_) #[true, true, true, true, true, true, true, true, true, false, false, false, false, false, false, false] rfl rfl (any_of HT_.out (by kernel_rfl)) (fun _ _ _ h => h) (Or.inl ⟨by rfl, ?_⟩) ?_ ?_
    rotate_left
    ·intro w_
     go_simp
     try with_reducible rfl
    rotate_left
    ·simp only [Act.put, List.setIfInBounds_toArray, List.set_cons_zero, List.set_cons_succ, i64_w, i32_w]
     rfl
    refine take_ (i := 9) (N := (some 44)) (v := ?_) (a' := ?_) #[true, true, true, true, true, true, true, true, true, true, false, false, false, false, false, false] rfl rfl (take_ofW HT_.out HW_.out (by kernel_rfl)) (fun _ _ _ h => h) (Or.inl ⟨by rfl, ?_⟩) (Below.refl _ _) ?_ ?_
    rotate_left
    ·intro Wx hWx
     have h0 := pw_cell_below hWx K0.out
     have h1 := pw_cell_below hWx K1.out
     have h2 := pw_cell_below hWx K2.out
     go_simp
     try with_reducible rfl
    rotate_left
    ·simp only [Act.put, List.setIfInBounds_toArray, List.set_cons_zero, List.set_cons_succ, i64_w, i32_w]
     rfl
    refine take_ (i := 10) (N := (some 45)) (v := ?_) (a' := ?_) #[true, true, true, true, true, true, true, true, true, true, true, false, false, false, false, false] rfl rfl (take_ofW HT_.out HW_.out (by kernel_rfl)) (fun _ _ _ h => h) (Or.inl ⟨by rfl, ?_⟩) (Below.refl _ _) ?_ ?_
    rotate_left
    ·intro Wx hWx
     have h0 := (HTx.out.below hWx).c0
     have h1 := (HTx.out.below hWx).c1
     have h2 := (HTx.out.below hWx).c2
     go_simp
     try with_reducible rfl
    rotate_left
    ·simp only [Act.put, List.setIfInBounds_toArray, List.set_cons_zero, List.set_cons_succ, i64_w, i32_w]
     rfl
    refine one_ (i := 11) (N := (some 46)) #[true, true, true, true, true, true, true, true, true, true, true, true, false, false, false, false] rfl rfl (one_of HT_.out (by kernel_rfl)) (by decide) (fun K hK => ?_)
    refine goesV_ Hen.out #[.agg #[.int .i64 x.at_, .slice x.A x.ls.length x.c, .string x.line], .agg #[.int .i64 t.at_, .slice t.A t.ls.length t.c, .string t.line]] (by rfl) rfl rfl (by rfl) (by (try simp only [List.map_toArray, List.map_cons, List.map_nil]); first | done | rfl) ?_
    refine (HOx.out _ HBS.out).mono ?_
    rintro e w8_11 ⟨rfl, hb_1⟩
    refine ⟨_, rfl, ?_⟩
    have HBS := Aside0.mk (below_step HBS.out hb_1)
    have hb_ : Below V2d.heap.size V2d w8_11 := hb_1
    have HB := Aside0.mk (below_step HB.out hb_)
    refine hK.out _ _ hb_ (fun hHeld => ?_)
    clear hK K
    refine wpAnyLast_str (S' := fun x_ => Below w8_11.heap.size w8_11 x_) (fun x_ hx_ => below_step hHeld hx_) (Below.refl _ _) ?_
    clear hHeld
    (try clear hb)
    clear hb_
    have HS := Aside0.mk (Below.refl w8_11.heap.size w8_11)
    refine norm_ (a' := ?_) ?_ ?_
    rotate_left
    ·show Act.put _ (some 46) _ = _
     simp only [Act.put, List.setIfInBounds_toArray, List.set_cons_zero, List.set_cons_succ, i64_w, i32_w]
     rfl
    refine pure_ (i := 12) (N := (some 47)) (v := ?_) (a' := ?_) #[true, true, true, true, true, true, true, true, true, true, true, true, true, false, false, false] rfl rfl (any_of HT_.out (by kernel_rfl)) (fun _ _ _ h => h) (Or.inl ⟨by rfl, ?_⟩) ?_ ?_
    rotate_left
    ·intro w_
     go_simp
     try with_reducible rfl
    rotate_left
    ·simp only [Act.put, List.setIfInBounds_toArray, List.set_cons_zero, List.set_cons_succ, i64_w, i32_w]
     rfl
    refine pure_ (i := 13) (N := (some 48)) (v := ?_) (a' := ?_) #[true, true, true, true, true, true, true, true, true, true, true, true, true, true, false, false] rfl rfl (any_of HT_.out (by kernel_rfl)) (fun _ _ _ h => h) (Or.inl ⟨by rfl, ?_⟩) ?_ ?_
    rotate_left
    ·intro w_
     go_simp
     try with_reducible rfl
    rotate_left
    ·simp only [Act.put, List.setIfInBounds_toArray, List.set_cons_zero, List.set_cons_succ, i64_w, i32_w]
     rfl
    refine pure_ (i := 14) (N := (some 6)) (v := ?_) (a' := ?_) #[true, true, true, true, true, true, true, true, true, true, true, true, true, true, true, false] rfl rfl (any_of HT_.out (by kernel_rfl)) (fun _ _ _ h => h) (Or.inl ⟨by rfl, ?_⟩) ?_ ?_
    rotate_left
    ·intro w_
     go_simp
     try with_reducible rfl
    rotate_left
    ·simp only [Act.put, List.setIfInBounds_toArray, List.set_cons_zero, List.set_cons_succ, i64_w, i32_w]
     rfl
    refine pure_ (i := 15) (N := (some 7)) (v := ?_) (a' := ?_) #[true, true, true, true, true, true, true, true, true, true, true, true, true, true, true, true] rfl rfl (any_of HT_.out (by kernel_rfl)) (fun _ _ _ h => h) (Or.inl ⟨by rfl, ?_⟩) ?_ ?_
    rotate_left
    ·intro w_
     go_simp
     try with_reducible rfl
    rotate_left
    ·simp only [Act.put, List.setIfInBounds_toArray, List.set_cons_zero, List.set_cons_succ, i64_w, i32_w]
     rfl
    refine done_ (done_of HT_.out (by kernel_rfl)) ?_
    go_wp2
    go_ret2
    exact ⟨i, _, rfl, HLow.out, HCv.out, below_step HB0.out HBS.out⟩
   ·obtain rfl : i = ys.length := by omega
    have HB2 := HB
    clear hj hn HB
    have HB : Aside0 (Below V2.heap.size V2 V2) := ⟨Below.refl _ _⟩
    go_wp2_with fail
    refine start_ (n := 16) (S := fun x_ => Below V2.heap.size V2 x_) (ds := []) #[false, false, false, false, false, false, false, false, false, false, false, false, false, false, false, false] (by kernel_rfl) rfl rfl (pw_below_drewN (Below.refl _ _) 1) (fun hHeld => ?_)
    refine with_tabW tab_api_Entry_8 bits_api_Entry_8 (fun HT_ HW_ => ?_)
    have HB := Aside0.mk (pw_below_drewN HB.out 1)
    change Aside0 (Below _ _ (World.drew V2)) at HB
    change Below _ _ (World.drew V2) at hHeld
    have hSz : (World.drew V2).heap.size = V2.heap.size := rfl
    have HBS := Aside0.mk (show Below V.heap.size V (World.drew V2) from pw_below_drewN HB2.out 1)
    refine wpAnyLast_str (S' := fun x_ => Below (World.drew V2).heap.size (World.drew V2) x_) (fun x_ hx_ => below_step hHeld hx_) (Below.refl _ _) ?_
    clear hHeld hSz
    generalize World.drew V2 = V2d at *
    have HS := Aside0.mk (Below.refl V2d.heap.size V2d)
    refine pure_ (i := 0) (N := (some 35)) (v := ?_) (a' := ?_) #[true, false, false, false, false, false, false, false, false, false, false, false, false, false, false, false] rfl rfl (any_of HT_.out (by kernel_rfl)) (fun _ _ _ h => h) (Or.inl ⟨by rfl, ?_⟩) ?_ ?_
    rotate_left
    ·intro w_
     go_simp
     try with_reducible rfl
    rotate_left
    ·simp only [Act.put, List.setIfInBounds_toArray, List.set_cons_zero, List.set_cons_succ, i64_w, i32_w]
     rfl
    refine pure_ (i := 1) (N := (some 36)) (v := ?_) (a' := ?_) #[true, true, false, false, false, false, false, false, false, false, false, false, false, false, false, false] rfl rfl (any_of HT_.out (by kernel_rfl)) (fun _ _ _ h => h) (Or.inl ⟨by rfl, ?_⟩) ?_ ?_
    rotate_left
    ·intro w_
     go_simp
     try with_reducible rfl
    rotate_left
    ·simp only [Act.put, List.setIfInBounds_toArray, List.set_cons_zero, List.set_cons_succ, i64_w, i32_w]
     rfl
    refine pure_ (i := 2) (N := (some 37)) (v := ?_) (a' := ?_) #[true, true, true, false, false, false, false, false, false, false, false, false, false, false, false, false] rfl rfl (any_of HT_.out (by kernel_rfl)) (fun _ _ _ h => h) (Or.inl ⟨by rfl, ?_⟩) ?_ ?_
    rotate_left
    ·intro w_
     go_simp
     try with_reducible rfl
    rotate_left
    ·simp only [Act.put, List.setIfInBounds_toArray, List.set_cons_zero, List.set_cons_succ, i64_w, i32_w]
     rfl
    refine pure_ (i := 3) (N := (some 38)) (v := ?_) (a' := ?_) #[true, true, true, true, false, false, false, false, false, false, false, false, false, false, false, false] rfl rfl (any_of HT_.out (by kernel_rfl)) (fun _ _ _ h => h) (Or.inl ⟨by rfl, ?_⟩) ?_ ?_
    rotate_left
    ·intro w_
     go_simp
     try with_reducible rfl
    rotate_left
    ·simp only [Act.put, List.setIfInBounds_toArray, List.set_cons_zero, List.set_cons_succ, i64_w, i32_w]
     rfl
    refine pure_ (i := 4) (N := (some 39)) (v := ?_) (a' := ?_) #[true, true, true, true, true, false, false, false, false, false, false, false, false, false, false, false] rfl rfl (any_of HT_.out (by kernel_rfl)) (fun _ _ _ h => h) (Or.inl ⟨by rfl, ?_⟩) ?_ ?_
    rotate_left
    ·intro w_
     go_simp
     try with_reducible rfl
    rotate_left
    ·simp only [Act.put, List.setIfInBounds_toArray, List.set_cons_zero, List.set_cons_succ, i64_w, i32_w]
     rfl
    refine pure_ (i := 5) (N := (some 40)) (v := undef) (a' := ?_) #[true, true, true, true, true, true, false, false, false, false, false, false, false, false, false, false] rfl rfl (any_of HT_.out (by kernel_rfl)) (fun _ _ _ h => h) (Or.inr ⟨by rfl, rfl⟩) ?_ ?_
    rotate_left
    ·simp only [Act.put, List.setIfInBounds_toArray, List.set_cons_zero, List.set_cons_succ, i64_w, i32_w]
     rfl
    refine pure_ (i := 6) (N := (some 41)) (v := undef) (a' := ?_) #[true, true, true, true, true, true, true, false, false, false, false, false, false, false, false, false] rfl rfl (any_of HT_.out (by kernel_rfl)) (fun _ _ _ h => h) (Or.inr ⟨by rfl, rfl⟩) ?_ ?_
    rotate_left
    ·simp only [Act.put, List.setIfInBounds_toArray, List.set_cons_zero, List.set_cons_succ, i64_w, i32_w]
     rfl
    refine pure_ (i := 7) (N := (some 42)) (v := undef) (a' := ?_) #[true, true, true, true, true, true, true, true, false, false, false, false, false, false, false, false] rfl rfl (any_of HT_.out (by kernel_rfl)) (fun _ _ _ h => h) (Or.inr ⟨by rfl, rfl⟩) ?_ ?_
    rotate_left
    ·simp only [Act.put, List.setIfInBounds_toArray, List.set_cons_zero, List.set_cons_succ, i64_w, i32_w]
     rfl
    refine pure_ (i := 8) (N := (some 43)) (v := undef) (a' := ?_) #[true, true, true, true, true, true, true, true, true, false, false, false, false, false, false, false] rfl rfl (any_of HT_.out (by kernel_rfl)) (fun _ _ _ h => h) (Or.inr ⟨by rfl, rfl⟩) ?_ ?_
    rotate_left
    ·simp only [Act.put, List.setIfInBounds_toArray, List.set_cons_zero, List.set_cons_succ, i64_w, i32_w]
     rfl
    refine pure_ (i := 9) (N := (some 44)) (v := undef) (a' := ?_) #[true, true, true, true, true, true, true, true, true, true, false, false, false, false, false, false] rfl rfl (any_of HT_.out (by kernel_rfl)) (fun _ _ _ h => h) (Or.inr ⟨by rfl, rfl⟩) ?_ ?_
    rotate_left
    ·simp only [Act.put, List.setIfInBounds_toArray, List.set_cons_zero, List.set_cons_succ, i64_w, i32_w]
     rfl
    refine pure_ (i := 10) (N := (some 45)) (v := undef) (a' := ?_) #[true, true, true, true, true, true, true, true, true, true, true, false, false, false, false, false] rfl rfl (any_of HT_.out (by kernel_rfl)) (fun _ _ _ h => h) (Or.inr ⟨by rfl, rfl⟩) ?_ ?_
    rotate_left
    ·simp only [Act.put, List.setIfInBounds_toArray, List.set_cons_zero, List.set_cons_succ, i64_w, i32_w]
     rfl
    refine pure_ (i := 11) (N := (some 46)) (v := undef) (a' := ?_) #[true, true, true, true, true, true, true, true, true, true, true, true, false, false, false, false] rfl rfl (any_of HT_.out (by kernel_rfl)) (fun _ _ _ h => h) (Or.inr ⟨by rfl, rfl⟩) ?_ ?_
    rotate_left
    ·simp only [Act.put, List.setIfInBounds_toArray, List.set_cons_zero, List.set_cons_succ, i64_w, i32_w]
     rfl
    refine pure_ (i := 12) (N := (some 47)) (v := undef) (a' := ?_) #[true, true, true, true, true, true, true, true, true, true, true, true, true, false, false, false] rfl rfl (any_of HT_.out (by kernel_rfl)) (fun _ _ _ h => h) (Or.inr ⟨by rfl, rfl⟩) ?_ ?_
    rotate_left
    ·simp only [Act.put, List.setIfInBounds_toArray, List.set_cons_zero, List.set_cons_succ, i64_w, i32_w]
     rfl
    refine pure_ (i := 13) (N := (some 48)) (v := ?_) (a' := ?_) #[true, true, true, true, true, true, true, true, true, true, true, true, true, true, false, false] rfl rfl (any_of HT_.out (by kernel_rfl)) (fun _ _ _ h => h) (Or.inl ⟨by rfl, ?_⟩) ?_ ?_
    rotate_left
    ·intro w_
     go_simp
     try with_reducible rfl
    rotate_left
    ·simp only [Act.put, List.setIfInBounds_toArray, List.set_cons_zero, List.set_cons_succ, i64_w, i32_w]
     rfl
    refine pure_ (i := 14) (N := (some 6)) (v := ?_) (a' := ?_) #[true, true, true, true, true, true, true, true, true, true, true, true, true, true, true, false] rfl rfl (any_of HT_.out (by kernel_rfl)) (fun _ _ _ h => h) (Or.inl ⟨by rfl, ?_⟩) ?_ ?_
    rotate_left
    ·intro w_
     go_simp
     try with_reducible rfl
    rotate_left
    ·simp only [Act.put, List.setIfInBounds_toArray, List.set_cons_zero, List.set_cons_succ, i64_w, i32_w]
     rfl
    refine pure_ (i := 15) (N := (some 7)) (v := ?_) (a' := ?_) #[true, true, true, true, true, true, true, true, true, true, true, true, true, true, true, true] rfl rfl (any_of HT_.out (by kernel_rfl)) (fun _ _ _ h => h) (Or.inl ⟨by rfl, ?_⟩) ?_ ?_
    rotate_left
    ·intro w_
     go_simp
     try with_reducible rfl
    rotate_left
    ·simp only [Act.put, List.setIfInBounds_toArray, List.set_cons_zero, List.set_cons_succ, i64_w, i32_w]
     rfl
    refine done_ (done_of HT_.out (by kernel_rfl)) ?_
    go_wp2
    go_ret2
    exact ⟨ys.length, _, rfl, HLow.out, ⟨fun h => (by cases h), fun ⟨h, _⟩ => absurd h (Nat.lt_irrefl _)⟩, below_step HB0.out HBS.out⟩
end Go.Proofs.YtpleiklodomgiaaGreatDoor.Y
end
section
namespace Go.Proofs.YtpleiklodomgiaaGreatDoor.Y
open Go.RowKit Go.Shelf Go.Proofs.YtpleiklodomgiaaGreatDoorW.PrintWords Go.Proofs.YtpleiklodomgiaaGreatDoorW.PrintLast Go.Proofs.YtpleiklodomgiaaGreatDoorW.PrintMore Go.Proofs.YtpleiklodomgiaaGreatDoor.B Go.Proofs.YtpleiklodomgiaaGreatDoor.Reg Go.Proofs.YtpleiklodomgiaaGreatDoor.C Go.Proofs.YtpleiklodomgiaaGreatDoor.Q Go.Proofs.YtpleiklodomgiaaGreatDoor.CQ
def behind (desc has : Bool) (t : Key) (ys : List Ent) : List Ent := if has = true then ys.filter (fun y => decide (cmpO desc t y.key = -1)) else ys
theorem behind_drop {desc : Bool} {t : Key} {ys : List Ent} (hU : Up (cmpO desc) (ys.map Ent.key)) {i : Nat} {b : Bool} (hL : Low desc t ys i) (hb : b = true ↔ ∃ h : i < ys.length, ys[i].key = t) : (i + (if b = true then 1 else 0)) ≤ ys.length ∧ behind desc true t ys = ys.drop (i + (if b = true then 1 else 0)) := by
 have hc := cmpO_c desc
 have hle : i + (if b = true then 1 else 0) ≤ ys.length := by
  cases b with
  | false => simpa using hL.le
  | true => obtain ⟨h, _⟩ := hb.1 rfl; simp; omega
 refine ⟨hle, ?_⟩
 obtain ⟨p, hp⟩ : ∃ p, p = i + (if b = true then 1 else 0) := ⟨_, rfl⟩
 rw [← hp] at hle ⊢
 unfold behind
 rw [if_pos rfl]
 have hsplit : ys = ys.take p ++ ys.drop p := (List.take_append_drop p ys).symm
 have h1 : (ys.take p).filter (fun y => decide (cmpO desc t y.key = -1)) = [] := by
  rw [List.filter_eq_nil_iff]
  intro y hy
  obtain ⟨k, hk, rfl⟩ := List.getElem_of_mem hy
  rw [List.length_take] at hk
  rw [List.getElem_take]
  have hkn : k < ys.length := by omega
  have ha := hc.anti ys[k].key t
  rw [decide_eq_true_iff, ha]
  by_cases hki : k < i
  ·rw [hL.lo k hkn hki]; decide
  ·cases b with
   | false => simp at hp; omega
   | true =>
    obtain ⟨h, e⟩ := hb.1 rfl
    have : k = i := by simp at hp; omega
    subst this
    rw [(hc.eq0 _ _).2 e]; decide
 have h2 : (ys.drop p).filter (fun y => decide (cmpO desc t y.key = -1)) = ys.drop p := by
  rw [List.filter_eq_self]
  intro y hy
  obtain ⟨k, hk, rfl⟩ := List.getElem_of_mem hy
  rw [List.length_drop] at hk
  rw [List.getElem_drop]
  have hkn : p + k < ys.length := by omega
  have ha := hc.anti ys[p + k].key t
  rw [decide_eq_true_iff, ha]
  have hn1 := hL.hi (p + k) hkn (by split at hp <;> omega)
  rcases hc.tri ys[p + k].key t with h | h | h
  ·exact absurd h hn1
  ·exfalso
   have e := (hc.eq0 _ _).1 h
   cases b with
   | true =>
    obtain ⟨hi, e2⟩ := hb.1 rfl
    have hlt : i < p + k := by simp at hp; omega
    have := up_at hU hi hkn hlt
    rw [e, e2, (hc.eq0 _ _).2 rfl] at this
    cases this
   | false =>
    have hpi : p = i := by simpa using hp
    subst hpi
    by_cases hk0 : k = 0
    ·subst hk0
     have : (false : Bool) = true := hb.2 ⟨by omega, by simpa using e⟩
     cases this
    ·have hin : p < ys.length := by omega
     have h3 := up_at hU hin hkn (by omega)
     rw [e] at h3
     exact hL.hi p hin (Nat.le_refl _) h3
  ·rw [h]
 conv => lhs; rw [hsplit]
 rw [List.filter_append, h1, h2, List.nil_append]
theorem drop_take_len (ys : List Ent) (p n : Nat) (hp : p ≤ ys.length) : (ys.drop p).take (min n (ys.length - p)) = (ys.drop p).take n := by
 by_cases h : n ≤ ys.length - p
 ·rw [Nat.min_eq_left h]
 ·rw [Nat.min_eq_right (by omega), List.take_of_length_le (by rw [List.length_drop]; exact Nat.le_refl _), List.take_of_length_le (by rw [List.length_drop]; omega)]
theorem slice_both (A : Option Addr) (n c p e : Nat) (w : World) (h : p ≤ e) (he : e ≤ n) (hc : n ≤ c) : (Instr.slice 39 (.slice A n c) (some (.int .i64 (p : Int))) (some (.int .i64 (e : Int))) none).run Tryz.prog w = .ok (.slice (dropA A p c) (e - p) (c - p)) w := by
 have he' : Tryz.prog.elem 39 = 26 := by kernel_rfl
 have hu : Tryz.prog.underlying 39 = some (.slice (Tryz.prog.elem 39)) := by rw [he']; exact Tryz.underlying39
 have hz := Tryz.sizeOf26
 unfold dropA
 rw [run_slice_lh w 39 A n c hu .i64 .i64 (p : Int) (e : Int) (by omega) (by omega) (by omega)]
 simp [he', hz, sliced]
theorem clone_gen (w : World) (A : Option Addr) (xs : List Ent) (c : Nat) (hR : RowV w A xs) (hl : xs.length ≤ 100000) :
  Calls Tryz.prog 27 #[.slice A xs.length c] w fun e w' => ∃ v', e = .returned v' ∧ OwnE w' w.heap.size v' xs ∧ Below w.heap.size w w' := by
 cases A with
 | none =>
  obtain rfl := hR.nil rfl
  refine (AnyE.slices_Clone_nil Tryz.cloneEnt 0 c w).mono ?_
  rintro e w' ⟨rfl, rfl⟩
  exact ⟨_, rfl, OwnE.nil _ _, Below.refl _ _⟩
 | some a => exact (clone_row w a xs c hR hl).mono fun e w' ⟨v', h1, h2, _, h3⟩ => ⟨v', h1, h2, h3⟩
def T_model_Cut_3 : Bool × List (List Nat × List Nat) := (true, [([], []), ([], []), ([1], [1]), ([], []), ([3], [3]), ([0, 2, 4, 4], [0, 2, 4]), ([5], [5]), ([6], [6]), ([6], [6]), ([7, 5, 0, 1, 2, 3, 4, 5, 6, 7], [7]), ([8, 9, 0, 1, 2, 3, 4, 5, 6, 7, 8, 9], [8])])
def B_model_Cut_3 : List Nat := [0, 0, 2, 0, 8, 31, 63, 127, 127, 255, 1023]
theorem tab_model_Cut_3 : rtab .any (opsOf Tryz.f12 3) = T_model_Cut_3 := by kernel_rfl
theorem bits_model_Cut_3 : waitsOk T_model_Cut_3.2 B_model_Cut_3 = true := by kernel_rfl
set_option maxRecDepth 20000 in
set_option maxHeartbeats 8000000 in
theorem cut_any (desc has : Bool) (A : Option Addr) (ys : List Ent) (c : Nat) (t : Ent) (n : Int) (w : World) (hR : RJ w A ys) (hcap : ys.length ≤ c) (hT : has = true → t.In w) (hU : Up (cmpO desc) (ys.map Ent.key)) (hn : -9223372036854775808 ≤ n ∧ n ≤ 9223372036854775807) :
  Calls Tryz.prog 12 #[.slice A ys.length c, .bool desc, .agg #[.bool has, .int .i64 t.at_, .slice t.A t.ls.length t.c, .string t.line], .int .i64 n] w fun e w' => ∃ A' c' zs, e = .returned (.tuple #[.slice A' (List.length zs) c', .bool (decide ((behind desc has t.key ys).length ≤ n.toNat))]) ∧ zs.length ≤ c' ∧ RJ w' A' zs ∧ zs = (behind desc has t.key ys).take n.toNat ∧ (∀ a, A' = some a → w.heap.size ≤ a.block ∧ a.block < w'.heap.size) ∧ Below w.heap.size w w' := by
 obtain ⟨V, hV⟩ : ∃ V, V = w.alloc (.cells #[.bool has, .int .i64 t.at_, .slice t.A t.ls.length t.c, .string t.line] 28) := ⟨_, rfl⟩
 obtain ⟨bm, hbm⟩ : ∃ b, b = w.heap.size := ⟨_, rfl⟩
 have hb0 : Below w.heap.size w V := by rw [hV]; exact below_alloc (Below.refl _ _) _
 have HT : Aside0 (∀ V', Below V.heap.size V V' → V'.heap[bm]? = some (.cells #[.bool has, .int .i64 t.at_, .slice t.A t.ls.length t.c, .string t.line] 28 (0, 0))) := ⟨fun V' h => heap_below h (by rw [hV, hbm]; exact Go.heap_alloc_new _ _)⟩
 have HB0 := Aside0.mk hb0
 have HR := Aside0.mk (hR.below hb0)
 have HBs := Aside0.mk (fun (hh : has = true) (V' : World) (h : Below V.heap.size V V') => bsearch_any desc A ys c t V' ((hR.row.below hb0).below h) (fun y hy => in_below (in_below (hR.in_ y hy).1 hb0) h) (in_below (in_below (hT hh) hb0) h) hU hR.few)
 have HOrd : Aside0 (∀ V' : World, Calls Tryz.prog 26 #[.bool desc] V' fun e w' => e = .returned (.func (.func (ordF desc)) #[] #[]) ∧ Below V'.heap.size V' w') := ⟨fun V' => (order_any desc V').mono fun e w' ⟨h1, h2⟩ => ⟨h1, h2 ▸ Below.refl _ _⟩⟩
 have HCl := Aside0.mk (fun (A : Option Addr) (xs : List Ent) (c : Nat) (V' : World) (h1 : RowV V' A xs) (h2 : xs.length ≤ 100000) => clone_gen V' A xs c h1 h2)
 have HU := Aside0.mk hU
 have HM : Aside0 (ys.length ≤ 20000) := ⟨hR.few⟩
 have HCp := Aside0.mk hcap
 have HN := Aside0.mk hn
 have HWd := Aside0.mk hV
 have HJd := Aside0.mk hbm
 have m0 : V.cell? ⟨bm, 0, none⟩ = some (.bool has) := blk_cell (HT.out V (Below.refl _ _)) 0
 rw [hV, hbm] at m0
 clear hV hbm hb0 hR hT hU hcap
 unfold Ent.val at HBs
 obtain ⟨fo, hfo⟩ : ∃ f, f = ordF desc := ⟨_, rfl⟩
 rw [← hfo] at HBs HOrd
 clear hfo
 obtain ⟨bh, hbh⟩ : ∃ l, l = behind desc has t.key ys := ⟨_, rfl⟩
 have HBh := Aside0.mk hbh
 rw [← hbh]
 clear hbh
 go_enter Tryz.func12, Tryz.ntmps12
 go_upto_if 15 with (fail)
 try rw [← HWd.out]
 try rw [← HJd.out]
 have HVB : Aside0 (Below V.heap.size V V) := ⟨Below.refl _ _⟩
 clear m0
 go_cut [10] (fun v10 wc => ∃ p : Nat, v10 = .int .i64 (p : Int) ∧ Aside0 (p ≤ ys.length ∧ bh = ys.drop p) ∧ Aside0 (Below V.heap.size V wc))
 case first =>
  cases has with
  | false =>
   have HP : Aside0 (0 ≤ ys.length ∧ bh = ys.drop 0) := ⟨Nat.zero_le _, by rw [HBh.out]; unfold behind; simp⟩
   go_wp2
   go_meet
   case rel => exact ⟨0, rfl, HP, HVB⟩
  | true =>
   have HB1 := Aside0.mk (fun V' h => HBs.out rfl V' h)
   have HBS := HVB
   have HTx : Aside0 (V.heap[bm]? = some (.cells #[.bool true, .int .i64 t.at_, .slice t.A t.ls.length t.c, .string t.line] 28 (0, 0))) := ⟨HT.out V (Below.refl _ _)⟩
   clear HBs HVB HT
   have HB : Aside0 (Below V.heap.size V V) := ⟨Below.refl _ _⟩
   go_wp2_with fail
   refine start_ (n := 11) (S := fun x_ => Below V.heap.size V x_) (ds := []) #[false, false, false, false, false, false, false, false, false, false, false] (by kernel_rfl) rfl rfl (pw_below_drewN (Below.refl _ _) 1) (fun hHeld => ?_)
   refine with_tabW tab_model_Cut_3 bits_model_Cut_3 (fun HT_ HW_ => ?_)
   have HB := Aside0.mk (pw_below_drewN HB.out 1)
   change Aside0 (Below _ _ (World.drew V)) at HB
   change Below _ _ (World.drew V) at hHeld
   have hSz : (World.drew V).heap.size = V.heap.size := rfl
   have HTx := Aside0.mk (show (World.drew V).heap[bm]? = some (.cells #[.bool true, .int .i64 t.at_, .slice t.A t.ls.length t.c, .string t.line] 28 (0, 0)) from HTx.out)
   have HBS := Aside0.mk (show Below V.heap.size V (World.drew V) from pw_below_drewN HBS.out 1)
   refine wpAnyLast_str (S' := fun x_ => Below (World.drew V).heap.size (World.drew V) x_) (fun x_ hx_ => below_step hHeld hx_) (Below.refl _ _) ?_
   clear hHeld hSz
   generalize World.drew V = Vd at *
   have HS := Aside0.mk (Below.refl Vd.heap.size Vd)
   refine pure_ (i := 0) (N := (some 17)) (v := ?_) (a' := ?_) #[true, false, false, false, false, false, false, false, false, false, false] rfl rfl (any_of HT_.out (by kernel_rfl)) (fun _ _ _ h => h) (Or.inl ⟨by rfl, ?_⟩) ?_ ?_
   rotate_left
   ·intro w_
    go_simp
    try with_reducible rfl
   rotate_left
   ·simp only [Act.put, List.setIfInBounds_toArray, List.set_cons_zero, List.set_cons_succ, i64_w, i32_w]
    rfl
   refine pure_ (i := 1) (N := (some 18)) (v := ?_) (a' := ?_) #[true, true, false, false, false, false, false, false, false, false, false] rfl rfl (any_of HT_.out (by kernel_rfl)) (fun _ _ _ h => h) (Or.inl ⟨by rfl, ?_⟩) ?_ ?_
   rotate_left
   ·intro w_
    go_simp
    try with_reducible rfl
   rotate_left
   ·simp only [Act.put, List.setIfInBounds_toArray, List.set_cons_zero, List.set_cons_succ, i64_w, i32_w]
    rfl
   refine pure_ (i := 3) (N := (some 20)) (v := ?_) (a' := ?_) #[true, true, false, true, false, false, false, false, false, false, false] rfl rfl (any_of HT_.out (by kernel_rfl)) (fun _ _ _ h => h) (Or.inl ⟨by rfl, ?_⟩) ?_ ?_
   rotate_left
   ·intro w_
    go_simp
    try with_reducible rfl
   rotate_left
   ·simp only [Act.put, List.setIfInBounds_toArray, List.set_cons_zero, List.set_cons_succ, i64_w, i32_w]
    rfl
   refine take_ (i := 2) (N := (some 19)) (v := ?_) (a' := ?_) #[true, true, true, true, false, false, false, false, false, false, false] rfl rfl (take_ofW HT_.out HW_.out (by kernel_rfl)) (fun _ _ _ h => h) (Or.inl ⟨by rfl, ?_⟩) (Below.refl _ _) ?_ ?_
   rotate_left
   ·intro Wx hWx
    have hm := heap_below hWx HTx.out
    have h1 : Wx.cell? ⟨bm, 1, none⟩ = some _ := (blk_cell hm 1).trans rfl
    have h2 : Wx.cell? ⟨bm, 2, none⟩ = some _ := (blk_cell hm 2).trans rfl
    have h3 : Wx.cell? ⟨bm, 3, none⟩ = some _ := (blk_cell hm 3).trans rfl
    go_simp
    try with_reducible rfl
   rotate_left
   ·simp only [Act.put, List.setIfInBounds_toArray, List.set_cons_zero, List.set_cons_succ, i64_w, i32_w]
    rfl
   refine one_ (i := 4) (N := (some 21)) #[true, true, true, true, true, false, false, false, false, false, false] rfl rfl (one_of HT_.out (by kernel_rfl)) (by decide) (fun K hK => ?_)
   refine goes_ Tryz.func26 (by kernel_rfl) rfl #[.bool desc] (by rfl) rfl rfl (by (try simp only [List.map_toArray, List.map_cons, List.map_nil]); first | done | rfl) ?_
   refine (HOrd.out _).mono ?_
   rintro e w3_4 ⟨rfl, hb_1⟩
   refine ⟨_, rfl, ?_⟩
   have HTx := Aside0.mk (heap_below hb_1 HTx.out)
   have HBS := Aside0.mk (below_step HBS.out hb_1)
   have hb_ : Below Vd.heap.size Vd w3_4 := hb_1
   have HB := Aside0.mk (below_step HB.out hb_)
   refine hK.out _ _ hb_ (fun hHeld => ?_)
   clear hK K
   refine wpAnyLast_str (S' := fun x_ => Below w3_4.heap.size w3_4 x_) (fun x_ hx_ => below_step hHeld hx_) (Below.refl _ _) ?_
   clear hHeld
   (try clear hb)
   clear hb_
   have HS := Aside0.mk (Below.refl w3_4.heap.size w3_4)
   refine norm_ (a' := ?_) ?_ ?_
   rotate_left
   ·show Act.put _ (some 21) _ = _
    simp only [Act.put, List.setIfInBounds_toArray, List.set_cons_zero, List.set_cons_succ, i64_w, i32_w]
    rfl
   refine one_ (i := 5) (N := (some 22)) #[true, true, true, true, true, true, false, false, false, false, false] rfl rfl (one_of HT_.out (by kernel_rfl)) (by decide) (fun K hK => ?_)
   refine goes_ Tryz.func25 (by kernel_rfl) rfl #[.slice A ys.length c, .agg #[.int .i64 t.at_, .slice t.A t.ls.length t.c, .string t.line], .func (.func fo) #[] #[]] (by rfl) rfl rfl (by (try simp only [List.map_toArray, List.map_cons, List.map_nil]); first | done | rfl) ?_
   refine (HB1.out _ HBS.out).mono ?_
   rintro e w3_5 ⟨ix, bx, rfl, hlow, hbx, hb_1⟩
   refine ⟨_, rfl, ?_⟩
   have HLow := Aside0.mk hlow
   have HBx := Aside0.mk hbx
   have HBS := Aside0.mk (below_step HBS.out hb_1)
   clear hlow hbx
   have hb_ : Below w3_4.heap.size w3_4 w3_5 := hb_1
   have HB := Aside0.mk (below_step HB.out hb_)
   refine hK.out _ _ hb_ (fun hHeld => ?_)
   clear hK K
   refine wpAnyLast_str (S' := fun x_ => Below w3_5.heap.size w3_5 x_) (fun x_ hx_ => below_step hHeld hx_) (Below.refl _ _) ?_
   clear hHeld
   (try clear hb)
   clear hb_
   have HS := Aside0.mk (Below.refl w3_5.heap.size w3_5)
   refine norm_ (a' := ?_) ?_ ?_
   rotate_left
   ·show Act.put _ (some 22) _ = _
    simp only [Act.put, List.setIfInBounds_toArray, List.set_cons_zero, List.set_cons_succ, i64_w, i32_w]
    rfl
   refine pure_ (i := 6) (N := (some 16)) (v := ?_) (a' := ?_) #[true, true, true, true, true, true, true, false, false, false, false] rfl rfl (any_of HT_.out (by kernel_rfl)) (fun _ _ _ h => h) (Or.inl ⟨by rfl, ?_⟩) ?_ ?_
   rotate_left
   ·intro w_
    go_simp
    try with_reducible rfl
   rotate_left
   ·simp only [Act.put, List.setIfInBounds_toArray, List.set_cons_zero, List.set_cons_succ, i64_w, i32_w]
    rfl
   refine pure_ (i := 7) (N := (some 23)) (v := ?_) (a' := ?_) #[true, true, true, true, true, true, true, true, false, false, false] rfl rfl (any_of HT_.out (by kernel_rfl)) (fun _ _ _ h => h) (Or.inl ⟨by rfl, ?_⟩) ?_ ?_
   rotate_left
   ·intro w_
    go_simp
    try with_reducible rfl
   rotate_left
   ·simp only [Act.put, List.setIfInBounds_toArray, List.set_cons_zero, List.set_cons_succ, i64_w, i32_w]
    rfl
   refine pure_ (i := 8) (N := (some 24)) (v := ?_) (a' := ?_) #[true, true, true, true, true, true, true, true, true, false, false] rfl rfl (any_of HT_.out (by kernel_rfl)) (fun _ _ _ h => h) (Or.inl ⟨by rfl, ?_⟩) ?_ ?_
   rotate_left
   ·intro w_
    go_simp
    try with_reducible rfl
   rotate_left
   ·simp only [Act.put, List.setIfInBounds_toArray, List.set_cons_zero, List.set_cons_succ, i64_w, i32_w]
    rfl
   refine pure_ (i := 9) (N := (some 11)) (v := ?_) (a' := ?_) #[true, true, true, true, true, true, true, true, true, true, false] rfl rfl (any_of HT_.out (by kernel_rfl)) (fun _ _ _ h => h) (Or.inl ⟨by rfl, ?_⟩) ?_ ?_
   rotate_left
   ·intro w_
    go_simp
    try with_reducible rfl
   rotate_left
   ·simp only [Act.put, List.setIfInBounds_toArray, List.set_cons_zero, List.set_cons_succ, i64_w, i32_w]
    rfl
   refine pure_ (i := 10) (N := (some 12)) (v := ?_) (a' := ?_) #[true, true, true, true, true, true, true, true, true, true, true] rfl rfl (any_of HT_.out (by kernel_rfl)) (fun _ _ _ h => h) (Or.inl ⟨by rfl, ?_⟩) ?_ ?_
   rotate_left
   ·intro w_
    go_simp
    try with_reducible rfl
   rotate_left
   ·simp only [Act.put, List.setIfInBounds_toArray, List.set_cons_zero, List.set_cons_succ, i64_w, i32_w]
    rfl
   refine done_ (done_of HT_.out (by kernel_rfl)) ?_
   have HP := Aside0.mk (behind_drop HU.out HLow.out HBx.out)
   cases bx with
   | true =>
    have hle : (ix : Int) + 1 ≤ 20001 := by have h1 := HP.out.1; have h2 := HM.out; simp at h1; omega
    go_wp2
    go_meet
    case rel => exact ⟨ix + 1, by congr 1, ⟨by simpa using HP.out.1, by rw [HBh.out, HP.out.2]; simp⟩, HBS⟩
   | false =>
    go_wp2
    go_meet
    case rel => exact ⟨ix, rfl, ⟨by simpa using HP.out.1, by rw [HBh.out, HP.out.2]; simp⟩, HBS⟩
 case rest =>
  clear HVB HBs HOrd
  obtain ⟨p, rfl, HP, HBS⟩ := hcut
  go_upto_region 8 with (fail)
  have hp1 := HP.out.1
  have hm20 := HM.out
  have hn0 := HN.out
  have he0 : wrap64 ((p : Int) + min (max n 0) (wrap64 ((ys.length : Int) - (p : Int)))) = ((p + min n.toNat (ys.length - p) : Nat) : Int) := by
   rw [show wrap64 ((ys.length : Int) - (p : Int)) = (ys.length : Int) - (p : Int) by unfold wrap64; omega]
   unfold wrap64
   omega
  obtain ⟨e, he⟩ : ∃ e, e = p + min n.toNat (ys.length - p) := ⟨_, rfl⟩
  rw [he0, ← he]
  have HEe : Aside0 (p ≤ e ∧ e ≤ ys.length ∧ e - p = min n.toNat (ys.length - p)) := ⟨by omega, by omega, by omega⟩
  obtain ⟨xs, hxs⟩ : ∃ xs, xs = (ys.drop p).take (min n.toNat (ys.length - p)) := ⟨_, rfl⟩
  have hxl : xs.length = e - p := by rw [hxs, List.length_take, List.length_drop]; omega
  have HXr : Aside0 (∀ V', Below V.heap.size V V' → RowV V' (dropA A p c) xs) := ⟨fun V' h => by rw [hxs]; exact ((HR.out.row.below h).dropA p c HCp.out).take _⟩
  have HXm : Aside0 (∀ x ∈ xs, x ∈ ys) := ⟨fun x hx => by rw [hxs] at hx; exact List.mem_of_mem_drop (List.mem_of_mem_take hx)⟩
  have HXe : Aside0 (xs = bh.take n.toNat) := ⟨by rw [hxs, HP.out.2, drop_take_len ys p n.toNat hp1]⟩
  have HEq : Aside0 (((e : Int) == (ys.length : Int)) = decide (bh.length ≤ n.toNat)) := ⟨by
   rw [HP.out.2, List.length_drop]
   by_cases h : ys.length - p ≤ n.toNat
   ·rw [decide_eq_true h]; simp; omega
   ·rw [decide_eq_false h]; simp; omega⟩
  have HC1 : Aside0 (Calls Tryz.prog 27 #[.slice (dropA A p c) (e - p) (c - p)] wc fun e w' => ∃ v', e = .returned v' ∧ OwnE w' wc.heap.size v' xs ∧ Below wc.heap.size wc w') := ⟨by
   have h := HCl.out (dropA A p c) xs (c - p) wc (HXr.out wc HBS.out) (by omega)
   rw [hxl] at h
   exact h⟩
  have slb : ∀ V, _ = _ := fun V => slice_both A ys.length c p e V HEe.out.1 HEe.out.2.1 HCp.out
  obtain ⟨D, hD⟩ : ∃ D, D = dropA A p c := ⟨_, rfl⟩
  obtain ⟨q, hq⟩ : ∃ q, q = e - p := ⟨_, rfl⟩
  obtain ⟨r, hr⟩ : ∃ r, r = c - p := ⟨_, rfl⟩
  rw [← hD, ← hq, ← hr] at slb HC1
  have HEd := Aside0.mk he
  clear hD hq hr hp1 hm20 hn0 he0 he hxs hxl HCl
  go_wp2_with fail
  ((refine (HC1.out).mono ?_); rintro er w4 ⟨v', rfl, ho, hb4⟩)
  have HO := Aside0.mk ho
  have HB4 := Aside0.mk (below_step HBS.out hb4)
  clear ho hb4 slb
  obtain ⟨A', c', hv, hlc, hrow, hfr⟩ := HO.out.row
  have HRow := Aside0.mk (And.intro hlc hrow)
  have HFr := Aside0.mk hfr
  subst hv
  clear hlc hrow hfr
  go_wp2
  go_ret2
  have hxsl : xs.length ≤ 20000 := by
   have h1 : xs.length ≤ ys.length := by
    rw [HXe.out, HP.out.2, List.length_take, List.length_drop]
    omega
   have h2 := HM.out
   omega
  refine ⟨A', c', xs, ?_, HRow.out.1, ⟨HRow.out.2, fun x hx => ⟨in_below (HR.out.in_ x (HXm.out x hx)).1 HB4.out, (HR.out.in_ x (HXm.out x hx)).2⟩, hxsl⟩, HXe.out, fun a ha => ⟨by have h1 := (HFr.out a ha).1; have h2 := HB0.out.size; have h3 := HBS.out.size; omega, (HFr.out a ha).2.1⟩, below_step HB0.out HB4.out⟩
  rw [← HEq.out]
  rfl
end Go.Proofs.YtpleiklodomgiaaGreatDoor.Y
end
section
namespace Go.Proofs.YtpleiklodomgiaaGreatDoor.F
end Go.Proofs.YtpleiklodomgiaaGreatDoor.F
namespace Go.Proofs.YtpleiklodomgiaaGreatDoor.Y
open Go.RowKit Go.Shelf Go.Proofs.YtpleiklodomgiaaGreatDoorW.PrintWords Go.Proofs.YtpleiklodomgiaaGreatDoorW.PrintLast Go.Proofs.YtpleiklodomgiaaGreatDoorW.PrintMore Go.Proofs.YtpleiklodomgiaaGreatDoor.B Go.Proofs.YtpleiklodomgiaaGreatDoor.Reg Go.Proofs.YtpleiklodomgiaaGreatDoor.C Go.Proofs.YtpleiklodomgiaaGreatDoor.Q Go.Proofs.YtpleiklodomgiaaGreatDoor.CQ Go.Proofs.YtpleiklodomgiaaGreatDoor.F
theorem qcells {w : World} {j : Nat} {a0 a1 a2 a3 a4 a5 a6 a7 a8 a9 : Value} {t : TypeId} (h : w.heap[j]? = some (.cells #[a0, a1, a2, a3, a4, a5, a6, a7, a8, a9] t (0, 0))) : w.cell? ⟨j, 0, none⟩ = some a0 ∧ w.cell? ⟨j, 1, none⟩ = some a1 ∧ w.cell? ⟨j, 2, none⟩ = some a2 ∧ w.cell? ⟨j, 3, none⟩ = some a3 ∧ w.cell? ⟨j, 4, none⟩ = some a4 ∧ w.cell? ⟨j, 5, none⟩ = some a5 ∧ w.cell? ⟨j, 6, none⟩ = some a6 ∧ w.cell? ⟨j, 7, none⟩ = some a7 ∧ w.cell? ⟨j, 8, none⟩ = some a8 ∧ w.cell? ⟨j, 9, none⟩ = some a9 :=
 ⟨blk_cell h 0, blk_cell h 1, blk_cell h 2, blk_cell h 3, blk_cell h 4, blk_cell h 5, blk_cell h 6, blk_cell h 7, blk_cell h 8, blk_cell h 9⟩
theorem mcells {w : World} {j : Nat} {a0 a1 a2 a3 : Value} {t : TypeId} (h : w.heap[j]? = some (.cells #[a0, a1, a2, a3] t (0, 0))) : w.cell? ⟨j, 0, none⟩ = some a0 ∧ w.cell? ⟨j, 1, none⟩ = some a1 ∧ w.cell? ⟨j, 2, none⟩ = some a2 ∧ w.cell? ⟨j, 3, none⟩ = some a3 := ⟨blk_cell h 0, blk_cell h 1, blk_cell h 2, blk_cell h 3⟩
def markV (has : Bool) (t : Ent) : Value := .agg #[.bool has, .int .i64 t.at_, .slice t.A t.ls.length t.c, .string t.line]
def T_model_Page_1 : Bool × List (List Nat × List Nat) := (true, [([], []), ([], []), ([0, 1], [0, 1]), ([], []), ([3], [3]), ([], []), ([], []), ([6], [6]), ([2, 4, 5, 7, 2], [2, 4, 5, 7]), ([8], [8]), ([8], [8]), ([9, 8, 0, 1, 2, 3, 4, 5, 6, 7, 8, 9, 10], [9]), ([10, 11, 0, 1, 2, 3, 4, 5, 6, 7, 8, 9, 10, 11], [10])])
def B_model_Page_1 : List Nat := [0, 0, 3, 0, 8, 0, 0, 64, 255, 511, 511, 2047, 4095]
theorem tab_model_Page_1 : rtab .any (opsOf Tryz.f14 1) = T_model_Page_1 := by kernel_rfl
theorem bits_model_Page_1 : waitsOk T_model_Page_1.2 B_model_Page_1 = true := by kernel_rfl
set_option maxRecDepth 20000 in
set_option maxHeartbeats 8000000 in
theorem page_any {W : World} (hC : Go.Proofs.YtpleiklodomgiaaGreatDoor.W.Con W) (hS : Go.Proofs.YtpleiklodomgiaaGreatDoor.M.Spl W) (q : Qv) (A1 A2 : Option Addr) (c1 c2 : Nat) (page : ByteArray) (has : Bool) (t : Ent) (A : Option Addr) (rs : List Rw) (cap : Nat) (w : World) (hb : Below W.heap.size W w) (hq : IsQ w q A1 c1 A2 c2) (hT : has = true → t.In w) (hR : RowsV w A rs) :
  Calls Tryz.prog 14 #[qV q A1 c1 A2 c2 page, markV has t, .slice A rs.length cap] w fun e w' => ∃ A' c' zs ys, e = .returned (.tuple #[.slice A' (List.length zs) c', .bool (decide ((behind q.desc has t.key ys).length ≤ q.lim.toNat))]) ∧ zs.length ≤ c' ∧ RJ w' A' zs ∧ zs = (behind q.desc has t.key ys).take q.lim.toNat ∧ Sd q.desc (coll q rs) ys ∧ (∀ y ∈ ys, y ∈ coll q rs) ∧ (∀ a, A' = some a → w.heap.size ≤ a.block ∧ a.block < w'.heap.size) ∧ Below w.heap.size w w' := by
 obtain ⟨V, hV⟩ : ∃ V, V = (w.alloc (.cells #[.int .i64 q.fr, .int .i64 q.till, .slice A1 q.ms.length c1, .int .i64 q.T.f0, .string q.T.f1, .string q.T.f2, .slice A2 q.T.f3.length c2, .bool q.desc, .int .i64 q.lim, .string page] 37)).alloc (.cells #[.bool has, .int .i64 t.at_, .slice t.A t.ls.length t.c, .string t.line] 28) := ⟨_, rfl⟩
 obtain ⟨bm, hbm⟩ : ∃ b, b = w.heap.size + 1 := ⟨_, rfl⟩
 obtain ⟨bq, hbq⟩ : ∃ b, b = w.heap.size := ⟨_, rfl⟩
 have hb0 : Below w.heap.size w V := by rw [hV]; exact below_alloc (below_alloc (Below.refl _ _) _) _
 have HTx : Aside0 (V.heap[bm]? = some (.cells #[.bool has, .int .i64 t.at_, .slice t.A t.ls.length t.c, .string t.line] 28 (0, 0))) := ⟨by rw [hV, hbm]; exact box1 _ _ _⟩
 have HQx : Aside0 (V.heap[bq]? = some (.cells #[.int .i64 q.fr, .int .i64 q.till, .slice A1 q.ms.length c1, .int .i64 q.T.f0, .string q.T.f1, .string q.T.f2, .slice A2 q.T.f3.length c2, .bool q.desc, .int .i64 q.lim, .string page] 37 (0, 0))) := ⟨by rw [hV, hbq]; exact box0 _ _ _⟩
 have HB0 := Aside0.mk hb0
 have HAn := Aside0.mk (fun (V' : World) (h : Below V.heap.size V V') => answer_any hC hS q A1 A2 c1 c2 page A rs cap V' (below_step (below_step hb hb0) h) ((hq.below hb0).below h) ((hR.below hb0).below h))
 have HTi := Aside0.mk (fun (V' : World) (h : Below V.heap.size V V') (hh : has = true) => in_below (in_below (hT hh) hb0) h)
 have HLm : Aside0 (1 ≤ q.lim ∧ q.lim ≤ 8) := ⟨hq.lim⟩
 have HCu := Aside0.mk (fun (A : Option Addr) (ys : List Ent) (c : Nat) (V' : World) (h1 : RJ V' A ys) (h2 : ys.length ≤ c) (h3 : has = true → t.In V') (h4 : Up (cmpO q.desc) (ys.map Ent.key)) => cut_any q.desc has A ys c t q.lim V' h1 h2 h3 h4 (by have := hq.lim; omega))
 have HWd := Aside0.mk hV
 have HJd := Aside0.mk hbm
 have HKd := Aside0.mk hbq
 clear hV hbm hbq hb0 hC hS hq hT hR hb
 unfold qV at HAn ⊢
 unfold markV
 go_enter Tryz.func14, Tryz.ntmps14
 go_wp2_with fail
 try rw [← HWd.out]
 try rw [← HJd.out]
 try rw [← HKd.out]
 clear HWd HJd HKd
 have HBS : Aside0 (Below V.heap.size V V) := ⟨Below.refl _ _⟩
 have HB : Aside0 (Below V.heap.size V V) := ⟨Below.refl _ _⟩
 refine start_ (n := 13) (S := fun x_ => Below V.heap.size V x_) (ds := []) #[false, false, false, false, false, false, false, false, false, false, false, false, false] (by kernel_rfl) rfl rfl (pw_below_drewN (Below.refl _ _) 1) (fun hHeld => ?_)
 refine with_tabW tab_model_Page_1 bits_model_Page_1 (fun HT_ HW_ => ?_)
 have HB := Aside0.mk (pw_below_drewN HB.out 1)
 change Aside0 (Below _ _ (World.drew V)) at HB
 change Below _ _ (World.drew V) at hHeld
 have hSz : (World.drew V).heap.size = V.heap.size := rfl
 have HTx := Aside0.mk (show (World.drew V).heap[bm]? = _ from HTx.out)
 have HQx := Aside0.mk (show (World.drew V).heap[bq]? = _ from HQx.out)
 have HBS := Aside0.mk (show Below V.heap.size V (World.drew V) from pw_below_drewN HBS.out 1)
 refine wpAnyLast_str (S' := fun x_ => Below (World.drew V).heap.size (World.drew V) x_) (fun x_ hx_ => below_step hHeld hx_) (Below.refl _ _) ?_
 clear hHeld hSz
 generalize World.drew V = Vd at *
 have HS := Aside0.mk (Below.refl Vd.heap.size Vd)
 refine pure_ (i := 1) (N := (some 9)) (v := ?_) (a' := ?_) #[false, true, false, false, false, false, false, false, false, false, false, false, false] rfl rfl (any_of HT_.out (by kernel_rfl)) (fun _ _ _ h => h) (Or.inl ⟨by rfl, ?_⟩) ?_ ?_
 rotate_left
 ·intro w_
  go_simp
  try with_reducible rfl
 rotate_left
 ·simp only [Act.put, List.setIfInBounds_toArray, List.set_cons_zero, List.set_cons_succ, i64_w, i32_w]
  rfl
 refine pure_ (i := 3) (N := (some 11)) (v := ?_) (a' := ?_) #[false, true, false, true, false, false, false, false, false, false, false, false, false] rfl rfl (any_of HT_.out (by kernel_rfl)) (fun _ _ _ h => h) (Or.inl ⟨by rfl, ?_⟩) ?_ ?_
 rotate_left
 ·intro w_
  go_simp
  try with_reducible rfl
 rotate_left
 ·simp only [Act.put, List.setIfInBounds_toArray, List.set_cons_zero, List.set_cons_succ, i64_w, i32_w]
  rfl
 refine pure_ (i := 6) (N := (some 14)) (v := ?_) (a' := ?_) #[false, true, false, true, false, false, true, false, false, false, false, false, false] rfl rfl (any_of HT_.out (by kernel_rfl)) (fun _ _ _ h => h) (Or.inl ⟨by rfl, ?_⟩) ?_ ?_
 rotate_left
 ·intro w_
  go_simp
  try with_reducible rfl
 rotate_left
 ·simp only [Act.put, List.setIfInBounds_toArray, List.set_cons_zero, List.set_cons_succ, i64_w, i32_w]
  rfl
 refine take_ (i := 0) (N := (some 8)) (v := ?_) (a' := ?_) #[true, true, false, true, false, false, true, false, false, false, false, false, false] rfl rfl (take_ofW HT_.out HW_.out (by kernel_rfl)) (fun _ _ _ h => h) (Or.inl ⟨by rfl, ?_⟩) (Below.refl _ _) ?_ ?_
 rotate_left
 ·intro Wx hWx
  obtain ⟨m0, m1, m2, m3, m4, m5, m6, m7, m8, m9⟩ := qcells (heap_below hWx HQx.out)
  go_simp
  try with_reducible rfl
 rotate_left
 ·simp only [Act.put, List.setIfInBounds_toArray, List.set_cons_zero, List.set_cons_succ, i64_w, i32_w]
  rfl
 refine take_ (i := 4) (N := (some 12)) (v := ?_) (a' := ?_) #[true, true, false, true, true, false, true, false, false, false, false, false, false] rfl rfl (take_ofW HT_.out HW_.out (by kernel_rfl)) (fun _ _ _ h => h) (Or.inl ⟨by rfl, ?_⟩) (Below.refl _ _) ?_ ?_
 rotate_left
 ·intro Wx hWx
  obtain ⟨m0, m1, m2, m3, m4, m5, m6, m7, m8, m9⟩ := qcells (heap_below hWx HQx.out)
  go_simp
  try with_reducible rfl
 rotate_left
 ·simp only [Act.put, List.setIfInBounds_toArray, List.set_cons_zero, List.set_cons_succ, i64_w, i32_w]
  rfl
 refine take_ (i := 5) (N := (some 13)) (v := ?_) (a' := ?_) #[true, true, false, true, true, true, true, false, false, false, false, false, false] rfl rfl (take_ofW HT_.out HW_.out (by kernel_rfl)) (fun _ _ _ h => h) (Or.inl ⟨by rfl, ?_⟩) (Below.refl _ _) ?_ ?_
 rotate_left
 ·intro Wx hWx
  obtain ⟨m0, m1, m2, m3⟩ := mcells (heap_below hWx HTx.out)
  go_simp
  try with_reducible rfl
 rotate_left
 ·simp only [Act.put, List.setIfInBounds_toArray, List.set_cons_zero, List.set_cons_succ, i64_w, i32_w]
  rfl
 refine take_ (i := 7) (N := (some 15)) (v := ?_) (a' := ?_) #[true, true, false, true, true, true, true, true, false, false, false, false, false] rfl rfl (take_ofW HT_.out HW_.out (by kernel_rfl)) (fun _ _ _ h => h) (Or.inl ⟨by rfl, ?_⟩) (Below.refl _ _) ?_ ?_
 rotate_left
 ·intro Wx hWx
  obtain ⟨m0, m1, m2, m3, m4, m5, m6, m7, m8, m9⟩ := qcells (heap_below hWx HQx.out)
  go_simp
  try with_reducible rfl
 rotate_left
 ·simp only [Act.put, List.setIfInBounds_toArray, List.set_cons_zero, List.set_cons_succ, i64_w, i32_w]
  rfl
 refine one_ (i := 2) (N := (some 10)) #[true, true, true, true, true, true, true, true, false, false, false, false, false] rfl rfl (one_of HT_.out (by kernel_rfl)) (by decide) (fun K hK => ?_)
 refine goes_ Tryz.func11 (by kernel_rfl) rfl #[.agg #[.int .i64 q.fr, .int .i64 q.till, .slice A1 q.ms.length c1, .int .i64 q.T.f0, .string q.T.f1, .string q.T.f2, .slice A2 q.T.f3.length c2, .bool q.desc, .int .i64 q.lim, .string page], .slice A rs.length cap] (by rfl) rfl rfl (by (try simp only [List.map_toArray, List.map_cons, List.map_nil]); first | done | rfl) ?_
 refine (HAn.out _ HBS.out).mono ?_
 rintro e w1_2 ⟨A3, c3, ys, rfl, hcap, hrj, hsd, hkp, hb_1⟩
 refine ⟨_, rfl, ?_⟩
 have HBS := Aside0.mk (below_step HBS.out hb_1)
 have HQx := Aside0.mk (heap_below hb_1 HQx.out)
 have HTx := Aside0.mk (heap_below hb_1 HTx.out)
 have HSd := Aside0.mk hsd
 have HKp := Aside0.mk hkp
 have HCa := Aside0.mk (HCu.out A3 ys c3 _ hrj hcap (HTi.out _ HBS.out) hsd.up)
 have HSz : Aside0 (V.heap.size ≤ w1_2.heap.size) := ⟨HBS.out.size⟩
 clear hcap hrj hsd hkp
 have hb_ : Below Vd.heap.size Vd w1_2 := hb_1
 have HB := Aside0.mk (below_step HB.out hb_)
 refine hK.out _ _ hb_ (fun hHeld => ?_)
 clear hK K
 refine wpAnyLast_str (S' := fun x_ => Below w1_2.heap.size w1_2 x_) (fun x_ hx_ => below_step hHeld hx_) (Below.refl _ _) ?_
 clear hHeld
 (try clear hb)
 clear hb_
 have HS := Aside0.mk (Below.refl w1_2.heap.size w1_2)
 refine norm_ (a' := ?_) ?_ ?_
 rotate_left
 ·show Act.put _ (some 10) _ = _
  simp only [Act.put, List.setIfInBounds_toArray, List.set_cons_zero, List.set_cons_succ, i64_w, i32_w]
  rfl
 refine one_ (i := 8) (N := (some 16)) #[true, true, true, true, true, true, true, true, true, false, false, false, false] rfl rfl (one_of HT_.out (by kernel_rfl)) (by decide) (fun K hK => ?_)
 refine goes_ Tryz.func12 (by kernel_rfl) rfl #[.slice A3 (List.length ys) c3, .bool q.desc, .agg #[.bool has, .int .i64 t.at_, .slice t.A t.ls.length t.c, .string t.line], .int .i64 q.lim] (by rfl) rfl rfl (by (try simp only [List.map_toArray, List.map_cons, List.map_nil]); first | done | rfl) ?_
 refine (HCa.out).mono ?_
 rintro e w1_8 ⟨A4, c4, zs, rfl, hcap, hrj, hzs, hfr, hb_1⟩
 refine ⟨_, rfl, ?_⟩
 have HBS := Aside0.mk (below_step HBS.out hb_1)
 have HRz := Aside0.mk (And.intro hcap (And.intro hrj (And.intro hzs hfr)))
 clear hcap hrj hzs hfr
 have hb_ : Below w1_2.heap.size w1_2 w1_8 := hb_1
 have HB := Aside0.mk (below_step HB.out hb_)
 refine hK.out _ _ hb_ (fun hHeld => ?_)
 clear hK K
 refine wpAnyLast_str (S' := fun x_ => Below w1_8.heap.size w1_8 x_) (fun x_ hx_ => below_step hHeld hx_) (Below.refl _ _) ?_
 clear hHeld
 (try clear hb)
 clear hb_
 have HS := Aside0.mk (Below.refl w1_8.heap.size w1_8)
 refine norm_ (a' := ?_) ?_ ?_
 rotate_left
 ·show Act.put _ (some 16) _ = _
  simp only [Act.put, List.setIfInBounds_toArray, List.set_cons_zero, List.set_cons_succ, i64_w, i32_w]
  rfl
 refine pure_ (i := 9) (N := (some 17)) (v := ?_) (a' := ?_) #[true, true, true, true, true, true, true, true, true, true, false, false, false] rfl rfl (any_of HT_.out (by kernel_rfl)) (fun _ _ _ h => h) (Or.inl ⟨by rfl, ?_⟩) ?_ ?_
 rotate_left
 ·intro w_
  go_simp
  try with_reducible rfl
 rotate_left
 ·simp only [Act.put, List.setIfInBounds_toArray, List.set_cons_zero, List.set_cons_succ, i64_w, i32_w]
  rfl
 refine pure_ (i := 10) (N := (some 18)) (v := ?_) (a' := ?_) #[true, true, true, true, true, true, true, true, true, true, true, false, false] rfl rfl (any_of HT_.out (by kernel_rfl)) (fun _ _ _ h => h) (Or.inl ⟨by rfl, ?_⟩) ?_ ?_
 rotate_left
 ·intro w_
  go_simp
  try with_reducible rfl
 rotate_left
 ·simp only [Act.put, List.setIfInBounds_toArray, List.set_cons_zero, List.set_cons_succ, i64_w, i32_w]
  rfl
 refine pure_ (i := 11) (N := (some 6)) (v := ?_) (a' := ?_) #[true, true, true, true, true, true, true, true, true, true, true, true, false] rfl rfl (any_of HT_.out (by kernel_rfl)) (fun _ _ _ h => h) (Or.inl ⟨by rfl, ?_⟩) ?_ ?_
 rotate_left
 ·intro w_
  go_simp
  try with_reducible rfl
 rotate_left
 ·simp only [Act.put, List.setIfInBounds_toArray, List.set_cons_zero, List.set_cons_succ, i64_w, i32_w]
  rfl
 refine pure_ (i := 12) (N := (some 7)) (v := ?_) (a' := ?_) #[true, true, true, true, true, true, true, true, true, true, true, true, true] rfl rfl (any_of HT_.out (by kernel_rfl)) (fun _ _ _ h => h) (Or.inl ⟨by rfl, ?_⟩) ?_ ?_
 rotate_left
 ·intro w_
  go_simp
  try with_reducible rfl
 rotate_left
 ·simp only [Act.put, List.setIfInBounds_toArray, List.set_cons_zero, List.set_cons_succ, i64_w, i32_w]
  rfl
 refine done_ (done_of HT_.out (by kernel_rfl)) ?_
 go_wp2
 go_ret2
 exact ⟨A4, c4, zs, ys, rfl, HRz.out.1, HRz.out.2.1, HRz.out.2.2.1, HSd.out, HKp.out, fun a ha => ⟨by have h1 := (HRz.out.2.2.2 a ha).1; have h2 := HB0.out.size; have h3 := HSz.out; omega, (HRz.out.2.2.2 a ha).2⟩, below_step HB0.out HBS.out⟩
end Go.Proofs.YtpleiklodomgiaaGreatDoor.Y
end
section
namespace Go.Proofs.YtpleiklodomgiaaGreatDoor.Y
open Go.RowKit Go.Proofs.YtpleiklodomgiaaGreatDoorW.PrintWords Go.Proofs.YtpleiklodomgiaaGreatDoorW.PrintLast Go.Proofs.YtpleiklodomgiaaGreatDoorW.PrintMore Go.Proofs.YtpleiklodomgiaaGreatDoor.B Go.Proofs.YtpleiklodomgiaaGreatDoor.C Go.Proofs.YtpleiklodomgiaaGreatDoor.Q Go.Proofs.YtpleiklodomgiaaGreatDoor.CQ Go.Proofs.YtpleiklodomgiaaGreatDoor.F
def eK (k : Int) : Ent := ⟨k, none, 0, [], ⟨#[]⟩⟩
def kK (k : Int) : Key := ⟨k, [], ⟨#[]⟩⟩
def q0 : Qv := ⟨1, 9, [], ⟨1, ⟨#[]⟩, ⟨#[]⟩, []⟩, false, 2⟩
def l0 : List Ent := [eK 3, eK 1, eK 2, eK 1]
theorem coll0 (a : Addr) : coll q0 [⟨some a, 4, l0⟩] = l0 := rfl
theorem keys0 {ys : List Ent} (h : Sd false l0 ys) : ys.map Ent.key = [kK 1, kK 2, kK 3] := by
 refine up_unique (cmpO_c false) h.up ?_ fun k => (h.keys k).trans ?_
 ·unfold Up
  simp only [List.pairwise_cons, List.mem_cons, List.not_mem_nil, or_false, List.Pairwise.nil, and_true]
  refine ⟨fun y hy => ?_, fun y hy => ?_, fun y hy => hy.elim⟩
  ·rcases hy with rfl | rfl <;> rfl
  ·subst hy; rfl
 ·show k ∈ [kK 3, kK 1, kK 2, kK 1] ↔ _
  simp only [List.mem_cons, List.not_mem_nil, or_false]
  constructor
  ·rintro (h | h | h | h)
   ·exact .inr (.inr h)
   ·exact .inl h
   ·exact .inr (.inl h)
   ·exact .inl h
  ·rintro (h | h | h)
   ·exact .inr (.inl h)
   ·exact .inr (.inr (.inl h))
   ·exact .inl h
theorem behind0 {ys : List Ent} (h : Sd false l0 ys) : ys.length = 3 ∧ ∃ z, behind false true (kK 2) ys = [z] ∧ z.at_ = 3 := by
 have hk := keys0 h
 rcases ys with _ | ⟨a, _ | ⟨b, _ | ⟨c, _ | ⟨d, r⟩⟩⟩⟩
 ·simp at hk
 ·simp at hk
 ·simp at hk
 ·simp only [List.map_cons, List.map_nil, List.cons.injEq, and_true] at hk
  obtain ⟨h1, h2, h3⟩ := hk
  refine ⟨rfl, c, ?_, congrArg Key.at_ h3⟩
  unfold behind
  rw [if_pos rfl]
  have e1 : decide (cmpO false (kK 2) a.key = -1) = false := by rw [h1]; rfl
  have e2 : decide (cmpO false (kK 2) b.key = -1) = false := by rw [h2, ((cmpO_c false).eq0 _ _).2 rfl]; rfl
  have e3 : decide (cmpO false (kK 2) c.key = -1) = true := by rw [h3]; rfl
  simp only [List.filter_cons, e1, e2, e3, List.filter_nil]
  rfl
 ·simp at hk
theorem in0 (k : Int) (w : World) : (eK k).In w := ⟨⟨rfl, by simp [eK], fun h => absurd h (Nat.lt_irrefl 0)⟩, Nat.le_refl _, by simp [eK]⟩
theorem isQ0 (w : World) : IsQ w q0 none 0 none 0 := ⟨⟨rfl, by simp [q0], fun h => absurd h (Nat.lt_irrefl 0)⟩, Nat.le_refl _, by simp [q0], ⟨leaf_ok 3 1 (by decide) _ _ (by decide) (by decide), ⟨rfl, by simp [q0], fun h => absurd h (Nat.lt_irrefl 0)⟩, Nat.le_refl _⟩, by decide, by decide⟩
theorem rows0 {w : World} {b r : Nat} {t t' : TypeId} (hb : w.heap[b]? = some (.cells #[.int .i64 3, .slice none 0 0, .string ⟨#[]⟩, .int .i64 1, .slice none 0 0, .string ⟨#[]⟩, .int .i64 2, .slice none 0 0, .string ⟨#[]⟩, .int .i64 1, .slice none 0 0, .string ⟨#[]⟩] t (0, 0)))
  (hr : w.heap[r]? = some (.cells #[.slice (some ⟨b, 0, none⟩) 4 4] t' (0, 0))) : RowsV w (some ⟨r, 0, none⟩) [⟨some ⟨b, 0, none⟩, 4, l0⟩] := by
 refine ⟨fun e => (by cases e), fun a ha i hi => ?_, fun x hx => ?_, ?_, fun x hx => ?_⟩
 ·cases ha
  have : i = 0 := by simp at hi; omega
  subst this
  rw [add_at, blk_cell hr]
  rfl
 ·rw [List.mem_singleton.1 hx]
  refine ⟨⟨fun e => (by cases e), fun a ha j u hu => ?_⟩, fun y hy => ?_⟩
  ·cases ha
   rw [add_at, Nat.zero_add, blk_cell hb]
   show ((entC l0).toArray)[j]? = _
   rw [List.getElem?_toArray]
   exact hu
  ·have hy' : y = eK 3 ∨ y = eK 1 ∨ y = eK 2 ∨ y = eK 1 := by simpa [l0] using hy
   rcases hy' with rfl | rfl | rfl | rfl <;> exact ⟨in0 _ _, by simp [eK, ByteArray.size]⟩
 ·simp
 ·rw [List.mem_singleton.1 hx]; simp [l0]
theorem page0 {W w : World} (hC : Go.Proofs.YtpleiklodomgiaaGreatDoor.W.Con W) (hS : Go.Proofs.YtpleiklodomgiaaGreatDoor.M.Spl W) (b r : Nat) (hb : Below W.heap.size W w) (hR : RowsV w (some ⟨r, 0, none⟩) [⟨some ⟨b, 0, none⟩, 4, l0⟩]) :
  Calls Tryz.prog 14 #[.agg #[.int .i64 1, .int .i64 9, .slice none 0 0, .int .i64 1, .string ⟨#[]⟩, .string ⟨#[]⟩, .slice none 0 0, .bool false, .int .i64 2, .string ⟨#[]⟩], .agg #[.bool true, .int .i64 2, .slice none 0 0, .string ⟨#[]⟩], .slice (some ⟨r, 0, none⟩) 1 1] w fun e w' => ∃ (a : Addr) (c : Nat), e = .returned (.tuple #[.slice (some a) 1 c, .bool true]) ∧ w'.cell? a = some (.int .i64 3) ∧ Below w.heap.size w w' := by
 refine (page_any hC hS q0 none none 0 0 ⟨#[]⟩ true (eK 2) (some ⟨r, 0, none⟩) _ 1 w hb (isQ0 w) (fun _ => in0 2 w) hR).mono ?_
 rintro e w' ⟨A', c', zs, ys, rfl, hcap, hrj, hzs, hsd, -, -, hbw⟩
 rw [coll0] at hsd
 obtain ⟨-, z, hz, hz3⟩ := behind0 hsd
 have hb2 : behind q0.desc true (eK 2).key ys = [z] := hz
 rw [hb2] at hzs ⊢
 have hzs' : zs = [z] := hzs
 subst hzs'
 cases A' with
 | none => have := hrj.row.nil rfl; cases this
 | some a =>
  have h0 := hrj.row.cells a rfl 0 (.int .i64 z.at_) rfl
  have e0 : a.add 0 = a := by unfold Addr.add; simp
  rw [e0, hz3] at h0
  exact ⟨a, c', rfl, h0, hbw⟩
theorem answer0 {W w : World} (hC : Go.Proofs.YtpleiklodomgiaaGreatDoor.W.Con W) (hS : Go.Proofs.YtpleiklodomgiaaGreatDoor.M.Spl W) (b r : Nat) (hb : Below W.heap.size W w) (hR : RowsV w (some ⟨r, 0, none⟩) [⟨some ⟨b, 0, none⟩, 4, l0⟩]) :
  Calls Tryz.prog 11 #[.agg #[.int .i64 1, .int .i64 9, .slice none 0 0, .int .i64 1, .string ⟨#[]⟩, .string ⟨#[]⟩, .slice none 0 0, .bool false, .int .i64 2, .string ⟨#[]⟩], .slice (some ⟨r, 0, none⟩) 1 1] w fun e w' => ∃ (A : Option Addr) (c : Nat), e = .returned (.slice A 3 c) ∧ Below w.heap.size w w' := by
 refine (answer_any hC hS q0 none none 0 0 ⟨#[]⟩ (some ⟨r, 0, none⟩) _ 1 w hb (isQ0 w) hR).mono ?_
 rintro e w' ⟨A', c', ys, rfl, -, -, hsd, -, hbw⟩
 rw [coll0] at hsd
 rw [(behind0 hsd).1]
 exact ⟨A', c', rfl, hbw⟩
set_option maxRecDepth 20000 in
set_option maxHeartbeats 4000000 in
theorem alive11 {W : World} (hC : Go.Proofs.YtpleiklodomgiaaGreatDoor.W.Con W) (hS : Go.Proofs.YtpleiklodomgiaaGreatDoor.M.Spl W) (w : World) (hb : Below W.heap.size W w) : Calls Tryz.prog 5 #[] w fun e w' => e = .returned (.bool true) ∧ Below w.heap.size w w' := by
 obtain ⟨oE, hoE⟩ : ∃ o, o = Obj.cells #[.int .i64 3, .slice none 0 0, .string ⟨#[]⟩, .int .i64 1, .slice none 0 0, .string ⟨#[]⟩, .int .i64 2, .slice none 0 0, .string ⟨#[]⟩, .int .i64 1, .slice none 0 0, .string ⟨#[]⟩] 26 := ⟨_, rfl⟩
 obtain ⟨oQ, hoQ⟩ : ∃ o, o = Obj.cells #[.int .i64 1, .int .i64 9, .slice none 0 0, .int .i64 1, .string ⟨#[]⟩, .string ⟨#[]⟩, .slice none 0 0, .bool false, .int .i64 2, .string ⟨#[]⟩] 37 := ⟨_, rfl⟩
 obtain ⟨oR, hoR⟩ : ∃ o, o = Obj.cells #[.slice (some ⟨w.heap.size, 0, none⟩) 4 4] 39 := ⟨_, rfl⟩
 obtain ⟨V, hV⟩ : ∃ V, V = ((w.alloc oE).alloc oQ).alloc oR := ⟨_, rfl⟩
 have hb0 : Below w.heap.size w V := by rw [hV]; exact below_alloc (below_alloc (below_alloc (Below.refl _ _) _) _) _
 have hE : V.heap[w.heap.size]? = some oE := by rw [hV]; exact blk_alloc (blk_alloc (Go.heap_alloc_new w oE) _) _
 have hQ : V.heap[w.heap.size + 1]? = some oQ := by rw [hV]; exact blk_alloc (box1 w oE oQ) _
 have hR : V.heap[w.heap.size + 1 + 1]? = some oR := by rw [hV]; have := Go.heap_alloc_new ((w.alloc oE).alloc oQ) oR; simpa using this
 have HP := Aside0.mk (page0 hC hS w.heap.size (w.heap.size + 1 + 1) (below_step hb hb0) (rows0 (hE.trans (congrArg some hoE)) (hR.trans (congrArg some hoR))))
 have HA : Aside0 (∀ V', Below V.heap.size V V' → Calls Tryz.prog 11 #[.agg #[.int .i64 1, .int .i64 9, .slice none 0 0, .int .i64 1, .string ⟨#[]⟩, .string ⟨#[]⟩, .slice none 0 0, .bool false, .int .i64 2, .string ⟨#[]⟩], .slice (some ⟨V'.heap.size, 0, none⟩) 1 1] (V'.alloc oR) fun e w' => ∃ (A : Option Addr) (c : Nat), e = .returned (.slice A 3 c) ∧ Below (V'.alloc oR).heap.size (V'.alloc oR) w') := ⟨fun V' h => by
  have hb1 := below_step h (below_alloc (Below.refl _ V') oR)
  exact answer0 hC hS w.heap.size V'.heap.size (below_step (below_step hb hb0) hb1) (rows0 ((heap_below hb1 hE).trans (congrArg some hoE)) ((Go.heap_alloc_new V' oR).trans (congrArg some hoR)))⟩
 have HQc := Aside0.mk (fun V' (h : Below V.heap.size V V') => qcells ((heap_below h hQ).trans (congrArg some hoQ)))
 have HB0 := Aside0.mk hb0
 have HV := Aside0.mk hV
 clear hE hQ hR hb0 hC hS hb hV
 subst hoE hoQ hoR
 go_enter Tryz.func5, Tryz.ntmps5
 go_wp2_with fail
 rw [← HV.out]
 clear HV
 ((refine (HP.out).mono ?_); rintro e w1 ⟨a, c, rfl, hc, hb1⟩)
 have HB1 := Aside0.mk hb1
 obtain ⟨m0, m1, m2, m3, m4, m5, m6, m7, m8, m9⟩ := HQc.out w1 hb1
 have HCc := Aside0.mk hc
 clear hb1 hc HP
 go_wp2_with fail
 clear m0 m1 m2 m3 m4 m5 m6 m7 m8 m9
 ((refine (HA.out w1 HB1.out).mono ?_); rintro e w2 ⟨A2, c2, rfl, hb2⟩)
 have hb3 := below_step (below_alloc (Below.refl _ w1) (.cells #[.slice (some ⟨w.heap.size, 0, none⟩) 4 4] 39)) hb2
 have hc := pw_cell_below hb3 HCc.out
 have HB2 := Aside0.mk (below_step HB1.out hb3)
 clear hb2 hb3
 go_wp2
 go_ret
 exact ⟨rfl, below_step HB0.out HB2.out⟩
end Go.Proofs.YtpleiklodomgiaaGreatDoor.Y
end
section
namespace Go.Proofs.YtpleiklodomgiaaGreatDoor.Y
open Go.RowKit Go.Proofs.YtpleiklodomgiaaGreatDoorW.PrintWords Go.Proofs.YtpleiklodomgiaaGreatDoorW.PrintLast Go.Proofs.YtpleiklodomgiaaGreatDoorW.PrintMore Go.Proofs.YtpleiklodomgiaaGreatDoor.B Go.Proofs.YtpleiklodomgiaaGreatDoor.C Go.Proofs.YtpleiklodomgiaaGreatDoor.Q Go.Proofs.YtpleiklodomgiaaGreatDoor.CQ
theorem count_one {k : Key} : ∀ {zs : List Ent}, (zs.map Ent.key).Nodup → k ∈ zs.map Ent.key → (zs.filter fun z => sameK z.key k).length = 1
 | [], _, h => by simp at h
 | z :: zs, hn, hm => by
  rw [List.map_cons, List.nodup_cons] at hn
  by_cases e : z.key = k
  ·have hno : (zs.filter fun z => sameK z.key k) = [] := by
    rw [List.filter_eq_nil_iff]
    intro y hy hs
    have := (sameK_iff _ _).1 hs
    exact hn.1 (by rw [e, ← this]; exact List.mem_map_of_mem hy)
   rw [List.filter_cons_of_pos (by rw [e]; exact (sameK_iff _ _).2 rfl), hno]
   rfl
  ·have hm2 : k ∈ zs.map Ent.key := by
    rcases List.mem_cons.1 hm with h | h
    ·exact absurd h.symm e
    ·exact h
   rw [List.filter_cons_of_neg (by intro hs; exact e ((sameK_iff _ _).1 hs))]
   exact count_one hn.2 hm2
end Go.Proofs.YtpleiklodomgiaaGreatDoor.Y
end
section
namespace Go.Proofs.YtpleiklodomgiaaGreatDoor.Y
open Go.RowKit Go.Proofs.YtpleiklodomgiaaGreatDoorW.PrintWords Go.Proofs.YtpleiklodomgiaaGreatDoorW.PrintLast Go.Proofs.YtpleiklodomgiaaGreatDoorW.PrintMore Go.Proofs.YtpleiklodomgiaaGreatDoor.B Go.Proofs.YtpleiklodomgiaaGreatDoor.Reg Go.Proofs.YtpleiklodomgiaaGreatDoor.C Go.Proofs.YtpleiklodomgiaaGreatDoor.Q Go.Proofs.YtpleiklodomgiaaGreatDoor.CQ
theorem coll_60 (q : Qv) : ∀ rs : List Rw, (∀ r ∈ rs, r.xs.length ≤ 60) → (coll q rs).length ≤ rs.length * 60
 | [], _ => Nat.zero_le _
 | r :: rs, h => by
  have ih := coll_60 q rs (fun x hx => h x (List.mem_cons_of_mem _ hx))
  have h1 := List.length_filter_le (keepB q) r.xs
  have h2 := h r (List.mem_cons_self ..)
  unfold coll at *
  rw [List.flatMap_cons, List.length_append, List.length_cons]
  omega
end Go.Proofs.YtpleiklodomgiaaGreatDoor.Y
end
section
namespace Go.Proofs.YtpleiklodomgiaaGreatDoor.Y
open Go.RowKit Go.Proofs.YtpleiklodomgiaaGreatDoorW.PrintWords Go.Proofs.YtpleiklodomgiaaGreatDoorW.PrintLast Go.Proofs.YtpleiklodomgiaaGreatDoorW.PrintMore Go.Proofs.YtpleiklodomgiaaGreatDoor.B Go.Proofs.YtpleiklodomgiaaGreatDoor.C Go.Proofs.YtpleiklodomgiaaGreatDoor.Q Go.Proofs.YtpleiklodomgiaaGreatDoor.CQ
set_option maxRecDepth 20000 in
set_option maxHeartbeats 8000000 in
theorem refAnswer_any {W : World} (hD : Go.Proofs.YtpleiklodomgiaaGreatDoor.W.Dec W) (q : Qv) (A1 A2 : Option Addr) (c1 c2 : Nat) (page : ByteArray) (A : Option Addr) (rs : List Rw) (cap : Nat) (w : World) (hb : Below W.heap.size W w) (hq : IsQ w q A1 c1 A2 c2) (hR : RowsV w A rs) (h6 : rs.length ≤ 6) (h60 : ∀ r ∈ rs, r.xs.length ≤ 60) :
  Calls Tryz.prog 9 #[qV q A1 c1 A2 c2 page, .slice A rs.length cap] w fun e w' => ∃ A' c' zs, e = .returned (.slice A' (List.length zs) c') ∧ zs.length ≤ c' ∧ RJ w' A' zs ∧ Sd q.desc (coll q rs) zs ∧ Below w.heap.size w w' := by
 obtain ⟨i0, hi, hz0, hz1, hz2⟩ := infoE3
 obtain ⟨V, hV⟩ : ∃ V, V = w.alloc (.cells #[.int .i64 q.fr, .int .i64 q.till, .slice A1 q.ms.length c1, .int .i64 q.T.f0, .string q.T.f1, .string q.T.f2, .slice A2 q.T.f3.length c2, .bool q.desc, .int .i64 q.lim, .string page] 37) := ⟨_, rfl⟩
 obtain ⟨bq, hbq⟩ : ∃ b, b = w.heap.size := ⟨_, rfl⟩
 have hb0 : Below w.heap.size w V := by rw [hV]; exact below_alloc (Below.refl _ _) _
 have HBx : Aside0 (∀ V', Below V.heap.size V V' → V'.heap[bq]? = some (.cells #[.int .i64 q.fr, .int .i64 q.till, .slice A1 q.ms.length c1, .int .i64 q.T.f0, .string q.T.f1, .string q.T.f2, .slice A2 q.T.f3.length c2, .bool q.desc, .int .i64 q.lim, .string page] 37 (0, 0))) := ⟨fun V' h => heap_below h (by rw [hV, hbq]; exact Go.heap_alloc_new _ _)⟩
 have HB0 := Aside0.mk hb0
 have HR := Aside0.mk (hR.below hb0)
 have HQ := Aside0.mk (fun (x : Ent) (V' : World) (h : Below V.heap.size V V') (hx : x.In V') (hl : x.line.size ≤ 1000) => refQuery_m hD q A1 A2 c1 c2 page x V' (below_step (below_step hb hb0) h) ((hq.below hb0).below h) hx hl)
 have HSo := Aside0.mk (fun (A : Option Addr) (c : Nat) (xs : List Ent) (V' : World) (hr : RowV V' A xs) (hi : ∀ x ∈ xs, x.In V') (hl : xs.length ≤ 1000) => refSort_any q.desc A xs c V' hr hi hl)
 have HWd := Aside0.mk hV
 have HJd := Aside0.mk hbq
 have H6 : Aside0 ((coll q rs).length ≤ 360) := ⟨by have := coll_60 q rs h60; omega⟩
 clear h6 h60 hV hbq hb0 hR hq hb hD
 have HQk := Aside0.mk (fun x : Ent => (rfl : keepB q x = keepB q x))
 obtain ⟨kp, hkp⟩ : ∃ kp : Ent → Bool, kp = keepB q := ⟨_, rfl⟩
 have HKp := Aside0.mk hkp
 rw [← hkp] at HQ
 clear hkp HQk
 unfold qV at HQ ⊢
 unfold Ent.val at HQ
 go_enter Tryz.func9, Tryz.ntmps9
 go_wp2
 try rw [← HWd.out]
 try rw [← HJd.out]
 have HVB : Aside0 (Below V.heap.size V V) := ⟨Below.refl _ _⟩
 go_loopw [5, 12] (fun t5 t12 wr => ∃ (i : Nat) (v : Value) (acc : List Ent), i ≤ rs.length ∧ t5 = v ∧ t12 = .int .i64 (i : Int) ∧ Aside0 (Below V.heap.size V wr) ∧ Aside0 (OwnE wr V.heap.size v acc) ∧ Aside0 (acc = coll q (rs.take i))) (fun _ t12 _ => rs.length - (intOf t12).toNat)
 case atStart => exact ⟨0, _, [], Nat.zero_le _, rfl, rfl, HVB, ⟨OwnE.nil _ _⟩, ⟨rfl⟩⟩
 case round =>
  clear HVB
  obtain ⟨i, v, acc, hi, hv, rfl, HB, HO, HA⟩ := hrel
  replace hv := hv.symm
  subst hv
  by_cases hlt : i < rs.length
  ·obtain ⟨a, rfl⟩ := HR.out.some hlt
   have k0 := (HR.out.below HB.out).cells a rfl i hlt
   have hrw := HR.out.rows _ (List.getElem_mem hlt)
   have hrl := HR.out.few.2 _ (List.getElem_mem hlt)
   have HCt : Aside0 (coll q (rs.take (i + 1)) = acc ++ (rs[i].xs.filter kp)) := ⟨by rw [coll_take q rs i hlt, HA.out, HKp.out]⟩
   obtain ⟨r, hr⟩ : ∃ r, r = rs[i] := ⟨_, rfl⟩
   rw [← hr] at k0 hrw hrl HCt
   have HRr := Aside0.mk hrw
   have HRl := Aside0.mk hrl
   have Hlt := Aside0.mk hlt
   have HAl : Aside0 (acc.length ≤ 10000) := ⟨by
    rw [HA.out]
    have h1 := coll_len q (rs.take i) (fun r hr => HR.out.few.2 r (List.mem_of_mem_take hr))
    have h2 := HR.out.few.1
    rw [List.length_take] at h1
    have h3 := Hlt.out
    have h4 : min i rs.length ≤ 9 := by omega
    have h5 : min i rs.length * 1000 ≤ 9 * 1000 := Nat.mul_le_mul_right _ h4
    omega⟩
   clear hr hrw hrl HA
   obtain ⟨rA, rc, rx⟩ := r
   dsimp only at k0 HCt HRr HRl
   go_wp2
   clear k0 hlt hi
   have HF0 : Aside0 (acc = acc ++ ((rx.take 0).filter kp)) := ⟨by simp⟩
   obtain ⟨wo, hwo⟩ : ∃ wo, wo = wr := ⟨_, rfl⟩
   subst hwo
   go_loopw [5, 18] (fun t5 t18 wr => ∃ (j : Nat) (v : Value) (ac : List Ent), j ≤ rx.length ∧ t5 = v ∧ t18 = .int .i64 (j : Int) ∧ Aside0 (Below V.heap.size V wr) ∧ Aside0 (OwnE wr V.heap.size v ac) ∧ Aside0 (ac = acc ++ ((rx.take j).filter kp))) (fun _ t18 _ => rx.length - (intOf t18).toNat)
   case atStart => exact ⟨0, _, acc, Nat.zero_le _, rfl, rfl, HB, HO, HF0⟩
   case round =>
    clear HB HO HF0
    obtain ⟨j, v, ac, hj, hv, rfl, HB, HO, HA⟩ := hrel
    replace hv := hv.symm
    subst hv
    by_cases hlt : j < rx.length
    ·obtain ⟨a2, ha2, k0, k1, k2⟩ := (HRr.out.1.below HB.out).get j hlt
     have hxi := HRr.out.2 _ (List.getElem_mem hlt)
     have HFt := Aside0.mk (filt_take q rx j hlt)
     obtain ⟨x, hx⟩ : ∃ x, x = rx[j] := ⟨_, rfl⟩
     rw [← hx] at k0 k1 k2 hxi HFt
     have HXi := Aside0.mk hxi
     obtain ⟨W2, hW2⟩ : ∃ W2, W2 = wr.alloc (.cells #[.int .i64 x.at_, .slice x.A x.ls.length x.c, .string x.line] 26) := ⟨_, rfl⟩
     obtain ⟨bx, hbx⟩ : ∃ b, b = wr.heap.size := ⟨_, rfl⟩
     have hb1 : Below wr.heap.size wr W2 := by rw [hW2]; exact below_alloc (Below.refl _ _) _
     have HB2 := Aside0.mk (below_step HB.out hb1)
     have HO2 := Aside0.mk (HO.out.below hb1)
     have XA : Aside0 (BoxE W2 bx x) := ⟨by rw [hW2, hbx]; exact Go.heap_alloc_new _ _⟩
     have HWd := Aside0.mk hW2
     have HJd := Aside0.mk hbx
     have Hlt := Aside0.mk hlt
     have hqc := HBx.out wr HB.out
     have Q0 : ∀ o : Obj, (wr.alloc o).cell? ⟨bq, 0, none⟩ = some _ := fun o => blk_cell (heap_below (below_alloc (Below.refl _ wr) o) hqc) 0
     have Q1 : ∀ o : Obj, (wr.alloc o).cell? ⟨bq, 1, none⟩ = some _ := fun o => blk_cell (heap_below (below_alloc (Below.refl _ wr) o) hqc) 1
     have Q2 : ∀ o : Obj, (wr.alloc o).cell? ⟨bq, 2, none⟩ = some _ := fun o => blk_cell (heap_below (below_alloc (Below.refl _ wr) o) hqc) 2
     have Q3 : ∀ o : Obj, (wr.alloc o).cell? ⟨bq, 3, none⟩ = some _ := fun o => blk_cell (heap_below (below_alloc (Below.refl _ wr) o) hqc) 3
     have Q4 : ∀ o : Obj, (wr.alloc o).cell? ⟨bq, 4, none⟩ = some _ := fun o => blk_cell (heap_below (below_alloc (Below.refl _ wr) o) hqc) 4
     have Q5 : ∀ o : Obj, (wr.alloc o).cell? ⟨bq, 5, none⟩ = some _ := fun o => blk_cell (heap_below (below_alloc (Below.refl _ wr) o) hqc) 5
     have Q6 : ∀ o : Obj, (wr.alloc o).cell? ⟨bq, 6, none⟩ = some _ := fun o => blk_cell (heap_below (below_alloc (Below.refl _ wr) o) hqc) 6
     have Q7 : ∀ o : Obj, (wr.alloc o).cell? ⟨bq, 7, none⟩ = some _ := fun o => blk_cell (heap_below (below_alloc (Below.refl _ wr) o) hqc) 7
     have Q8 : ∀ o : Obj, (wr.alloc o).cell? ⟨bq, 8, none⟩ = some _ := fun o => blk_cell (heap_below (below_alloc (Below.refl _ wr) o) hqc) 8
     have Q9 : ∀ o : Obj, (wr.alloc o).cell? ⟨bq, 9, none⟩ = some _ := fun o => blk_cell (heap_below (below_alloc (Below.refl _ wr) o) hqc) 9
     have hcall := HQ.out x W2 HB2.out (in_below (in_below HXi.out.1 HB.out) hb1) HXi.out.2
     obtain ⟨k, hk⟩ : ∃ k, k = kp x := ⟨_, rfl⟩
     rw [← hk] at hcall
     rw [← HKp.out, ← hk] at HFt
     have HCa := Aside0.mk hcall
     subst ha2
     clear hx hW2 hbx hb1 hqc hcall hk hxi hj
     go_wp2_with fail
     try rw [← HWd.out]
     try rw [← HJd.out]
     clear Q0 Q1 Q2 Q3 Q4 Q5 Q6 Q7 Q8 Q9 k0 k1 k2 HWd HJd hlt
     ((refine (HCa.out).mono ?_); rintro e W3 ⟨rfl, hb3⟩)
     have HB := Aside0.mk (below_step HB2.out hb3)
     have HO := Aside0.mk (HO2.out.below hb3)
     have XA := Aside0.mk (XA.out.below hb3)
     clear hb3 HB2 HO2 HCa
     cases k with
     | true =>
      rw [if_pos rfl] at HFt
      have HA2 : Aside0 (ac ++ [x] = acc ++ ((rx.take (j + 1)).filter kp)) := ⟨by rw [HA.out, HFt.out, List.append_assoc]⟩
      have HAc : Aside0 (ac.length ≤ 20000) := ⟨by
       rw [HA.out, List.length_append]
       have h1 := List.length_filter_le kp (rx.take j)
       have h2 := HRl.out
       have h3 := HAl.out
       rw [List.length_take] at h1
       omega⟩
      have x0 := XA.out.c0
      have x1 := XA.out.c1
      have x2 := XA.out.c2
      obtain ⟨Av, cv, hv, -, -, -⟩ := HO.out.row
      subst hv
      go_wp2_with (at_builtin; refine wpList_append_own _ rfl _ _ 39 rfl V.heap.size 26 i0 _ 3 48 Tryz.underlying39 hi hz0 hz1 hz2 rfl (by omega) _ _ _ rfl (World.ownsRow.alloc HO.out (.cells #[.int .i64 x.at_, .slice x.A x.ls.length x.c, .string x.line] 26)) ⟨W3.heap.size, 0, none⟩ 1 1 x.cells rfl ?qc1 ?qc2 ?qc3 ?qc4 ?qc5 ?qc6 ?_)
      case qc1 => rfl
      case qc2 =>
       intro j' u hj'
       rw [add_at, Nat.zero_add]
       refine (blk_cell (Go.heap_alloc_new W3 _) j').trans ?_
       show (x.cells.toArray)[j']? = _
       rw [List.getElem?_toArray]
       exact hj'
      case qc3 => exact cells_one x
      case qc4 => have := HAc.out; unfold maxLen; omega
      case qc5 => have := HAc.out; omega
      case qc6 => have := HB.out.size; simp; omega
      intro v' w1 hown hgrow hnil
      have hb4 := below_alloc (Below.refl _ W3) (.cells #[.int .i64 x.at_, .slice x.A x.ls.length x.c, .string x.line] 26)
      have HO4 : Aside0 (OwnE w1 V.heap.size v' (ac ++ [x])) := ⟨by unfold OwnE; rw [entC_app, List.length_append]; simpa [entC] using hown⟩
      have HB4 : Aside0 (Below V.heap.size V w1) := ⟨(below_step HB.out hb4).grown hgrow (below_step HB.out hb4).size (fun k hk => owns_block HO.out k hk)⟩
      clear hown hgrow hnil hb4 x0 x1 x2 HO HB
      go_wp2
      go_roundw
      case rel => exact ⟨j + 1, v', ac ++ [x], by have := Hlt.out; omega, rfl, by rw [w64y _ (by have := Hlt.out; have := HRl.out; omega)]; rfl, HB4, HO4, HA2⟩
      case measure => have h1 := Hlt.out; have h2 := HRl.out; rw [w64y _ (by omega)]; simp [intOf]; omega
     | false =>
      rw [if_neg (by decide), List.append_nil] at HFt
      have HA2 : Aside0 (ac = acc ++ ((rx.take (j + 1)).filter kp)) := ⟨by rw [HA.out, HFt.out]⟩
      go_wp2
      go_roundw
      case rel => exact ⟨j + 1, _, ac, by have := Hlt.out; omega, rfl, by rw [w64y _ (by have := Hlt.out; have := HRl.out; omega)]; rfl, HB, HO, HA2⟩
      case measure => have h1 := Hlt.out; have h2 := HRl.out; rw [w64y _ (by omega)]; simp [intOf]; omega
    ·obtain rfl : j = rx.length := by omega
     have HA2 : Aside0 (ac = coll q (rs.take (i + 1))) := ⟨by rw [HA.out, HCt.out, List.take_length]⟩
     go_wp2
     go_roundw
     case rel => exact ⟨i + 1, _, ac, by have := Hlt.out; omega, rfl, by rw [w64y _ (by have := Hlt.out; have := HR.out.few.1; omega)]; rfl, HB, HO, HA2⟩
     case measure => have h1 := Hlt.out; have h2 := HR.out.few.1; rw [w64y _ (by omega)]; simp [intOf]; omega
  ·obtain rfl : i = rs.length := by omega
   have hacc : acc = coll q rs := by rw [HA.out, List.take_length]
   have hlen : acc.length ≤ 360 := by rw [hacc]; exact H6.out
   have hmem : ∀ y ∈ acc, (y.In wr ∧ y.line.size ≤ 1000) := fun y hy => by
    rw [hacc] at hy
    obtain ⟨r, hr, hy, hk⟩ := coll_mem.1 hy
    exact ⟨in_below ((HR.out.rows r hr).2 y hy).1 HB.out, ((HR.out.rows r hr).2 y hy).2⟩
   obtain ⟨Av, cv, hv, hlc, hrow, -⟩ := HO.out.row
   subst hv
   have HSr := Aside0.mk (HSo.out Av cv acc wr hrow (fun y hy => (hmem y hy).1) (by omega))
   have q7 : wr.cell? ⟨bq, 7, none⟩ = some (.bool q.desc) := blk_cell (HBx.out wr HB.out) 7
   have Hacc := Aside0.mk hacc
   have Hlen := Aside0.mk hlen
   have Hmem := Aside0.mk hmem
   clear hacc hlen hmem hrow hlc HSo HQ HA hi hlt
   go_wp2_with fail
   ((refine (HSr.out).mono ?_); rintro e w4 ⟨v', rfl, ho, h5⟩)
   obtain ⟨A', c', hv', hlc', hrow', -⟩ := ho.row
   have Hlc := Aside0.mk hlc'
   have Hres : Aside0 (RJ w4 A' (sortR q.desc acc) ∧ Sd q.desc (coll q rs) (sortR q.desc acc) ∧ Below V.heap.size V w4) := ⟨⟨hrow', fun z hz => ⟨in_below (Hmem.out z (sortR_mem hz)).1 h5, (Hmem.out z (sortR_mem hz)).2⟩, by have h1 := sortR_len q.desc acc; have := Hlen.out; omega⟩,
    ⟨sortR_up q.desc acc, fun k => by rw [sortR_keys, Hacc.out]⟩, below_step HB.out h5⟩
   have Hv := Aside0.mk hv'
   clear ho h5 hrow' hv' hlc' q7
   go_wp2
   go_ret
   exact ⟨A', c', sortR q.desc acc, by rw [Hv.out]; rfl, Hlc.out, Hres.out.1, Hres.out.2.1, below_step HB0.out Hres.out.2.2⟩
end Go.Proofs.YtpleiklodomgiaaGreatDoor.Y
end
section
namespace Go.Proofs.YtpleiklodomgiaaGreatDoor.Y
open Go.RowKit Go.Shelf Go.Proofs.YtpleiklodomgiaaGreatDoorW.PrintWords Go.Proofs.YtpleiklodomgiaaGreatDoorW.PrintLast Go.Proofs.YtpleiklodomgiaaGreatDoorW.PrintMore Go.Proofs.YtpleiklodomgiaaGreatDoor.B Go.Proofs.YtpleiklodomgiaaGreatDoor.C Go.Proofs.YtpleiklodomgiaaGreatDoor.Q Go.Proofs.YtpleiklodomgiaaGreatDoor.CQ
def passB (desc has : Bool) (t k : Key) : Bool := !has || aheadO desc t k
theorem behind_eq (desc has : Bool) (t : Key) (ys : List Ent) : behind desc has t ys = ys.filter (fun y => passB desc has t y.key) := by
 unfold behind passB aheadO
 cases has with
 | true => simp
 | false => simp only [Bool.false_eq_true, if_false, Bool.not_false, Bool.true_or]; exact (List.filter_eq_self.2 (fun _ _ => rfl)).symm
theorem behind_take (desc has : Bool) (t : Key) (ys : List Ent) (i : Nat) (h : i < ys.length) : behind desc has t (ys.take (i + 1)) = behind desc has t (ys.take i) ++ (if passB desc has t ys[i].key = true then [ys[i]] else []) := by
 rw [behind_eq, behind_eq, List.take_succ_eq_append_getElem h, List.filter_append]
 congr 1
 cases hk : passB desc has t ys[i].key <;> simp [hk]
theorem behind_mid (desc has : Bool) (t : Key) (ys : List Ent) (i : Nat) (h : i < ys.length) (hp : passB desc has t ys[i].key = true) : ∃ r, behind desc has t ys = behind desc has t (ys.take i) ++ ys[i] :: r := by
 refine ⟨behind desc has t (ys.drop (i + 1)), ?_⟩
 rw [behind_eq, behind_eq, behind_eq]
 conv => lhs; rw [← List.take_append_drop i ys]
 rw [List.filter_append, List.drop_eq_getElem_cons h, List.filter_cons_of_pos (p := fun y : Ent => passB desc has t y.key) hp]
theorem cut_short {a bs : List Ent} {n : Int} (h1 : a.length ≤ n.toNat) (h2 : n ≤ (a.length : Int)) (x : Ent) (h : ∃ r, bs = a ++ x :: r) : decide (bs.length ≤ n.toNat) = false ∧ a = bs.take n.toNat := by
 obtain ⟨r, rfl⟩ := h
 have hn : n.toNat = a.length := by omega
 rw [hn]
 refine ⟨decide_eq_false (by rw [List.length_append, List.length_cons]; omega), (List.take_left ..).symm⟩
theorem behind_le (desc has : Bool) (t : Key) (ys : List Ent) : (behind desc has t ys).length ≤ ys.length := by
 rw [behind_eq]; exact List.length_filter_le _ _
set_option maxRecDepth 20000 in
set_option maxHeartbeats 8000000 in
theorem refCut_true (desc : Bool) (A : Option Addr) (ys : List Ent) (c : Nat) (t : Ent) (n : Int) (w : World) (hR : RJ w A ys) (hT : t.In w) :
  Calls Tryz.prog 13 #[.slice A ys.length c, .bool desc, .agg #[.bool true, .int .i64 t.at_, .slice t.A t.ls.length t.c, .string t.line], .int .i64 n] w fun e w' => ∃ A' c' zs, e = .returned (.tuple #[.slice A' (List.length zs) c', .bool (decide ((behind desc true t.key ys).length ≤ n.toNat))]) ∧ RJ w' A' zs ∧ zs = (behind desc true t.key ys).take n.toNat ∧ Below w.heap.size w w' := by
 obtain ⟨i0, hI, hz0, hz1, hz2⟩ := infoE3
 obtain ⟨V, hV⟩ : ∃ V, V = w.alloc (.cells #[.bool true, .int .i64 t.at_, .slice t.A t.ls.length t.c, .string t.line] 28) := ⟨_, rfl⟩
 obtain ⟨bm, hbm⟩ : ∃ b, b = w.heap.size := ⟨_, rfl⟩
 have hb0 : Below w.heap.size w V := by rw [hV]; exact below_alloc (Below.refl _ _) _
 have HM : Aside0 (∀ V', Below V.heap.size V V' → V'.heap[bm]? = some (.cells #[.bool true, .int .i64 t.at_, .slice t.A t.ls.length t.c, .string t.line] 28 (0, 0))) := ⟨fun V' h => heap_below h (by rw [hV, hbm]; exact Go.heap_alloc_new _ _)⟩
 have HB0 := Aside0.mk hb0
 have HR := Aside0.mk (hR.below hb0)
 have HAh := Aside0.mk (fun (x : Ent) (V' : World) (h : Below V.heap.size V V') (hx : x.In V') => ahead_any desc t x V' (in_below (in_below hT hb0) h) hx)
 have HWd := Aside0.mk hV
 have HJd := Aside0.mk hbm
 obtain ⟨bh, hbh⟩ : ∃ l, l = behind desc true t.key ys := ⟨_, rfl⟩
 have HBh := Aside0.mk hbh
 rw [← hbh]
 clear hV hbm hb0 hR hbh hT
 unfold Ent.val at HAh
 go_enter Tryz.func13, Tryz.ntmps13
 go_wp2
 try rw [← HWd.out]
 try rw [← HJd.out]
 clear HWd HJd
 have HVB : Aside0 (Below V.heap.size V V) := ⟨Below.refl _ _⟩
 go_loopw [10, 15] (fun t10 t15 wr => ∃ (i : Nat) (v : Value) (ac : List Ent), i ≤ ys.length ∧ t10 = v ∧ t15 = .int .i64 (i : Int) ∧ Aside0 (Below V.heap.size V wr) ∧ Aside0 (OwnE wr V.heap.size v ac) ∧ Aside0 (ac = behind desc true t.key (ys.take i) ∧ ac.length ≤ n.toNat)) (fun _ t15 _ => ys.length - (intOf t15).toNat)
 case atStart => exact ⟨0, _, [], Nat.zero_le _, rfl, rfl, HVB, ⟨OwnE.nil _ _⟩, ⟨by rw [behind_eq]; simp, Nat.zero_le _⟩⟩
 case round =>
  clear HVB
  obtain ⟨i, v, ac, hi, hv, rfl, HB, HO, HA⟩ := hrel
  replace hv := hv.symm
  subst hv
  by_cases hlt : i < ys.length
  ·obtain ⟨a2, ha2, k0, k1, k2⟩ := (HR.out.row.below HB.out).get i hlt
   have hxi := HR.out.in_ _ (List.getElem_mem hlt)
   have hft := behind_take desc true t.key ys i hlt
   have hmd := behind_mid desc true t.key ys i hlt
   obtain ⟨x, hx⟩ : ∃ x, x = ys[i] := ⟨_, rfl⟩
   rw [← hx] at k0 k1 k2 hxi hft hmd
   rw [← HBh.out, ← HA.out.1] at hmd
   rw [← HA.out.1] at hft
   have HXi := Aside0.mk hxi
   obtain ⟨W2, hW2⟩ : ∃ W2, W2 = wr.alloc (.cells #[.int .i64 x.at_, .slice x.A x.ls.length x.c, .string x.line] 26) := ⟨_, rfl⟩
   obtain ⟨bx, hbx⟩ : ∃ b, b = wr.heap.size := ⟨_, rfl⟩
   have hb1 : Below wr.heap.size wr W2 := by rw [hW2]; exact below_alloc (Below.refl _ _) _
   have HB2 := Aside0.mk (below_step HB.out hb1)
   have HO2 := Aside0.mk (HO.out.below hb1)
   have XA : Aside0 (BoxE W2 bx x) := ⟨by rw [hW2, hbx]; exact Go.heap_alloc_new _ _⟩
   have HWd := Aside0.mk hW2
   have HJd := Aside0.mk hbx
   have Hlt := Aside0.mk hlt
   have hmc := HM.out wr HB.out
   have Q0 : ∀ o : Obj, (wr.alloc o).cell? ⟨bm, 0, none⟩ = some _ := fun o => blk_cell (heap_below (below_alloc (Below.refl _ wr) o) hmc) 0
   have Q1 : ∀ o : Obj, (wr.alloc o).cell? ⟨bm, 1, none⟩ = some _ := fun o => blk_cell (heap_below (below_alloc (Below.refl _ wr) o) hmc) 1
   have Q2 : ∀ o : Obj, (wr.alloc o).cell? ⟨bm, 2, none⟩ = some _ := fun o => blk_cell (heap_below (below_alloc (Below.refl _ wr) o) hmc) 2
   have Q3 : ∀ o : Obj, (wr.alloc o).cell? ⟨bm, 3, none⟩ = some _ := fun o => blk_cell (heap_below (below_alloc (Below.refl _ wr) o) hmc) 3
   have hcall := HAh.out x W2 HB2.out (in_below (in_below HXi.out.1 HB.out) hb1)
   have hps : passB desc true t.key x.key = aheadO desc t.key x.key := by unfold passB; simp
   rw [hps] at hft hmd
   obtain ⟨k, hk⟩ : ∃ k, k = aheadO desc t.key x.key := ⟨_, rfl⟩
   rw [← hk] at hcall hft hmd
   have HCa := Aside0.mk hcall
   have HFt := Aside0.mk hft
   have HMd := Aside0.mk hmd
   subst ha2
   clear hx hW2 hbx hb1 hmc hcall hk hxi hi hft hmd hps
   go_wp2_with fail
   try rw [← HWd.out]
   try rw [← HJd.out]
   clear Q0 Q1 Q2 Q3 k0 k1 k2 HWd HJd hlt
   ((refine (HCa.out).mono ?_); rintro e W3 ⟨rfl, hb3⟩)
   have HB := Aside0.mk (below_step HB2.out hb3)
   have HO := Aside0.mk (HO2.out.below hb3)
   have XA := Aside0.mk (XA.out.below hb3)
   clear hb3 HB2 HO2 HCa
   cases k with
   | true =>
    rw [if_pos rfl] at HFt
    have HMd := Aside0.mk (HMd.out rfl)
    have hle := HA.out.2
    have hcut := Aside0.mk (fun hm => cut_short hle hm x HMd.out)
    clear hle
    by_cases hm : n ≤ (ac.length : Int)
    ·have d : decide (n ≤ (ac.length : Int)) = true := decide_eq_true hm
     have hc := hcut.out hm
     have Hm : Aside0 (∀ y ∈ ac, y ∈ ys) := ⟨fun y hy => by
      rw [HA.out.1, behind_eq] at hy
      exact List.mem_of_mem_take (List.mem_filter.1 hy).1⟩
     obtain ⟨Av, cv, hv, -, hrow, -⟩ := HO.out.row
     have Hres : Aside0 (RJ W3 Av ac ∧ decide (bh.length ≤ n.toNat) = false ∧ ac = bh.take n.toNat ∧ Below w.heap.size w W3) := ⟨⟨hrow, fun y hy => ⟨in_below (HR.out.in_ y (Hm.out y hy)).1 HB.out, (HR.out.in_ y (Hm.out y hy)).2⟩, by
      have h1 := behind_le desc true t.key (ys.take i)
      rw [← HA.out.1, List.length_take] at h1
      have h2 := HR.out.few
      omega⟩, hc.1, hc.2, below_step HB0.out HB.out⟩
     subst hv
     clear hm hc hrow hcut HMd
     go_wp2
     go_ret2
     exact ⟨Av, cv, ac, by rw [Hres.out.2.1]; rfl, Hres.out.1, Hres.out.2.2.1, Hres.out.2.2.2⟩
    ·have d : decide (n ≤ (ac.length : Int)) = false := decide_eq_false hm
     have HLn : Aside0 (ac.length + 1 ≤ n.toNat) := ⟨by omega⟩
     have HAc : Aside0 (ac.length ≤ 20000) := ⟨by
      have h1 := behind_le desc true t.key (ys.take i)
      rw [← HA.out.1, List.length_take] at h1
      have h2 := HR.out.few
      omega⟩
     have x0 := XA.out.c0
     have x1 := XA.out.c1
     have x2 := XA.out.c2
     obtain ⟨Av, cv, hv, -, -, -⟩ := HO.out.row
     subst hv
     clear hm hcut HMd
     go_wp2_with (at_builtin; refine wpList_append_own _ rfl _ _ 39 rfl V.heap.size 26 i0 _ 3 48 Tryz.underlying39 hI hz0 hz1 hz2 rfl (by omega) _ _ _ rfl (World.ownsRow.alloc HO.out (.cells #[.int .i64 x.at_, .slice x.A x.ls.length x.c, .string x.line] 26)) ⟨W3.heap.size, 0, none⟩ 1 1 x.cells rfl ?qc1 ?qc2 ?qc3 ?qc4 ?qc5 ?qc6 ?_)
     case qc1 => rfl
     case qc2 =>
      intro j' u hj'
      rw [add_at, Nat.zero_add]
      refine (blk_cell (Go.heap_alloc_new W3 _) j').trans ?_
      show (x.cells.toArray)[j']? = _
      rw [List.getElem?_toArray]
      exact hj'
     case qc3 => exact cells_one x
     case qc4 => have := HAc.out; unfold maxLen; omega
     case qc5 => have := HAc.out; omega
     case qc6 => have := HB.out.size; simp; omega
     intro v' w1 hown hgrow hnil
     have hb4 := below_alloc (Below.refl _ W3) (.cells #[.int .i64 x.at_, .slice x.A x.ls.length x.c, .string x.line] 26)
     have HO4 : Aside0 (OwnE w1 V.heap.size v' (ac ++ [x])) := ⟨by unfold OwnE; rw [entC_app, List.length_append]; simpa [entC] using hown⟩
     have HB4 : Aside0 (Below V.heap.size V w1) := ⟨(below_step HB.out hb4).grown hgrow (below_step HB.out hb4).size (fun k hk => owns_block HO.out k hk)⟩
     clear hown hgrow hnil hb4 x0 x1 x2 HO HB d
     go_wp2
     go_roundw
     case rel => exact ⟨i + 1, v', ac ++ [x], by have := Hlt.out; omega, rfl, by rw [w64y _ (by have := Hlt.out; have := HR.out.few; omega)]; rfl, HB4, HO4, ⟨HFt.out.symm, by rw [List.length_append]; exact HLn.out⟩⟩
     case measure => have h1 := Hlt.out; have h2 := HR.out.few; rw [w64y _ (by omega)]; simp [intOf]; omega
   | false =>
    rw [if_neg (by decide), List.append_nil] at HFt
    clear HMd
    go_wp2
    go_roundw
    case rel => exact ⟨i + 1, _, ac, by have := Hlt.out; omega, rfl, by rw [w64y _ (by have := Hlt.out; have := HR.out.few; omega)]; rfl, HB, HO, ⟨by rw [HFt.out], HA.out.2⟩⟩
    case measure => have h1 := Hlt.out; have h2 := HR.out.few; rw [w64y _ (by omega)]; simp [intOf]; omega
  ·obtain rfl : i = ys.length := by omega
   have hac : ac = bh := by rw [HA.out.1, HBh.out, List.take_length]
   have Hm : Aside0 (∀ y ∈ ac, y ∈ ys) := ⟨fun y hy => by
    rw [HA.out.1, behind_eq] at hy
    exact List.mem_of_mem_take (List.mem_filter.1 hy).1⟩
   obtain ⟨Av, cv, hv, -, hrow, -⟩ := HO.out.row
   have Hres : Aside0 (RJ wr Av ac ∧ decide (bh.length ≤ n.toNat) = true ∧ ac = bh.take n.toNat ∧ Below w.heap.size w wr) := ⟨⟨hrow, fun y hy => ⟨in_below (HR.out.in_ y (Hm.out y hy)).1 HB.out, (HR.out.in_ y (Hm.out y hy)).2⟩, by
    have h1 := behind_le desc true t.key (ys.take ys.length)
    rw [← HA.out.1, List.length_take] at h1
    have h2 := HR.out.few
    omega⟩, decide_eq_true (by rw [← hac]; exact HA.out.2), by rw [List.take_of_length_le (by rw [← hac]; exact HA.out.2), hac], below_step HB0.out HB.out⟩
   subst hv
   clear hac hrow hi hlt
   go_wp2
   go_ret2
   exact ⟨Av, cv, ac, by rw [Hres.out.2.1]; rfl, Hres.out.1, Hres.out.2.2.1, Hres.out.2.2.2⟩
set_option maxRecDepth 20000 in
set_option maxHeartbeats 8000000 in
theorem refCut_false (desc : Bool) (A : Option Addr) (ys : List Ent) (c : Nat) (t : Ent) (n : Int) (w : World) (hR : RJ w A ys) :
  Calls Tryz.prog 13 #[.slice A ys.length c, .bool desc, .agg #[.bool false, .int .i64 t.at_, .slice t.A t.ls.length t.c, .string t.line], .int .i64 n] w fun e w' => ∃ A' c' zs, e = .returned (.tuple #[.slice A' (List.length zs) c', .bool (decide ((behind desc false t.key ys).length ≤ n.toNat))]) ∧ RJ w' A' zs ∧ zs = (behind desc false t.key ys).take n.toNat ∧ Below w.heap.size w w' := by
 obtain ⟨i0, hI, hz0, hz1, hz2⟩ := infoE3
 obtain ⟨V, hV⟩ : ∃ V, V = w.alloc (.cells #[.bool false, .int .i64 t.at_, .slice t.A t.ls.length t.c, .string t.line] 28) := ⟨_, rfl⟩
 obtain ⟨bm, hbm⟩ : ∃ b, b = w.heap.size := ⟨_, rfl⟩
 have hb0 : Below w.heap.size w V := by rw [hV]; exact below_alloc (Below.refl _ _) _
 have HM : Aside0 (∀ V', Below V.heap.size V V' → V'.heap[bm]? = some (.cells #[.bool false, .int .i64 t.at_, .slice t.A t.ls.length t.c, .string t.line] 28 (0, 0))) := ⟨fun V' h => heap_below h (by rw [hV, hbm]; exact Go.heap_alloc_new _ _)⟩
 have HB0 := Aside0.mk hb0
 have HR := Aside0.mk (hR.below hb0)
 have HWd := Aside0.mk hV
 have HJd := Aside0.mk hbm
 obtain ⟨bh, hbh⟩ : ∃ l, l = behind desc false t.key ys := ⟨_, rfl⟩
 have HBh := Aside0.mk hbh
 rw [← hbh]
 clear hV hbm hb0 hR hbh
 go_enter Tryz.func13, Tryz.ntmps13
 go_wp2
 try rw [← HWd.out]
 try rw [← HJd.out]
 clear HWd HJd
 have HVB : Aside0 (Below V.heap.size V V) := ⟨Below.refl _ _⟩
 go_loopw [10, 15] (fun t10 t15 wr => ∃ (i : Nat) (v : Value) (ac : List Ent), i ≤ ys.length ∧ t10 = v ∧ t15 = .int .i64 (i : Int) ∧ Aside0 (Below V.heap.size V wr) ∧ Aside0 (OwnE wr V.heap.size v ac) ∧ Aside0 (ac = behind desc false t.key (ys.take i) ∧ ac.length ≤ n.toNat)) (fun _ t15 _ => ys.length - (intOf t15).toNat)
 case atStart => exact ⟨0, _, [], Nat.zero_le _, rfl, rfl, HVB, ⟨OwnE.nil _ _⟩, ⟨by rw [behind_eq]; simp, Nat.zero_le _⟩⟩
 case round =>
  clear HVB
  obtain ⟨i, v, ac, hi, hv, rfl, HB, HO, HA⟩ := hrel
  replace hv := hv.symm
  subst hv
  by_cases hlt : i < ys.length
  ·obtain ⟨a2, ha2, k0, k1, k2⟩ := (HR.out.row.below HB.out).get i hlt
   have hxi := HR.out.in_ _ (List.getElem_mem hlt)
   have hft := behind_take desc false t.key ys i hlt
   have hmd := behind_mid desc false t.key ys i hlt
   obtain ⟨x, hx⟩ : ∃ x, x = ys[i] := ⟨_, rfl⟩
   rw [← hx] at k0 k1 k2 hxi hft hmd
   rw [← HBh.out, ← HA.out.1] at hmd
   rw [← HA.out.1] at hft
   have HXi := Aside0.mk hxi
   obtain ⟨W2, hW2⟩ : ∃ W2, W2 = wr.alloc (.cells #[.int .i64 x.at_, .slice x.A x.ls.length x.c, .string x.line] 26) := ⟨_, rfl⟩
   obtain ⟨bx, hbx⟩ : ∃ b, b = wr.heap.size := ⟨_, rfl⟩
   have hb1 : Below wr.heap.size wr W2 := by rw [hW2]; exact below_alloc (Below.refl _ _) _
   have HB2 := Aside0.mk (below_step HB.out hb1)
   have HO2 := Aside0.mk (HO.out.below hb1)
   have XA : Aside0 (BoxE W2 bx x) := ⟨by rw [hW2, hbx]; exact Go.heap_alloc_new _ _⟩
   have HWd := Aside0.mk hW2
   have HJd := Aside0.mk hbx
   have Hlt := Aside0.mk hlt
   have hmc := HM.out wr HB.out
   have Q0 : ∀ o : Obj, (wr.alloc o).cell? ⟨bm, 0, none⟩ = some _ := fun o => blk_cell (heap_below (below_alloc (Below.refl _ wr) o) hmc) 0
   have hps : passB desc false t.key x.key = true := rfl
   rw [if_pos hps] at hft
   have HFt := Aside0.mk hft
   have HMd := Aside0.mk (hmd hps)
   subst ha2
   clear hx hW2 hbx hb1 hmc hxi hi hft hmd hps
   go_upto_region 6 with (fail)
   try rw [← HWd.out]
   try rw [← HJd.out]
   clear Q0 k0 k1 k2 HWd HJd hlt HB HO
   have HB := HB2
   have HO := HO2
   clear HB2 HO2
   have hle := HA.out.2
   have hcut := Aside0.mk (fun hm => cut_short hle hm x HMd.out)
   clear hle
   by_cases hm : n ≤ (ac.length : Int)
   ·have d : decide (n ≤ (ac.length : Int)) = true := decide_eq_true hm
    have hc := hcut.out hm
    have Hm : Aside0 (∀ y ∈ ac, y ∈ ys) := ⟨fun y hy => by
     rw [HA.out.1, behind_eq] at hy
     exact List.mem_of_mem_take (List.mem_filter.1 hy).1⟩
    obtain ⟨Av, cv, hv, -, hrow, -⟩ := HO.out.row
    have Hres : Aside0 (RJ W2 Av ac ∧ decide (bh.length ≤ n.toNat) = false ∧ ac = bh.take n.toNat ∧ Below w.heap.size w W2) := ⟨⟨hrow, fun y hy => ⟨in_below (HR.out.in_ y (Hm.out y hy)).1 HB.out, (HR.out.in_ y (Hm.out y hy)).2⟩, by
     have h1 := behind_le desc false t.key (ys.take i)
     rw [← HA.out.1, List.length_take] at h1
     have h2 := HR.out.few
     omega⟩, hc.1, hc.2, below_step HB0.out HB.out⟩
    subst hv
    clear hm hc hrow hcut HMd
    go_wp2
    go_ret2
    exact ⟨Av, cv, ac, by rw [Hres.out.2.1]; rfl, Hres.out.1, Hres.out.2.2.1, Hres.out.2.2.2⟩
   ·have d : decide (n ≤ (ac.length : Int)) = false := decide_eq_false hm
    have HLn : Aside0 (ac.length + 1 ≤ n.toNat) := ⟨by omega⟩
    have HAc : Aside0 (ac.length ≤ 20000) := ⟨by
     have h1 := behind_le desc false t.key (ys.take i)
     rw [← HA.out.1, List.length_take] at h1
     have h2 := HR.out.few
     omega⟩
    have x0 := XA.out.c0
    have x1 := XA.out.c1
    have x2 := XA.out.c2
    obtain ⟨Av, cv, hv, -, -, -⟩ := HO.out.row
    subst hv
    clear hm hcut HMd
    go_wp2_with (at_builtin; refine wpList_append_own _ rfl _ _ 39 rfl V.heap.size 26 i0 _ 3 48 Tryz.underlying39 hI hz0 hz1 hz2 rfl (by omega) _ _ _ rfl (World.ownsRow.alloc HO.out (.cells #[.int .i64 x.at_, .slice x.A x.ls.length x.c, .string x.line] 26)) ⟨W2.heap.size, 0, none⟩ 1 1 x.cells rfl ?qc1 ?qc2 ?qc3 ?qc4 ?qc5 ?qc6 ?_)
    case qc1 => rfl
    case qc2 =>
     intro j' u hj'
     rw [add_at, Nat.zero_add]
     refine (blk_cell (Go.heap_alloc_new W2 _) j').trans ?_
     show (x.cells.toArray)[j']? = _
     rw [List.getElem?_toArray]
     exact hj'
    case qc3 => exact cells_one x
    case qc4 => have := HAc.out; unfold maxLen; omega
    case qc5 => have := HAc.out; omega
    case qc6 => have := HB.out.size; simp; omega
    intro v' w1 hown hgrow hnil
    have hb4 := below_alloc (Below.refl _ W2) (.cells #[.int .i64 x.at_, .slice x.A x.ls.length x.c, .string x.line] 26)
    have HO4 : Aside0 (OwnE w1 V.heap.size v' (ac ++ [x])) := ⟨by unfold OwnE; rw [entC_app, List.length_append]; simpa [entC] using hown⟩
    have HB4 : Aside0 (Below V.heap.size V w1) := ⟨(below_step HB.out hb4).grown hgrow (below_step HB.out hb4).size (fun k hk => owns_block HO.out k hk)⟩
    clear hown hgrow hnil hb4 x0 x1 x2 HO HB d
    go_wp2
    go_roundw
    case rel => exact ⟨i + 1, v', ac ++ [x], by have := Hlt.out; omega, rfl, by rw [w64y _ (by have := Hlt.out; have := HR.out.few; omega)]; rfl, HB4, HO4, ⟨HFt.out.symm, by rw [List.length_append]; exact HLn.out⟩⟩
    case measure => have h1 := Hlt.out; have h2 := HR.out.few; rw [w64y _ (by omega)]; simp [intOf]; omega
  ·obtain rfl : i = ys.length := by omega
   have hac : ac = bh := by rw [HA.out.1, HBh.out, List.take_length]
   have Hm : Aside0 (∀ y ∈ ac, y ∈ ys) := ⟨fun y hy => by
    rw [HA.out.1, behind_eq] at hy
    exact List.mem_of_mem_take (List.mem_filter.1 hy).1⟩
   obtain ⟨Av, cv, hv, -, hrow, -⟩ := HO.out.row
   have Hres : Aside0 (RJ wr Av ac ∧ decide (bh.length ≤ n.toNat) = true ∧ ac = bh.take n.toNat ∧ Below w.heap.size w wr) := ⟨⟨hrow, fun y hy => ⟨in_below (HR.out.in_ y (Hm.out y hy)).1 HB.out, (HR.out.in_ y (Hm.out y hy)).2⟩, by
    have h1 := behind_le desc false t.key (ys.take ys.length)
    rw [← HA.out.1, List.length_take] at h1
    have h2 := HR.out.few
    omega⟩, decide_eq_true (by rw [← hac]; exact HA.out.2), by rw [List.take_of_length_le (by rw [← hac]; exact HA.out.2), hac], below_step HB0.out HB.out⟩
   subst hv
   clear hac hrow hi hlt
   go_wp2
   go_ret2
   exact ⟨Av, cv, ac, by rw [Hres.out.2.1]; rfl, Hres.out.1, Hres.out.2.2.1, Hres.out.2.2.2⟩
theorem refCut_any (desc has : Bool) (A : Option Addr) (ys : List Ent) (c : Nat) (t : Ent) (n : Int) (w : World) (hR : RJ w A ys) (hT : has = true → t.In w) :
  Calls Tryz.prog 13 #[.slice A ys.length c, .bool desc, .agg #[.bool has, .int .i64 t.at_, .slice t.A t.ls.length t.c, .string t.line], .int .i64 n] w fun e w' => ∃ A' c' zs, e = .returned (.tuple #[.slice A' (List.length zs) c', .bool (decide ((behind desc has t.key ys).length ≤ n.toNat))]) ∧ RJ w' A' zs ∧ zs = (behind desc has t.key ys).take n.toNat ∧ Below w.heap.size w w' := by
 cases has with
 | true => exact refCut_true desc A ys c t n w hR (hT rfl)
 | false => exact refCut_false desc A ys c t n w hR
end Go.Proofs.YtpleiklodomgiaaGreatDoor.Y
end
section
namespace Go.Proofs.YtpleiklodomgiaaGreatDoor.Y
open Go.RowKit Go.Proofs.YtpleiklodomgiaaGreatDoorW.PrintWords Go.Proofs.YtpleiklodomgiaaGreatDoorW.PrintLast Go.Proofs.YtpleiklodomgiaaGreatDoorW.PrintMore Go.Proofs.YtpleiklodomgiaaGreatDoor.B Go.Proofs.YtpleiklodomgiaaGreatDoor.C Go.Proofs.YtpleiklodomgiaaGreatDoor.Q Go.Proofs.YtpleiklodomgiaaGreatDoor.CQ
section
variable {κ : Type}
def chunks (n : Nat) (l : List κ) : List (List κ) :=
 if h : l.length ≤ n + 1 then [l] else l.take (n + 1) :: chunks n (l.drop (n + 1))
termination_by l.length
decreasing_by rw [List.length_drop]; omega
theorem chunks_last {n : Nat} {l : List κ} (h : l.length ≤ n + 1) : chunks n l = [l] := by rw [chunks.eq_def, dif_pos h]
theorem chunks_more {n : Nat} {l : List κ} (h : ¬ l.length ≤ n + 1) : chunks n l = l.take (n + 1) :: chunks n (l.drop (n + 1)) := by rw [chunks.eq_def, dif_neg h]
theorem chunks_at (n : Nat) : ∀ (k : Nat) (l : List κ), l.length ≤ k → ∀ (i : Nat) (c : List κ), (chunks n l)[i]? = some c → c.length ≤ n + 1 ∧ (i + 1 < (chunks n l).length → c.length = n + 1) ∧ (0 < i → 0 < c.length) ∧ (l ≠ [] → 0 < c.length)
 | 0, l, h, i, c, hc => by
  rw [chunks_last (by omega)] at hc ⊢
  cases i with
  | zero => simp at hc; subst hc; refine ⟨by omega, by simp, by simp, fun hne => ?_⟩; exact absurd (List.eq_nil_of_length_eq_zero (by omega)) hne
  | succ i => simp at hc
 | k + 1, l, h, i, c, hc => by
  by_cases hl : l.length ≤ n + 1
  ·rw [chunks_last hl] at hc ⊢
   cases i with
   | zero => simp at hc; subst hc; exact ⟨hl, by simp, by simp, fun hne => List.length_pos_iff.2 hne⟩
   | succ i => simp at hc
  ·rw [chunks_more hl] at hc ⊢
   cases i with
   | zero =>
    simp at hc
    subst hc
    rw [List.length_take]
    exact ⟨by omega, fun _ => by omega, by simp, fun _ => by omega⟩
   | succ i =>
    simp only [List.getElem?_cons_succ] at hc
    have ih := chunks_at n k (l.drop (n + 1)) (by rw [List.length_drop]; omega) i c hc
    have hne : l.drop (n + 1) ≠ [] := by intro e; have := congrArg List.length e; rw [List.length_drop] at this; simp at this; omega
    exact ⟨ih.1, fun h => ih.2.1 (by simpa using h), fun _ => ih.2.2.2 hne, fun _ => ih.2.2.2 hne⟩
end
theorem behind_keys (desc has : Bool) (t : Key) (ys : List Ent) : (behind desc has t ys).map Ent.key = (ys.map Ent.key).filter (passB desc has t) := by
 rw [behind_eq, List.filter_map]; rfl
theorem behind_same {desc has : Bool} {t : Key} {ys zs : List Ent} (h : ys.map Ent.key = zs.map Ent.key) : (behind desc has t ys).map Ent.key = (behind desc has t zs).map Ent.key := by rw [behind_keys, behind_keys, h]
theorem keys_take {ys zs : List Ent} (h : ys.map Ent.key = zs.map Ent.key) (n : Nat) : (ys.take n).map Ent.key = (zs.take n).map Ent.key := by rw [List.map_take, List.map_take, h]
theorem keys_len {ys zs : List Ent} (h : ys.map Ent.key = zs.map Ent.key) : ys.length = zs.length := by simpa using congrArg List.length h
def BoxM (w : World) (j : Nat) (has : Bool) (x : Ent) : Prop := w.heap[j]? = some (.cells #[.bool has, .int .i64 x.at_, .slice x.A x.ls.length x.c, .string x.line] 28 (0, 0))
theorem BoxM.below {w w' : World} {j : Nat} {has : Bool} {x : Ent} (h : BoxM w j has x) (hb : Below w.heap.size w w') : BoxM w' j has x := heap_below hb h
theorem BoxM.cells {w : World} {j : Nat} {has : Bool} {x : Ent} (h : BoxM w j has x) : w.cell? ⟨j, 0, none⟩ = some (.bool has) ∧ w.cell? ⟨j, 1, none⟩ = some (.int .i64 x.at_) ∧ w.cell? ⟨j, 2, none⟩ = some (.slice x.A x.ls.length x.c) ∧ w.cell? ⟨j, 3, none⟩ = some (.string x.line) := mcells h
noncomputable def least (p : Nat → Prop) : Nat := Classical.epsilon (fun m => p m ∧ ∀ k, p k → m ≤ k)
end Go.Proofs.YtpleiklodomgiaaGreatDoor.Y
end
section
namespace Go.Proofs.YtpleiklodomgiaaGreatDoor.Y
open Go.RowKit Go.Proofs.YtpleiklodomgiaaGreatDoorW.PrintWords Go.Proofs.YtpleiklodomgiaaGreatDoorW.PrintLast Go.Proofs.YtpleiklodomgiaaGreatDoorW.PrintMore Go.Proofs.YtpleiklodomgiaaGreatDoor.B Go.Proofs.YtpleiklodomgiaaGreatDoor.Reg Go.Proofs.YtpleiklodomgiaaGreatDoor.C Go.Proofs.YtpleiklodomgiaaGreatDoor.Q Go.Proofs.YtpleiklodomgiaaGreatDoor.CQ
set_option maxRecDepth 20000 in
set_option maxHeartbeats 32000000 in
theorem modelIs_all (L : List Int) (Al : Option Addr) (cl : Nat) (A : Option Addr) (cap : Nat) (rs : List Rw) (has : Bool) (x : Ent) (n : Int) (W : World) (hC : Go.Proofs.YtpleiklodomgiaaGreatDoor.W.Con W) (hS : Go.Proofs.YtpleiklodomgiaaGreatDoor.M.Spl W) (hD : Go.Proofs.YtpleiklodomgiaaGreatDoor.W.Dec W) (hL : Kd.C (Kd.int .i64) W Al L.length L) (hR : Rws W A cap rs) (hx : x.Raw W) (hn : -9223372036854775808 ≤ n ∧ n ≤ 9223372036854775807) :
  Calls Tryz.prog 3 #[.slice Al L.length cl, .slice A rs.length cap, .agg #[.bool has, .int .i64 x.at_, .slice x.A x.ls.length x.c, .string x.line], .int .i64 n] W fun e w' => e = .returned (.bool true) ∧ Below W.heap.size W w' := by
 have HAl := Aside0.mk (fun w (h : Below W.heap.size W w) => alive11 hC hS w h)
 obtain ⟨V0, hV0⟩ : ∃ V, V = W.alloc (.cells #[.bool has, .int .i64 x.at_, .slice x.A x.ls.length x.c, .string x.line] 28) := ⟨_, rfl⟩
 obtain ⟨be, hbe⟩ : ∃ b, b = W.heap.size := ⟨_, rfl⟩
 have hb0 : Below W.heap.size W V0 := by rw [hV0]; exact below_alloc (Below.refl _ _) _
 have HE : Aside0 (BoxM V0 be has x) := ⟨by rw [hV0, hbe]; exact Go.heap_alloc_new _ _⟩
 have HWd := Aside0.mk hV0
 have HJd := Aside0.mk hbe
 have HB := Aside0.mk hb0
 have HX0 := Aside0.mk hx
 have HN := Aside0.mk hn
 clear hV0 hbe hb0 hx hn
 obtain ⟨g, hg⟩ : ∃ g, g = greatR L.length rs := ⟨_, rfl⟩
 have HG : Aside0 (∀ V, Below W.heap.size W V → Calls Tryz.prog 6 #[.slice Al L.length cl, .slice A rs.length cap] V fun e w' => e = .returned (.bool g) ∧ Below V.heap.size V w') := ⟨fun V h => by rw [hg]; exact great_m Al L.length cl A cap rs V (hR.below h)⟩
 have Hg := Aside0.mk hg
 clear hg
 cases g with
 | true =>
  clear hC hS hL hR hD
  go_enter Tryz.func3, Tryz.ntmps3
  go_wp2_with fail
  try rw [← HWd.out]
  try rw [← HJd.out]
  ((refine (HAl.out _ HB.out).mono ?_); rintro e w1 ⟨rfl, hb1⟩)
  have HB := Aside0.mk (below_step HB.out hb1)
  clear hb1
  go_wp2_with fail
  ((refine (HG.out _ HB.out).mono ?_); rintro e w2 ⟨rfl, hb2⟩)
  have HB := Aside0.mk (below_step HB.out hb2)
  clear hb2
  go_wp2
  go_ret
  exact ⟨rfl, HB.out⟩
 | false =>
 obtain ⟨ge, hge⟩ : ∃ g, g = greatB x.key := ⟨_, rfl⟩
 have HGe : Aside0 (∀ V, Below W.heap.size W V → Calls Tryz.prog 7 #[x.val] V fun e w' => e = .returned (.bool ge) ∧ Below V.heap.size V w') := ⟨fun V h => by rw [hge]; exact great_any x V (HX0.out.below h)⟩
 have Hge := Aside0.mk hge
 clear hge
 unfold Ent.val at HGe
 cases ge with
 | true =>
  clear hC hS hL hR hD
  go_enter Tryz.func3, Tryz.ntmps3
  go_wp2_with fail
  try rw [← HWd.out]
  try rw [← HJd.out]
  ((refine (HAl.out _ HB.out).mono ?_); rintro e w1 ⟨rfl, hb1⟩)
  have HB := Aside0.mk (below_step HB.out hb1)
  have HE := Aside0.mk (HE.out.below hb1)
  clear hb1
  go_wp2_with fail
  ((refine (HG.out _ HB.out).mono ?_); rintro e w2 ⟨rfl, hb2⟩)
  have HB := Aside0.mk (below_step HB.out hb2)
  have HE := Aside0.mk (HE.out.below hb2)
  clear hb2
  obtain ⟨e0, e1, e2, e3⟩ := HE.out.cells
  go_wp2_with fail
  ((refine (HGe.out _ HB.out).mono ?_); rintro e w2 ⟨rfl, hb2⟩)
  have HB := Aside0.mk (below_step HB.out hb2)
  clear hb2
  go_wp2
  go_ret
  exact ⟨rfl, HB.out⟩
 | false =>
 obtain ⟨hn3, hr6, hV, hr60⟩ := hR.read Hg.out.symm
 have hgf := great_few Hge.out.symm
 have HXw : Aside0 (∀ V, Below W.heap.size W V → x.In V) := ⟨fun V h => (HX0.out.below h).in_ (Nat.le_trans hgf.1 (by decide))⟩
 have HQy := Aside0.mk (fun w (h : Below W.heap.size W w) => query_any L hn3 Al cl w (Kd.C_below hL h))
 have HRw := Aside0.mk hV
 have HAw := Aside0.mk (fun (q : Qv) (A1 A2 : Option Addr) (c1 c2 : Nat) (V : World) (h : Below W.heap.size W V) (hq : IsQ V q A1 c1 A2 c2) => answer_any hC hS q A1 A2 c1 c2 ⟨#[]⟩ A rs cap V h hq (hV.below h))
 have HPw := Aside0.mk (fun (q : Qv) (A1 A2 : Option Addr) (c1 c2 : Nat) (V : World) (h : Below W.heap.size W V) (hq : IsQ V q A1 c1 A2 c2) => page_any hC hS q A1 A2 c1 c2 ⟨#[]⟩ has x A rs cap V h hq (fun _ => HXw.out V h) (hV.below h))
 have HRa := Aside0.mk (fun (q : Qv) (A1 A2 : Option Addr) (c1 c2 : Nat) (V : World) (h : Below W.heap.size W V) (hq : IsQ V q A1 c1 A2 c2) => refAnswer_any hD q A1 A2 c1 c2 ⟨#[]⟩ A rs cap V h hq (hV.below h) hr6 hr60)
 clear hC hS hL hR hD hn3 hr6 hV hr60 Hg Hge hgf HX0
 obtain ⟨m, hm⟩ : ∃ m, m = L.length := ⟨_, rfl⟩
 rw [← hm] at HG HQy ⊢
 clear hm
 unfold qV at HAw HPw HRa
 unfold markV at HPw
 go_enter Tryz.func3, Tryz.ntmps3
 go_wp2_with fail
 try rw [← HWd.out]
 try rw [← HJd.out]
 clear HWd HJd
 ((refine (HAl.out _ HB.out).mono ?_); rintro e w1 ⟨rfl, hb1⟩)
 have HB := Aside0.mk (below_step HB.out hb1)
 have HE := Aside0.mk (HE.out.below hb1)
 clear hb1 HAl
 go_wp2_with fail
 ((refine (HG.out _ HB.out).mono ?_); rintro e w2 ⟨rfl, hb2⟩)
 have HB := Aside0.mk (below_step HB.out hb2)
 have HE := Aside0.mk (HE.out.below hb2)
 clear hb2 HG
 obtain ⟨e0, e1, e2, e3⟩ := HE.out.cells
 go_wp2_with fail
 clear e0 e1 e2 e3
 ((refine (HGe.out _ HB.out).mono ?_); rintro e w2 ⟨rfl, hb2⟩)
 have HB := Aside0.mk (below_step HB.out hb2)
 have HE := Aside0.mk (HE.out.below hb2)
 clear hb2 HGe
 go_wp2_with fail
 ((refine (HQy.out _ HB.out).mono ?_); rintro e w3 ⟨q, A1, c1, A2, c2, rfl, hq, hb3⟩)
 have HB := Aside0.mk (below_step HB.out hb3)
 have HE := Aside0.mk (HE.out.below hb3)
 have HQ := Aside0.mk hq
 clear hb3 hq HQy
 unfold qvVal
 obtain ⟨V1, hV1⟩ : ∃ V, V = w3.alloc (.cells #[.int .i64 q.fr, .int .i64 q.till, .slice A1 q.ms.length c1, .int .i64 q.T.f0, .string q.T.f1, .string q.T.f2, .slice A2 q.T.f3.length c2, .bool q.desc, .int .i64 q.lim, .string ⟨#[]⟩] 37) := ⟨_, rfl⟩
 obtain ⟨bq, hbq⟩ : ∃ b, b = w3.heap.size := ⟨_, rfl⟩
 have hb4 : Below w3.heap.size w3 V1 := by rw [hV1]; exact below_alloc (Below.refl _ _) _
 have HBQ : Aside0 (BoxQ V1 bq q A1 c1 A2 c2) := ⟨by rw [hV1, hbq]; exact Go.heap_alloc_new _ _⟩
 have HB := Aside0.mk (below_step HB.out hb4)
 have HE := Aside0.mk (HE.out.below hb4)
 have HQ := Aside0.mk (HQ.out.below hb4)
 have HVd := Aside0.mk hV1
 have HKd := Aside0.mk hbq
 clear hV1 hbq hb4
 go_wp2_with fail
 try rw [← HVd.out]
 try rw [← HKd.out]
 clear HVd HKd
 have hcall := HRa.out q A1 A2 c1 c2 V1 HB.out HQ.out
 ((refine (hcall).mono ?_); rintro e V ⟨Aw, cw, wz, rfl, hcw, hjw, hsw, hb4⟩)
 have HB := Aside0.mk (below_step HB.out hb4)
 have HE := Aside0.mk (HE.out.below hb4)
 have HQ := Aside0.mk (HQ.out.below hb4)
 have HBQ := Aside0.mk (HBQ.out.below hb4)
 have HLm : Aside0 (1 ≤ q.lim ∧ q.lim ≤ 8) := ⟨HQ.out.lim⟩
 have HSw := Aside0.mk hsw
 have HJw := Aside0.mk (fun V' (h : Below V.heap.size V V') => hjw.below h)
 have HFw : Aside0 (wz.length ≤ 20000) := ⟨hjw.few⟩
 have HQc := Aside0.mk (fun V' (h : Below V.heap.size V V') => (HBQ.out.below h).cells)
 have HEc := Aside0.mk (fun V' (h : Below V.heap.size V V') => (HE.out.below h).cells)
 have HAn := Aside0.mk (fun (V' : World) (h : Below V.heap.size V V') => HAw.out q A1 A2 c1 c2 V' (below_step HB.out h) (HQ.out.below h))
 have HPg := Aside0.mk (fun (V' : World) (h : Below V.heap.size V V') => HPw.out q A1 A2 c1 c2 V' (below_step HB.out h) (HQ.out.below h))
 have HCt := Aside0.mk (fun (V' : World) (h : Below V.heap.size V V') => cut_any q.desc has Aw wz cw x n V' (hjw.below h) hcw (fun _ => HXw.out V' (below_step HB.out h)) hsw.up HN.out)
 have HRc := Aside0.mk (fun (k : Int) (V' : World) (h : Below V.heap.size V V') => refCut_any q.desc has Aw wz cw x k V' (hjw.below h) (fun _ => HXw.out V' (below_step HB.out h)))
 obtain ⟨bh, hbh⟩ : ∃ l, l = behind q.desc has x.key wz := ⟨_, rfl⟩
 have HBh := Aside0.mk hbh
 rw [← hbh] at HCt HRc
 clear hcall hjw hsw hb4 hcw hbh HRa HRw HAw HPw HQ HBQ HE
 have HVB : Aside0 (Below V.heap.size V V) := ⟨Below.refl _ _⟩
 obtain ⟨m0, m1, m2, m3, m4, m5, m6, m7, m8, m9⟩ := HQc.out V HVB.out
 go_wp2_with fail
 clear m0 m1 m2 m3 m4 m5 m6 m7 m8 m9
 ((refine (HAn.out V HVB.out).mono ?_); rintro e w4 ⟨Aa, ca, za, rfl, -, hja, hsa, -, hb5⟩)
 have HB4 := Aside0.mk hb5
 have hall := all_any Aa Aw za wz ca cw w4 hja.row (HJw.out w4 hb5).row (fun y hy => (hja.in_ y hy).1) (fun y hy => ((HJw.out w4 hb5).in_ y hy).1) (hsa.eq HSw.out) (by have := hja.few; omega)
 have HAll := Aside0.mk hall
 clear hja hsa hb5 hall HAn
 go_wp2_with fail
 ((refine (HAll.out).mono ?_); rintro e w5 ⟨rfl, hb5⟩)
 have HB5 := Aside0.mk (below_step HB4.out hb5)
 clear hb5 HAll HB4
 obtain ⟨m0, m1, m2, m3, m4, m5, m6, m7, m8, m9⟩ := HQc.out w5 HB5.out
 obtain ⟨e0, e1, e2, e3⟩ := HEc.out w5 HB5.out
 go_wp2_with fail
 clear m0 m1 m2 m3 m4 m5 m6 m7 m8 m9 e0 e1 e2 e3
 ((refine (HCt.out w5 HB5.out).mono ?_); rintro e w6 ⟨Ak, ck, zk, rfl, -, hjk, hzk, -, hb6⟩)
 have HB6 := Aside0.mk (below_step HB5.out hb6)
 have HJk := Aside0.mk (And.intro hjk hzk)
 clear hjk hzk hb6 HCt
 obtain ⟨m0, m1, m2, m3, m4, m5, m6, m7, m8, m9⟩ := HQc.out w6 HB6.out
 obtain ⟨e0, e1, e2, e3⟩ := HEc.out w6 HB6.out
 go_wp2_with fail
 clear m0 m1 m2 m3 m4 m5 m6 m7 m8 m9 e0 e1 e2 e3
 ((refine (HRc.out (max n 0) w6 HB6.out).mono ?_); rintro e w7 ⟨Ar, cr, zr, rfl, hjr, hzr, hb7⟩)
 have hmx : (max n 0).toNat = n.toNat := by omega
 rw [hmx] at hzr ⊢
 have HB7 := Aside0.mk (below_step HB6.out hb7)
 have HJk := Aside0.mk (And.intro (HJk.out.1.below hb7) HJk.out.2)
 have HJr := Aside0.mk (And.intro hjr hzr)
 clear hjr hzr hb7 hmx
 obtain ⟨m0, m1, m2, m3, m4, m5, m6, m7, m8, m9⟩ := HQc.out w7 HB7.out
 obtain ⟨e0, e1, e2, e3⟩ := HEc.out w7 HB7.out
 go_wp2_with fail
 clear m0 m1 m2 m3 m4 m5 m6 m7 m8 m9 e0 e1 e2 e3
 ((refine (HPg.out w7 HB7.out).mono ?_); rintro e w8 ⟨Ap, cp, zp, yp, rfl, -, hjp, hzp, hsp, -, -, hb8⟩)
 have hbk := behind_same (desc := q.desc) (has := has) (t := x.key) (hsp.eq HSw.out)
 have hkp : zp.map Ent.key = (bh.take q.lim.toNat).map Ent.key := by rw [hzp, HBh.out]; exact keys_take hbk _
 have hlp : (behind q.desc has x.key yp).length = bh.length := by rw [HBh.out]; exact keys_len hbk
 rw [hlp]
 have HB8 := Aside0.mk (below_step HB7.out hb8)
 have HJk := Aside0.mk (And.intro (HJk.out.1.below hb8) HJk.out.2)
 have HJr := Aside0.mk (And.intro (HJr.out.1.below hb8) HJr.out.2)
 have HJp := Aside0.mk (And.intro hjp hkp)
 clear hjp hzp hsp hbk hkp hlp hb8 HPg
 obtain ⟨m0, m1, m2, m3, m4, m5, m6, m7, m8, m9⟩ := HQc.out w8 HB8.out
 obtain ⟨e0, e1, e2, e3⟩ := HEc.out w8 HB8.out
 go_wp2_with fail
 clear m0 m1 m2 m3 m4 m5 m6 m7 m8 m9 e0 e1 e2 e3
 ((refine (HRc.out q.lim w8 HB8.out).mono ?_); rintro e w9 ⟨As, cs, zs, rfl, hjs, hzs, hb9⟩)
 have HB9 := Aside0.mk (below_step HB8.out hb9)
 have HJk := Aside0.mk (And.intro (HJk.out.1.below hb9) HJk.out.2)
 have HJr := Aside0.mk (And.intro (HJr.out.1.below hb9) HJr.out.2)
 have HJp := Aside0.mk (And.intro (HJp.out.1.below hb9) HJp.out.2)
 have HJs := Aside0.mk (And.intro hjs hzs)
 clear hjs hzs hb9 HRc HQc HEc
 obtain ⟨b1, hb1⟩ : ∃ b, b = decide (bh.length ≤ n.toNat) := ⟨_, rfl⟩
 obtain ⟨b2, hb2⟩ : ∃ b, b = decide (bh.length ≤ q.lim.toNat) := ⟨_, rfl⟩
 rw [← hb1, ← hb2]
 clear hb1 hb2
 have hall1 := all_any Ak Ar zk zr ck cr w9 HJk.out.1.row HJr.out.1.row (fun y hy => (HJk.out.1.in_ y hy).1) (fun y hy => (HJr.out.1.in_ y hy).1) (by rw [HJk.out.2, HJr.out.2]) (by have := HJk.out.1.few; omega)
 have HA1 := Aside0.mk hall1
 have HA2 : Aside0 (∀ V', Below w9.heap.size w9 V' → Calls Tryz.prog 10 #[.slice Ap zp.length cp, .slice As zs.length cs] V' fun e w' => e = .returned (.bool true) ∧ Below V'.heap.size V' w') := ⟨fun V' h => by
  have h1 := HJp.out.1.below h
  have h2 := HJs.out.1.below h
  exact all_any Ap As zp zs cp cs V' h1.row h2.row (fun y hy => (h1.in_ y hy).1) (fun y hy => (h2.in_ y hy).1) (by rw [HJp.out.2, HJs.out.2]) (by have := h1.few; omega)⟩
 have hbb1 : (b1 == b1) = true := by simp
 have hbb2 : (b2 == b2) = true := by simp
 clear hall1 HJk HJr HJp HJs HBh
 go_wp2_with fail
 ((refine (HA1.out).mono ?_); rintro e w10 ⟨rfl, hb10⟩)
 have HB10 := Aside0.mk hb10
 clear hb10 HA1
 go_wp2_with fail
 ((refine (HA2.out w10 HB10.out).mono ?_); rintro e w11 ⟨rfl, hb11⟩)
 have HB11 := Aside0.mk (below_step HB10.out hb11)
 clear hb11 HA2
 go_wp2
 go_ret
 exact ⟨by first | rfl | simp, below_step HB.out (below_step HB9.out HB11.out)⟩
end Go.Proofs.YtpleiklodomgiaaGreatDoor.Y
end
