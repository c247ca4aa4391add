/- Part of the proof: an interpreter of the model, proved sound, and what it makes of the functions. -/
import Derived.Test.YtbaenaalfpcaaaaGreatDoorA5
import Derived.Test.YtbaenaalfpcaaaaGreatDoorA4
import Derived.Test.YtbaenaalfpcaaaaGreatDoorB6
import Derived.Test.YtbaenaalfpcaaaaGreatDoorB5
set_option linter.unusedVariables false
set_option linter.unusedSimpArgs false
set_option linter.unnecessarySimpa false
set_option maxRecDepth 100000
set_option maxHeartbeats 40000000
namespace Go.Proofs.YtbaenaalfpcaaaaGreatDoor
open Go Go.Sim
attribute [local irreducible] chk brX hX finH keyX visit packed backPk backOk backHeap stays getAll getX strX setX takeX normX fillX lendX partsX opsX callK lentK lentR giveX adoptX resX joinX headX loopX seqK blkK regK finX exOps ex eqT finMX matAll
attribute [local simp] zc2 zbg zbd zau zbm zb6 List.getElem?_cons_zero List.getElem?_cons_succ List.getElem?_nil w_i64 w_u64 w_u8 zcu bOr_u8 zcv zb3 zd0 zaj zar zao zaq zcy pl_int pl_str zcz pl_nsl zd1 zcx zag AV.cells TI.isAgg
section
attribute [local simp] Ev.flen Ev.rd Ev.enc Slot.flen Slot.rd Slot.pute Slot.zero Slot.enc Cell.flen Cell.rd Cell.put Cell.pute Cell.zero Cell.enc
structure MZ where
 m : Mt
 n : Mt
 nx : Nat
 a : Nat
 c : Nat
structure MZ.Ok (x : MZ) (k : Nat) : Prop where
 m : x.m.Ok k
 n : x.n.Ok k
 near : Near x.m x.n
 self : x.m.ps.m 10 = false
theorem mtNew_ok {most : Int} (h0 : 0 ≤ most) (h1 : most ≤ 4096) : (mtNew most).Ok 0 := ⟨zbo, ⟨by simp [mtNew], by simp [mtNew], by simp [mtNew]⟩, .inl rfl, h0, h1, by simp [mtNew], by simp [mtNew], by simp [mtNew], by simp [mtNew]⟩
theorem t_WholeBad (tag : Nat) (b : List Int) (hb : ∀ x ∈ b, 0 ≤ x ∧ x < 256) (bad : List Bool) :
  callω L T 8 tag [.isl 1 b.length (b.map (.int .u8)), .isl 1 bad.length (bad.map .bool)] [none, none] = some (.bool true, [none, none]) := by
 by_cases hq : 60 < b.length
 ·have hq2 : (b.length : Int) > 60 := by omega
  rw [za5 (show T 8 = some (.code a8) from rfl) rfl rfl]
  (have c1 := fun x1 => zhi x1; refine gox ?_; clear c1)
  (refine finx ?_; try with_reducible rfl)
  all_goals first | rfl
 have hq2 : ¬ (b.length : Int) > 60 := by omega
 have cN := fun t => t_mNew t 500 (by decide) (by decide)
 have l3 := Scr.shut sNew zbo
 have f3 := Scr.free sNew zbo
 have em : mtNew 500 = ⟨500, sNew, PS.start, [], 0, [], 0, [], 0, [], 0, [], [], [], [], 0⟩ := rfl
 simp only [em, Mt.mem, Mt.rest, Mt.cells, u8L, List.map_nil, List.length_nil, Nat.reduceAdd] at cN
 generalize hs0 : sNew.enc = s at cN l3 f3
 generalize hp0 : PS.start = p at cN em
 rw [za5 (show T 8 = some (.code a8) from rfl) rfl rfl]
 (have fA := aI @l3 @f3; have c1 := fun x1 => zhi x1; have c2 := fun x1 => cN x1; refine gox ?_; clear fA c1 c2)
 subst hs0
 subst hp0
 refine Eq.trans (zdn (X := MZ) (fun k x => x.Ok (4 * k)) (fun k x => ⟨[(0, .isl 1 b.length (b.map (.int .u8))), (1, .isl 1 bad.length (bad.map .bool)), (5, .ref 23400000 (tag, 1) 0), (7, .ref 27400000 (tag, 1 + 1) 0), (9, .int .i64 (k : Nat))], (23400000, ⟨(tag, 1), x.m.cl 23400001000000 (tag, x.a) (tag, x.a)⟩) :: (27400000, ⟨(tag, 1 + 1), x.n.cl 27400001000000 (tag, x.c) (tag, x.c)⟩) :: (x.m.hpR 23400001000000 (tag, x.a) ++ x.n.hpR 27400001000000 (tag, x.c)), x.nx, tag⟩) b.length (some (.bool true, [none, none])) ?_ ?_ ⟨mtNew 500, mtNew 500, 3, 1, 2⟩ ⟨mtNew_ok (by decide) (by decide), mtNew_ok (by decide) (by decide), ⟨[], rfl, rfl⟩, rfl⟩) rfl
 ·rintro k ⟨M, N, nx, a, c⟩ hk hI ih
  simp only at hI ih ⊢
  have hc := hb b[k] (List.getElem_mem hk)
  have hk' : (k : Int) < (b.length : Int) := by omega
  have gk : (List.map (AV.int IntKind.u8) b)[k]? = some (.int .u8 b[k]) := by simp [hk]
  have hw : IntKind.i64.wrap ((k : Int) + 1) = ((k + 1 : Nat) : Int) := zah hk (by omega)
  generalize b[k] = x at gk hc
  have hE := zfd hc.1 hc.2
  have hX := xor_rng hc.1 hc.2
  have hE26 : 0 ≤ makeEvenI 26 ∧ makeEvenI 26 < 256 := zfd (by decide) (by decide)
  have cE := fun t => zbc t x
  have cE26 := fun t => zbc t 26
  have main : ∀ (c1 c2 : Int), 0 ≤ c1 ∧ c1 < 256 → 0 ≤ c2 ∧ c2 < 256 → lxC c1 = lxC c2 → MZ.Ok ⟨comes2 M c1, comes2 N c2, nx + 1 + 1, nx, nx + 1⟩ (4 * (k + 1)) := fun c1 c2 h1 h2 h3 =>
   ⟨zbt hI.m h1.1 h1.2, zbt hI.n h2.1 h2.2, near_comes hI.near hI.self h3, comes_self _ _ hI.self⟩
  have hwr : (∃ h : k < bad.length, bad[k] = true) ∨ (¬ ∃ h : k < bad.length, bad[k] = true) := Classical.em _
  rcases hwr with ⟨hkb, hbk⟩ | hno
  ·have y := main (bXor .u8 (makeEvenI x) 128) (makeEvenI 26) hX hE26 ((lxC_even hc.1 hc.2).trans lxC_26.symm)
   refine Eq.trans ?_ (ih _ y)
   have cM1 := zg2 (tag + 1) M (4 * k) (by omega) hI.m _ hX.1 hX.2
   have cM2 := zg2 (tag + 1) N (4 * k) (by omega) hI.n _ hE26.1 hE26.2
   have hkb' : (k : Int) < (bad.length : Int) := by omega
   have gb : (List.map AV.bool bad)[k]? = some (.bool true) := by simp [hkb, hbk]
   have oA := zbt hI.m hX.1 hX.2
   have oB := zbt hI.n hE26.1 hE26.2
   have k1 := Scr.shut M.scr hI.m.scr
   have k2 := Scr.free M.scr hI.m.scr
   have k3 := Scr.shut N.scr hI.n.scr
   have k4 := Scr.free N.scr hI.n.scr
   have k5 := Scr.shut _ oA.scr
   have k6 := Scr.free _ oA.scr
   have k7 := Scr.shut _ oB.scr
   have k8 := Scr.free _ oB.scr
   clear ih y main hI oA oB
   generalize comes2 M _ = M2 at cM1 k5 k6 ⊢
   generalize comes2 N _ = N2 at cM2 k7 k8 ⊢
   conv => lhs; simp only [Mt.cl, Mt.hpR, u8L, List.cons_append, List.nil_append, Nat.reduceAdd]
   simp only [Mt.cells, Mt.rest, u8L, Nat.reduceAdd] at cM1 cM2
   generalize hs1 : M.scr.enc = s1 at k1 k2 cM1
   generalize hs2 : N.scr.enc = s2 at k3 k4 cM2
   generalize hs3 : M2.scr.enc = s3 at k5 k6 cM1
   generalize hs4 : N2.scr.enc = s4 at k7 k8 cM2
   (have fA := aI @k1 (aI @k2 (aI @k3 (aI @k4 (aI @k5 (aI @k6 (aI @k7 (aI @k8 (aI @gk (aI @gb @hw))))))))); have c1 := fun x1 => cE x1; have c2 := fun x1 => cE26 x1; have c3 := cM1; have c4 := cM2; refine gox ?_; clear fA c1 c2 c3 c4)
   subst hs3
   subst hs4
   refine zaa ?_ rfl rfl
   rw [hw]
  ·have y := main (makeEvenI x) (makeEvenI x) hE hE rfl
   refine Eq.trans ?_ (ih _ y)
   have cM1 := zg2 (tag + 1) M (4 * k) (by omega) hI.m _ hE.1 hE.2
   have cM2 := zg2 (tag + 1) N (4 * k) (by omega) hI.n _ hE.1 hE.2
   by_cases hkb : k < bad.length
   ·have hkb' : (k : Int) < (bad.length : Int) := by omega
    have hbf : bad[k] = false := by
     cases hh : bad[k] with
     | false => rfl
     | true => exact absurd ⟨hkb, hh⟩ hno
    have gb : (List.map AV.bool bad)[k]? = some (.bool false) := by simp [hkb, hbf]
    have oA := zbt hI.m hE.1 hE.2
    have oB := zbt hI.n hE.1 hE.2
    have k1 := Scr.shut M.scr hI.m.scr
    have k2 := Scr.free M.scr hI.m.scr
    have k3 := Scr.shut N.scr hI.n.scr
    have k4 := Scr.free N.scr hI.n.scr
    have k5 := Scr.shut _ oA.scr
    have k6 := Scr.free _ oA.scr
    have k7 := Scr.shut _ oB.scr
    have k8 := Scr.free _ oB.scr
    clear ih y main hI oA oB
    generalize comes2 M _ = M2 at cM1 k5 k6 ⊢
    generalize comes2 N _ = N2 at cM2 k7 k8 ⊢
    conv => lhs; simp only [Mt.cl, Mt.hpR, u8L, List.cons_append, List.nil_append, Nat.reduceAdd]
    simp only [Mt.cells, Mt.rest, u8L, Nat.reduceAdd] at cM1 cM2
    generalize hs1 : M.scr.enc = s1 at k1 k2 cM1
    generalize hs2 : N.scr.enc = s2 at k3 k4 cM2
    generalize hs3 : M2.scr.enc = s3 at k5 k6 cM1
    generalize hs4 : N2.scr.enc = s4 at k7 k8 cM2
    (have fA := aI @k1 (aI @k2 (aI @k3 (aI @k4 (aI @k5 (aI @k6 (aI @k7 (aI @k8 (aI @gk (aI @gb @hw))))))))); have c1 := fun x1 => cE x1; have c2 := cM1; have c3 := cM2; refine gox ?_; clear fA c1 c2 c3)
    subst hs3
    subst hs4
    refine zaa ?_ rfl rfl
    rw [hw]
   ·have hkb' : ¬ (k : Int) < (bad.length : Int) := by omega
    have gb : True := trivial
    have oA := zbt hI.m hE.1 hE.2
    have oB := zbt hI.n hE.1 hE.2
    have k1 := Scr.shut M.scr hI.m.scr
    have k2 := Scr.free M.scr hI.m.scr
    have k3 := Scr.shut N.scr hI.n.scr
    have k4 := Scr.free N.scr hI.n.scr
    have k5 := Scr.shut _ oA.scr
    have k6 := Scr.free _ oA.scr
    have k7 := Scr.shut _ oB.scr
    have k8 := Scr.free _ oB.scr
    clear ih y main hI oA oB
    generalize comes2 M _ = M2 at cM1 k5 k6 ⊢
    generalize comes2 N _ = N2 at cM2 k7 k8 ⊢
    conv => lhs; simp only [Mt.cl, Mt.hpR, u8L, List.cons_append, List.nil_append, Nat.reduceAdd]
    simp only [Mt.cells, Mt.rest, u8L, Nat.reduceAdd] at cM1 cM2
    generalize hs1 : M.scr.enc = s1 at k1 k2 cM1
    generalize hs2 : N.scr.enc = s2 at k3 k4 cM2
    generalize hs3 : M2.scr.enc = s3 at k5 k6 cM1
    generalize hs4 : N2.scr.enc = s4 at k7 k8 cM2
    (have fA := aI @k1 (aI @k2 (aI @k3 (aI @k4 (aI @k5 (aI @k6 (aI @k7 (aI @k8 (aI @gk (aI @gb @hw))))))))); have c1 := fun x1 => cE x1; have c2 := cM1; have c3 := cM2; refine gox ?_; clear fA c1 c2 c3)
    subst hs3
    subst hs4
    refine zaa ?_ rfl rfl
    rw [hw]
 ·rintro ⟨M, N, nx, a, c⟩ ⟨hM, hN, ⟨o, hNe, ho⟩, _⟩
  simp only at hM hN hNe ho ⊢
  subst hNe
  have hnl : ¬ (b.length : Int) < (b.length : Int) := by omega
  have cS1 := zg7 (tag + 1) M hM.scr
  have cS2 := zg7 (tag + 1) { M with o3 := o } hM.scr
  have cG1 := zj1 (tag + 1) M hM.scr
  have cG2 := zj1 (tag + 1) { M with o3 := o } hM.scr
  have cO1 := zj5 (tag + 1) M (by have := hM.o2; omega)
  have cO2 := zj5 (tag + 1) { M with o3 := o } (by have := hM.o2; simp only; omega)
  have hg : (gridL M.scr).length = 1000 := zcf (fun k => zf0 ..) 25
  have cSG := zeq (tag + 1) (gridL M.scr) hg
  have cSB := zef (tag + 1) M.o2 (by have := hM.o2; omega)
  have gl : (flat Cell.enc (gridL M.scr)).length = 10000 := by rw [Cell.flen, hg]
  have gp := Cell.pl (gridL M.scr)
  have sl : stillL M.scr.enc = true := zci fun c hc => zc5 (List.all_eq_true.mp (enc_pl hM.scr) c hc)
  have e14 := enc14 M.scr
  clear hM hN
  obtain ⟨most, scr, ps, p0, h0, p1, h1, p2, h2, p3, h3, o0, o1, o2, o3, lost⟩ := M
  simp only at *
  have r1 : (scr.row == scr.row) = true := beq_self_eq_true _
  have r2 : (scr.col == scr.col) = true := beq_self_eq_true _
  have r3 : (ps.roll == ps.roll) = true := beq_self_eq_true _
  have r4 : (ps.speed == ps.speed) = true := beq_self_eq_true _
  simp only [e14] at cS1 cS2
  simp only [Mt.vw, PS.enc, u8L] at cS1 cS2 cG1 cG2 cO1 cO2
  simp only [Mt.cl, Mt.hpR, u8L, List.cons_append, List.nil_append, Nat.reduceAdd]
  generalize flat Cell.enc (gridL scr) = G at cG1 cG2 cSG gl gp
  generalize scr.enc = s at cS1 cS2 cG1 cG2 cO1 cO2 sl ⊢
  (have fA := aI @sl (aI @gl (aI @gp @zag)); have c1 := cS1; have c2 := cS2; have c3 := cG1; have c4 := cG2; have c5 := cSG; have c6 := cO1; have c7 := cO2; have c8 := cSB; refine gox ?_; clear fA c1 c2 c3 c4 c5 c6 c7 c8)
  (refine finx ?_; try with_reducible rfl)
  rw [decide_eq_true rfl]
end
end Go.Proofs.YtbaenaalfpcaaaaGreatDoor
