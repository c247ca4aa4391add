/- Part of the proof: an interpreter of the model, proved sound, and what it makes of the functions. -/
import Derived.Test.YtbaenaalfpcaaaaGreatDoorA5
import Derived.Test.YtbaenaalfpcaaaaGreatDoorA4
import Derived.Test.YtbaenaalfpcaaaaGreatDoorB4
import Derived.Test.YtbaenaalfpcaaaaGreatDoorB1
import Derived.Test.YtbaenaalfpcaaaaGreatDoorB6
import Derived.Test.YtbaenaalfpcaaaaGreatDoorB5
set_option linter.unusedVariables false
set_option linter.unusedSimpArgs false
set_option linter.unnecessarySimpa false
set_option maxRecDepth 100000
set_option maxHeartbeats 40000000
namespace Go.Proofs.YtbaenaalfpcaaaaGreatDoor
open Go Go.Sim
attribute [local irreducible] chk brX hX finH keyX visit packed backPk backOk backHeap stays getAll getX strX setX takeX normX fillX lendX partsX opsX callK lentK lentR giveX adoptX resX joinX headX loopX seqK blkK regK finX exOps ex eqT finMX matAll
attribute [local simp] zc2 zbg zbd zau zbm zb6 List.getElem?_cons_zero List.getElem?_cons_succ List.getElem?_nil w_i64 w_u64 w_u8 zcu bOr_u8 zcv zb3 zd0 zaj zar zao zaq zcy pl_int pl_str zcz pl_nsl zd1 zcx zag AV.cells TI.isAgg
section
attribute [local simp] Ev.flen Ev.rd Ev.enc
theorem t_Byte_26 (tag : Nat) (pre post : List AV) (hpre : pre.length = 26) (h1 : freeL tag pre = true) (h2 : freeL tag post = true) (sh : Int) (b : Int) (hb0 : 0 ≤ b) (hb1 : b < 256) (hodd : oddI b = false) (q32 : ¬ bAnd .u8 b 127 < 32) :
  callH L T 183 tag [.ref 0 (tag, 0) 26, .int .u8 b] [hb 0 (pre ++ .msl 1000026 (tag, 0) 1 0 0 :: .int .i64 sh :: post), hb 1000026 []] =
  some (.msl 400000 (tag, 0) 7 0 1, [hb 0 (pre ++ .msl 1000026 (tag, 0) 1 0 0 :: .int .i64 sh :: post), hb 400000 (flat Ev.enc [evC sh (bAnd .u8 b 127)]), hb 1000026 []]) := by
 refine (za8 (show T (183 + 1000000000) = some (.hcode a183) from rfl) rfl (by simp only [argEnv, Nat.reduceAdd]; apply Eq.refl) (by simp only [hb, hHeap]; apply Eq.refl)).trans ?_
 have l1 := zac h1
 have l2 := zac h2
 have u1 := zal h1
 have u2 := zal h2
 have s0 : ∀ b v, setR (pre ++ b) 26 v = pre ++ setR b 0 v := fun b v => zae 0 (by omega)
 have s1 : ∀ b v, setR (pre ++ b) 27 v = pre ++ setR b 1 v := fun b v => zae 1 (by omega)
 have g0 : ∀ b : List AV, (pre ++ b)[26]? = b[0]? := fun b => zai 0 (by omega)
 have g1 : ∀ b : List AV, (pre ++ b)[27]? = b[1]? := fun b => zai 1 (by omega)
 have cE := fun tag => zgn tag b hb0 hb1
 have hcr := zpa hb0 hb1
 rw [hodd] at cE
 have ec : lxC b = bAnd .u8 b 127 := by unfold lxC; rw [if_neg (by simp [hodd])]
 rw [ec] at hcr
 (have fA := aI @hpre (aI @s0 (aI @s1 (aI @g0 (aI @g1 (aI @za1 (aI @l1 (aI @l2 (aI @h1 (aI @h2 (aI @u1 (aI @u2 (aI @za3 (aI @za2 @tkE))))))))))))); have c1 := fun x1 => cE x1; have c2 := t_char (tag + 1) sh (bAnd .u8 b 127) (by omega) (by omega); refine gox ?_; clear fA c1 c2)
 (have fA := aI @hpre (aI @s0 (aI @s1 (aI @g0 (aI @g1 (aI @za1 (aI @l1 (aI @l2 (aI @h1 (aI @h2 (aI @u1 (aI @u2 (aI @za3 (aI @za2 @tkE))))))))))))); refine finhx ?_; clear fA; try with_reducible rfl)
 all_goals first | rfl
theorem t_All_26 (tag : Nat) (pre post : List AV) (hpre : pre.length = 26) (h1 : freeL tag pre = true) (h2 : freeL tag post = true) (sh : Int) (b : List Int) (hb' : b.length < 1000) :
  callH L T 136 tag [.ref 0 (tag, 0) 26, .isl 1 b.length (u8L b)] [hb 0 (pre ++ .msl 1000026 (tag, 0) 1 0 0 :: .int .i64 sh :: post), hb 1000026 []] =
  some (.fn 182 [.ref 400001000000 (tag, 0) 0, .ref 400001000001 (tag, 0) 0], [hb 0 (pre ++ .msl 1000026 (tag, 0) 1 0 0 :: .int .i64 sh :: post), hb 1000026 [], hb 400001000000 [.msl 400001000001000000 (tag, 0) 1 0 b.length], hb 400001000001 [.ref 0 (tag, 0) 26], hb 400001000001000000 (u8L b)]) := by
 unfold u8L
 refine (za8 (show T (136 + 1000000000) = some (.hcode a136) from rfl) rfl (by simp only [argEnv, Nat.reduceAdd]; apply Eq.refl) (by simp only [hb, hHeap]; apply Eq.refl)).trans ?_
 have l1 := zac h1
 have l2 := zac h2
 have tk : (List.map (AV.int IntKind.u8) b).take b.length = List.map (AV.int IntKind.u8) b := by simp
 (have fA := aI @hpre (aI @l1 (aI @l2 (aI @h1 (aI @h2 @tk)))); have c1 := fun x1 => zla x1 b (by omega); refine gox ?_; clear fA c1)
 (have fA := aI @hpre (aI @l1 (aI @l2 (aI @h1 @h2))); refine finhx ?_; clear fA; try with_reducible rfl)
 all_goals first | rfl
end
section
attribute [local simp] Ev.flen Ev.rd Ev.enc Slot.flen Slot.rd Slot.pute Slot.zero Slot.enc Cell.flen Cell.rd Cell.put Cell.pute Cell.zero Cell.enc
def Mt.pre1 (t k : Nat) (g : Nat × Nat) (m : Mt) : List AV :=
  [.int .i64 m.most, .veil t (.ref (k + 1) g 0), .bool (m.ps.m 0), .bool (m.ps.m 1), .bool (m.ps.m 2), .bool (m.ps.m 3), .bool (m.ps.m 4), .bool (m.ps.m 5), .bool (m.ps.m 6), .bool (m.ps.m 7), .bool (m.ps.m 8), .bool (m.ps.m 9), .bool (m.ps.m 10), .bool (m.ps.m 11), .bool (m.ps.m 12), .bool (m.ps.m 13), .bool (m.ps.m 14), .bool (m.ps.m 15), .bool m.ps.roll, .bool m.ps.lower, .bool m.ps.ext, .bool m.ps.c0, .int .u8 m.ps.speed, .bool m.ps.echo,
   .veil t (.msl (k + 24) g 1 0 m.p0.length), .int .i64 m.h0]
def Mt.post1 (t k : Nat) (g : Nat × Nat) (m : Mt) : List AV :=
  [.veil t (.msl (k + 28) g 1 0 m.p2.length), .int .i64 m.h2, .veil t (.msl (k + 30) g 1 0 m.p3.length), .int .i64 m.h3,
   .veil t (.msl (k + 32) g 1 0 m.o0.length), .veil t (.msl (k + 33) g 1 0 m.o1.length), .veil t (.msl (k + 34) g 1 0 m.o2.length), .veil t (.msl (k + 35) g 1 0 m.o3.length), .int .i64 m.lost]
theorem Mt.pre1_free (t k : Nat) (g : Nat × Nat) (m : Mt) : freeL (t + 1) (m.pre1 t k g) = true := by
  simp only [Mt.pre1, zcd, zdo, fr_int, zlg, zdc, Bool.and_self]
theorem Mt.post1_free (t k : Nat) (g : Nat × Nat) (m : Mt) : freeL (t + 1) (m.post1 t k g) = true := by
  simp only [Mt.post1, zcd, zdo, fr_int, zlg, zdc, Bool.and_self]
def read1 (m : Mt) (x : Int) : Mt := rnd 1 true false m (evC m.h1 (bAnd .u8 x 127))
def Mt.outK (tag : Nat) (x : Int) (m : Mt) : List (Option (List AV)) :=
  hb 1 [.msl 2000000 (tag, 0) 1 0 1] :: hb 2 [.ref 1000000 (tag, 0) 26] :: hb 1000000 (m.cells 1000001000000 tag) :: hb 1000001 [.ref 1000000 (tag, 0) 0] :: hb 1000002 [.int .i64 1] :: hb 1000003 [.bool true] :: hb 1000004 [.bool false] :: hb 2000000 [.int .u8 x] :: m.rest 1000001000000
theorem read1_p1 (m : Mt) (x : Int) : (read1 m x).p1 = m.p1 := by
  unfold read1 rnd
  split <;> rfl
theorem t_AllK (tag : Nat) (m : Mt) (N : Nat) (hN : N < 100000) (hm : m.Ok N) (hp : m.p1 = []) (x : Int) (hx0 : 0 ≤ x) (hx1 : x < 256) (hodd : oddI x = false) (q32 : ¬ bAnd .u8 x 127 < 32) :
    callH L T 182 tag [.yld y90_0 [.ref 1000000 (tag, 0) 0, .ref 1000001 (tag, 0) 0, .ref 1000002 (tag, 0) 0, .ref 1000003 (tag, 0) 0, .ref 1000004 (tag, 0) 0], .ref 1 (tag, 0) 0, .ref 2 (tag, 0) 0] (m.outK tag x) = some (.tup [], (read1 m x).outK tag x) := by
  have l1 := Scr.shut m.scr hm.scr
  have f1 := Scr.free m.scr hm.scr
  have cB := t_Byte_26 (tag + 1) (m.pre1 tag 1000001000000 (tag, 0)) (m.post1 tag 1000001000000 (tag, 0)) rfl (m.pre1_free _ _ _) (m.post1_free _ _ _) m.h1 x hx0 hx1 hodd q32
  have cY := t_rnd (tag + 1) m hm.scr (evC m.h1 (bAnd .u8 x 127)) 1 true false (fun h => by cases h) ⟨hm.m0, hm.m1⟩ (by have := hm.o2; omega) (by have := hm.o3; omega) ⟨hm.l0, by have := hm.l1; omega⟩
  have hok2 := rnd_ok hm 1 true false (evC m.h1 (bAnd .u8 x 127))
  have hp2 := read1_p1 m x
  unfold read1 at hp2 ⊢
  have l2 := Scr.shut _ hok2.scr
  have f2 := Scr.free _ hok2.scr
  have hfl : flat Ev.enc [evC m.h1 (bAnd .u8 x 127)] = [.int .i64 1, .int .i64 0, .int .i64 0, .int .i64 0, .int .i64 0, .int .i64 m.h1, .int .i64 (bAnd .u8 x 127)] := rfl
  have hev : (evC m.h1 (bAnd .u8 x 127)).enc = [.int .i64 1, .int .i64 0, .int .i64 0, .int .i64 0, .int .i64 0, .int .i64 m.h1, .int .i64 (bAnd .u8 x 127)] := rfl
  rw [hfl] at cB
  rw [hev] at cY
  generalize rnd 1 true false m (evC m.h1 (bAnd .u8 x 127)) = M2 at cY l2 f2 hp2 ⊢
  obtain ⟨most, scr, ps, p0, h0, p1, h1, p2, h2, p3, h3, o0, o1, o2, o3, lost⟩ := m
  obtain ⟨most2, scr2, ps2, p02, h02, p12, h12, p22, h22, p32, h32, o02, o12, o22, o32, lost2⟩ := M2
  simp only at hp hp2 l1 f1 l2 f2
  subst hp
  subst hp2
  clear hm hok2 hfl hev
  simp only [Mt.pre1, Mt.post1, List.cons_append, List.nil_append, Nat.reduceAdd] at cB
  simp only [Mt.cells, Mt.rest, u8L, List.map_nil, List.length_nil, Nat.reduceAdd] at cY
  simp only [Mt.outK, Mt.rest, Mt.cells, u8L, List.map_nil, List.length_nil, Nat.reduceAdd]
  generalize scr.enc = s at l1 f1 cY ⊢
  generalize scr2.enc = s2 at l2 f2 cY ⊢
  generalize bAnd .u8 x 127 = z at cB cY
  refine (za8 (show T (182 + 1000000000) = some (.hcode a182) from rfl) rfl (by simp only [argEnv, Nat.reduceAdd]; apply Eq.refl) (by simp only [hb, hHeap]; apply Eq.refl)).trans ?_
  (have fA := aI @l1 (aI @f1 (aI @l2 @f2)); refine gox ?_; clear fA)
  refine Eq.trans zad ?_
  (have fA := aI @l1 (aI @f1 (aI @l2 @f2)); have c1 := cB; refine gox ?_; clear fA c1)
  refine Eq.trans zad ?_
  (have fA := aI @l1 (aI @f1 (aI @l2 @f2)); have c1 := cY; refine gox ?_; clear fA c1)
  refine Eq.trans zad ?_
  (have fA := aI @l1 (aI @f1 (aI @l2 @f2)); refine gox ?_; clear fA)
  refine Eq.trans zad ?_
  (have fA := aI @l1 (aI @f1 (aI @l2 @f2)); refine gox ?_; clear fA)
  (have fA := aI @l1 (aI @f1 (aI @l2 @f2)); refine finhx ?_; clear fA; try with_reducible rfl)
  all_goals first | rfl
theorem t_reads1 (tag : Nat) (m : Mt) (N : Nat) (hN : N < 100000) (hm : m.Ok N) (hp : m.p1 = []) (x : Int) (hx0 : 0 ≤ x) (hx1 : x < 256) (hodd : oddI x = false) (q32 : ¬ bAnd .u8 x 127 < 32) :
    callH L T 90 tag [.ref 0 (tag, 0) 0, .int .i64 1, .isl 1 1 [.int .u8 x], .bool true, .bool false] (hb 0 (m.cells 1000000 tag) :: m.rest 1000000) = some (.tup [], hb 0 ((read1 m x).cells 1000000 tag) :: (read1 m x).rest 1000000) := by
  have l1 := Scr.shut m.scr hm.scr
  have f1 := Scr.free m.scr hm.scr
  have cA := t_All_26 (tag + 1) (m.pre1 tag 1000000 (tag, 0)) (m.post1 tag 1000000 (tag, 0)) rfl (m.pre1_free _ _ _) (m.post1_free _ _ _) m.h1 [x] (by simp)
  have cQ := t_AllK (tag + 1) m N hN hm hp x hx0 hx1 hodd q32
  have hok2 := rnd_ok hm 1 true false (evC m.h1 (bAnd .u8 x 127))
  have hp2 := read1_p1 m x
  have l2 : shutL (read1 m x).scr.enc = true := Scr.shut _ hok2.scr
  have f2 : ∀ t, freeL t (read1 m x).scr.enc = true := Scr.free _ hok2.scr
  generalize read1 m x = M2 at cQ l2 f2 hp2 ⊢
  clear hok2
  obtain ⟨most, scr, ps, p0, h0, p1, h1, p2, h2, p3, h3, o0, o1, o2, o3, lost⟩ := m
  obtain ⟨most2, scr2, ps2, p02, h02, p12, h12, p22, h22, p32, h32, o02, o12, o22, o32, lost2⟩ := M2
  simp only at hp hp2 l1 f1 l2 f2
  subst hp
  subst hp2
  clear hm
  simp only [Mt.pre1, Mt.post1, u8L, List.map_cons, List.map_nil, List.length_singleton, List.cons_append, List.nil_append, Nat.reduceAdd] at cA
  simp only [Mt.outK, Mt.rest, Mt.cells, u8L, List.map_nil, List.length_nil, Nat.reduceAdd] at cQ ⊢
  generalize scr.enc = s at l1 f1 cQ ⊢
  generalize scr2.enc = s2 at l2 f2 cQ ⊢
  refine (za8 (show T (90 + 1000000000) = some (.hcode a90) from rfl) rfl (by simp only [argEnv, Nat.reduceAdd]; apply Eq.refl) (by simp only [hb, hHeap]; apply Eq.refl)).trans ?_
  have e26 : 0 + 24 + Int.toNat 1 * 2 = 26 := rfl
  (have fA := aI @l1 (aI @f1 @e26); have c1 := cA; refine gox ?_; clear fA c1)
  refine Eq.trans (ex_range (d := 19) (cells := [.ref 0 (tag, 0) 0, .ref 5 (tag, 1) 0, .ref 6 (tag, 1 + 1) 0, .ref 8 (tag, 1 + 1 + 1) 0, .ref 9 (tag, 1 + 1 + 1 + 1) 0]) (by intro κ'; apply Eq.refl) (by apply Eq.refl) (by apply Eq.refl) (by refine ⟨?_, ?_, ?_, ?_⟩ <;> apply Eq.refl) (by apply Eq.refl) (by apply Eq.refl) (by apply Eq.refl) (by apply Eq.refl)) ?_
  (have fA := aI @l1 (aI @f1 (aI @l2 @f2)); have c1 := cQ; refine hgx ?_; clear fA c1)
  (have fA := aI @l1 (aI @f1 (aI @l2 @f2)); refine gox ?_; clear fA)
  (have fA := aI @l1 (aI @f1 (aI @l2 @f2)); refine finhx ?_; clear fA; try with_reducible rfl)
  all_goals first | rfl
end
section
attribute [local simp] Ev.flen Ev.rd Ev.enc Slot.flen Slot.rd Slot.pute Slot.zero Slot.enc Cell.flen Cell.rd Cell.put Cell.pute Cell.zero Cell.enc
def keyF (m : Mt) (key : Int) : Mt := read1 ([2, 3].foldl (sendTo 1 [makeEvenI (letterI m.ps.lower key)]) m) (makeEvenI (letterI m.ps.lower key))
theorem zhb (l : Bool) {c : Int} (h0 : 32 ≤ c) (h1 : c ≤ 126) : 32 ≤ letterI l c ∧ letterI l c ≤ 126 := by
 unfold letterI
 split <;> omega
theorem zi5 {c : Int} (h0 : 32 ≤ c) (h1 : c ≤ 126) : 0 ≤ makeEvenI c ∧ makeEvenI c < 256 ∧ oddI (makeEvenI c) = false ∧ bAnd .u8 (makeEvenI c) 127 = c := by
 have := zcs (p := fun x => decide (32 ≤ x → x ≤ 126 → 0 ≤ makeEvenI x ∧ makeEvenI x < 256 ∧ oddI (makeEvenI x) = false ∧ bAnd .u8 (makeEvenI x) 127 = x)) (by decide +kernel) (show 0 ≤ c by omega) (by omega)
 exact of_decide_eq_true this h0 h1
theorem zoj (fr : Int) (b : List Int) (m : Mt) (to : Int) : (sendTo fr b m to).p1 = m.p1 := by
 unfold sendTo ansm put2 put3
 repeat' split
 all_goals rfl
theorem t_Key (tag : Nat) (m : Mt) (N : Nat) (hN : N < 90000) (hm : m.Ok N) (hp : m.p1 = []) (hH : hears m.ps.m 0 1 = true) (key : Int) (h0 : 32 ≤ key) (h1 : key ≤ 126) :
  callH L T 38 tag [.ref 0 (tag, 0) 0, .int .i64 key] (hb 0 (m.cells 1000000 tag) :: m.rest 1000000) = some (.tup [], hb 0 ((keyF m key).cells 1000000 tag) :: (keyF m key).rest 1000000) := by
 have l1 := Scr.shut m.scr hm.scr
 have f1 := Scr.free m.scr hm.scr
 have th := fun t (p : Nat → Bool) (q : Int) => zb9 t (lst p) rfl q 1
 simp only [zgh] at th
 simp only [lst, List.map_cons, List.map_nil] at th
 have hL := zhb m.ps.lower h0 h1
 obtain ⟨he0, he1, hodd, hand⟩ := zi5 hL.1 hL.2
 have hkl : keyL m.ps.lower m.ps.ext m.ps.c0 key = [letterI m.ps.lower key] := if_pos ⟨h0, h1⟩
 have cB := fun t => zni t m.ps key
 rw [hkl] at cB
 have cL := fun t => zj6 t [letterI m.ps.lower key] (by simp)
 have hev : even [letterI m.ps.lower key] = [makeEvenI (letterI m.ps.lower key)] := rfl
 rw [hev] at cL
 unfold keyF
 generalize letterI m.ps.lower key = c at cB cL he0 he1 hodd hand hL ⊢
 have th0 := fun t => th t m.ps.m 0
 rw [hH] at th0
 have q32 : ¬ bAnd .u8 (makeEvenI c) 127 < 32 := by rw [hand]; omega
 generalize makeEvenI c = b at cL he0 he1 hodd hand q32 ⊢
 simp only [ansAV, PS.enc, List.map_cons, List.map_nil, List.length_singleton] at cB cL
 conv => lhs; simp only [Mt.rest, Mt.cells, u8L, Nat.reduceAdd]
 refine (za8 (show T (38 + 1000000000) = some (.hcode a38) from rfl) rfl (by simp only [argEnv, Nat.reduceAdd]; apply Eq.refl) (by simp only [hb, hHeap]; apply Eq.refl)).trans ?_
 (have fA := aI @l1 (aI @f1 @two_rep); have c1 := fun x1 => cB x1; have c2 := fun x1 => cL x1; have c3 := fun x1 => th0 x1; refine gox ?_; clear fA c1 c2 c3)
 refine Eq.trans (zds (α := Int) (X := MY) (fun k x => x.m.Ok (N + k) ∧ x.m.p1 = []) (fun k x => ⟨[(0, .ref 0 (tag, 0) 0), (4, .fsl 1 1 [.int .u8 b]), (5, .bool true), (20, .msl 20 (tag, 1) 1 0 2), (21, .int .i64 2), (22, .int .i64 (k : Nat))], (0, ⟨(tag, 0), x.m.cl 1000000 (tag, x.a) (tag, x.a)⟩) :: (20, ⟨(tag, 1), [.int .i64 2, .int .i64 3]⟩) :: x.m.hpR 1000000 (tag, x.a), x.nx, tag⟩) [2, 3]
  (fun l x => some (.tup [], hb 0 ((read1 (l.foldl (sendTo 1 [b]) x.m) b).cells 1000000 tag) :: (read1 (l.foldl (sendTo 1 [b]) x.m) b).rest 1000000)) ?_ ?_ ⟨m, 2, 0⟩ ⟨hm, hp⟩) rfl
 ·rintro k ⟨M, nx, a⟩ hk hI ih
  simp only at hI ih ⊢
  have hl3 := Scr.shut M.scr hI.1.scr
  have hf3 := Scr.free M.scr hI.1.scr
  have hk2 : k = 0 ∨ k = 1 := by simp only [List.length_cons, List.length_nil] at hk; omega
  rcases hk2 with rfl | rfl
  ·have th2 := fun t => th t M.ps.m 2
   have hp3 : (sendTo 1 [b] M 2).p1 = [] := by rw [zoj]; exact hI.2
   cases hq : hears M.ps.m 2 1 with
   | true =>
    have e : sendTo 1 [b] M 2 = put2 M [b] := by unfold sendTo; rw [if_pos hq]; rfl
    have ih3 := ih ⟨sendTo 1 [b] M 2, nx + 1, nx⟩ ⟨zc1 hI.1 1 [b] 2, hp3⟩
    refine Eq.trans ?_ ih3
    clear ih3 ih
    rw [hq] at th2
    rw [e]
    have cS := t_sendI2 (tag + 1) M hI.1.scr [b] ⟨hI.1.m0, hI.1.m1⟩ (by simp) (by have := hI.1.o2; omega) ⟨hI.1.l0, by have := hI.1.l1; omega⟩
    have hsc := put2_scr M [b]
    generalize put2 M [b] = M2 at cS hsc ⊢
    obtain ⟨most, scr, ps, p0, h0, p1, h1, p2, h2, p3, h3, o0, o1, o2, o3, lost⟩ := M
    obtain ⟨most2, scr2, ps2, p02, h02, p12, h12, p22, h22, p32, h32, o02, o12, o22, o32, lost2⟩ := M2
    simp only at hl3 hf3 hsc
    subst hsc
    simp only [Mt.cells, Mt.rest, u8L, List.map_cons, List.map_nil, List.length_singleton, Nat.reduceAdd] at cS
    conv => lhs; simp only [Mt.cl, Mt.hpR, u8L, Nat.reduceAdd]
    generalize hs1 : scr2.enc = s at hl3 hf3 cS
    (have fA := aI @hl3 @hf3; have c1 := fun x1 => th2 x1; have c2 := cS; refine gox ?_; clear fA c1 c2)
    subst hs1
    exact zaa rfl rfl rfl
   | false =>
    have e : sendTo 1 [b] M 2 = M := by unfold sendTo; rw [if_neg (by simp [hq])]
    have ih3 := ih ⟨sendTo 1 [b] M 2, nx, a⟩ ⟨zc1 hI.1 1 [b] 2, hp3⟩
    refine Eq.trans ?_ ih3
    clear ih3 ih
    rw [hq] at th2
    rw [e]
    obtain ⟨most, scr, ps, p0, h0, p1, h1, p2, h2, p3, h3, o0, o1, o2, o3, lost⟩ := M
    simp only at hl3 hf3
    conv => lhs; simp only [Mt.cl, Mt.hpR, u8L, Nat.reduceAdd]
    generalize hs1 : scr.enc = s at hl3 hf3
    (have fA := aI @hl3 @hf3; have c1 := fun x1 => th2 x1; refine gox ?_; clear fA c1)
    subst hs1
    exact zaa rfl rfl rfl
  ·have th2 := fun t => th t M.ps.m 3
   have hp3 : (sendTo 1 [b] M 3).p1 = [] := by rw [zoj]; exact hI.2
   cases hq : hears M.ps.m 3 1 with
   | true =>
    have e : sendTo 1 [b] M 3 = put3 M [b] := by unfold sendTo; rw [if_pos hq]; rfl
    have ih3 := ih ⟨sendTo 1 [b] M 3, nx + 1, nx⟩ ⟨zc1 hI.1 1 [b] 3, hp3⟩
    refine Eq.trans ?_ ih3
    clear ih3 ih
    rw [hq] at th2
    rw [e]
    have cS := t_sendI3 (tag + 1) M hI.1.scr [b] ⟨hI.1.m0, hI.1.m1⟩ (by simp) (by have := hI.1.o3; omega) ⟨hI.1.l0, by have := hI.1.l1; omega⟩
    have hsc := put3_scr M [b]
    generalize put3 M [b] = M2 at cS hsc ⊢
    obtain ⟨most, scr, ps, p0, h0, p1, h1, p2, h2, p3, h3, o0, o1, o2, o3, lost⟩ := M
    obtain ⟨most2, scr2, ps2, p02, h02, p12, h12, p22, h22, p32, h32, o02, o12, o22, o32, lost2⟩ := M2
    simp only at hl3 hf3 hsc
    subst hsc
    simp only [Mt.cells, Mt.rest, u8L, List.map_cons, List.map_nil, List.length_singleton, Nat.reduceAdd] at cS
    conv => lhs; simp only [Mt.cl, Mt.hpR, u8L, Nat.reduceAdd]
    generalize hs1 : scr2.enc = s at hl3 hf3 cS
    (have fA := aI @hl3 @hf3; have c1 := fun x1 => th2 x1; have c2 := cS; refine gox ?_; clear fA c1 c2)
    subst hs1
    exact zaa rfl rfl rfl
   | false =>
    have e : sendTo 1 [b] M 3 = M := by unfold sendTo; rw [if_neg (by simp [hq])]
    have ih3 := ih ⟨sendTo 1 [b] M 3, nx, a⟩ ⟨zc1 hI.1 1 [b] 3, hp3⟩
    refine Eq.trans ?_ ih3
    clear ih3 ih
    rw [hq] at th2
    rw [e]
    obtain ⟨most, scr, ps, p0, h0, p1, h1, p2, h2, p3, h3, o0, o1, o2, o3, lost⟩ := M
    simp only at hl3 hf3
    conv => lhs; simp only [Mt.cl, Mt.hpR, u8L, Nat.reduceAdd]
    generalize hs1 : scr.enc = s at hl3 hf3
    (have fA := aI @hl3 @hf3; have c1 := fun x1 => th2 x1; refine gox ?_; clear fA c1)
    subst hs1
    exact zaa rfl rfl rfl
 ·rintro ⟨M, nx, a⟩ hI
  simp only [List.length_cons, List.length_nil, List.foldl_nil] at hI ⊢
  obtain ⟨hI, hpM⟩ := hI
  have hl3 := Scr.shut M.scr hI.scr
  have hf3 := Scr.free M.scr hI.scr
  have cR := t_reads1 (tag + 1) M (N + 2) (by omega) hI hpM b he0 he1 hodd q32
  have hok : (read1 M b).Ok (N + 2 + 1) := rnd_ok hI 1 true false _
  have hl4 := Scr.shut _ hok.scr
  have hf4 := Scr.free _ hok.scr
  generalize read1 M b = M2 at cR hl4 hf4 ⊢
  clear hok
  obtain ⟨most, scr, ps, p0, h0, p1, h1, p2, h2, p3, h3, o0, o1, o2, o3, lost⟩ := M
  obtain ⟨most2, scr2, ps2, p02, h02, p12, h12, p22, h22, p32, h32, o02, o12, o22, o32, lost2⟩ := M2
  simp only at hl3 hf3 hl4 hf4
  simp only [Mt.cells, Mt.rest, u8L, Nat.reduceAdd] at cR
  simp only [Mt.cells, Mt.rest, Mt.cl, Mt.hpR, u8L, Nat.reduceAdd]
  generalize scr.enc = s at hl3 hf3 cR ⊢
  generalize scr2.enc = s2 at hl4 hf4 cR ⊢
  (have fA := aI @hl3 (aI @hf3 (aI @hl4 @hf4)); have c1 := cR; refine gox ?_; clear fA c1)
  (have fA := aI @hl3 (aI @hf3 (aI @hl4 @hf4)); refine finhx ?_; clear fA; try with_reducible rfl)
  all_goals first | rfl
theorem t_Take2 (tag : Nat) (m : Mt) (N : Nat) (hm : m.Ok N) :
  callH L T 37 tag [.ref 0 (tag, 0) 0, .int .i64 2] (hb 0 (m.cells 1000000 tag) :: m.rest 1000000) = some (.isl 1 m.o2.length (u8L m.o2), hb 0 (({ m with o2 := [] } : Mt).cells 1000000 tag) :: ({ m with o2 := [] } : Mt).rest 1000000) := by
 have l1 := Scr.shut m.scr hm.scr
 have f1 := Scr.free m.scr hm.scr
 have sl : stillL m.scr.enc = true := zci fun c hc => zc5 (List.all_eq_true.mp (enc_pl hm.scr) c hc)
 have cO := zj5 (tag + 1) m (by have := hm.o2; omega)
 have e34 : 32 + Int.toNat 2 = 34 := rfl
 obtain ⟨most, scr, ps, p0, h0, p1, h1, p2, h2, p3, h3, o0, o1, o2, o3, lost⟩ := m
 simp only [Mt.vw, u8L] at cO
 simp only at l1 f1 sl
 simp only [Mt.cells, Mt.rest, u8L, List.map_nil, List.length_nil, Nat.reduceAdd]
 generalize scr.enc = s at l1 f1 sl cO ⊢
 refine (za8 (show T (37 + 1000000000) = some (.hcode a37) from rfl) rfl (by simp only [argEnv, Nat.reduceAdd]; apply Eq.refl) (by simp only [hb, hHeap]; apply Eq.refl)).trans ?_
 by_cases q : (0 : Int) < (o2.length : Int)
 ·(have fA := aI @l1 (aI @f1 (aI @sl (aI @e34 @zag))); have c1 := cO; refine gox ?_; clear fA c1)
  (have fA := aI @l1 (aI @f1 @zag); refine finhx ?_; clear fA; try with_reducible rfl)
  all_goals first | rfl
 ·obtain rfl : o2 = [] := List.eq_nil_of_length_eq_zero (by omega)
  (have fA := aI @l1 (aI @f1 (aI @sl (aI @e34 @zag))); have c1 := cO; refine gox ?_; clear fA c1)
  (have fA := aI @l1 (aI @f1 @zag); refine finhx ?_; clear fA; try with_reducible rfl)
  all_goals first | rfl
end
section
attribute [local simp] Ev.flen Ev.rd Ev.enc Slot.flen Slot.rd Slot.pute Slot.zero Slot.enc Cell.flen Cell.rd Cell.put Cell.pute Cell.zero Cell.enc
theorem mtNew_okE {most : Int} (h0 : 0 ≤ most) (h1 : most ≤ 4096) : (mtNew most).Ok 0 := ⟨zbo, ⟨by simp [mtNew], by simp [mtNew], by simp [mtNew]⟩, .inl rfl, h0, h1, by simp [mtNew], by simp [mtNew], by simp [mtNew], by simp [mtNew]⟩
def pre5 : List Int := [27, 59, 97, 88, 81]
def mtAt (k : Nat) : Mt := (pre5.take k).foldl (fun m c => comes2 m (makeEvenI c)) (mtNew 500)
theorem mtAt_five : (mtAt 5).p1 = [] ∧ (mtAt 5).p2 = [] ∧ (mtAt 5).h1 = 0 ∧ (mtAt 5).h2 = 0 ∧ (mtAt 5).ps.lower = false ∧ hears (mtAt 5).ps.m 0 1 = true ∧ hears (mtAt 5).ps.m 2 1 = true ∧ hears (mtAt 5).ps.m 3 1 = false ∧ hears (mtAt 5).ps.m 0 2 = true ∧ hears (mtAt 5).ps.m 2 2 = false ∧ hears (mtAt 5).ps.m 3 2 = false ∧ (mtAt 5).most = 500 ∧ (mtAt 5).o2.length ≤ 100 := by decide +kernel
theorem zo0 {k : Nat} (h : k < pre5.length) : mtAt (k + 1) = comes2 (mtAt k) (makeEvenI pre5[k]) := by
 unfold mtAt
 rw [List.take_add_one, List.getElem?_eq_getElem h, List.foldl_append]
 rfl
theorem pre5_rng : ∀ x ∈ pre5, 0 ≤ x ∧ x < 256 := by decide
theorem zlu : ∀ k : Nat, k ≤ 5 → (mtAt k).Ok (4 * k)
 | 0, _ => mtNew_okE (by decide) (by decide)
 | k + 1, h => by
  have hk : k < pre5.length := h
  rw [zo0 hk]
  have hr := pre5_rng _ (List.getElem_mem hk)
  have he := zfd hr.1 hr.2
  exact zbt (zlu k (by omega)) he.1 he.2
theorem five_rep : setR (setR (setR (setR (setR (List.map (AV.int IntKind.u8) (List.replicate 5 0)) 0 [AV.int IntKind.u8 27]) 1 [AV.int IntKind.u8 59]) 2 [AV.int IntKind.u8 97]) 3 [AV.int IntKind.u8 88]) 4 [AV.int IntKind.u8 81] = pre5.map (.int .u8) := rfl
structure ME where
 nx : Nat
 a : Nat
 c : Nat
theorem keyF_eq {M : Mt} (h2 : hears M.ps.m 2 1 = true) (h3 : hears M.ps.m 3 1 = false) (hl : M.ps.lower = false) (hh : M.h1 = 0) (hm : M.most = 500) {W : List Int} (hW : W.length < 400) (S : Scr) {key : Int} (k0 : 32 ≤ key) (k1 : key ≤ 126) :
  keyF { M with o2 := W, scr := S } key = { M with o2 := W ++ [makeEvenI (letterI false key)], scr := sEvent S (evC 0 (letterI false key)) } := by
 obtain ⟨r0, r1⟩ := zhb false k0 k1
 obtain ⟨_, _, _, hb⟩ := zi5 r0 r1
 unfold keyF
 simp only [List.foldl_cons, List.foldl_nil, hl]
 generalize letterI false key = c at hb
 have e1 : sendTo 1 [makeEvenI c] { M with o2 := W, scr := S } 2 = { M with o2 := W ++ [makeEvenI c], scr := S } := by
  unfold sendTo
  simp only [h2, if_true]
  unfold ansm put2
  rw [if_pos rfl, if_neg (by simp), if_neg (by simp only [hm, List.length_singleton]; omega)]
 have e2 : sendTo 1 [makeEvenI c] { M with o2 := W ++ [makeEvenI c], scr := S } 3 = { M with o2 := W ++ [makeEvenI c], scr := S } := by
  unfold sendTo
  simp only [h3, Bool.false_eq_true, if_false]
 rw [e1, e2]
 unfold read1 rnd
 simp only [hb, hh]
 rfl
theorem comes_eq {M : Mt} (hp : M.p2 = []) (hh : M.h2 = 0) (g0 : hears M.ps.m 0 2 = true) (g2 : hears M.ps.m 2 2 = false) (g3 : hears M.ps.m 3 2 = false) (S : Scr) {c : Int} (r0 : 32 ≤ c) (r1 : c ≤ 126) :
  comes2 { M with scr := S } (makeEvenI c) = { M with scr := sEvent S (evC 0 c) } := by
 obtain ⟨_, _, ho, hb⟩ := zi5 r0 r1
 obtain ⟨most, scr, ps, p0, h0, p1, h1, p2, h2, p3, h3, o0, o1, o2, o3, lost⟩ := M
 simp only at hp hh g0 g2 g3
 subst hp
 subst hh
 unfold comes2 sendTo
 simp only [List.foldl_cons, List.foldl_nil, g0, g2, g3, Bool.false_eq_true, if_false]
 show read2 true true _ _ = _
 unfold read2
 have e : lxB [] 0 (makeEvenI c) = ([], 0, [evC 0 c]) := by
  have hl : lxC (makeEvenI c) = c := by unfold lxC; rw [if_neg (by simp [ho]), hb]
  unfold lxB
  rw [hl, if_neg (by omega), if_pos (show ([] : List Int).length = 0 from rfl)]
 simp only [e, List.foldl_cons, List.foldl_nil]
 rfl
def keyC (n : Int) : Int := letterI false (n % 95 + 32)
def keyB (n : Int) : Int := makeEvenI (keyC n)
structure MW where
 S : Scr
 nx : Nat
 a : Nat
 c : Nat
 w : Nat
theorem zq6 (tag : Nat) (l : List Int) : callω L T 9 tag [.isl 1 l.length (l.map (.int .i64))] [none] = some (.bool true, [none]) := by
 by_cases hq : 30 < l.length
 ·have hq2 : (l.length : Int) > 30 := by omega
  rw [za5 (show T 9 = some (.code a9) from rfl) rfl rfl]
  (have c1 := fun x1 => zhi x1; refine gox ?_; clear c1)
  (refine finx ?_; try with_reducible rfl)
  all_goals first | rfl
 have hq2 : ¬ (l.length : Int) > 30 := by omega
 have cN := fun t => t_mNew t 500 (by decide) (by decide)
 have l3 := Scr.shut sNew zbo
 have f3 := Scr.free sNew zbo
 have em : mtNew 500 = ⟨500, sNew, PS.start, [], 0, [], 0, [], 0, [], 0, [], [], [], [], 0⟩ := rfl
 simp only [em, Mt.mem, Mt.rest, Mt.cells, u8L, List.map_nil, List.length_nil, Nat.reduceAdd] at cN
 generalize hs0 : sNew.enc = s at cN l3 f3
 generalize hp0 : PS.start = p at cN em
 rw [za5 (show T 9 = some (.code a9) from rfl) rfl rfl]
 (have fA := aI @l3 (aI @f3 @five_rep); have c1 := fun x1 => zhi x1; have c2 := fun x1 => cN x1; refine gox ?_; clear fA c1 c2)
 subst hs0
 subst hp0
 refine Eq.trans (zdn (X := ME) (fun _ _ => True) (fun k x => ⟨[(0, .isl 1 l.length (l.map (.int .i64))), (3, .ref 24400000 (tag, 1) 0), (5, .ref 28400000 (tag, 1 + 1) 0), (44, .msl 44 (tag, 1 + 1 + 1) 1 0 5), (45, .int .i64 5), (46, .int .i64 (k : Nat))], (44, ⟨(tag, 1 + 1 + 1), pre5.map (.int .u8)⟩) :: (24400000, ⟨(tag, 1), (mtAt k).cl 24400001000000 (tag, x.a) (tag, x.a)⟩) :: (28400000, ⟨(tag, 1 + 1), (mtAt k).cl 28400001000000 (tag, x.c) (tag, x.c)⟩) :: ((mtAt k).hpR 24400001000000 (tag, x.a) ++ (mtAt k).hpR 28400001000000 (tag, x.c)), x.nx, tag⟩) 5 (some (.bool true, [none])) ?_ ?_ ⟨4, 1, 2⟩ trivial) rfl
 ·rintro k ⟨nx, a, c⟩ hk - ih
  simp only at ih ⊢
  have hk5 : k < pre5.length := hk
  have hI := zlu k (by omega)
  have hJ := zlu (k + 1) (by omega)
  have hc := pre5_rng _ (List.getElem_mem hk5)
  have hk' : (k : Int) < 5 := by omega
  have gk : (List.map (AV.int IntKind.u8) pre5)[k]? = some (.int .u8 pre5[k]) := by simp [hk5]
  have hw : IntKind.i64.wrap ((k : Int) + 1) = ((k + 1 : Nat) : Int) := zah hk (by omega)
  have hE := zfd hc.1 hc.2
  have ih2 := ih ⟨nx + 1 + 1, nx, nx + 1⟩ trivial
  rw [zo0 hk5] at ih2 hJ
  refine Eq.trans ?_ ih2
  clear ih ih2
  have cE := fun t => zbc t pre5[k]
  have cM1 := zg2 (tag + 1) (mtAt k) (4 * k) (by omega) hI _ hE.1 hE.2
  have pl5 : (List.map (AV.int IntKind.u8) pre5).length = 5 := rfl
  generalize pre5[k] = x at gk cE cM1 hE hJ ⊢
  have k1 := Scr.shut _ hI.scr
  have k2 := Scr.free _ hI.scr
  have k3 := Scr.shut _ hJ.scr
  have k4 := Scr.free _ hJ.scr
  clear hI hJ
  generalize comes2 (mtAt k) (makeEvenI x) = M2 at cM1 k3 k4 ⊢
  generalize mtAt k = M at cM1 k1 k2 ⊢
  conv => lhs; simp only [Mt.cl, Mt.hpR, u8L, List.cons_append, List.nil_append, Nat.reduceAdd]
  simp only [Mt.cells, Mt.rest, u8L, Nat.reduceAdd] at cM1
  generalize hs1 : M.scr.enc = s1 at k1 k2 cM1
  generalize hs3 : M2.scr.enc = s3 at k3 k4 cM1
  generalize List.map (AV.int IntKind.u8) pre5 = F at gk pl5 ⊢
  (have fA := aI @k1 (aI @k2 (aI @k3 (aI @k4 (aI @gk (aI @hw @pl5))))); have c1 := fun x1 => cE x1; have c2 := cM1; refine gox ?_; clear fA c1 c2)
  subst hs3
  refine zaa ?_ rfl rfl
  rw [hw]
 ·rintro ⟨nx, a, c⟩ -
  simp only
  have hI := zlu 5 (by omega)
  have cT := t_Take2 (tag + 1) (mtAt 5) _ hI
  have k1 := Scr.shut _ hI.scr
  have k2 := Scr.free _ hI.scr
  have five := mtAt_five
  generalize mtAt 5 = M at hI cT k1 k2 five ⊢
  conv => lhs; simp only [Mt.cl, Mt.hpR, u8L, List.cons_append, List.nil_append, Nat.reduceAdd]
  simp only [Mt.cells, Mt.rest, u8L, List.map_nil, List.length_nil, Nat.reduceAdd] at cT
  generalize hs1 : M.scr.enc = s1 at k1 k2 cT
  (have fA := aI @k1 @k2; have c1 := cT; refine gox ?_; clear fA c1)
  subst hs1
  obtain ⟨z1, z2, z3, z4, z5, z6, z7, z8, z9, z10, z11, z12, z13⟩ := five
  have base : ∀ S : Scr, S.Ok → ∀ W : List Int, W.length ≤ 400 → ({ M with o2 := W, scr := S } : Mt).Ok 20 := fun S hS W hW => { hI with scr := hS, o2 := by simp only; omega }
  have base2 : ∀ S : Scr, S.Ok → ({ M with scr := S } : Mt).Ok 20 := fun S hS => { hI with scr := hS }
  refine Eq.trans (zdn (X := MW) (fun _ x => x.S.Ok) (fun k x => ⟨[(0, .isl 1 l.length (l.map (.int .i64))), (3, .ref 24400000 (tag, 1) 0), (5, .ref 28400000 (tag, 2) 0), (9, .msl 9 (tag, x.w) 1 0 k), (10, .int .i64 (k : Nat))],
   (9, ⟨(tag, x.w), ((l.map keyB).take k).map (.int .u8)⟩) :: (24400000, ⟨(tag, 1), ({ M with o2 := (l.map keyB).take k, scr := x.S } : Mt).cl 24400001000000 (tag, x.a) (tag, x.a)⟩) :: (28400000, ⟨(tag, 2), ({ M with scr := x.S } : Mt).cl 28400001000000 (tag, x.c) (tag, x.c)⟩) :: (({ M with o2 := (l.map keyB).take k, scr := x.S } : Mt).hpR 24400001000000 (tag, x.a) ++ ({ M with scr := x.S } : Mt).hpR 28400001000000 (tag, x.c)), x.nx, tag⟩) l.length (some (.bool true, [none])) ?_ ?_ ⟨M.scr, nx + 1 + 1, nx, c, nx + 1⟩ hI.scr) rfl
  ·rintro k ⟨S, nx2, a2, d2, w⟩ hk hS ih
   simp only at hS ih ⊢
   have hkl : k ≤ 30 := by omega
   have hk' : (k : Int) < (l.length : Int) := by omega
   have gk : (List.map (AV.int IntKind.i64) l)[k]? = some (.int .i64 l[k]) := by simp [hk]
   have hw : IntKind.i64.wrap ((k : Int) + 1) = ((k + 1 : Nat) : Int) := zah hk (by omega)
   have hWl : ((l.map keyB).take k).length = k := by rw [List.length_take, List.length_map]; omega
   have hWs : (l.map keyB).take (k + 1) = (l.map keyB).take k ++ [keyB l[k]] := by
    rw [List.take_add_one, List.getElem?_map, List.getElem?_eq_getElem hk]
    rfl
   rw [hWs] at ih
   have hK0 : 32 ≤ l[k] % 95 + 32 := by have := Int.emod_nonneg l[k] (show (95 : Int) ≠ 0 by decide); omega
   have hK1 : l[k] % 95 + 32 ≤ 126 := by have := Int.emod_lt_of_pos l[k] (show (0 : Int) < 95 by decide); omega
   have cN := fun t => zga t l[k] 95 (by decide) (by decide)
   have hwk : IntKind.i64.wrap (l[k] % 95 + 32) = l[k] % 95 + 32 := w_i64 (by omega) (by omega)
   have hS2 := hS.event (evC 0 (letterI false (l[k] % 95 + 32)))
   have ih2 := ih ⟨sEvent S (evC 0 (letterI false (l[k] % 95 + 32))), nx2 + 1 + 1 + 1 + 1, nx2, nx2 + 1, nx2 + 1 + 1 + 1⟩ hS2
   clear ih
   have hkb : keyB l[k] = makeEvenI (letterI false (l[k] % 95 + 32)) := rfl
   rw [hkb] at ih2
   generalize hnn : l[k] = n0 at gk cN hK0 hK1 hwk hS2 ih2
   generalize hky : n0 % 95 + 32 = key at hK0 hK1 hwk hS2 ih2
   generalize (l.map keyB).take k = W at hWl ih2 ⊢
   have hr := zhb false hK0 hK1
   have he := zi5 hr.1 hr.2
   have cK := t_Key (tag + 1) { M with o2 := W, scr := S } 20 (by decide) (base S hS W (by omega)) z1 z6 key hK0 hK1
   rw [keyF_eq z7 z8 z5 z3 z12 (by omega) S hK0 hK1] at cK
   have cM := zg2 (tag + 1) { M with scr := S } 20 (by decide) (base2 S hS) (makeEvenI (letterI false key)) he.1 he.2.1
   rw [comes_eq z2 z4 z9 z10 z11 S hr.1 hr.2] at cM
   generalize hcc : letterI false key = c at cK cM hr he hS2 ih2
   have hk3 : IntKind.i64.wrap (n0 % 95 + 32) = key := by rw [hky]; exact hwk
   rw [← hk3] at cK
   refine Eq.trans ?_ ih2
   clear ih2 base base2
   have wy1 := Scr.shut S hS
   have wy2 := Scr.free S hS
   have wy3 := Scr.shut _ hS2
   have wy4 := Scr.free _ hS2
   have hu : IntKind.u8.wrap (IntKind.i64.wrap (n0 % 95 + 32)) = key := by rw [hk3]; exact w_u8 (by omega) (by omega)
   have hbn : k + 1 ≤ 140737488355328 := by omega
   have hWm : (List.map (AV.int IntKind.u8) W).length = k := by rw [List.length_map, hWl]
   have hWt : (List.map (AV.int IntKind.u8) W).take k = List.map (AV.int IntKind.u8) W := List.take_of_length_le (by omega)
   generalize hS3 : sEvent S (evC 0 c) = S3 at cK cM wy3 wy4 ⊢
   clear k1 k2 cT
   obtain ⟨most, scr, ps, p0, h0, p1, h1, p2, h2, p3, h3, o0, o1, o2, o3, lost⟩ := M
   simp only at z1 z2
   subst z1
   subst z2
   conv => lhs; simp only [Mt.cl, Mt.hpR, u8L, List.cons_append, List.nil_append, Nat.reduceAdd]
   simp only [Mt.cells, Mt.rest, u8L, List.map_append, List.map_cons, List.map_nil, List.length_append, List.length_nil, List.length_singleton, hWl, Nat.reduceAdd] at cK cM
   simp only [List.map_nil, List.length_nil, hWl]
   generalize hs1 : S.enc = s1 at wy1 wy2 cK cM
   generalize hs3 : S3.enc = s3 at wy3 wy4 cK cM
   by_cases q : 97 ≤ key ∧ key ≤ 122
   ·have hraw : IntKind.u8.wrap (IntKind.u8.wrap (IntKind.i64.wrap (n0 % 95 + 32)) - 32) = c := by rw [hu, ← hcc, show letterI false key = key - 32 from if_pos ⟨q.1, q.2, rfl⟩]; exact w_u8 (by omega) (by omega)
    have cE := fun t => zbc t (IntKind.u8.wrap (IntKind.u8.wrap (IntKind.i64.wrap (n0 % 95 + 32)) - 32))
    rw [← hraw] at cM
    obtain ⟨q1, q2⟩ := q
    rw [← hk3] at q1 q2
    (have fA := aI @wy1 (aI @wy2 (aI @wy3 (aI @wy4 (aI @gk (aI @hw (aI @hWl (aI @hWm (aI @hWt (aI @hbn @za1))))))))); have c1 := fun x1 => cN x1; have c2 := cK; have c3 := fun x1 => cE x1; have c4 := cM; refine gox ?_; clear fA c1 c2 c3 c4)
    subst hs3
    refine zaa ?_ ?_ rfl
    ·rw [hw]
    ·rw [hraw]
     simp only [Mt.cl, Mt.hpR, u8L, List.cons_append, List.nil_append, List.map_append, List.length_append, hWl, Nat.reduceAdd]
     rfl
   ·have hraw : IntKind.u8.wrap (IntKind.i64.wrap (n0 % 95 + 32)) = c := by rw [hu, ← hcc, show letterI false key = key from if_neg (fun h => q ⟨h.1, h.2.1⟩)]
    have cE := fun t => zbc t (IntKind.u8.wrap (IntKind.i64.wrap (n0 % 95 + 32)))
    rw [← hraw] at cM
    by_cases q1 : 97 ≤ key
    ·have q2 : ¬ key ≤ 122 := fun h => q ⟨q1, h⟩
     rw [← hk3] at q1 q2
     (have fA := aI @wy1 (aI @wy2 (aI @wy3 (aI @wy4 (aI @gk (aI @hw (aI @hWl (aI @hWm (aI @hWt (aI @hbn @za1))))))))); have c1 := fun x1 => cN x1; have c2 := cK; have c3 := fun x1 => cE x1; have c4 := cM; refine gox ?_; clear fA c1 c2 c3 c4)
     subst hs3
     refine zaa ?_ ?_ rfl
     ·rw [hw]
     ·rw [hraw]
      simp only [Mt.cl, Mt.hpR, u8L, List.cons_append, List.nil_append, List.map_append, List.length_append, hWl, Nat.reduceAdd]
      rfl
    ·rw [← hk3] at q1
     (have fA := aI @wy1 (aI @wy2 (aI @wy3 (aI @wy4 (aI @gk (aI @hw (aI @hWl (aI @hWm (aI @hWt (aI @hbn @za1))))))))); have c1 := fun x1 => cN x1; have c2 := cK; have c3 := fun x1 => cE x1; have c4 := cM; refine gox ?_; clear fA c1 c2 c3 c4)
     subst hs3
     refine zaa ?_ ?_ rfl
     ·rw [hw]
     ·rw [hraw]
      simp only [Mt.cl, Mt.hpR, u8L, List.cons_append, List.nil_append, List.map_append, List.length_append, hWl, Nat.reduceAdd]
      rfl
  ·rintro ⟨S, nx2, a2, d2, w⟩ hS
   simp only at hS ⊢
   have hnl : ¬ (l.length : Int) < (l.length : Int) := by omega
   have hWl : ((l.map keyB).take l.length).length = l.length := by simp
   generalize (l.map keyB).take l.length = W at hWl ⊢
   have cS1 := zg7 (tag + 1) { M with o2 := W, scr := S } hS
   have cS2 := zg7 (tag + 1) { M with scr := S } hS
   have cG1 := zj1 (tag + 1) { M with o2 := W, scr := S } hS
   have cG2 := zj1 (tag + 1) { M with scr := S } hS
   have cO1 := zj5 (tag + 1) { M with o2 := W, scr := S } (by simp only; omega)
   have hg : (gridL S).length = 1000 := zcf (fun k => zf0 ..) 25
   have cSG := zeq (tag + 1) (gridL S) hg
   have cSB := zef (tag + 1) W (by omega)
   have gl : (flat Cell.enc (gridL S)).length = 10000 := by rw [Cell.flen, hg]
   have gp := Cell.pl (gridL S)
   have sl : stillL S.enc = true := zci fun c hc => zc5 (List.all_eq_true.mp (enc_pl hS) c hc)
   have e14 := enc14 S
   clear base base2 cT k1 k2 hI z1 z2 z3 z4 z5 z6 z7 z8 z9 z10 z11 z12 z13
   obtain ⟨most, scr, ps, p0, h0, p1, h1, p2, h2, p3, h3, o0, o1, o2, o3, lost⟩ := M
   have r1 : (S.row == S.row) = true := beq_self_eq_true _
   have r2 : (S.col == S.col) = true := beq_self_eq_true _
   rw [hWl] at cSB
   simp only [e14] at cS1 cS2
   simp only [Mt.vw, PS.enc, u8L, hWl] at cS1 cS2 cG1 cG2 cO1
   simp only [Mt.cl, Mt.hpR, u8L, hWl, List.cons_append, List.nil_append, Nat.reduceAdd]
   generalize flat Cell.enc (gridL S) = G at cG1 cG2 cSG gl gp
   generalize S.enc = s at cS1 cS2 cG1 cG2 cO1 sl ⊢
   have hWm : (List.map (AV.int IntKind.u8) W).length = l.length := by rw [List.length_map, hWl]
   have hWt : (List.map (AV.int IntKind.u8) W).take l.length = List.map (AV.int IntKind.u8) W := List.take_of_length_le (by omega)
   (have fA := aI @sl (aI @gl (aI @gp (aI @hWm (aI @hWt @zag)))); have c1 := cS1; have c2 := cS2; have c3 := cG1; have c4 := cG2; have c5 := cSG; have c6 := cO1; have c7 := cSB; refine gox ?_; clear fA c1 c2 c3 c4 c5 c6 c7)
   (refine finx ?_; try with_reducible rfl)
   all_goals first | rfl | (rw [decide_eq_true rfl]; done)
end
end Go.Proofs.YtbaenaalfpcaaaaGreatDoor
