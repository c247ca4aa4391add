/- PageExtras: enhancements stand in the order of their numbers, whichever came first; one that comes again takes the place of the one that was there. No condition. -/
import Derived.Test.YtimcmpceekbfjaaRows
import Derived.Test.YtimcmpceekbfjaaSimT
import Derived.Test.YtimcmpceekbfjaaSimY
import Derived.Test.YtimcmpceekbfjaaPpage11
import Derived.Test.YtimcmpceekbfjaaPpage8
set_option maxRecDepth 100000
set_option maxHeartbeats 40000000
set_option linter.unusedSimpArgs false
set_option linter.unusedVariables false
namespace Go.Proofs.Ytimcmpceekbfjaa.pageExtras
open Go Go.Sim
attribute [local irreducible] chk brX getX strX setX takeX normX fillX lendX partsX opsX callK lentK giveX adoptX resX joinX headX loopX seqK blkK regK finX exOps ex eqT
attribute [local simp] setR_int setR_bool setR_zero setR_succ repl_int repl_bool List.getElem?_cons_zero List.getElem?_cons_succ List.getElem?_nil w_i64 w_u64 w_u8 bAnd_u8 bOr_u8 bXor_u8 bAndNot_u8 bShl_u8 wrap_u8_range all_plain_int all_plain_bool all_plain_app pl_bool pl_int pl_str pl_nilp pl_nsl pl_nilI pl_nilF take_map_len AV.cells TI.isAgg

attribute [local simp] Tr.flen Tr.rd Tr.g0 Tr.g1 Tr.g2 Tr.put Tr.pute Tr.s0 Tr.s1 Tr.s2 Tr.zero Tr.enc Hd.flen Hd.rd Hd.g0 Hd.g1 Hd.g2 Hd.g3 Hd.g4 Hd.g5 Hd.g6 Hd.g7 Hd.g8 Hd.g9 Hd.g10 Hd.g11 Hd.g12 Hd.g13 Hd.g14 Hd.put Hd.pute Hd.s0 Hd.s1 Hd.s2 Hd.s3 Hd.s4 Hd.s5 Hd.s6 Hd.s7 Hd.s8 Hd.s9 Hd.s10 Hd.s11 Hd.s12 Hd.s13 Hd.s14 Hd.zero Hd.enc
attribute [local irreducible] Pg.enc
structure XI (i : Nat) (E : List Tr) (last : List Int) (top : Int) : Prop where
  t0 : -1 ≤ top
  t1 : top < 16
  len : (E.length : Int) = 13 * (top + 1)
  ll : last.length = 16
  pos : ∀ c, 0 ≤ last.getD c 0 ∧ last.getD c 0 ≤ i
  zero : ∀ c : Nat, top < c → last.getD c 0 = 0
  at' : ∀ c k : Nat, (c : Int) ≤ top → k < 13 → E[13 * c + k]? = some (if last.getD c 0 = 0 then Tr.none else ⟨k, c, last.getD c 0⟩)
theorem XI.start : XI 0 [] (List.replicate 16 0) (-1) := by
  refine ⟨by omega, by omega, by simp, by simp, fun c => ?_, fun c _ => ?_, fun c k h _ => by omega⟩
  all_goals
    rw [List.getD_eq_getElem?_getD, List.getElem?_replicate]
    split <;> simp
def tF (c : Nat) (d : Int) (k : Nat) : Tr := ⟨k, c, d⟩
def tL (c : Nat) (d : Int) : List Tr := (List.range 13).map (tF c d)
theorem tL_len (c : Nat) (d : Int) : (tL c d).length = 13 := by simp [tL]
theorem tL_at {c k : Nat} {d : Int} (hk : k < 13) : (tL c d)[k]? = some ⟨k, c, d⟩ := by simp [tL, tF, hk]
theorem th_tL (c : Nat) (d : Int) : thirteen (tL c d) = tL c d := by
  unfold thirteen
  rw [List.take_of_length_le (by rw [tL_len]; omega), tL_len]; simp
theorem growT_at {E : List Tr} {n j : Nat} (h : j < E.length) : (growT E n)[j]? = E[j]? := by
  unfold growT
  rw [List.getElem?_append_left h]
theorem growT_out {E : List Tr} {n j : Nat} (h : ¬ j < E.length) (hn : j < n) : (growT E n)[j]? = some Tr.none := by
  unfold growT
  rw [List.getElem?_append_right (by omega), List.getElem?_replicate_of_lt (by omega)]
theorem placeT_at {G l : List Tr} {c j : Nat} (hG : 13 * c + 13 ≤ G.length) : (placeT G l c)[j]? = if 13 * c ≤ j ∧ j < 13 * c + 13 then (thirteen l)[j - 13 * c]? else G[j]? := by
  have h1 : (G.take (13 * c)).length = 13 * c := by simp; omega
  unfold placeT
  split
  · rename_i h
    rw [List.getElem?_append_right (by omega), h1, List.getElem?_append_left (by rw [thirteen_len]; omega)]
  · rename_i h
    by_cases hj : j < 13 * c
    · rw [List.getElem?_append_left (by omega), List.getElem?_take_of_lt hj]
    · rw [List.getElem?_append_right (by omega), h1, List.getElem?_append_right (by rw [thirteen_len]; omega), thirteen_len, List.getElem?_drop]
      congr 1
      omega
theorem setD {l : List Int} {c j : Nat} {v : Int} (hc : c < l.length) : (l.set c v).getD j 0 = if j = c then v else l.getD j 0 := by
  rw [List.getD_eq_getElem?_getD, List.getElem?_set]
  split
  · rename_i h; subst h; simp [hc]
  · rename_i h
    rw [if_neg (by omega), List.getD_eq_getElem?_getD]
theorem XI.step {i : Nat} {E : List Tr} {last : List Int} {top : Int} (h : XI i E last top) {c : Nat} (hc : c < 16) :
    XI (i + 1) (placeT (growT E (13 * (c + 1))) (tL c ((i : Int) + 1)) c) (last.set c ((i : Int) + 1)) (if (c : Int) > top then (c : Int) else top) := by
  have g := growT_len E (13 * (c + 1))
  have hG : 13 * c + 13 ≤ (growT E (13 * (c + 1))).length := by omega
  have hl := h.len
  have h0 := h.t0
  have h1 := h.t1
  have hll := h.ll
  refine ⟨by split <;> omega, by split <;> omega, ?_, by simp [hll], fun j => ?_, fun j hj => ?_, fun j k hj hk => ?_⟩
  · rw [placeT_len _ hG, g]
    split <;> omega
  · rw [setD (by omega)]
    have := h.pos j
    split <;> omega
  · rw [setD (by omega), if_neg (by intro e; subst e; split at hj <;> omega)]
    exact h.zero j (by split at hj <;> omega)
  · rw [setD (by omega), placeT_at hG, th_tL]
    by_cases e : j = c
    · subst e
      rw [if_pos ⟨by omega, by omega⟩, if_pos rfl, if_neg (by omega), show 13 * j + k - 13 * j = k by omega, tL_at hk]
    · rw [if_neg (by omega), if_neg e]
      by_cases hjt : (j : Int) ≤ top
      · rw [growT_at (by omega)]
        exact h.at' j k hjt hk
      · rw [h.zero j (by omega), if_pos rfl, growT_out (by omega) (by split at hj <;> omega)]
theorem main (cs : List Int) : callω L T 4 0 [.isl 1 cs.length (cs.map (.int .i64))] [none] = some (.bool true, [none]) := by
  rw [call_ex (show T 4 = some (.code a4) from rfl) rfl rfl]
  by_cases h1 : 10 < cs.length
  · (have c1 := fun x1 => t_law12_first x1; refine gox ?_; clear c1)
    (refine finx ?_; try with_reducible rfl)
    try rfl
  have oz := Pg.none_ok
  (have fA := And.intro @pgs @Pg.zero_eq; have c1 := fun x1 => t_law12_first x1; refine gox ?_; clear fA c1)
  refine headX_for (fun i (x : List Tr × List Int × Int × AV × Nat) => XI i x.1 x.2.1 x.2.2.1 ∧ ExOK x.2.2.2.1 x.1) (fun i x => ⟨[(0, .isl 1 cs.length (cs.map (.int .i64))), (3, .bool true), (4, .ref 4 (0, 1) 0), (5, .msl 22 (0, 1 + 1) 1 0 16), (6, .int .i64 x.2.2.1), (7, .int .i64 i)], [(4, ⟨(0, 1), Pg.none.enc x.2.2.2.1⟩), (22, ⟨(0, 1 + 1), x.2.1.map (.int .i64)⟩)], x.2.2.2.2, 0⟩) cs.length _ ?_ ?_ ([], List.replicate 16 0, -1, .nsl, 1 + 1 + 1) ⟨XI.start, Or.inr ⟨rfl, rfl⟩⟩
  · rintro i ⟨E, last, top, qx, nx⟩ hi ⟨hX, hq⟩ ih
    dsimp only at hX hq ih ⊢
    have tn := t_Number (0 + 1) cs[i] 16 (by omega) (by omega)
    obtain ⟨c, hc, hc16⟩ : ∃ c : Nat, cs[i] % 16 = (c : Int) ∧ c < 16 := ⟨(cs[i] % 16).toNat, by omega, by omega⟩
    rw [hc] at tn
    have hg : (cs.map (AV.int .i64))[i]? = some (.int .i64 cs[i]) := by rw [List.getElem?_map, List.getElem?_eq_getElem hi]; rfl
    have hlast : (last.map (AV.int .i64)).length = 16 := by simp [hX.ll]
    (have fA := @hg; have c1 := tn; refine gox ?_; clear fA c1)
    refine Eq.trans (head_eq (env' := [(0, .isl 1 cs.length (cs.map (.int .i64))), (3, .bool true), (4, .ref 4 (0, 1) 0), (5, .msl 22 (0, 1 + 1) 1 0 16), (6, .int .i64 top), (7, .int .i64 i), (8, .int .i64 c), (9, .msl 34 (0, nx) 3 0 13), (10, .int .i64 ((0 : Nat) : Int))]) (heap' := [(4, ⟨(0, 1), Pg.none.enc qx⟩), (22, ⟨(0, 1 + 1), last.map (.int .i64)⟩), (34, ⟨(0, nx), flat Tr.enc (fillup (tF c ((i : Int) + 1)) Tr.none 13 0)⟩)]) rfl (by rw [fillup_zero, ← Tr.zero]; rfl) rfl) ?_
    have hw : IntKind.i64.wrap ((i : Int) + 1) = (i : Int) + 1 := w_i64 (by omega) (by omega)
    refine headX_upN (fun k nx' => ⟨[(0, .isl 1 cs.length (cs.map (.int .i64))), (3, .bool true), (4, .ref 4 (0, 1) 0), (5, .msl 22 (0, 1 + 1) 1 0 16), (6, .int .i64 top), (7, .int .i64 i), (8, .int .i64 c), (9, .msl 34 (0, nx) 3 0 13), (10, .int .i64 k)], [(4, ⟨(0, 1), Pg.none.enc qx⟩), (22, ⟨(0, 1 + 1), last.map (.int .i64)⟩), (34, ⟨(0, nx), flat Tr.enc (fillup (tF c ((i : Int) + 1)) Tr.none 13 k)⟩)], nx', 0⟩) 13 _ ?_ ?_ 0 _ (by omega)
    · intro k nx' hk
      have lf := fillup_len (tF c ((i : Int) + 1)) Tr.none 13 k
      have l1 : (flat Tr.enc (fillup (tF c ((i : Int) + 1)) Tr.none 13 k)).length = 39 := by rw [Tr.flen, lf]
      have hs := Tr.pute (xs := fillup (tF c ((i : Int) + 1)) Tr.none 13 k) (i := k) (y := tF c ((i : Int) + 1) k) (by omega)
      rw [fillup_set] at hs
      generalize flat Tr.enc (fillup (tF c ((i : Int) + 1)) Tr.none 13 (k + 1)) = c2 at *
      generalize flat Tr.enc (fillup (tF c ((i : Int) + 1)) Tr.none 13 k) = c1 at *
      refine ⟨nx', ?_⟩
      (have fA := @l1; refine gox ?_; clear fA)
      refine head_eq ?_ ?_ rfl
      · simp [wrap_succ hk (by omega)]
      · rw [← hs, hw]; rfl
    · intro nx'
      rw [show fillup (tF c ((i : Int) + 1)) Tr.none 13 13 = tL c ((i : Int) + 1) from fillup_full _ _ _]
      have tx := t_page_Extra (0 + 1) (Pg.none.setEx E) ⟨oz.rows, oz.there, oz.links⟩ (x := qx) hq (by have := hX.len; have := hX.t1; show E.length < _; omega) c (tL c ((i : Int) + 1)) (Or.inl rfl) (by rw [tL_len]; omega)
      rw [Pg.setEx_enc, show extraF (Pg.none.setEx E) c (tL c ((i : Int) + 1)) = Pg.none.setEx (placeT (growT E (13 * (c + 1))) (tL c ((i : Int) + 1)) c) from by unfold extraF; rw [if_neg (by omega)]; rfl, Pg.setEx_enc, tL_len] at tx
      have hs := hX.step hc16
      have lT : (flat Tr.enc (tL c ((i : Int) + 1))).length = 39 := by rw [Tr.flen, tL_len]
      have tk : (flat Tr.enc (tL c ((i : Int) + 1))).take 39 = flat Tr.enc (tL c ((i : Int) + 1)) := List.take_of_length_le (by omega)
      have hse : setR (last.map (AV.int .i64)) c [.int .i64 ((i : Int) + 1)] = (last.set c ((i : Int) + 1)).map (.int .i64) := setR_int (by rw [hX.ll]; omega)
      refine Eq.trans ?_ (ih (placeT (growT E (13 * (c + 1))) (tL c ((i : Int) + 1)) c, last.set c ((i : Int) + 1), (if (c : Int) > top then (c : Int) else top), .isl 3 (placeT (growT E (13 * (c + 1))) (tL c ((i : Int) + 1)) c).length (flat Tr.enc (placeT (growT E (13 * (c + 1))) (tL c ((i : Int) + 1)) c)), nx') ⟨hs, Or.inl rfl⟩)
      clear ih hs
      dsimp only [Pg.setEx] at tx ⊢
      generalize placeT (growT E (13 * (c + 1))) (tL c ((i : Int) + 1)) c = E2 at *
      generalize flat Tr.enc (tL c ((i : Int) + 1)) = cT at *
      generalize AV.isl 3 E2.length (flat Tr.enc E2) = x2 at *
      (have fA := And.intro @pgs (And.intro @lT (And.intro @tk (And.intro @hw (And.intro @hse (And.intro @hlast (@List.drop_zero AV)))))); have c1 := tx; refine gox ?_; clear fA c1)
      refine head_eq ?_ rfl rfl
      rw [hw]; rfl
  · rintro ⟨E, last, top, qx, nx⟩ ⟨hX, hq⟩
    dsimp only at hX hq ⊢
    have te := t_page_Extra (0 + 1) (Pg.none.setEx E) ⟨oz.rows, oz.there, oz.links⟩ (x := qx) hq (by have := hX.len; have := hX.t1; show E.length < _; omega) 16 [] (Or.inr ⟨rfl, rfl⟩) (by decide)
    rw [show extraF (Pg.none.setEx E) 16 [] = Pg.none.setEx E from by unfold extraF; rw [if_pos (by omega)]] at te
    have ts := t_Same (0 + 1) (Pg.none.setEx E) (Pg.none.setEx E) ⟨oz.rows, oz.there, oz.links⟩ ⟨oz.rows, oz.there, oz.links⟩ (x := qx) (y := .isl 3 E.length (flat Tr.enc E)) hq (Or.inl rfl) (by have := hX.len; have := hX.t1; show E.length < _; omega)
    rw [decide_eq_true (pgP_self _)] at ts
    rw [show (Pg.none.setEx E).extra = E from rfl] at te
    simp only [Pg.setEx_enc] at te ts
    obtain ⟨m, hm⟩ : ∃ m : Nat, top + 1 = (m : Int) := ⟨(top + 1).toNat, by have := hX.t0; omega⟩
    have hm2 : top = (m : Int) - 1 := by omega
    have hm16 : m ≤ 16 := by have := hX.t1; omega
    have hEl : E.length = 13 * m := by have := hX.len; omega
    have hw1 : IntKind.i64.wrap (13 * IntKind.i64.wrap (top + 1)) = ((13 * m : Nat) : Int) := by rw [hm, w_i64 (x := (m : Int)) (by omega) (by omega), w_i64 (by omega) (by omega)]; omega
    have hlast : (last.map (AV.int .i64)).length = 16 := by simp [hX.ll]
    rcases hq with rfl | ⟨rfl, he⟩
    · (have fA := @pgs; refine gox ?_; clear fA)
      refine headX_upN (fun c nx => ⟨[(3, .bool true), (4, .ref 4 (0, 1) 0), (5, .msl 22 (0, 1 + 1) 1 0 16), (6, .int .i64 top), (11, .int .i64 c)], [(4, ⟨(0, 1), Pg.none.enc (.isl 3 E.length (flat Tr.enc E))⟩), (22, ⟨(0, 1 + 1), last.map (.int .i64)⟩)], nx, 0⟩) m _ ?_ ?_ 0 nx (by omega)
      · intro c nx hc
        refine ⟨nx + 13, ?_⟩
        (have fA := @pgs; refine gox ?_; clear fA)
        refine headX_up (fun k => ⟨[(3, .bool true), (4, .ref 4 (0, 1) 0), (5, .msl 22 (0, 1 + 1) 1 0 16), (6, .int .i64 top), (11, .int .i64 c), (12, .int .i64 k)], [(4, ⟨(0, 1), Pg.none.enc (.isl 3 E.length (flat Tr.enc E))⟩), (22, ⟨(0, 1 + 1), last.map (.int .i64)⟩)], nx + k, 0⟩) 13 _ ?_ ?_ 0 (by omega)
        · intro k hk
          have gl : (last.map (AV.int .i64))[c]? = some (.int .i64 (last.getD c 0)) := geti (by have := hX.ll; omega) 0
          have hat := hX.at' c k (by omega) hk
          have hlt : 13 * c + k < E.length := by omega
          have hgE : ((flat Tr.enc E).drop ((13 * c + k) * 3)).take 3 = (if last.getD c 0 = 0 then Tr.none else ⟨k, c, last.getD c 0⟩ : Tr).enc := by
            rw [List.getElem?_eq_getElem hlt] at hat
            rw [Tr.rd hlt]
            rw [← Option.some.inj hat]; rfl
          have hwi : IntKind.i64.wrap (IntKind.i64.wrap (13 * (c : Int)) + (k : Int)) = ((13 * c + k : Nat) : Int) := by rw [w_i64 (x := 13 * (c : Int)) (by omega) (by omega), w_i64 (by omega) (by omega)]; omega
          have lE := Tr.flen E
          have tq := t_SameTriplet1_eq (0 + 1) (if last.getD c 0 = 0 then Tr.none else ⟨k, c, last.getD c 0⟩ : Tr)
          clear hat te ts hX
          generalize last.getD c 0 = w at *
          generalize flat Tr.enc E = cE at *
          by_cases hw0 : w = 0
          · rw [if_pos hw0] at hgE tq
            (have fA := And.intro @pgs (And.intro @gl (And.intro @hgE (And.intro @hwi (And.intro @lE @hlast)))); have c1 := tq; refine gox ?_; clear fA c1)
            refine head_eq ?_ rfl rfl
            simp [wrap_succ hk (by omega)]
          · rw [if_neg hw0] at hgE tq
            (have fA := And.intro @pgs (And.intro @gl (And.intro @hgE (And.intro @hwi (And.intro @lE @hlast)))); have c1 := tq; refine gox ?_; clear fA c1)
            refine head_eq ?_ rfl rfl
            simp [wrap_succ hk (by omega)]
        · (have fA := @pgs; refine gox ?_; clear fA)
          refine head_eq ?_ rfl rfl
          simp [wrap_succ (show c < 16 by omega) (by omega)]
      · intro nx
        (have fA := And.intro @pgs @Pg.zero_eq; have c1 := te; have c2 := ts; refine gox ?_; clear fA c1 c2)
        (refine finx ?_; try with_reducible rfl)
        try rfl
    · obtain rfl := he
      have hm0 : m = 0 := by simp at hEl; omega
      (have fA := @pgs; refine gox ?_; clear fA)
      refine Eq.trans headX_go ?_
      (have fA := And.intro @pgs @Pg.zero_eq; have c1 := te; have c2 := ts; refine gox ?_; clear fA c1 c2)
      (refine finx ?_; try with_reducible rfl)
      try rfl
theorem law (cs : List AV) (h : ShpAll L 5 Try.f4.params.toList cs) : ∃ lent, callω L T 4 0 cs (List.replicate Try.f4.params.toList.length none) = some (.bool true, lent) := by
  rw [Try.params4] at h
  obtain ⟨p1, _, rfl, _, hp1, h1⟩ := shpAll_slice rfl rfl h
  obtain rfl := shpAll_nil h1
  obtain ⟨xs, e1, e2, e5⟩ := ints_of_parts (n := 3) rfl p1 hp1
  rw [e1, ← e2]
  exact ⟨_, main xs⟩

open Go.ChangeShapes Go.WideShapes Go.ChangeAt Go.RowKit
theorem lifted (os : Os) (started : os.Started) (H : Type) (enc : TypeId × Value → H) :
    ReturnsInHanded {} Try.checked os 4 .any (Rows.pageExtrasSpec.pre6 enc Try.prog Try.f4 Rows.pageExtrasRow.domain false) (Rows.pageExtrasSpec.post enc Try.prog Try.f4 false true false false) := by
  refine law_lift (C := Try.checked) (n := 5) own started (by kernel_rfl) Try.func4 L_ok T_ok (show T 4 = some (.code a4) from rfl) laid (by kernel_rfl) rfl Try.underlying4 rfl ?_ law
    (ChangeSpec.witness6 (enc := enc) (C := Try.checked) false ⟨#[], #[.slice none 0 0], []⟩ 8 (by kernel_rfl) (by kernel_rfl) (by kernel_rfl) (by kernel_rfl))
  intro H ds hl
  rw [Try.params4] at hl
  match ds, hl with
  | [d1], _ => rfl

theorem over : Rows.pageExtrasRow.holds Try.pinned (OpenSpec.ofChange Rows.pageExtrasSpec) :=
  OpenClaim.holds_of_wide 4 Try.f4 rfl rfl rfl rfl rfl rfl rfl ⟨rfl, rfl, rfl, rfl, rfl⟩ rfl rfl rfl rfl rfl (by kernel_rfl) Try.func4 (by kernel_rfl)
    (of_decide_eq_true (by kernel_rfl)) (by unfold Func.isWrapper; first | (rw [if_pos (by decide +kernel)]; kernel_rfl) | (rw [if_neg (by decide +kernel)]; exact ⟨rfl, rfl⟩))
    (fun os started H enc _ => lifted os started H enc)

theorem proved : Rows.PageExtrasSaid :=
  over
#print axioms proved
end Go.Proofs.Ytimcmpceekbfjaa.pageExtras
