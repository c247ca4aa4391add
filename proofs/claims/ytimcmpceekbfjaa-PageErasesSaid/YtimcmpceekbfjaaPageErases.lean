/- PageErases: a header that says erase leaves nothing of the old page; one that does not leaves its rows, its enhancements, its links. No condition. -/
import Derived.Test.YtimcmpceekbfjaaRows
import Derived.Test.YtimcmpceekbfjaaSimWit
import Derived.Test.YtimcmpceekbfjaaSimT
import Derived.Test.YtimcmpceekbfjaaSimY
import Derived.Test.YtimcmpceekbfjaaPpage11
set_option maxRecDepth 100000
set_option maxHeartbeats 40000000
set_option linter.unusedSimpArgs false
set_option linter.unusedVariables false
namespace Go.Proofs.Ytimcmpceekbfjaa.pageErases
open Go Go.Sim
attribute [local irreducible] chk brX getX strX setX takeX normX fillX lendX partsX opsX callK lentK giveX adoptX resX joinX headX loopX seqK blkK regK finX exOps ex eqT
attribute [local simp] setR_int setR_bool setR_zero setR_succ repl_int repl_bool List.getElem?_cons_zero List.getElem?_cons_succ List.getElem?_nil w_i64 w_u64 w_u8 bAnd_u8 bOr_u8 bXor_u8 bAndNot_u8 bShl_u8 wrap_u8_range all_plain_int all_plain_bool all_plain_app pl_bool pl_int pl_str pl_nilp pl_nsl pl_nilI pl_nilF take_map_len AV.cells TI.isAgg

attribute [local simp] Tr.flen Tr.rd Tr.g0 Tr.g1 Tr.g2 Tr.put Tr.pute Tr.s0 Tr.s1 Tr.s2 Tr.zero Tr.enc Hd.flen Hd.rd Hd.g0 Hd.g1 Hd.g2 Hd.g3 Hd.g4 Hd.g5 Hd.g6 Hd.g7 Hd.g8 Hd.g9 Hd.g10 Hd.g11 Hd.g12 Hd.g13 Hd.g14 Hd.put Hd.pute Hd.s0 Hd.s1 Hd.s2 Hd.s3 Hd.s4 Hd.s5 Hd.s6 Hd.s7 Hd.s8 Hd.s9 Hd.s10 Hd.s11 Hd.s12 Hd.s13 Hd.s14 Hd.zero Hd.enc
attribute [local irreducible] Pg.enc
def with0 (h : Hd) (b : Bool) : Hd := { h with c0 := b }
theorem put0 (h : Hd) (b : Bool) : setR h.enc 3 [.bool b] = (with0 h b).enc := rfl
theorem with0_c0 (h : Hd) (b : Bool) : (with0 h b).c0 = b := rfl
theorem with0_2 (h : Hd) (b c : Bool) : with0 (with0 h b) c = with0 h c := rfl
attribute [local irreducible] Hd.enc
theorem main (h : Hd) (old : Pg) (ho : old.Ok) (text : List Int) (hb : ∀ x ∈ text, 0 ≤ x ∧ x < 256) : callω L T 6 0 [.agg h.enc, .agg (old.enc (.isl 3 old.extra.length (flat Tr.enc old.extra))), .isl 1 text.length (text.map (.int .u8))] [none, none, none] = some (.bool true, [none, none, none]) := by
  rw [call_ex (show T 6 = some (.code a6) from rfl) rfl rfl]
  by_cases h1 : text.length = 32
  · have tl := t_light (0 + 1) old ho (x := .isl 3 old.extra.length (flat Tr.enc old.extra)) (Or.inl rfl)
    by_cases h2 : old.extra.length ≤ 300
    · rw [decide_eq_true h2] at tl
      have hxo : ExOK (.isl 3 old.extra.length (flat Tr.enc old.extra)) old.extra := Or.inl rfl
      have n1 := t_New (0 + 1) (with0 h true) text (by omega) hb old ho hxo (by omega) true
      have n2 := t_New (0 + 1) (with0 h false) text (by omega) hb old ho hxo (by omega) true
      have n3 := t_New (0 + 1) (with0 h false) text (by omega) hb old ho hxo (by omega) false
      simp only [newF, newX, with0_c0, true_and, Bool.true_eq_false, Bool.false_eq_true, false_and, if_false, if_true, and_true] at n1 n2 n3
      have lh : ∀ h : Hd, h.enc.length = 15 := Hd.len
      have o1 := headF_ok Pg.none_ok (with0 h true) text
      have o2 := headF_ok ho (with0 h false) text
      have o3 := headF_ok Pg.none_ok (with0 h false) text
      have oz := Pg.none_ok
      (have fA := And.intro @pgs (And.intro @pgs0 (And.intro @put0 (And.intro @with0_2 (And.intro @lh (And.intro @Pg.zero_eq (And.intro @h1 (And.intro @Int.toNat_zero (And.intro @Nat.zero_mul @Nat.add_zero)))))))); have c1 := fun x1 => t_law12_first x1; have c2 := tl; have c3 := n1; have c4 := n2; have c5 := n3; refine gox ?_; clear fA c1 c2 c3 c4 c5)
      have nis : ∀ k, k < 25 → Pg.none.is k = false := fun k hk => by
        rw [Pg.is, show Pg.none.there = List.replicate 25 false from rfl, List.getD_eq_getElem?_getD, List.getElem?_replicate_of_lt hk]; rfl
      have i1 : ∀ k, 1 ≤ k → k < 25 → (headF Pg.none (with0 h true) text).is k = false := fun k hk hk2 => by rw [headF_is _ _ _ oz hk, nis k hk2]
      have i2 : ∀ k, 1 ≤ k → (headF old (with0 h false) text).is k = old.is k := fun k hk => headF_is _ _ _ ho hk
      have i3 : ∀ k, 1 ≤ k → k < 25 → (headF Pg.none (with0 h false) text).is k = false := fun k hk hk2 => by rw [headF_is _ _ _ oz hk, nis k hk2]
      have z1 := headF_is0 Pg.none (with0 h true) text oz
      have z2 := headF_is0 old (with0 h false) text ho
      have y1 : (headF Pg.none (with0 h true) text).linked = false := rfl
      have y2 : (headF Pg.none (with0 h true) text).dflt = 0 := rfl
      have y3 : (headF old (with0 h false) text).linked = old.linked := rfl
      have y4 : (headF old (with0 h false) text).dflt = old.dflt := rfl
      have y5 : (headF old (with0 h false) text).hd = with0 h false := rfl
      have ln : ∀ k, 1 ≤ k → lineF (headF old (with0 h false) text) ((k : Nat) : Int) = lineF old k := fun k hk => headF_line _ _ _ ho hk
      have x2 : (headF old (with0 h false) text).extra = old.extra := rfl
      have sh := t_SameHead (0 + 1) (with0 h false) (with0 h false)
      rw [decide_eq_true rfl] at sh
      have st := t_SameTriplets (0 + 1) old.extra old.extra (by omega)
      rw [decide_eq_true rfl] at st
      have lh2 := Hd.len (with0 h false)
      clear n1 n2 n3 tl
      generalize headF Pg.none (with0 h true) text = P at *
      generalize headF old (with0 h false) text = Q at *
      generalize headF Pg.none (with0 h false) text = R at *
      have hQ : ExOK (.isl 3 old.extra.length (flat Tr.enc old.extra)) Q.extra := Or.inl (by rw [x2])
      refine headX_up (fun k => ⟨[(3, .ref 3 (0, 1) 0), (4, .ref 4 (0, 1 + 1) 0), (7, .bool true), (8, .ref 8 (0, 1 + 1 + 1) 0), (9, .ref 9 (0, 1 + 1 + 1 + 1) 0), (10, .ref 10 (0, 1 + 1 + 1 + 1 + 1) 0), (11, .int .i64 ((k + 1 : Nat) : Int))], [(3, ⟨(0, 1), (with0 h false).enc⟩), (4, ⟨(0, 1 + 1), old.enc (.isl 3 old.extra.length (flat Tr.enc old.extra))⟩), (8, ⟨(0, 1 + 1 + 1), P.enc .nsl⟩), (9, ⟨(0, 1 + 1 + 1 + 1), Q.enc (.isl 3 old.extra.length (flat Tr.enc old.extra))⟩), (10, ⟨(0, 1 + 1 + 1 + 1 + 1), R.enc .nsl⟩)], 1 + 1 + 1 + 1 + 1 + 1, 0⟩) 24 _ ?_ ?_ 0 (by omega)
      · intro k hk
        have e1 := Pg.there_at (x := .nsl) o1 (show k + 1 < 25 by omega)
        have e2 := Pg.there_at (x := .isl 3 old.extra.length (flat Tr.enc old.extra)) o2 (show k + 1 < 25 by omega)
        have e3 := Pg.there_at (x := .nsl) o3 (show k + 1 < 25 by omega)
        have e4 := Pg.there_at (x := .isl 3 old.extra.length (flat Tr.enc old.extra)) ho (show k + 1 < 25 by omega)
        rw [i1 _ (by omega) (by omega)] at e1
        rw [i2 _ (by omega)] at e2
        rw [i3 _ (by omega) (by omega)] at e3
        have tq := t_Line (0 + 1) Q o2 hQ ((k + 1 : Nat) : Int)
        have to := t_Line (0 + 1) old ho hxo ((k + 1 : Nat) : Int)
        rw [ln _ (by omega)] at tq
        have ll := lineF_len ho ((k + 1 : Nat) : Int)
        have ts := t_SameBytes (0 + 1) (lineF old ((k + 1 : Nat) : Int)) (lineF old ((k + 1 : Nat) : Int)) (by omega)
        rw [decide_eq_true rfl, ll] at ts
        have be : ∀ b : Bool, (b == b) = true := by intro b; cases b <;> rfl
        have b1 := be (old.is (k + 1))
        clear i1 i2 i3 ln st sh z1 z2 y1 y2 y3 y4 y5
        cases hi : old.is (k + 1)
        · rw [hi] at e2 e4
          (have fA := And.intro @Pg.len (And.intro @e1 (And.intro @e2 (And.intro @e3 @e4))); refine gox ?_; clear fA)
          refine head_eq ?_ rfl rfl
          simp
          exact w_i64 (by omega) (by omega)
        · rw [hi] at e2 e4
          (have fA := And.intro @Pg.len (And.intro @Pg.whole (And.intro @e1 (And.intro @e2 (And.intro @e3 @e4)))); have c1 := tq; have c2 := to; have c3 := ts; refine gox ?_; clear fA c1 c2 c3)
          refine head_eq ?_ rfl rfl
          simp
          exact w_i64 (by omega) (by omega)
      · have e1 := Pg.there_at0 (x := .nsl) o1
        have e2 := Pg.there_at0 (x := .isl 3 old.extra.length (flat Tr.enc old.extra)) o2
        rw [z1] at e1
        rw [z2] at e2
        have be : ∀ b : Bool, (b == b) = true := by intro b; cases b <;> rfl
        have b1 := be old.linked
        clear i1 i2 i3 ln
        (have fA := And.intro @pgs (And.intro @pgs2 (And.intro @Hd.tk (And.intro @e1 (And.intro @e2 (And.intro @y1 (And.intro @y2 (And.intro @y3 (And.intro @y4 (And.intro @y5 (And.intro @lh2 (And.intro @Int.toNat_zero (And.intro @Nat.zero_mul @Nat.add_zero)))))))))))); have c1 := sh; have c2 := st; refine gox ?_; clear fA c1 c2)
        (refine finx ?_; try with_reducible rfl)
        try rfl
    · rw [decide_eq_false h2] at tl
      (have fA := And.intro @pgs @Hd.len; have c1 := fun x1 => t_law12_first x1; have c2 := tl; refine gox ?_; clear fA c1 c2)
      (refine finx ?_; try with_reducible rfl)
      try rfl
  · (have fA := And.intro @pgs @Hd.len; have c1 := fun x1 => t_law12_first x1; refine gox ?_; clear fA c1)
    (refine finx ?_; try with_reducible rfl)
    try rfl
theorem law (cs : List AV) (h : ShpAll L 5 Try.f6.params.toList cs) : ∃ lent, callω L T 6 0 cs (List.replicate Try.f6.params.toList.length none) = some (.bool true, lent) := by
  rw [Try.params6] at h
  obtain ⟨a, _, rfl, hz, ha⟩ := shpAll_strct rfl h
  obtain ⟨b, _, rfl, hz2, hb⟩ := shpAll_strct rfl ha
  obtain ⟨p1, _, rfl, _, hp1, hc⟩ := shpAll_slice rfl rfl hb
  obtain rfl := shpAll_nil hc
  obtain ⟨hd, rfl⟩ := hd_of (n := 1) hz
  obtain ⟨old, ho, _, rfl⟩ := pg_of (n := 0) hz2
  obtain ⟨xs, e1, e2, e5⟩ := ints_of_parts (n := 3) rfl p1 hp1
  rw [e1, ← e2]
  exact ⟨_, main hd old ho xs (fun x hx => by obtain ⟨m, rfl, hm⟩ := u8_wf (e5 x hx); omega)⟩

open Go.ChangeShapes Go.WideShapes Go.ChangeAt Go.RowKit
theorem lifted (os : Os) (started : os.Started) (H : Type) (enc : TypeId × Value → H) :
    ReturnsInHanded {} Try.checked os 6 .any (Rows.pageErasesSpec.pre6 enc Try.prog Try.f6 Rows.pageErasesRow.domain false) (Rows.pageErasesSpec.post enc Try.prog Try.f6 false true false false) := by
  refine law_lift (C := Try.checked) (n := 5) own started (by kernel_rfl) Try.func6 L_ok T_ok (show T 6 = some (.code a6) from rfl) laid (by kernel_rfl) rfl Try.underlying4 rfl ?_ law
    (witFast (enc := enc) (C := Try.checked) ⟨#[], #[.agg (List.replicate 3 (Value.int .i64 0) ++ List.replicate 11 (Value.bool false) ++ List.replicate 1 (Value.int .i64 0)).toArray, .agg (List.replicate 3 (Value.int .i64 0) ++ List.replicate 11 (Value.bool false) ++ List.replicate 1 (Value.int .i64 0) ++ List.replicate 1000 (Value.int .u8 0) ++ List.replicate 25 (Value.bool false) ++ List.replicate 1 (Value.slice none 0 0) ++ List.replicate 18 (Value.int .i64 0) ++ List.replicate 1 (Value.bool false) ++ List.replicate 1 (Value.int .i64 0)).toArray, .slice none 0 0], []⟩ 8 (by kernel_rfl) (by kernel_rfl) (by kernel_rfl) (by kernel_rfl) (by kernel_rfl))
  intro H ds hl
  rw [Try.params6] at hl
  match ds, hl with
  | [d1, d2, d3], _ => rfl

theorem over : Rows.pageErasesRow.holds Try.pinned (OpenSpec.ofChange Rows.pageErasesSpec) :=
  OpenClaim.holds_of_wide 6 Try.f6 rfl rfl rfl rfl rfl rfl rfl ⟨rfl, rfl, rfl, rfl, rfl⟩ rfl rfl rfl rfl rfl (by kernel_rfl) Try.func6 (by kernel_rfl)
    (of_decide_eq_true (by kernel_rfl)) (by unfold Func.isWrapper; first | (rw [if_pos (by decide +kernel)]; kernel_rfl) | (rw [if_neg (by decide +kernel)]; exact ⟨rfl, rfl⟩))
    (fun os started H enc _ => lifted os started H enc)

theorem proved : Rows.PageErasesSaid :=
  over
#print axioms proved
end Go.Proofs.Ytimcmpceekbfjaa.pageErases
