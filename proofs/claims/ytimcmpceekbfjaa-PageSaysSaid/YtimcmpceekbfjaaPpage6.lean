/- Functions of the seat, worked off from their code: chunk page6. Written by program (tools/mkp.py) from wip/fn. -/
import Derived.Test.YtimcmpceekbfjaaSimT
import Derived.Test.YtimcmpceekbfjaaSimY
import Derived.Test.YtimcmpceekbfjaaPpage5
set_option maxRecDepth 100000
set_option maxHeartbeats 40000000
set_option linter.unusedSimpArgs false
set_option linter.unusedVariables false
namespace Go.Proofs.Ytimcmpceekbfjaa
open Go Go.Sim
attribute [local irreducible] chk brX getX strX setX takeX normX fillX lendX partsX opsX callK lentK giveX adoptX resX joinX headX loopX seqK blkK regK finX exOps ex eqT
attribute [local simp] setR_int setR_bool setR_zero setR_succ repl_int repl_bool List.getElem?_cons_zero List.getElem?_cons_succ List.getElem?_nil w_i64 w_u64 w_u8 bAnd_u8 bOr_u8 bXor_u8 bAndNot_u8 bShl_u8 wrap_u8_range all_plain_int all_plain_bool all_plain_app pl_bool pl_int pl_str pl_nilp pl_nsl pl_nilI pl_nilF take_map_len AV.cells TI.isAgg
attribute [local simp] Tr.flen Tr.rd Tr.g0 Tr.g1 Tr.g2 Tr.put Tr.pute Tr.s0 Tr.s1 Tr.s2 Tr.zero Tr.enc Hd.flen Hd.rd Hd.g0 Hd.g1 Hd.g2 Hd.g3 Hd.g4 Hd.g5 Hd.g6 Hd.g7 Hd.g8 Hd.g9 Hd.g10 Hd.g11 Hd.g12 Hd.g13 Hd.g14 Hd.put Hd.pute Hd.s0 Hd.s1 Hd.s2 Hd.s3 Hd.s4 Hd.s5 Hd.s6 Hd.s7 Hd.s8 Hd.s9 Hd.s10 Hd.s11 Hd.s12 Hd.s13 Hd.s14 Hd.zero Hd.enc

def blk8 (text : List Int) : List Int := List.replicate 8 32 ++ text
theorem blk8_len (text : List Int) : (blk8 text).length = 8 + text.length := by rw [blk8, List.length_append, List.length_replicate]
theorem blk8_rng {text : List Int} (hb : ∀ x ∈ text, 0 ≤ x ∧ x < 256) : ∀ x ∈ blk8 text, 0 ≤ x ∧ x < 256 := by
  intro x hx
  simp only [blk8, List.mem_append, List.mem_replicate] at hx
  rcases hx with ⟨_, rfl⟩ | hx
  · omega
  · exact hb x hx
theorem blk8_map (text : List Int) : (List.replicate 8 32).map (AV.int .u8) ++ text.map (AV.int .u8) = (blk8 text).map (.int .u8) := by rw [blk8, List.map_append]
def headF (p : Pg) (h : Hd) (text : List Int) : Pg := ((p.setHd h).setRow 0 (mrg (p.row 0) (blk8 text) (p.is 0))).setThere 0 true
def newF (h : Hd) (text : List Int) (old : Pg) (had : Bool) : Pg := if had = true ∧ h.c0 = false then headF old h text else headF Pg.none h text
def newX (h : Hd) (old : Pg) (had : Bool) : AV := if had = true ∧ h.c0 = false then .isl 3 old.extra.length (flat Tr.enc old.extra) else .nsl
theorem newX_ok (h : Hd) (text : List Int) (old : Pg) (had : Bool) : ExOK (newX h old had) (newF h text old had).extra := by
  unfold newX newF
  split
  · exact Or.inl rfl
  · exact Or.inr ⟨rfl, rfl⟩
theorem headF_ok {p : Pg} (hp : p.Ok) (h : Hd) (text : List Int) : (headF p h text).Ok :=
  Pg.setThere_ok (Pg.setRow_ok (Pg.setHd_ok hp) (by omega) (mrg_len _ _ _))
theorem newF_ok {old : Pg} (ho : old.Ok) (h : Hd) (text : List Int) (had : Bool) : (newF h text old had).Ok := by
  unfold newF
  split
  · exact headF_ok ho h text
  · exact headF_ok Pg.none_ok h text
theorem setHd_row (p : Pg) (h : Hd) (r : Nat) : (p.setHd h).row r = p.row r := rfl
theorem setHd_is (p : Pg) (h : Hd) (r : Nat) : (p.setHd h).is r = p.is r := rfl
theorem Hd.tk (h : Hd) : h.enc.take 15 = h.enc := rfl
theorem Pg.there_at0 {p : Pg} {x : AV} (h : p.Ok) : (p.enc x)[1015]? = some (.bool (p.is 0)) := Pg.there_at (r := 0) h (by omega)
theorem Pg.put_there0 {p : Pg} {x : AV} (h : p.Ok) {b : Bool} : setR (p.enc x) 1015 [.bool b] = (p.setThere 0 b).enc x := Pg.put_there (r := 0) h (by omega)
theorem Pg.row_at0 {p : Pg} {x : AV} (h : p.Ok) : ((p.enc x).drop 15).take 40 = (p.row 0).map (.int .u8) := Pg.row_at (r := 0) h (by omega)
theorem Pg.put_row0 {p : Pg} {x : AV} (h : p.Ok) {l : List Int} (hl : l.length = 40) : setR (p.enc x) 15 (l.map (.int .u8)) = (p.setRow 0 l).enc x := Pg.put_row (r := 0) h (by omega) hl
theorem pgs0 : type_of% (And.intro @Hd.tk <| And.intro @Pg.there_at0 <| And.intro @Pg.put_there0 <| And.intro @Pg.row_at0 @Pg.put_row0) := And.intro @Hd.tk <| And.intro @Pg.there_at0 <| And.intro @Pg.put_there0 <| And.intro @Pg.row_at0 @Pg.put_row0
attribute [local irreducible] Pg.enc
theorem t_New (tag : Nat) (h : Hd) (text : List Int) (ht : text.length < 900000) (hb : ∀ x ∈ text, 0 ≤ x ∧ x < 256) (old : Pg) (ho : old.Ok) {x : AV} (hx : ExOK x old.extra) (hl : old.extra.length < 1000000) (had : Bool) :
    callω L T 20 tag [.agg h.enc, .isl 1 text.length (text.map (.int .u8)), .agg (old.enc x), .bool had] [none, none, none, none] = some (.agg ((newF h text old had).enc (newX h old had)), [none, none, none, none]) := by
  rw [call_ex (show T 20 = some (.code a20) from rfl) rfl rfl]
  have tc := t_CloneX (tag + 1) hx hl
  have oz := Pg.none_ok
  have fl := Tr.flen old.extra
  have fp := Tr.pl old.extra
  have tm := t_parity_MakeOdd (tag + 1) 32
  rw [show makeOddI 32 = 32 from by decide] at tm
  have tr := t_RepeatN (tag + 1) 32 8 (Or.inl rfl)
  have bl := blk8_len text
  have bm := blk8_map text
  unfold newF newX
  obtain ⟨q, hq, eq1, eq2⟩ : ∃ q : Pg, q.Ok ∧ (¬ (had = true ∧ h.c0 = false) → q = Pg.none) ∧ ((had = true ∧ h.c0 = false) → q = old) := by
    by_cases c : had = true ∧ h.c0 = false
    · exact ⟨old, ho, fun n => absurd c n, fun _ => rfl⟩
    · exact ⟨Pg.none, oz, fun _ => rfl, fun n => absurd n c⟩
  have o1 : (q.setHd h).Ok := Pg.setHd_ok hq
  have tg := t_Merge (tag + 1) ((q.setHd h).row 0) (blk8 text) ((q.setHd h).is 0) (Pg.row_len o1 (by omega)) (by have := blk8_len text; omega) (blk8_rng hb)
  rw [bl] at tg
  have lm := mrg_len ((q.setHd h).row 0) (blk8 text) ((q.setHd h).is 0)
  have o2 : ((q.setHd h).setRow 0 (mrg ((q.setHd h).row 0) (blk8 text) ((q.setHd h).is 0))).Ok := Pg.setRow_ok o1 (by omega) lm
  have o4 := Pg.setThere_ok (r := 0) (b := true) o2
  have o3 : headF q h text = ((q.setHd h).setRow 0 (mrg ((q.setHd h).row 0) (blk8 text) ((q.setHd h).is 0))).setThere 0 true := rfl
  generalize mrg ((q.setHd h).row 0) (blk8 text) ((q.setHd h).is 0) = m at *
  have dl : ((blk8 text).map (AV.int .u8)).length = 8 + text.length := by rw [List.length_map, bl]
  generalize (blk8 text).map (AV.int .u8) = db at *
  have tkd : db.take (8 + text.length) = db := List.take_of_length_le (by omega)
  cases had
  · rw [if_neg (by simp), if_neg (by simp)]
    obtain rfl := eq1 (by simp)
    rw [o3]
    clear eq1 eq2 o3
    rcases hx with rfl | ⟨rfl, he⟩
    · (have fA := And.intro @pgs (And.intro @pgs0 (And.intro @Int.toNat_zero (And.intro @Nat.zero_mul (And.intro @Nat.add_zero (And.intro @Pg.zero_eq (And.intro @fl (And.intro @bm (And.intro @dl @tkd)))))))); have c1 := tc; have c2 := tm; have c3 := tr; have c4 := tg; refine gox ?_; clear fA c1 c2 c3 c4)
      (have fA := And.intro @pgs (And.intro @pgs0 (And.intro @fl @fp)); refine finx ?_; clear fA; try with_reducible rfl)
    · (have fA := And.intro @pgs (And.intro @pgs0 (And.intro @Int.toNat_zero (And.intro @Nat.zero_mul (And.intro @Nat.add_zero (And.intro @Pg.zero_eq (And.intro @fl (And.intro @bm (And.intro @dl @tkd)))))))); have c1 := tc; have c2 := tm; have c3 := tr; have c4 := tg; refine gox ?_; clear fA c1 c2 c3 c4)
      (have fA := And.intro @pgs (And.intro @pgs0 (And.intro @fl @fp)); refine finx ?_; clear fA; try with_reducible rfl)
  · cases hc : h.c0
    · rw [if_pos (by simp), if_pos (by simp)]
      obtain rfl := eq2 ⟨rfl, hc⟩
      rw [o3]
      clear eq1 eq2 o3
      rcases hx with rfl | ⟨rfl, he⟩
      · (have fA := And.intro @pgs (And.intro @pgs0 (And.intro @Int.toNat_zero (And.intro @Nat.zero_mul (And.intro @Nat.add_zero (And.intro @Pg.zero_eq (And.intro @fl (And.intro @bm (And.intro @dl @tkd)))))))); have c1 := tc; have c2 := tm; have c3 := tr; have c4 := tg; refine gox ?_; clear fA c1 c2 c3 c4)
        (have fA := And.intro @pgs (And.intro @pgs0 (And.intro @fl @fp)); refine finx ?_; clear fA; try with_reducible rfl)
      · (have fA := And.intro @pgs (And.intro @pgs0 (And.intro @Int.toNat_zero (And.intro @Nat.zero_mul (And.intro @Nat.add_zero (And.intro @Pg.zero_eq (And.intro @fl (And.intro @bm (And.intro @dl @tkd)))))))); have c1 := tc; have c2 := tm; have c3 := tr; have c4 := tg; refine gox ?_; clear fA c1 c2 c3 c4)
        (have fA := And.intro @pgs (And.intro @pgs0 (And.intro @fl @fp)); refine finx ?_; clear fA; try with_reducible rfl)
    · rw [if_neg (by simp), if_neg (by simp)]
      obtain rfl := eq1 (by simp [hc])
      rw [o3]
      clear eq1 eq2 o3
      rcases hx with rfl | ⟨rfl, he⟩
      · (have fA := And.intro @pgs (And.intro @pgs0 (And.intro @Int.toNat_zero (And.intro @Nat.zero_mul (And.intro @Nat.add_zero (And.intro @Pg.zero_eq (And.intro @fl (And.intro @bm (And.intro @dl @tkd)))))))); have c1 := tc; have c2 := tm; have c3 := tr; have c4 := tg; refine gox ?_; clear fA c1 c2 c3 c4)
        (have fA := And.intro @pgs (And.intro @pgs0 (And.intro @fl @fp)); refine finx ?_; clear fA; try with_reducible rfl)
      · (have fA := And.intro @pgs (And.intro @pgs0 (And.intro @Int.toNat_zero (And.intro @Nat.zero_mul (And.intro @Nat.add_zero (And.intro @Pg.zero_eq (And.intro @fl (And.intro @bm (And.intro @dl @tkd)))))))); have c1 := tc; have c2 := tm; have c3 := tr; have c4 := tg; refine gox ?_; clear fA c1 c2 c3 c4)
        (have fA := And.intro @pgs (And.intro @pgs0 (And.intro @fl @fp)); refine finx ?_; clear fA; try with_reducible rfl)
theorem Pg.cell_at {p : Pg} {x : AV} (h : p.Ok) {r k : Nat} (hr : r < 25) (hk : k < 40) : (p.enc x)[15 + r * 40 + k]? = some (.int .u8 ((p.row r).getD k 0)) := by
  have e := congrArg (fun l => l[k]?) (Pg.row_at (x := x) h hr)
  simp only [List.getElem?_take_of_lt hk, List.getElem?_drop, List.getElem?_map] at e
  rw [e, List.getD_eq_getElem?_getD]
  have : k < (p.row r).length := by rw [Pg.row_len h hr]; exact hk
  rw [List.getElem?_eq_getElem this]
  rfl
def tks (l : List Int) (k : Nat) : List AV := (l.take k).map (.int .u8)
theorem tks_len {l : List Int} {k : Nat} (h : k ≤ l.length) : (tks l k).length = k := by simp [tks]; omega
theorem tks_more {l : List Int} {k : Nat} (h : k < l.length) : tks l k ++ [.int .u8 (l.getD k 0)] = tks l (k + 1) := by
  unfold tks
  rw [List.take_add_one, List.getElem?_eq_getElem h, List.getD_eq_getElem?_getD, List.getElem?_eq_getElem h, List.map_append]
  rfl
theorem tks_all (l : List Int) : tks l l.length = l.map (.int .u8) := by rw [tks, List.take_length]
theorem tks_zero (l : List Int) : tks l 0 = [] := by simp [tks]
theorem t_r12_Line (tag : Nat) (p : Pg) (hp : p.Ok) {x : AV} (hx : ExOK x p.extra) (row : Int) : callω L T 27 tag [.agg (p.enc x), .int .i64 row] [none, none] = some (.fsl 1 40 ((lineF p row).map (.int .u8)), [none, none]) := by
  rw [call_ex (show T 27 = some (.code a27) from rfl) rfl rfl]
  have oz := Pg.none_ok
  have ll := lineF_len hp row
  refine goal_join (Q := ?kQ) (fun key => ?kk) ?kb
  case kk =>
    rcases hx with rfl | ⟨rfl, he⟩
    · (have fA := And.intro @pgs @Pg.zero_eq; refine gox ?_; clear fA)
      refine Eq.trans (head_eq (env' := [(1, .int .i64 row), (2, .ref 2 (tag, 1) 0), (5, .msl 5 (tag, 1 + 1 + 1) 1 0 0), (6, .int .i64 ((0 : Nat) : Int))]) (heap' := [(2, ⟨(tag, 1), p.enc (.isl 3 p.extra.length (flat Tr.enc p.extra))⟩), (5, ⟨(tag, 1 + 1 + 1), tks (lineF p row) 0⟩)]) rfl rfl rfl) ?_
      generalize AV.isl 3 p.extra.length (flat Tr.enc p.extra) = z
      revert z
      exact key.out
    · (have fA := And.intro @pgs @Pg.zero_eq; refine gox ?_; clear fA)
      refine Eq.trans (head_eq (env' := [(1, .int .i64 row), (2, .ref 2 (tag, 1) 0), (5, .msl 5 (tag, 1 + 1 + 1) 1 0 0), (6, .int .i64 ((0 : Nat) : Int))]) (heap' := [(2, ⟨(tag, 1), p.enc .nsl⟩), (5, ⟨(tag, 1 + 1 + 1), tks (lineF p row) 0⟩)]) rfl rfl rfl) ?_
      exact key.out .nsl
  intro z
  clear hx
  refine headX_for (fun _ (_ : Nat × Nat) => True) (fun k (q : Nat × Nat) => ⟨[(1, .int .i64 row), (2, .ref 2 (tag, 1) 0), (5, .msl 5 (tag, q.1) 1 0 k), (6, .int .i64 k)], [(2, ⟨(tag, 1), p.enc z⟩), (5, ⟨(tag, q.1), tks (lineF p row) k⟩)], q.2, tag⟩) 40 _ ?_ ?_ (1 + 1 + 1, 1 + 1 + 1 + 1) trivial
  · rintro k ⟨g, nx⟩ hk - ih
    dsimp only at ih ⊢
    refine Eq.trans ?_ (ih (nx + 1, nx + 1 + 1) trivial)
    have hl := tks_len (l := lineF p row) (k := k) (by omega)
    have hm := tks_more (l := lineF p row) (k := k) (by omega)
    clear ih
    generalize tks (lineF p row) (k + 1) = c2 at *
    generalize tks (lineF p row) k = c1 at *
    unfold lineF at hm
    by_cases h1 : row < 0
    · rw [if_pos (Or.inl h1), List.getD_eq_getElem?_getD, List.getElem?_replicate_of_lt hk] at hm
      simp only [Option.getD_some] at hm
      (have fA := And.intro @hl (And.intro @hm (@List.drop_zero AV)); refine gox ?_; clear fA)
      refine head_eq ?_ (by rw [← hm]; rfl) rfl
      simp [wrap_succ hk (by omega)]
    by_cases h2 : 24 < row
    · rw [if_pos (Or.inr h2), List.getD_eq_getElem?_getD, List.getElem?_replicate_of_lt hk] at hm
      simp only [Option.getD_some] at hm
      (have fA := And.intro @hl (And.intro @hm (@List.drop_zero AV)); refine gox ?_; clear fA)
      refine head_eq ?_ (by rw [← hm]; rfl) rfl
      simp [wrap_succ hk (by omega)]
    rw [if_neg (by omega)] at hm
    obtain ⟨r, rfl⟩ : ∃ r : Nat, row = r := ⟨row.toNat, by omega⟩
    have hr : r < 25 := by omega
    simp only [Int.toNat_natCast] at hm
    cases his : p.is r
    · rw [his, if_neg (by decide), List.getD_eq_getElem?_getD, List.getElem?_replicate_of_lt hk] at hm
      simp only [Option.getD_some] at hm
      (have fA := And.intro @hl (And.intro @hm (And.intro @pgs (@List.drop_zero AV))); refine gox ?_; clear fA)
      refine head_eq ?_ (by rw [← hm]; rfl) rfl
      simp [wrap_succ hk (by omega)]
    · rw [his, if_pos rfl] at hm
      have hce := Pg.cell_at (x := z) hp hr hk
      (have fA := And.intro @hl (And.intro @hm (And.intro @hce (And.intro @pgs (@List.drop_zero AV)))); refine gox ?_; clear fA)
      refine head_eq ?_ (by rw [← hm]; rfl) rfl
      simp [wrap_succ hk (by omega)]
  · rintro ⟨g, nx⟩ -
    have hl := tks_len (l := lineF p row) (k := 40) (by omega)
    have ha := tks_all (lineF p row)
    rw [ll] at ha
    have hpl : (tks (lineF p row) 40).all AV.plain = true := by rw [ha]; simp [AV.plain]
    dsimp only
    rw [← ha]
    generalize tks (lineF p row) 40 = c1 at *
    (refine gox ?_)
    (have fA := And.intro @hl @hpl; refine finx ?_; clear fA; try with_reducible rfl)

end Go.Proofs.Ytimcmpceekbfjaa
