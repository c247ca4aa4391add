/- Functions of the seat, worked off from their code: chunk page5. Written by program (tools/mkp.py) from wip/fn. -/
import Derived.Test.YtimcmpceekbfjaaSimT
import Derived.Test.YtimcmpceekbfjaaSimY
import Derived.Test.YtimcmpceekbfjaaPpage4
set_option maxRecDepth 100000
set_option maxHeartbeats 40000000
set_option linter.unusedSimpArgs false
set_option linter.unusedVariables false
namespace Go.Proofs.Ytimcmpceekbfjaa
open Go Go.Sim
attribute [local irreducible] chk brX getX strX setX takeX normX fillX lendX partsX opsX callK lentK giveX adoptX resX joinX headX loopX seqK blkK regK finX exOps ex eqT
attribute [local simp] setR_int setR_bool setR_zero setR_succ repl_int repl_bool List.getElem?_cons_zero List.getElem?_cons_succ List.getElem?_nil w_i64 w_u64 w_u8 bAnd_u8 bOr_u8 bXor_u8 bAndNot_u8 bShl_u8 wrap_u8_range all_plain_int all_plain_bool all_plain_app pl_bool pl_int pl_str pl_nilp pl_nsl pl_nilI pl_nilF take_map_len AV.cells TI.isAgg
attribute [local simp] Tr.flen Tr.rd Tr.g0 Tr.g1 Tr.g2 Tr.put Tr.pute Tr.s0 Tr.s1 Tr.s2 Tr.zero Tr.enc Hd.flen Hd.rd Hd.g0 Hd.g1 Hd.g2 Hd.g3 Hd.g4 Hd.g5 Hd.g6 Hd.g7 Hd.g8 Hd.g9 Hd.g10 Hd.g11 Hd.g12 Hd.g13 Hd.g14 Hd.put Hd.pute Hd.s0 Hd.s1 Hd.s2 Hd.s3 Hd.s4 Hd.s5 Hd.s6 Hd.s7 Hd.s8 Hd.s9 Hd.s10 Hd.s11 Hd.s12 Hd.s13 Hd.s14 Hd.zero Hd.enc

theorem t_TripledX (tag : Nat) {x : AV} {l : List Tr} (hx : ExOK x l) (hl : l.length < 1000000) : callω L T 36 tag [x] [none] = some (.fsl 3 l.length (flat Tr.enc l), [none]) := by
  rcases hx with rfl | ⟨rfl, rfl⟩
  · exact t_Tripled tag l hl
  · rw [call_ex (show T 36 = some (.code a36) from rfl) rfl rfl]
    (refine gox ?_)
    refine Eq.trans headX_go ?_
    (refine gox ?_)
    (refine finx ?_; try with_reducible rfl)
    try rfl
attribute [local irreducible] Pg.enc
theorem t_r12_Row (tag : Nat) (p : Pg) (hp : p.Ok) {x : AV} (hx : ExOK x p.extra) (hl : p.extra.length < 1000000) (row : Int) (data : List Int) (hd : data.length < 1000000) (hb : ∀ x ∈ data, 0 ≤ x ∧ x < 256) :
    callω L T 25 tag [.agg (p.enc x), .int .i64 row, .isl 1 data.length (data.map (.int .u8))] [none, none, none] = some (.agg ((rowF p row data).enc (.isl 3 p.extra.length (flat Tr.enc p.extra))), [none, none, none]) := by
  rw [call_ex (show T 25 = some (.code a25) from rfl) rfl rfl]
  have tc := t_TripledX (tag + 1) hx hl
  have oz := Pg.none_ok
  have fl := Tr.flen p.extra
  have fp := Tr.pl p.extra
  unfold rowF
  by_cases h1 : row < 1
  · rw [if_pos (Or.inl h1)]
    rcases hx with rfl | ⟨rfl, he⟩
    all_goals (have fA := And.intro @pgs (And.intro @Pg.zero_eq @fl); have c1 := tc; refine gox ?_; clear fA c1)
    all_goals (have fA := And.intro @pgs (And.intro @fl @fp); refine finx ?_; clear fA; try with_reducible rfl)
  by_cases h2 : 24 < row
  · rw [if_pos (Or.inr h2)]
    rcases hx with rfl | ⟨rfl, he⟩
    all_goals (have fA := And.intro @pgs (And.intro @Pg.zero_eq @fl); have c1 := tc; refine gox ?_; clear fA c1)
    all_goals (have fA := And.intro @pgs (And.intro @fl @fp); refine finx ?_; clear fA; try with_reducible rfl)
  rw [if_neg (by omega)]
  obtain ⟨r, rfl⟩ : ∃ r : Nat, row = r := ⟨row.toNat, by omega⟩
  have hr : r < 25 := by omega
  simp only [Int.toNat_natCast]
  have tm := t_r12_Merge (tag + 1) (p.row r) data (p.is r) (Pg.row_len hp hr) hd hb
  have lm := mrg_len (p.row r) data (p.is r)
  have o1 : (p.setRow r (mrg (p.row r) data (p.is r))).Ok := Pg.setRow_ok hp hr lm
  have o2 : ((p.setRow r (mrg (p.row r) data (p.is r))).setThere r true).Ok := Pg.setThere_ok o1
  generalize mrg (p.row r) data (p.is r) = m at *
  rcases hx with rfl | ⟨rfl, he⟩
  all_goals (have fA := And.intro @pgs (And.intro @Pg.zero_eq @fl); have c1 := tc; have c2 := tm; refine gox ?_; clear fA c1 c2)
  all_goals (have fA := And.intro @pgs (And.intro @fl @fp); refine finx ?_; clear fA; try with_reducible rfl)
def growT (e : List Tr) (n : Nat) : List Tr := e ++ List.replicate (n - e.length) Tr.none
def thirteen (l : List Tr) : List Tr := l.take 13 ++ List.replicate (13 - l.length) Tr.none
def placeT (e l : List Tr) (c : Nat) : List Tr := e.take (13 * c) ++ (thirteen l ++ e.drop (13 * c + 13))
def Pg.setEx (p : Pg) (e : List Tr) : Pg := { p with extra := e }
theorem Pg.setEx_enc (p : Pg) (e : List Tr) (x : AV) : (p.setEx e).enc x = p.enc x := by unfold Pg.enc; rfl
def extraF (p : Pg) (code : Int) (l : List Tr) : Pg := if code < 0 ∨ 15 < code then p else p.setEx (placeT (growT p.extra (13 * (code.toNat + 1))) l code.toNat)
theorem thirteen_len (l : List Tr) : (thirteen l).length = 13 := by simp [thirteen]; omega
theorem growT_len (e : List Tr) (n : Nat) : (growT e n).length = max e.length n := by simp [growT]; omega
theorem placeT_len {e : List Tr} (l : List Tr) {c : Nat} (h : 13 * c + 13 ≤ e.length) : (placeT e l c).length = e.length := by simp [placeT, thirteen_len]; omega
def gr (e : List Tr) (k : Nat) : List Tr := e ++ List.replicate k Tr.none
theorem gr_len (e : List Tr) (k : Nat) : (gr e k).length = e.length + k := by simp [gr]
theorem gr_zero (e : List Tr) : gr e 0 = e := by simp [gr]
theorem gr_more (e : List Tr) (k : Nat) : flat Tr.enc (gr e k) ++ [AV.int .i64 0, .int .i64 0, .int .i64 0] = flat Tr.enc (gr e (k + 1)) := by
  unfold gr
  rw [← List.replicate_append_replicate, flt_append, flt_append, flt_append, List.append_assoc]
  rfl
theorem gr_grow (e : List Tr) (n : Nat) : gr e (n - e.length) = growT e n := rfl
theorem flat_put {G ys : List Tr} {k : Nat} (h : k + ys.length ≤ G.length) : setR (flat Tr.enc G) (k * 3) (flat Tr.enc ys) = flat Tr.enc (G.take k ++ (ys ++ G.drop (k + ys.length))) := by
  unfold setR
  rw [flt_take Tr.len, Tr.flen, ← Nat.add_mul, flt_drop Tr.len, flt_append, flt_append, List.append_assoc]
def clrT (G : List Tr) (c : Nat) : List Tr := G.take (13 * c) ++ (List.replicate 13 Tr.none ++ G.drop (13 * c + 13))
theorem clear_copy (G l : List Tr) (c : Nat) (h : 13 * c + 13 ≤ G.length) :
    setR (flat Tr.enc G) (13 * c * 3) (repl 13 [AV.int .i64 0, .int .i64 0, .int .i64 0]) = flat Tr.enc (clrT G c) ∧
    setR (flat Tr.enc (clrT G c)) (13 * c * 3) ((flat Tr.enc l).take (min l.length 13 * 3)) = flat Tr.enc (placeT G l c) ∧ (clrT G c).length = G.length := by
  have e0 : repl 13 [AV.int .i64 0, .int .i64 0, .int .i64 0] = flat Tr.enc (List.replicate 13 Tr.none) := Tr.zero 13
  have hcl : (clrT G c).length = G.length := by simp [clrT]; omega
  refine ⟨?_, ?_, hcl⟩
  · rw [e0, flat_put (by simpa using h), List.length_replicate]; rfl
  · rw [flt_take Tr.len, flat_put (by rw [hcl, List.length_take]; omega)]
    congr 1
    have hk : (List.take (13 * c) G).length = 13 * c := by simp; omega
    have h1 : (clrT G c).take (13 * c) = G.take (13 * c) := by
      unfold clrT
      rw [List.take_append_of_le_length (by rw [hk]; omega), List.take_of_length_le (by rw [hk]; omega)]
    have h2 : (clrT G c).drop (13 * c + (l.take (min l.length 13)).length) = List.replicate (13 - l.length) Tr.none ++ G.drop (13 * c + 13) := by
      unfold clrT
      rw [List.drop_append, List.drop_eq_nil_of_le (by rw [hk]; omega), hk, Nat.add_sub_cancel_left, List.drop_append, List.drop_replicate, List.length_replicate, List.length_take]
      have : min (min l.length 13) l.length - 13 = 0 := by omega
      rw [this, List.drop_zero, show 13 - min (min l.length 13) l.length = 13 - l.length by omega, List.nil_append]
    rw [h1, h2]
    unfold placeT thirteen
    have : l.take (min l.length 13) = l.take 13 := by
      by_cases q : l.length ≤ 13
      · rw [Nat.min_eq_left q, List.take_of_length_le (Nat.le_refl _), List.take_of_length_le q]
      · rw [Nat.min_eq_right (by omega)]
    rw [this]
    simp
theorem clear_ok {env : List (Nat × AV)} {heap : List (Nat × Blk)} {nx tag s k : Nat} {g : Nat × Nat} {cells c2 : List AV} (hb : aget s heap = some ⟨g, cells⟩) (hk : k * 3 + 13 * 3 ≤ cells.length) (hs : setR cells (k * 3) (repl 13 [AV.int .i64 0, .int .i64 0, .int .i64 0]) = c2) :
    aBuiltin L ⟨env, heap, nx, tag⟩ 0 .clear [36] [.msl s g 3 (k * 3) 13] = some (.tup [], ⟨env, aput s ⟨g, c2⟩ heap, nx, tag⟩) := by
  have e : slElem L 36 = some ⟨.strct [(0, 3), (1, 3), (2, 3)], 3, 24, [.int .i64 0, .int .i64 0, .int .i64 0]⟩ := rfl
  simp only [aBuiltin, e, blkOf, hb, if_true, Option.bind_eq_bind, Option.bind_some, putCells]
  rw [if_pos ⟨trivial, hk, rfl, by decide⟩, hs]
theorem t_page_Extra (tag : Nat) (p : Pg) (hp : p.Ok) {x : AV} (hx : ExOK x p.extra) (hl : p.extra.length < 1000000) (code : Int) (l : List Tr) {y : AV} (hy : ExOK y l) (hll : l.length < 1000000) :
    callω L T 13 tag [.agg (p.enc x), .int .i64 code, y] [none, none, none] = some (.agg ((extraF p code l).enc (.isl 3 (extraF p code l).extra.length (flat Tr.enc (extraF p code l).extra))), [none, none, none]) := by
  rw [call_ex (show T 13 = some (.code a13) from rfl) rfl rfl]
  have tc := t_CloneX (tag + 1) hx hl
  have oz := Pg.none_ok
  have fl := Tr.flen p.extra
  have fp := Tr.pl p.extra
  unfold extraF
  by_cases h1 : code < 0
  · rw [if_pos (Or.inl h1)]
    rcases hx with rfl | ⟨rfl, he⟩
    all_goals rcases hy with rfl | ⟨rfl, he2⟩
    all_goals (have fA := And.intro @pgs (And.intro @Pg.zero_eq @fl); have c1 := tc; refine gox ?_; clear fA c1)
    all_goals (have fA := And.intro @pgs (And.intro @fl @fp); refine finx ?_; clear fA; try with_reducible rfl)
  by_cases h2 : 15 < code
  · rw [if_pos (Or.inr h2)]
    rcases hx with rfl | ⟨rfl, he⟩
    all_goals rcases hy with rfl | ⟨rfl, he2⟩
    all_goals (have fA := And.intro @pgs (And.intro @Pg.zero_eq @fl); have c1 := tc; refine gox ?_; clear fA c1)
    all_goals (have fA := And.intro @pgs (And.intro @fl @fp); refine finx ?_; clear fA; try with_reducible rfl)
  rw [if_neg (by omega)]
  obtain ⟨c, rfl⟩ : ∃ c : Nat, code = c := ⟨code.toNat, by omega⟩
  have hc : c < 16 := by omega
  simp only [Int.toNat_natCast]
  have hw : IntKind.i64.wrap (13 * IntKind.i64.wrap ((c : Int) + 1)) = 13 * ((c : Int) + 1) := by rw [w_i64 (x := (c : Int) + 1) (by omega) (by omega), w_i64 (by omega) (by omega)]
  have hw2 : IntKind.i64.wrap (13 * (c : Int)) = ((13 * c : Nat) : Int) := by rw [w_i64 (by omega) (by omega)]; omega
  refine goal_join (Q := ?kQ) (fun key => ?kk) ?kb
  case kk =>
    rcases hx with rfl | ⟨rfl, he⟩
    all_goals (have fA := And.intro @pgs (And.intro @Pg.zero_eq @fl); have c1 := tc; refine gox ?_; clear fA c1)
    all_goals exact key.out
  clear hx tc
  refine Eq.trans (head_eq (heap' := [(3, ⟨(tag, 1), p.enc (.msl 10 (tag, 1 + 1 + 1) 3 0 (p.extra.length + 0))⟩), (6, ⟨(tag, 1 + 1), Pg.none.enc .nsl⟩), (10, ⟨(tag, 1 + 1 + 1), flat Tr.enc (gr p.extra 0)⟩)]) rfl (by rw [gr_zero]; rfl) rfl) ?_
  refine headX_for (fun _ (_ : Nat × Nat) => True) (fun k (x : Nat × Nat) => ⟨[(1, .int .i64 c), (2, y), (3, .ref 3 (tag, 1) 0), (6, .ref 6 (tag, 1 + 1) 0)], [(3, ⟨(tag, 1), p.enc (.msl 10 (tag, x.1) 3 0 (p.extra.length + k))⟩), (6, ⟨(tag, 1 + 1), Pg.none.enc .nsl⟩), (10, ⟨(tag, x.1), flat Tr.enc (gr p.extra k)⟩)], x.2, tag⟩) (13 * (c + 1) - p.extra.length) _ ?_ ?_ (1 + 1 + 1, 1 + 1 + 1 + 1) trivial
  · rintro k ⟨g, nx⟩ hk - ih
    dsimp only at ih ⊢
    refine Eq.trans ?_ (ih (nx + 1, nx + 1 + 1) trivial)
    have l1 : (flat Tr.enc (gr p.extra k)).length = (p.extra.length + k) * 3 := by rw [Tr.flen, gr_len]
    have m1 := gr_more p.extra k
    clear ih
    generalize flat Tr.enc (gr p.extra (k + 1)) = c2 at *
    generalize flat Tr.enc (gr p.extra k) = c1 at *
    (have fA := And.intro @pgs (And.intro @l1 (And.intro @m1 (@List.drop_zero AV))); refine gox ?_; clear fA)
    refine head_eq rfl ?_ rfl
    rw [← m1]; rfl
  · rintro ⟨g, nx⟩ -
    have el : p.extra.length + (13 * (c + 1) - p.extra.length) = (growT p.extra (13 * (c + 1))).length := by rw [growT_len]; omega
    have e0 := growT_len p.extra (13 * (c + 1))
    dsimp only
    rw [gr_grow, el]
    have l1 := Tr.flen (growT p.extra (13 * (c + 1)))
    generalize growT p.extra (13 * (c + 1)) = G at *
    have hG : 13 * c + 13 ≤ G.length := by omega
    obtain ⟨s1, s2, s3⟩ := clear_copy G l c hG
    have e1 : ∀ env, aBuiltin L ⟨env, [(3, ⟨(tag, 1), p.enc (.msl 10 (tag, g) 3 0 G.length)⟩), (6, ⟨(tag, 1 + 1), Pg.none.enc .nsl⟩), (10, ⟨(tag, g), flat Tr.enc G⟩)], nx, tag⟩ 0 .clear [36] [.msl 10 (tag, g) 3 (0 + (IntKind.i64.wrap (13 * (c : Int))).toNat * 3 + Int.toNat 0 * 3) (Int.toNat 13 - Int.toNat 0)] =
        some (.tup [], ⟨env, [(3, ⟨(tag, 1), p.enc (.msl 10 (tag, g) 3 0 G.length)⟩), (6, ⟨(tag, 1 + 1), Pg.none.enc .nsl⟩), (10, ⟨(tag, g), flat Tr.enc (clrT G c)⟩)], nx, tag⟩) := by
      intro env
      rw [hw2]
      simp only [Int.toNat_natCast, show Int.toNat 0 = 0 from rfl, show Int.toNat 13 = 13 from rfl, Nat.zero_mul, Nat.add_zero, Nat.zero_add, Nat.sub_zero]
      exact clear_ok (s := 10) rfl (by omega) s1
    have l2 : (flat Tr.enc (clrT G c)).length = G.length * 3 := by rw [Tr.flen, s3]
    have ll := Tr.flen l
    have l3 := placeT_len l hG
    have l4 : (flat Tr.enc (placeT G l c)).length = G.length * 3 := by rw [Tr.flen, l3]
    have fp2 := Tr.pl (placeT G l c)
    have o3 : (p.setEx (placeT G l c)).Ok := ⟨hp.rows, hp.there, hp.links⟩
    have x3 : ∀ z, (p.setEx (placeT G l c)).enc z = p.enc z := Pg.setEx_enc p _
    have x4 : (p.setEx (placeT G l c)).extra = placeT G l c := rfl
    rw [x3, x4, l3]
    generalize flat Tr.enc (placeT G l c) = c3 at *
    generalize flat Tr.enc (clrT G c) = c2 at *
    generalize flat Tr.enc G = c1 at *
    rcases hy with rfl | ⟨rfl, rfl⟩
    · generalize flat Tr.enc l = cl at *
      (have fA := And.intro @pgs (And.intro @l1 (And.intro @l2 (And.intro @l4 (And.intro @ll (And.intro @s2 (And.intro @hw2 (And.intro (@List.drop_zero AV) (And.intro @Nat.add_zero ((show Int.toNat 13 = 13 from rfl)))))))))); refine gox ?_; clear fA)
      (have fA := And.intro @pgs (And.intro @l4 @fp2); refine finx ?_; clear fA; try with_reducible rfl)
    · have s2 : setR c2 (13 * c * 3) [] = c3 := s2
      (have fA := And.intro @pgs (And.intro @l1 (And.intro @l2 (And.intro @l4 (And.intro @s2 (And.intro @hw2 (And.intro (@List.drop_zero AV) (And.intro @Nat.add_zero ((show Int.toNat 13 = 13 from rfl))))))))); refine gox ?_; clear fA)
      (have fA := And.intro @pgs (And.intro @l4 @fp2); refine finx ?_; clear fA; try with_reducible rfl)

end Go.Proofs.Ytimcmpceekbfjaa
