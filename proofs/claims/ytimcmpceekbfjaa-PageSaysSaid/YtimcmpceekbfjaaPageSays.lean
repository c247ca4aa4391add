/- PageSays: a new page of any old one, any row, any enhancement upon it, its lines, are what the chapter says. No condition. -/
import Derived.Test.YtimcmpceekbfjaaRows
import Derived.Test.YtimcmpceekbfjaaSimWit
import Derived.Test.YtimcmpceekbfjaaSimT
import Derived.Test.YtimcmpceekbfjaaSimY
import Derived.Test.YtimcmpceekbfjaaPpage11
import Derived.Test.YtimcmpceekbfjaaPpage8
import Derived.Test.YtimcmpceekbfjaaPpage7
set_option maxRecDepth 100000
set_option maxHeartbeats 40000000
set_option linter.unusedSimpArgs false
set_option linter.unusedVariables false
namespace Go.Proofs.Ytimcmpceekbfjaa.pageSays
open Go Go.Sim
attribute [local irreducible] chk brX getX strX setX takeX normX fillX lendX partsX opsX callK lentK giveX adoptX resX joinX headX loopX seqK blkK regK finX exOps ex eqT
attribute [local simp] setR_int setR_bool setR_zero setR_succ repl_int repl_bool List.getElem?_cons_zero List.getElem?_cons_succ List.getElem?_nil w_i64 w_u64 w_u8 bAnd_u8 bOr_u8 bXor_u8 bAndNot_u8 bShl_u8 wrap_u8_range all_plain_int all_plain_bool all_plain_app pl_bool pl_int pl_str pl_nilp pl_nsl pl_nilI pl_nilF take_map_len AV.cells TI.isAgg

attribute [local simp] Tr.flen Tr.rd Tr.g0 Tr.g1 Tr.g2 Tr.put Tr.pute Tr.s0 Tr.s1 Tr.s2 Tr.zero Tr.enc Hd.flen Hd.rd Hd.g0 Hd.g1 Hd.g2 Hd.g3 Hd.g4 Hd.g5 Hd.g6 Hd.g7 Hd.g8 Hd.g9 Hd.g10 Hd.g11 Hd.g12 Hd.g13 Hd.g14 Hd.put Hd.pute Hd.s0 Hd.s1 Hd.s2 Hd.s3 Hd.s4 Hd.s5 Hd.s6 Hd.s7 Hd.s8 Hd.s9 Hd.s10 Hd.s11 Hd.s12 Hd.s13 Hd.s14 Hd.zero Hd.enc
attribute [local irreducible] Pg.enc Hd.enc
theorem rowF_ok {p : Pg} (hp : p.Ok) (row : Int) (data : List Int) : (rowF p row data).Ok := by
  unfold rowF
  split
  · exact hp
  · exact Pg.setThere_ok (Pg.setRow_ok hp (by omega) (mrg_len _ _ _))
theorem rowF_ex (p : Pg) (row : Int) (data : List Int) : (rowF p row data).extra = p.extra := by
  unfold rowF
  split <;> rfl
theorem extraF_ok {p : Pg} (hp : p.Ok) (code : Int) (l : List Tr) : (extraF p code l).Ok := by
  unfold extraF
  split
  · exact hp
  · exact ⟨hp.rows, hp.there, hp.links⟩
theorem extraF_len {p : Pg} (code : Int) (l : List Tr) : (extraF p code l).extra.length ≤ p.extra.length + 208 := by
  unfold extraF
  split
  · omega
  · show (placeT (growT p.extra (13 * (code.toNat + 1))) l code.toNat).length ≤ _
    have := growT_len p.extra (13 * (code.toNat + 1))
    rw [placeT_len _ (by omega)]
    omega
theorem main (h : Hd) (text : List Int) (ht : ∀ x ∈ text, 0 ≤ x ∧ x < 256) (old : Pg) (ho : old.Ok) (had : Bool) (row : Int) (data : List Int) (hd : ∀ x ∈ data, 0 ≤ x ∧ x < 256) (code : Int) (l : List Tr) :
    callω L T 7 0 [.agg h.enc, .isl 1 text.length (text.map (.int .u8)), .agg (old.enc (.isl 3 old.extra.length (flat Tr.enc old.extra))), .bool had, .int .i64 row, .isl 1 data.length (data.map (.int .u8)), .int .i64 code, .isl 3 l.length (flat Tr.enc l)] [none, none, none, none, none, none, none, none] = some (.bool true, [none, none, none, none, none, none, none, none]) := by
  rw [call_ex (show T 7 = some (.code a7) from rfl) rfl rfl]
  have hxo : ExOK (.isl 3 old.extra.length (flat Tr.enc old.extra)) old.extra := Or.inl rfl
  have tl := t_light (0 + 1) old ho hxo
  by_cases h1 : old.extra.length ≤ 300
  · rw [decide_eq_true h1] at tl
    by_cases h2 : 60 < text.length
    · (have fA := And.intro @pgs (And.intro @Hd.len @Hd.tk); have c1 := fun x1 => t_law12_first x1; have c2 := tl; refine gox ?_; clear fA c1 c2)
      (refine finx ?_; try with_reducible rfl)
      try rfl
    by_cases h3 : 60 < data.length
    · (have fA := And.intro @pgs (And.intro @Hd.len @Hd.tk); have c1 := fun x1 => t_law12_first x1; have c2 := tl; refine gox ?_; clear fA c1 c2)
      (refine finx ?_; try with_reducible rfl)
      try rfl
    by_cases h4 : 30 < l.length
    · (have fA := And.intro @pgs (And.intro @Hd.len @Hd.tk); have c1 := fun x1 => t_law12_first x1; have c2 := tl; refine gox ?_; clear fA c1 c2)
      (refine finx ?_; try with_reducible rfl)
      try rfl
    have n1 := t_New (0 + 1) h text (by omega) ht old ho hxo (by omega) had
    have n2 := t_NewPage (0 + 1) h text (by omega) ht old ho hxo (by omega) had
    have op := newF_ok ho h text had
    have xp := newX_ok h text old had
    have lp : (newF h text old had).extra.length ≤ 300 := by
      unfold newF
      split
      · exact h1
      · exact Nat.zero_le _
    generalize newF h text old had = p at *
    generalize newX h old had = xx at *
    have r1 := t_page_Row (0 + 1) p op xp (by omega) row data (by omega) hd
    have r2 := t_r12_Row (0 + 1) p op xp (by omega) row data (by omega) hd
    have oq := rowF_ok op row data
    have eq := rowF_ex p row data
    have xq : ExOK (.isl 3 p.extra.length (flat Tr.enc p.extra)) (rowF p row data).extra := by rw [eq]; exact Or.inl rfl
    have lq : (rowF p row data).extra.length ≤ 300 := by rw [eq]; exact lp
    have s1 := t_SamePage (0 + 1) p p op op xp xp (by omega)
    rw [decide_eq_true (pgP_self p)] at s1
    generalize rowF p row data = q at *
    have x1 := t_page_Extra (0 + 1) q oq xq (by omega) code l (Or.inl rfl) (by omega)
    have x2 := t_r12_Extra (0 + 1) q oq xq (by omega) code l (by omega)
    have orr := extraF_ok oq code l
    have lr := extraF_len (p := q) code l
    have s2 := t_SamePage (0 + 1) q q oq oq xq xq (by omega)
    rw [decide_eq_true (pgP_self q)] at s2
    generalize extraF q code l = r at *
    have xr : ExOK (.isl 3 r.extra.length (flat Tr.enc r.extra)) r.extra := Or.inl rfl
    have s3 := t_SamePage (0 + 1) r r orr orr xr xr (by omega)
    rw [decide_eq_true (pgP_self r)] at s3
    have s4 := t_SamePage (0 + 1) q r oq orr xq xr (by omega)
    have s5 := t_Same (0 + 1) q r oq orr xq xr (by omega)
    have l1 := t_Line (0 + 1) r orr xr row
    have l2 := t_r12_Line (0 + 1) r orr xr row
    have ll := lineF_len orr row
    have sb := t_SameBytes (0 + 1) (lineF r row) (lineF r row) (by omega)
    rw [decide_eq_true rfl, ll] at sb
    have be : ∀ b : Bool, (b == b) = true := by intro b; cases b <;> rfl
    have b1 := be (decide (pgP q r))
    have oz := Pg.none_ok
    (have fA := And.intro @pgs (And.intro @Pg.zero_eq (And.intro @Hd.len @Hd.tk)); have c1 := fun x1 => t_law12_first x1; have c2 := tl; have c3 := n1; have c4 := n2; have c5 := r1; have c6 := r2; have c7 := x1; have c8 := x2; have c9 := s1; have c10 := s2; have c11 := s3; have c12 := l1; have c13 := l2; have c14 := sb; refine gox ?_; clear fA c1 c2 c3 c4 c5 c6 c7 c8 c9 c10 c11 c12 c13 c14)
    (have fA := And.intro @pgs (And.intro @Hd.len @Hd.tk); have c1 := s1; have c2 := s4; have c3 := s5; refine gox ?_; clear fA c1 c2 c3)
    (refine finx ?_; try with_reducible rfl)
    try rfl
  · rw [decide_eq_false h1] at tl
    (have fA := And.intro @pgs (And.intro @Hd.len @Hd.tk); have c1 := fun x1 => t_law12_first x1; have c2 := tl; refine gox ?_; clear fA c1 c2)
    (refine finx ?_; try with_reducible rfl)
    try rfl
theorem law (cs : List AV) (h : ShpAll L 5 Try.f7.params.toList cs) : ∃ lent, callω L T 7 0 cs (List.replicate Try.f7.params.toList.length none) = some (.bool true, lent) := by
  rw [Try.params7] at h
  obtain ⟨a, _, rfl, hz, h1⟩ := shpAll_strct rfl h
  obtain ⟨p1, _, rfl, _, hp1, h2⟩ := shpAll_slice rfl rfl h1
  obtain ⟨b, _, rfl, hz2, h3⟩ := shpAll_strct rfl h2
  obtain ⟨had, _, rfl, h4⟩ := shpAll_bool rfl h3
  obtain ⟨row, _, rfl, _, h5⟩ := shpAll_int rfl h4
  obtain ⟨p2, _, rfl, _, hp2, h6⟩ := shpAll_slice rfl rfl h5
  obtain ⟨code, _, rfl, _, h7⟩ := shpAll_int rfl h6
  obtain ⟨p3, _, rfl, _, hp3, h8⟩ := shpAll_slice rfl rfl h7
  obtain rfl := shpAll_nil h8
  obtain ⟨hd, rfl⟩ := hd_of (n := 1) hz
  obtain ⟨old, ho, _, rfl⟩ := pg_of (n := 0) hz2
  obtain ⟨xs, e1, e2, e5⟩ := ints_of_parts (n := 3) rfl p1 hp1
  obtain ⟨ys, e3, e4, e6⟩ := ints_of_parts (n := 3) rfl p2 hp2
  obtain ⟨ts, e7, e8, _⟩ := Tr.parts (n := 2) (show L 30 = some _ from rfl) rfl p3 hp3
  rw [e1, ← e2, e3, ← e4, e7, ← e8]
  exact ⟨_, main hd xs (fun x hx => by obtain ⟨m, rfl, hm⟩ := u8_wf (e5 x hx); omega) old ho had row ys (fun x hx => by obtain ⟨m, rfl, hm⟩ := u8_wf (e6 x hx); omega) code ts⟩

open Go.ChangeShapes Go.WideShapes Go.ChangeAt Go.RowKit
theorem lifted (os : Os) (started : os.Started) (H : Type) (enc : TypeId × Value → H) :
    ReturnsInHanded {} Try.checked os 7 .any (Rows.pageSaysSpec.pre6 enc Try.prog Try.f7 Rows.pageSaysRow.domain false) (Rows.pageSaysSpec.post enc Try.prog Try.f7 false true false false) := by
  refine law_lift (C := Try.checked) (n := 5) own started (by kernel_rfl) Try.func7 L_ok T_ok (show T 7 = some (.code a7) from rfl) laid (by kernel_rfl) rfl Try.underlying4 rfl ?_ law
    (witFast (enc := enc) (C := Try.checked) ⟨#[], #[.agg (List.replicate 3 (Value.int .i64 0) ++ List.replicate 11 (Value.bool false) ++ List.replicate 1 (Value.int .i64 0)).toArray, .slice none 0 0, .agg (List.replicate 3 (Value.int .i64 0) ++ List.replicate 11 (Value.bool false) ++ List.replicate 1 (Value.int .i64 0) ++ List.replicate 1000 (Value.int .u8 0) ++ List.replicate 25 (Value.bool false) ++ List.replicate 1 (Value.slice none 0 0) ++ List.replicate 18 (Value.int .i64 0) ++ List.replicate 1 (Value.bool false) ++ List.replicate 1 (Value.int .i64 0)).toArray, .bool false, .int .i64 0, .slice none 0 0, .int .i64 0, .slice none 0 0], []⟩ 8 (by kernel_rfl) (by kernel_rfl) (by kernel_rfl) (by kernel_rfl) (by kernel_rfl))
  intro H ds hl
  rw [Try.params7] at hl
  match ds, hl with
  | [d1, d2, d3, d4, d5, d6, d7, d8], _ => rfl

theorem over : Rows.pageSaysRow.holds Try.pinned (OpenSpec.ofChange Rows.pageSaysSpec) :=
  OpenClaim.holds_of_wide 7 Try.f7 rfl rfl rfl rfl rfl rfl rfl ⟨rfl, rfl, rfl, rfl, rfl⟩ rfl rfl rfl rfl rfl (by kernel_rfl) Try.func7 (by kernel_rfl)
    (of_decide_eq_true (by kernel_rfl)) (by unfold Func.isWrapper; first | (rw [if_pos (by decide +kernel)]; kernel_rfl) | (rw [if_neg (by decide +kernel)]; exact ⟨rfl, rfl⟩))
    (fun os started H enc _ => lifted os started H enc)

theorem proved : Rows.PageSaysSaid :=
  over
#print axioms proved
end Go.Proofs.Ytimcmpceekbfjaa.pageSays
