/- Functions of the seat, worked off from their code: chunk accent. Written by program (tools/mkp.py) from wip/fn. -/
import Derived.Test.YtkienchmbfhigaaSimT
import Derived.Test.YtkienchmbfhigaaSimY
import Derived.Test.YtkienchmbfhigaaPmosaic
set_option maxRecDepth 100000
set_option maxHeartbeats 40000000
set_option linter.unusedSimpArgs false
set_option linter.unusedVariables false
namespace Go.Proofs.Ytkienchmbfhigaa
open Go Go.Sim
attribute [local irreducible] chk brX getX strX setX takeX normX fillX lendX partsX opsX callK lentK lentR giveX adoptX resX joinX headX loopX seqK blkK regK finX exOps ex eqT
attribute [local simp] setR_int setR_bool setR_zero setR_succ repl_int repl_bool List.getElem?_cons_zero List.getElem?_cons_succ List.getElem?_nil w_i64 w_u64 w_u8 bAnd_u8 bOr_u8 bXor_u8 bAndNot_u8 bShl_u8 wrap_u8_range all_plain_int all_plain_bool all_plain_app pl_bool pl_int pl_str pl_nilp pl_nsl pl_nilI pl_nilF take_map_len AV.cells TI.isAgg
structure Pr where
  c : Int
  glyph : Int
  deriving DecidableEq
def Pr.enc (s : Pr) : List AV := [.int .u8 s.c, .int .i64 s.glyph]
theorem Pr.len (s : Pr) : s.enc.length = 2 := rfl
theorem Pr.flen (xs : List Pr) : (flat Pr.enc xs).length = xs.length * 2 := flt_len Pr.len xs
theorem Pr.pl (xs : List Pr) : (flat Pr.enc xs).all AV.plain = true := flt_plain (fun _ => rfl) xs
theorem Pr.rd {xs : List Pr} {i : Nat} (h : i < xs.length) : ((flat Pr.enc xs).drop (i * 2)).take 2 = [.int .u8 xs[i].c, .int .i64 xs[i].glyph] := flt_rd Pr.len h
theorem Pr.g0 {xs : List Pr} {i : Nat} (h : i < xs.length) : (flat Pr.enc xs)[i * 2]? = some (.int .u8 xs[i].c) := by simpa [Pr.enc] using flt_get (k := 0) Pr.len h (by omega)
theorem Pr.g1 {xs : List Pr} {i : Nat} (h : i < xs.length) : (flat Pr.enc xs)[i * 2 + 1]? = some (.int .i64 xs[i].glyph) := flt_get Pr.len h (by omega)
theorem Pr.put {xs : List Pr} {i : Nat} {a0 : Int} {a1 : Int} (h : i < xs.length) : setR (flat Pr.enc xs) (i * 2) [.int .u8 a0, .int .i64 a1] = flat Pr.enc (xs.set i ⟨a0, a1⟩) := flt_set Pr.len (y := ⟨a0, a1⟩) h
theorem Pr.pute {xs : List Pr} {i : Nat} {y : Pr} (h : i < xs.length) : setR (flat Pr.enc xs) (i * 2) y.enc = flat Pr.enc (xs.set i y) := flt_set Pr.len h
theorem Pr.enc_eq {a0 : Int} {a1 : Int} : Pr.enc ⟨a0, a1⟩ = [.int .u8 a0, .int .i64 a1] := rfl
theorem Pr.s0 {xs : List Pr} {i : Nat} {v : Int} (h : i < xs.length) : setR (flat Pr.enc xs) (i * 2) [.int .u8 v] = flat Pr.enc (xs.set i { xs[i] with c := v }) := by simpa using flt_setk (k := 0) Pr.len h (by simp) (show setR (Pr.enc xs[i]) 0 [.int .u8 v] = Pr.enc { xs[i] with c := v } from rfl)
theorem Pr.s1 {xs : List Pr} {i : Nat} {v : Int} (h : i < xs.length) : setR (flat Pr.enc xs) (i * 2 + 1) [.int .i64 v] = flat Pr.enc (xs.set i { xs[i] with glyph := v }) := flt_setk (k := 1) Pr.len h (by simp) (show setR (Pr.enc xs[i]) 1 [.int .i64 v] = Pr.enc { xs[i] with glyph := v } from rfl)
def Pr.none : Pr := ⟨0, 0⟩
theorem Pr.zero (n : Nat) : repl n [.int .u8 0, .int .i64 0] = flat Pr.enc (List.replicate n Pr.none) := flt_repl n Pr.none [.int .u8 0, .int .i64 0] rfl
def Pr.ok (s : Pr) : Prop := (Lit.int .u8 s.c).wf = true ∧ (Lit.int .i64 s.glyph).wf = true
theorem Pr.of {n : Nat} {fs : List (Nat × Nat)} {cs : List AV} (h : zipShp (Shp L (n + 1)) fs cs) (hs : fs.map (dsc L) = [some (.int .u8), some (.int .i64)]) : ∃ s : Pr, cs = s.enc ∧ s.ok := by
  obtain ⟨x0, gs, r, rfl, w0, h, hs⟩ := zipd_int h hs
  obtain ⟨x1, gs, r, rfl, w1, h, hs⟩ := zipd_int h hs
  obtain rfl := zipd_nil h hs
  exact ⟨⟨x0, x1⟩, rfl, ⟨w0, w1⟩⟩
theorem Pr.parts {n e sz bt : Nat} {fs : List (Nat × Nat)} {z : List AV} (hl : L e = some ⟨.strct fs, sz, bt, z⟩) (hs : fs.map (dsc L) = [some (.int .u8), some (.int .i64)]) (ps : List (List AV)) (h : ∀ p ∈ ps, Shp L (n + 2) e p) : ∃ ys : List Pr, ps.flatten = flat Pr.enc ys ∧ ys.length = ps.length ∧ ∀ y ∈ ys, y.ok :=
  parts_flat (fun p hp => Pr.of (shp_strct hl hp) hs) ps h

attribute [local simp] Pr.flen Pr.rd Pr.g0 Pr.g1 Pr.put Pr.pute Pr.s0 Pr.s1 Pr.zero Pr.enc

theorem and127 {c : Int} (h0 : 0 ≤ c) (h1 : c < 256) : bAnd .u8 c 127 = c % 128 := by
  have h : byteB (fun c => decide (bAnd .u8 c 127 = c % 128)) = true := by decide +kernel
  exact of_decide_eq_true (byteB_get h h0 h1)
def plainI (c : Int) : Int := if c % 128 < 32 then 32 else if c % 128 = 127 then 9632 else c % 128
def prAV (l : List Pr) : AV := .fsl 2 l.length (flat Pr.enc l)
def moreL (m : Int) : List Pr :=
  if m = 8 then [⟨65, 196⟩, ⟨69, 203⟩, ⟨73, 207⟩, ⟨79, 214⟩, ⟨85, 220⟩, ⟨97, 228⟩, ⟨101, 235⟩, ⟨105, 239⟩, ⟨111, 246⟩, ⟨117, 252⟩, ⟨121, 255⟩]
  else if m = 10 then [⟨65, 197⟩, ⟨85, 366⟩, ⟨97, 229⟩, ⟨117, 367⟩]
  else if m = 11 then [⟨67, 199⟩, ⟨83, 350⟩, ⟨84, 354⟩, ⟨99, 231⟩, ⟨115, 351⟩, ⟨116, 355⟩]
  else if m = 13 then [⟨79, 336⟩, ⟨85, 368⟩, ⟨111, 337⟩, ⟨117, 369⟩]
  else if m = 14 then [⟨65, 260⟩, ⟨69, 280⟩, ⟨97, 261⟩, ⟨101, 281⟩]
  else if m = 15 then [⟨67, 268⟩, ⟨69, 282⟩, ⟨82, 344⟩, ⟨83, 352⟩, ⟨90, 381⟩, ⟨99, 269⟩, ⟨101, 283⟩, ⟨114, 345⟩, ⟨115, 353⟩, ⟨122, 382⟩]
  else []
def pairsL (m : Int) : List Pr :=
  if m = 1 then [⟨65, 192⟩, ⟨69, 200⟩, ⟨73, 204⟩, ⟨79, 210⟩, ⟨85, 217⟩, ⟨97, 224⟩, ⟨101, 232⟩, ⟨105, 236⟩, ⟨111, 242⟩, ⟨117, 249⟩]
  else if m = 2 then [⟨65, 193⟩, ⟨69, 201⟩, ⟨73, 205⟩, ⟨79, 211⟩, ⟨85, 218⟩, ⟨89, 221⟩, ⟨67, 262⟩, ⟨78, 323⟩, ⟨83, 346⟩, ⟨90, 377⟩, ⟨97, 225⟩, ⟨101, 233⟩, ⟨105, 237⟩, ⟨111, 243⟩, ⟨117, 250⟩, ⟨121, 253⟩, ⟨99, 263⟩, ⟨110, 324⟩, ⟨115, 347⟩, ⟨122, 378⟩]
  else if m = 3 then [⟨65, 194⟩, ⟨69, 202⟩, ⟨73, 206⟩, ⟨79, 212⟩, ⟨85, 219⟩, ⟨97, 226⟩, ⟨101, 234⟩, ⟨105, 238⟩, ⟨111, 244⟩, ⟨117, 251⟩]
  else if m = 4 then [⟨65, 195⟩, ⟨78, 209⟩, ⟨79, 213⟩, ⟨97, 227⟩, ⟨110, 241⟩, ⟨111, 245⟩]
  else if m = 6 then [⟨65, 258⟩, ⟨71, 286⟩, ⟨97, 259⟩, ⟨103, 287⟩]
  else if m = 7 then [⟨73, 304⟩, ⟨90, 379⟩, ⟨122, 380⟩]
  else moreL m
def find1 : List Pr → Int → Option Int
  | [], _ => none
  | p :: ps, c => if p.c = c then some p.glyph else find1 ps c
def joinI (m c : Int) : Int := if m < 0 ∨ 16 ≤ m then 0 else match find1 (pairsL m) (c % 128) with | some g => g | none => if c % 128 = 42 ∧ m = 0 then 64 else plainI c
theorem t_latin_Plain (tag : Nat) (c : Int) (h0 : 0 ≤ c) (h1 : c < 256) : callω L T 56 tag [.int .u8 c] [none] = some (.int .i64 (plainI c), [none]) := by
  rw [call_ex (show T 56 = some (.code a56) from rfl) rfl rfl]
  have e := and127 h0 h1
  have w : IntKind.i64.wrap (bAnd .u8 c 127) = c % 128 := by rw [e]; exact w_i64 (by omega) (by omega)
  by_cases h2 : c % 128 < 32
  · (refine gox ?_)
    (refine finx ?_; try with_reducible rfl)
    unfold plainI; rw [if_pos h2]; rfl
  · by_cases h3 : c % 128 = 127
    · (refine gox ?_)
      (refine finx ?_; try with_reducible rfl)
      unfold plainI; rw [if_neg h2, if_pos h3]; rfl
    · (refine gox ?_)
      (refine finx ?_; try with_reducible rfl)
      unfold plainI; rw [if_neg h2, if_neg h3, w]
theorem t_accent_more (tag : Nat) (m : Int) : callω L T 65 tag [.int .i64 m] [none] = some (prAV (moreL m), [none]) := by
  rw [call_ex (show T 65 = some (.code a65) from rfl) rfl rfl]
  unfold moreL
  (refine gox ?_)
  iterate 6 ((first | refine ops_split (by apply Eq.refl) (by apply Eq.refl) (by intro κ'; apply Eq.refl) (by intro κ'; apply Eq.refl) (fun h => ?_) (fun h => ?_) | refine br_decide (fun h => ?_) (fun h => ?_) | refine br_split (fun h => ?_) (fun h => ?_)); (rw [if_pos h]; (refine gox ?_); (refine finx ?_; try with_reducible rfl); rfl); rw [if_neg h]; clear h; (refine gox ?_))
  (refine gox ?_)
  (refine finx ?_; try with_reducible rfl)
  rfl
theorem t_accent_pairs (tag : Nat) (m : Int) : callω L T 55 tag [.int .i64 m] [none] = some (prAV (pairsL m), [none]) := by
  rw [call_ex (show T 55 = some (.code a55) from rfl) rfl rfl]
  unfold pairsL
  (refine gox ?_)
  iterate 6 ((first | refine ops_split (by apply Eq.refl) (by apply Eq.refl) (by intro κ'; apply Eq.refl) (by intro κ'; apply Eq.refl) (fun h => ?_) (fun h => ?_) | refine br_decide (fun h => ?_) (fun h => ?_) | refine br_split (fun h => ?_) (fun h => ?_)); (rw [if_pos h]; (refine gox ?_); (refine finx ?_; try with_reducible rfl); rfl); rw [if_neg h]; clear h; (refine gox ?_))
  (have c1 := fun x1 x2 => t_accent_more x1 x2; refine gox ?_; clear c1)
  (refine finx ?_; try with_reducible rfl)
  rfl
theorem t_accent_Join (tag : Nat) (m c : Int) (h0 : 0 ≤ c) (h1 : c < 256) : callω L T 49 tag [.int .i64 m, .int .u8 c] [none, none] = some (.int .i64 (joinI m c), [none, none]) := by
  rw [call_ex (show T 49 = some (.code a49) from rfl) rfl rfl]
  have e := and127 h0 h1
  by_cases hm : m < 0
  · have ej : joinI m c = 0 := if_pos (Or.inl hm)
    (refine gox ?_)
    (refine finx ?_; try with_reducible rfl)
    rw [ej]; rfl
  by_cases hm2 : 16 ≤ m
  · have ej : joinI m c = 0 := if_pos (Or.inr hm2)
    (refine gox ?_)
    (refine finx ?_; try with_reducible rfl)
    rw [ej]; rfl
  have hm3 : ¬ (m < 0 ∨ 16 ≤ m) := by omega
  have ej : joinI m c = (match find1 (pairsL m) (c % 128) with | some g => g | none => if c % 128 = 42 ∧ m = 0 then 64 else plainI c) := if_neg hm3
  have hz : (pairsL m).length < 1000000 := by
    by_cases h : 0 ≤ m ∧ m < 16
    · have : ∀ a : Nat, a < 16 → (pairsL a).length < 1000000 := by decide
      have := this m.toNat (by omega)
      rwa [show ((m.toNat : Nat) : Int) = m from by omega] at this
    · omega
  (have c1 := fun x1 x2 => t_accent_pairs x1 x2; refine gox ?_; clear c1)
  rw [ej]
  generalize pairsL m = l at hz
  refine headX_eachN (fun k nx => ⟨[(0, .int .i64 m), (1, .int .u8 (bAnd .u8 c 127)), (16, prAV l), (17, .int .i64 l.length), (18, .int .i64 k)], [], nx, tag⟩) l (fun l => some (.int .i64 (match find1 l (c % 128) with | some g => g | none => if c % 128 = 42 ∧ m = 0 then 64 else plainI c), [none, none])) ?_ ?_ 1
  · intro k nx hk ih
    by_cases hf : l[k].c = c % 128
    · have ef : find1 (l[k] :: l.drop (k + 1)) (c % 128) = some l[k].glyph := if_pos hf
      rw [ef]
      (have fA := And.intro (wrap_succ hk (by omega)) @Pr.rd; refine gox ?_; clear fA)
      (refine finx ?_; try with_reducible rfl)
    · have ef : find1 (l[k] :: l.drop (k + 1)) (c % 128) = find1 (l.drop (k + 1)) (c % 128) := if_neg hf
      rw [ef]
      refine Eq.trans ?_ (ih (nx + 1))
      (have fA := And.intro (wrap_succ hk (by omega)) @Pr.rd; refine gox ?_; clear fA)
      refine head_eq ?_ rfl rfl
      simp [wrap_succ hk (by omega)]
  · intro nx
    have tp := fun tag => t_latin_Plain tag (bAnd .u8 c 127) (by omega) (by omega)
    have ep : plainI (bAnd .u8 c 127) = plainI c := by rw [e]; unfold plainI; simp
    (have c1 := fun x1 => tp x1; refine gox ?_; clear c1)
    (first | refine ops_split (by apply Eq.refl) (by apply Eq.refl) (by intro κ'; apply Eq.refl) (by intro κ'; apply Eq.refl) (fun h => ?_) (fun h => ?_) | refine br_decide (fun h => ?_) (fun h => ?_) | refine br_split (fun h => ?_) (fun h => ?_))
    · replace h := of_decide_eq_true h
      (have c1 := fun x1 => tp x1; refine gox ?_; clear c1)
      (first | refine ops_split (by apply Eq.refl) (by apply Eq.refl) (by intro κ'; apply Eq.refl) (by intro κ'; apply Eq.refl) (fun h => ?_) (fun h => ?_) | refine br_decide (fun h => ?_) (fun h => ?_) | refine br_split (fun h => ?_) (fun h => ?_))
      · (have c1 := fun x1 => tp x1; refine gox ?_; clear c1)
        (refine finx ?_; try with_reducible rfl)
        refine ans_eq (congrArg (AV.int .i64) ?_) rfl
        simp only [find1]
        rw [if_pos (by omega)]
      · (have c1 := fun x1 => tp x1; refine gox ?_; clear c1)
        (refine finx ?_; try with_reducible rfl)
        rw [ep]
        refine ans_eq (congrArg (AV.int .i64) ?_) rfl
        simp only [find1]
        rw [if_neg (by omega)]
    · replace h := of_decide_eq_false h
      (have c1 := fun x1 => tp x1; refine gox ?_; clear c1)
      (refine finx ?_; try with_reducible rfl)
      rw [ep]
      refine ans_eq (congrArg (AV.int .i64) ?_) rfl
      simp only [find1]
      rw [if_neg (by omega)]
def signsL : List Int := [32, 161, 162, 163, 36, 165, 35, 167, 164, 8216, 8220, 171, 8592, 8593, 8594, 8595,
  176, 177, 178, 179, 215, 181, 182, 183, 247, 8217, 8221, 187, 188, 189, 190, 191,
  32, 96, 180, 710, 732, 175, 728, 729, 168, 803, 730, 184, 95, 733, 731, 711,
  8213, 185, 174, 169, 8482, 9834, 8352, 8240, 8733, 32, 32, 32, 8539, 8540, 8541, 8542,
  8486, 198, 272, 170, 294, 32, 306, 319, 321, 216, 338, 186, 222, 358, 330, 329,
  312, 230, 273, 240, 295, 305, 307, 320, 322, 248, 339, 223, 254, 359, 331, 9632]
def signI (c : Int) : Int := if c % 128 < 32 then 32 else signsL.getD (c % 128 - 32).toNat 0
theorem t_accent_chars (tag : Nat) : callω L T 54 tag [] [] = some (.agg (signsL.map (.int .i64)), []) := by
  rw [call_ex (show T 54 = some (.code a54) from rfl) rfl rfl]
  (refine gox ?_)
  (refine finx ?_; try with_reducible rfl)
  rfl
theorem t_accent_Char (tag : Nat) (c : Int) (h0 : 0 ≤ c) (h1 : c < 256) : callω L T 48 tag [.int .u8 c] [none] = some (.int .i64 (signI c), [none]) := by
  rw [call_ex (show T 48 = some (.code a48) from rfl) rfl rfl]
  have e := and127 h0 h1
  by_cases h2 : c % 128 < 32
  · (refine gox ?_)
    (refine finx ?_; try with_reducible rfl)
    unfold signI; rw [if_pos h2]; rfl
  · obtain ⟨k, hk, ek⟩ : ∃ k : Nat, k < 96 ∧ c % 128 - 32 = k := ⟨(c % 128 - 32).toNat, by omega, by omega⟩
    have w : IntKind.u8.wrap (bAnd .u8 c 127 - 32) = k := by rw [e, ek]; exact w_u8 (by omega) (by omega)
    have es : signI c = signsL.getD k 0 := by unfold signI; rw [if_neg h2, ek]; rfl
    have hl : k < signsL.length := hk
    have hg : signsL[k]? = some (signI c) := by rw [es, List.getD_eq_getElem?_getD, List.getElem?_eq_getElem hl]; rfl
    (have fA := And.intro @w @hg; have c1 := fun x1 => t_accent_chars x1; refine gox ?_; clear fA c1)
    (refine finx ?_; try with_reducible rfl)
    all_goals
      have : signsL[k] = signI c := by rw [es, List.getD_eq_getElem?_getD, List.getElem?_eq_getElem hl]; rfl
      rw [this]

end Go.Proofs.Ytkienchmbfhigaa
