/- Functions of the seat, worked off from their code: chunk accent2. Written by program (tools/mkp.py) from wip/fn. -/
import Derived.Test.YtkienchmbfhigaaSimT
import Derived.Test.YtkienchmbfhigaaSimY
import Derived.Test.YtkienchmbfhigaaPaccent
set_option maxRecDepth 100000
set_option maxHeartbeats 40000000
set_option linter.unusedSimpArgs false
set_option linter.unusedVariables false
namespace Go.Proofs.Ytkienchmbfhigaa
open Go Go.Sim
attribute [local irreducible] chk brX getX strX setX takeX normX fillX lendX partsX opsX callK lentK lentR giveX adoptX resX joinX headX loopX seqK blkK regK finX exOps ex eqT
attribute [local simp] setR_int setR_bool setR_zero setR_succ repl_int repl_bool List.getElem?_cons_zero List.getElem?_cons_succ List.getElem?_nil w_i64 w_u64 w_u8 bAnd_u8 bOr_u8 bXor_u8 bAndNot_u8 bShl_u8 wrap_u8_range all_plain_int all_plain_bool all_plain_app pl_bool pl_int pl_str pl_nilp pl_nsl pl_nilI pl_nilF take_map_len AV.cells TI.isAgg
structure Pq where
  c : Int
  glyph : Int
  deriving DecidableEq
def Pq.enc (s : Pq) : List AV := [.int .i64 s.c, .int .i64 s.glyph]
theorem Pq.len (s : Pq) : s.enc.length = 2 := rfl
theorem Pq.flen (xs : List Pq) : (flat Pq.enc xs).length = xs.length * 2 := flt_len Pq.len xs
theorem Pq.pl (xs : List Pq) : (flat Pq.enc xs).all AV.plain = true := flt_plain (fun _ => rfl) xs
theorem Pq.rd {xs : List Pq} {i : Nat} (h : i < xs.length) : ((flat Pq.enc xs).drop (i * 2)).take 2 = [.int .i64 xs[i].c, .int .i64 xs[i].glyph] := flt_rd Pq.len h
theorem Pq.g0 {xs : List Pq} {i : Nat} (h : i < xs.length) : (flat Pq.enc xs)[i * 2]? = some (.int .i64 xs[i].c) := by simpa [Pq.enc] using flt_get (k := 0) Pq.len h (by omega)
theorem Pq.g1 {xs : List Pq} {i : Nat} (h : i < xs.length) : (flat Pq.enc xs)[i * 2 + 1]? = some (.int .i64 xs[i].glyph) := flt_get Pq.len h (by omega)
theorem Pq.put {xs : List Pq} {i : Nat} {a0 : Int} {a1 : Int} (h : i < xs.length) : setR (flat Pq.enc xs) (i * 2) [.int .i64 a0, .int .i64 a1] = flat Pq.enc (xs.set i ⟨a0, a1⟩) := flt_set Pq.len (y := ⟨a0, a1⟩) h
theorem Pq.pute {xs : List Pq} {i : Nat} {y : Pq} (h : i < xs.length) : setR (flat Pq.enc xs) (i * 2) y.enc = flat Pq.enc (xs.set i y) := flt_set Pq.len h
theorem Pq.enc_eq {a0 : Int} {a1 : Int} : Pq.enc ⟨a0, a1⟩ = [.int .i64 a0, .int .i64 a1] := rfl
theorem Pq.s0 {xs : List Pq} {i : Nat} {v : Int} (h : i < xs.length) : setR (flat Pq.enc xs) (i * 2) [.int .i64 v] = flat Pq.enc (xs.set i { xs[i] with c := v }) := by simpa using flt_setk (k := 0) Pq.len h (by simp) (show setR (Pq.enc xs[i]) 0 [.int .i64 v] = Pq.enc { xs[i] with c := v } from rfl)
theorem Pq.s1 {xs : List Pq} {i : Nat} {v : Int} (h : i < xs.length) : setR (flat Pq.enc xs) (i * 2 + 1) [.int .i64 v] = flat Pq.enc (xs.set i { xs[i] with glyph := v }) := flt_setk (k := 1) Pq.len h (by simp) (show setR (Pq.enc xs[i]) 1 [.int .i64 v] = Pq.enc { xs[i] with glyph := v } from rfl)
def Pq.none : Pq := ⟨0, 0⟩
theorem Pq.zero (n : Nat) : repl n [.int .i64 0, .int .i64 0] = flat Pq.enc (List.replicate n Pq.none) := flt_repl n Pq.none [.int .i64 0, .int .i64 0] rfl
def Pq.ok (s : Pq) : Prop := (Lit.int .i64 s.c).wf = true ∧ (Lit.int .i64 s.glyph).wf = true
theorem Pq.of {n : Nat} {fs : List (Nat × Nat)} {cs : List AV} (h : zipShp (Shp L (n + 1)) fs cs) (hs : fs.map (dsc L) = [some (.int .i64), some (.int .i64)]) : ∃ s : Pq, cs = s.enc ∧ s.ok := by
  obtain ⟨x0, gs, r, rfl, w0, h, hs⟩ := zipd_int h hs
  obtain ⟨x1, gs, r, rfl, w1, h, hs⟩ := zipd_int h hs
  obtain rfl := zipd_nil h hs
  exact ⟨⟨x0, x1⟩, rfl, ⟨w0, w1⟩⟩
theorem Pq.parts {n e sz bt : Nat} {fs : List (Nat × Nat)} {z : List AV} (hl : L e = some ⟨.strct fs, sz, bt, z⟩) (hs : fs.map (dsc L) = [some (.int .i64), some (.int .i64)]) (ps : List (List AV)) (h : ∀ p ∈ ps, Shp L (n + 2) e p) : ∃ ys : List Pq, ps.flatten = flat Pq.enc ys ∧ ys.length = ps.length ∧ ∀ y ∈ ys, y.ok :=
  parts_flat (fun p hp => Pq.of (shp_strct hl hp) hs) ps h

attribute [local simp] Pr.flen Pr.rd Pr.g0 Pr.g1 Pr.put Pr.pute Pr.s0 Pr.s1 Pr.zero Pr.enc Pq.flen Pq.rd Pq.g0 Pq.g1 Pq.put Pq.pute Pq.s0 Pq.s1 Pq.zero Pq.enc

def pqs (l : List Pr) : List Pq := l.map fun p => ⟨p.c, p.glyph⟩
def ltAV (l : List Pr) : AV := .fsl 1 (l.length * 2) (flat Pq.enc (pqs l))
/-- The marks that go with a letter. -/
def marksL : List Int := [1, 2, 3, 4, 6, 7, 8, 10, 11, 13, 14, 15]
def find2 : List Pr → Int → Option Int
  | [], _ => none
  | p :: ps, g => if p.glyph = g then some p.c else find2 ps g
def splitF : List Int → Int → Int × Int × Bool
  | [], _ => (0, 0, false)
  | m :: ms, g => match find2 (pairsL m) g with | some c => (m, c, true) | none => splitF ms g
def splitI (g : Int) : Int × Int × Bool := splitF marksL g
theorem t_ref1_Plain (tag : Nat) (c : Int) (h0 : 0 ≤ c) (h1 : c < 256) : callω L T 23 tag [.int .u8 c] [none] = some (.int .i64 (plainI c), [none]) := by
  rw [call_ex (show T 23 = some (.code a23) from rfl) rfl rfl]
  have e := and127 h0 h1
  have w : IntKind.i64.wrap (bAnd .u8 c 127) = c % 128 := by rw [e]; exact w_i64 (by omega) (by omega)
  by_cases h2 : c % 128 < 32
  · (refine gox ?_)
    (refine finx ?_; try with_reducible rfl)
    unfold plainI; rw [if_pos h2]; rfl
  · by_cases h3 : c % 128 = 127
    · (refine gox ?_)
      (refine finx ?_; try with_reducible rfl)
      unfold plainI; rw [if_neg h2, if_pos h3]; rfl
    · (refine gox ?_)
      (refine finx ?_; try with_reducible rfl)
      unfold plainI; rw [if_neg h2, if_neg h3, w]
def dbl (k : Nat) : Nat := 2 * k
theorem lits_eq : ([AV.int .i64 32, AV.int .i64 161, AV.int .i64 162, AV.int .i64 163, AV.int .i64 36, AV.int .i64 165, AV.int .i64 35, AV.int .i64 167, AV.int .i64 164, AV.int .i64 8216, AV.int .i64 8220, AV.int .i64 171, AV.int .i64 8592, AV.int .i64 8593, AV.int .i64 8594, AV.int .i64 8595, AV.int .i64 176, AV.int .i64 177, AV.int .i64 178, AV.int .i64 179, AV.int .i64 215, AV.int .i64 181, AV.int .i64 182, AV.int .i64 183, AV.int .i64 247, AV.int .i64 8217, AV.int .i64 8221, AV.int .i64 187, AV.int .i64 188, AV.int .i64 189, AV.int .i64 190, AV.int .i64 191, AV.int .i64 32, AV.int .i64 96, AV.int .i64 180, AV.int .i64 710, AV.int .i64 732, AV.int .i64 175, AV.int .i64 728, AV.int .i64 729, AV.int .i64 168, AV.int .i64 803, AV.int .i64 730, AV.int .i64 184, AV.int .i64 95, AV.int .i64 733, AV.int .i64 731, AV.int .i64 711, AV.int .i64 8213, AV.int .i64 185, AV.int .i64 174, AV.int .i64 169, AV.int .i64 8482, AV.int .i64 9834, AV.int .i64 8352, AV.int .i64 8240, AV.int .i64 8733, AV.int .i64 32, AV.int .i64 32, AV.int .i64 32, AV.int .i64 8539, AV.int .i64 8540, AV.int .i64 8541, AV.int .i64 8542, AV.int .i64 8486, AV.int .i64 198, AV.int .i64 272, AV.int .i64 170, AV.int .i64 294, AV.int .i64 32, AV.int .i64 306, AV.int .i64 319, AV.int .i64 321, AV.int .i64 216, AV.int .i64 338, AV.int .i64 186, AV.int .i64 222, AV.int .i64 358, AV.int .i64 330, AV.int .i64 329, AV.int .i64 312, AV.int .i64 230, AV.int .i64 273, AV.int .i64 240, AV.int .i64 295, AV.int .i64 305, AV.int .i64 307, AV.int .i64 320, AV.int .i64 322, AV.int .i64 248, AV.int .i64 339, AV.int .i64 223, AV.int .i64 254, AV.int .i64 359, AV.int .i64 331, AV.int .i64 9632] : List AV) = signsL.map (.int .i64) := rfl
theorem lits_get {k : Nat} (h : k < ([AV.int .i64 32, AV.int .i64 161, AV.int .i64 162, AV.int .i64 163, AV.int .i64 36, AV.int .i64 165, AV.int .i64 35, AV.int .i64 167, AV.int .i64 164, AV.int .i64 8216, AV.int .i64 8220, AV.int .i64 171, AV.int .i64 8592, AV.int .i64 8593, AV.int .i64 8594, AV.int .i64 8595, AV.int .i64 176, AV.int .i64 177, AV.int .i64 178, AV.int .i64 179, AV.int .i64 215, AV.int .i64 181, AV.int .i64 182, AV.int .i64 183, AV.int .i64 247, AV.int .i64 8217, AV.int .i64 8221, AV.int .i64 187, AV.int .i64 188, AV.int .i64 189, AV.int .i64 190, AV.int .i64 191, AV.int .i64 32, AV.int .i64 96, AV.int .i64 180, AV.int .i64 710, AV.int .i64 732, AV.int .i64 175, AV.int .i64 728, AV.int .i64 729, AV.int .i64 168, AV.int .i64 803, AV.int .i64 730, AV.int .i64 184, AV.int .i64 95, AV.int .i64 733, AV.int .i64 731, AV.int .i64 711, AV.int .i64 8213, AV.int .i64 185, AV.int .i64 174, AV.int .i64 169, AV.int .i64 8482, AV.int .i64 9834, AV.int .i64 8352, AV.int .i64 8240, AV.int .i64 8733, AV.int .i64 32, AV.int .i64 32, AV.int .i64 32, AV.int .i64 8539, AV.int .i64 8540, AV.int .i64 8541, AV.int .i64 8542, AV.int .i64 8486, AV.int .i64 198, AV.int .i64 272, AV.int .i64 170, AV.int .i64 294, AV.int .i64 32, AV.int .i64 306, AV.int .i64 319, AV.int .i64 321, AV.int .i64 216, AV.int .i64 338, AV.int .i64 186, AV.int .i64 222, AV.int .i64 358, AV.int .i64 330, AV.int .i64 329, AV.int .i64 312, AV.int .i64 230, AV.int .i64 273, AV.int .i64 240, AV.int .i64 295, AV.int .i64 305, AV.int .i64 307, AV.int .i64 320, AV.int .i64 322, AV.int .i64 248, AV.int .i64 339, AV.int .i64 223, AV.int .i64 254, AV.int .i64 359, AV.int .i64 331, AV.int .i64 9632] : List AV).length) : ([AV.int .i64 32, AV.int .i64 161, AV.int .i64 162, AV.int .i64 163, AV.int .i64 36, AV.int .i64 165, AV.int .i64 35, AV.int .i64 167, AV.int .i64 164, AV.int .i64 8216, AV.int .i64 8220, AV.int .i64 171, AV.int .i64 8592, AV.int .i64 8593, AV.int .i64 8594, AV.int .i64 8595, AV.int .i64 176, AV.int .i64 177, AV.int .i64 178, AV.int .i64 179, AV.int .i64 215, AV.int .i64 181, AV.int .i64 182, AV.int .i64 183, AV.int .i64 247, AV.int .i64 8217, AV.int .i64 8221, AV.int .i64 187, AV.int .i64 188, AV.int .i64 189, AV.int .i64 190, AV.int .i64 191, AV.int .i64 32, AV.int .i64 96, AV.int .i64 180, AV.int .i64 710, AV.int .i64 732, AV.int .i64 175, AV.int .i64 728, AV.int .i64 729, AV.int .i64 168, AV.int .i64 803, AV.int .i64 730, AV.int .i64 184, AV.int .i64 95, AV.int .i64 733, AV.int .i64 731, AV.int .i64 711, AV.int .i64 8213, AV.int .i64 185, AV.int .i64 174, AV.int .i64 169, AV.int .i64 8482, AV.int .i64 9834, AV.int .i64 8352, AV.int .i64 8240, AV.int .i64 8733, AV.int .i64 32, AV.int .i64 32, AV.int .i64 32, AV.int .i64 8539, AV.int .i64 8540, AV.int .i64 8541, AV.int .i64 8542, AV.int .i64 8486, AV.int .i64 198, AV.int .i64 272, AV.int .i64 170, AV.int .i64 294, AV.int .i64 32, AV.int .i64 306, AV.int .i64 319, AV.int .i64 321, AV.int .i64 216, AV.int .i64 338, AV.int .i64 186, AV.int .i64 222, AV.int .i64 358, AV.int .i64 330, AV.int .i64 329, AV.int .i64 312, AV.int .i64 230, AV.int .i64 273, AV.int .i64 240, AV.int .i64 295, AV.int .i64 305, AV.int .i64 307, AV.int .i64 320, AV.int .i64 322, AV.int .i64 248, AV.int .i64 339, AV.int .i64 223, AV.int .i64 254, AV.int .i64 359, AV.int .i64 331, AV.int .i64 9632] : List AV)[k] = AV.int .i64 (signsL.getD k 0) := by
  have h2 : k < signsL.length := h
  have := List.getElem_map (AV.int .i64) (l := signsL) (i := k) (h := by simpa using h2)
  rw [List.getD_eq_getElem?_getD, List.getElem?_eq_getElem h2]
  exact this
def goodMarks (k : Nat) : List Int := (List.map (fun (n : Nat) => (n : Int)) (List.range k)).filter fun m => !decide ((pairsL m).length = 0)
theorem good_succ (k : Nat) : goodMarks (k + 1) = if (pairsL k).length = 0 then goodMarks k else goodMarks k ++ [(k : Int)] := by
  unfold goodMarks
  rw [List.range_succ, List.map_append, List.filter_append]
  by_cases h : (pairsL k).length = 0
  · have h' := List.length_eq_zero_iff.1 h
    simp [h']
  · have h' : ¬ pairsL k = [] := fun e => h (by rw [e]; rfl)
    simp [h']
theorem good_len (k : Nat) : (goodMarks k).length ≤ k := by
  unfold goodMarks
  exact Nat.le_trans (List.length_filter_le _ _) (by simp)
theorem good_all : goodMarks 16 = marksL := by decide
end Go.Proofs.Ytkienchmbfhigaa
