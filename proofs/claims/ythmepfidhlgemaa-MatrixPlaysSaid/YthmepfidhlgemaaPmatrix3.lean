/- Functions of the seat, worked off from their code: chunk matrix3. Written by program (tools/mkp.py) from wip/fn. -/
import Derived.Test.YthmepfidhlgemaaSimT
import Derived.Test.YthmepfidhlgemaaSimX
import Derived.Test.YthmepfidhlgemaaPmatrix2
import Derived.Test.YthmepfidhlgemaaPsame
set_option maxRecDepth 100000
set_option maxHeartbeats 40000000
set_option linter.unusedSimpArgs false
set_option linter.unusedVariables false
namespace Go.Proofs.Ythmepfidhlgemaa
open Go Go.Sim
attribute [local irreducible] chk brX getX strX setX takeX normX fillX lendX partsX opsX callK lentK giveX adoptX resX joinX headX loopX seqK blkK regK finX exOps ex
attribute [local simp] setR_int setR_bool setR_zero setR_succ repl_int repl_bool List.getElem?_cons_zero List.getElem?_cons_succ List.getElem?_nil w_i64 w_u64 w_u8 bAnd_u8 bOr_u8 bXor_u8 bAndNot_u8 bShl_u8 wrap_u8_range all_plain_int all_plain_bool all_plain_app pl_bool pl_int pl_str pl_nilp pl_nsl pl_nilI pl_nilF take_map_len AV.cells TI.isAgg
structure Do where
  dst : Int
  src : Int
  on : Bool
  deriving DecidableEq
def Do.enc (s : Do) : List AV := [.int .i64 s.dst, .int .i64 s.src, .bool s.on]
theorem Do.len (s : Do) : s.enc.length = 3 := rfl
theorem Do.flen (xs : List Do) : (flat Do.enc xs).length = xs.length * 3 := flt_len Do.len xs
theorem Do.pl (xs : List Do) : (flat Do.enc xs).all AV.plain = true := flt_plain (fun _ => rfl) xs
theorem Do.rd {xs : List Do} {i : Nat} (h : i < xs.length) : ((flat Do.enc xs).drop (i * 3)).take 3 = [.int .i64 xs[i].dst, .int .i64 xs[i].src, .bool xs[i].on] := flt_rd Do.len h
theorem Do.g0 {xs : List Do} {i : Nat} (h : i < xs.length) : (flat Do.enc xs)[i * 3]? = some (.int .i64 xs[i].dst) := by simpa [Do.enc] using flt_get (k := 0) Do.len h (by omega)
theorem Do.g1 {xs : List Do} {i : Nat} (h : i < xs.length) : (flat Do.enc xs)[i * 3 + 1]? = some (.int .i64 xs[i].src) := flt_get Do.len h (by omega)
theorem Do.g2 {xs : List Do} {i : Nat} (h : i < xs.length) : (flat Do.enc xs)[i * 3 + 2]? = some (.bool xs[i].on) := flt_get Do.len h (by omega)
theorem Do.put {xs : List Do} {i : Nat} {a0 : Int} {a1 : Int} {a2 : Bool} (h : i < xs.length) : setR (flat Do.enc xs) (i * 3) [.int .i64 a0, .int .i64 a1, .bool a2] = flat Do.enc (xs.set i ⟨a0, a1, a2⟩) := flt_set Do.len (y := ⟨a0, a1, a2⟩) h
theorem Do.pute {xs : List Do} {i : Nat} {y : Do} (h : i < xs.length) : setR (flat Do.enc xs) (i * 3) y.enc = flat Do.enc (xs.set i y) := flt_set Do.len h
theorem Do.enc_eq {a0 : Int} {a1 : Int} {a2 : Bool} : Do.enc ⟨a0, a1, a2⟩ = [.int .i64 a0, .int .i64 a1, .bool a2] := rfl
theorem Do.s0 {xs : List Do} {i : Nat} {v : Int} (h : i < xs.length) : setR (flat Do.enc xs) (i * 3) [.int .i64 v] = flat Do.enc (xs.set i { xs[i] with dst := v }) := by simpa using flt_setk (k := 0) Do.len h (by simp) (show setR (Do.enc xs[i]) 0 [.int .i64 v] = Do.enc { xs[i] with dst := v } from rfl)
theorem Do.s1 {xs : List Do} {i : Nat} {v : Int} (h : i < xs.length) : setR (flat Do.enc xs) (i * 3 + 1) [.int .i64 v] = flat Do.enc (xs.set i { xs[i] with src := v }) := flt_setk (k := 1) Do.len h (by simp) (show setR (Do.enc xs[i]) 1 [.int .i64 v] = Do.enc { xs[i] with src := v } from rfl)
theorem Do.s2 {xs : List Do} {i : Nat} {v : Bool} (h : i < xs.length) : setR (flat Do.enc xs) (i * 3 + 2) [.bool v] = flat Do.enc (xs.set i { xs[i] with on := v }) := flt_setk (k := 2) Do.len h (by simp) (show setR (Do.enc xs[i]) 2 [.bool v] = Do.enc { xs[i] with on := v } from rfl)
def Do.none : Do := ⟨0, 0, false⟩
theorem Do.zero (n : Nat) : repl n [.int .i64 0, .int .i64 0, .bool false] = flat Do.enc (List.replicate n Do.none) := flt_repl n Do.none [.int .i64 0, .int .i64 0, .bool false] rfl
def Do.ok (s : Do) : Prop := (Lit.int .i64 s.dst).wf = true ∧ (Lit.int .i64 s.src).wf = true
theorem Do.of {n : Nat} {fs : List (Nat × Nat)} {cs : List AV} (h : zipShp (Shp L (n + 1)) fs cs) (hs : fs.map (dsc L) = [some (.int .i64), some (.int .i64), some .bool]) : ∃ s : Do, cs = s.enc ∧ s.ok := by
  obtain ⟨x0, gs, r, rfl, w0, h, hs⟩ := zipd_int h hs
  obtain ⟨x1, gs, r, rfl, w1, h, hs⟩ := zipd_int h hs
  obtain ⟨x2, gs, r, rfl, h, hs⟩ := zipd_bool h hs
  obtain rfl := zipd_nil h hs
  exact ⟨⟨x0, x1, x2⟩, rfl, ⟨w0, w1⟩⟩
theorem Do.parts {n e sz bt : Nat} {fs : List (Nat × Nat)} {z : List AV} (hl : L e = some ⟨.strct fs, sz, bt, z⟩) (hs : fs.map (dsc L) = [some (.int .i64), some (.int .i64), some .bool]) (ps : List (List AV)) (h : ∀ p ∈ ps, Shp L (n + 2) e p) : ∃ ys : List Do, ps.flatten = flat Do.enc ys ∧ ys.length = ps.length ∧ ∀ y ∈ ys, y.ok :=
  parts_flat (fun p hp => Do.of (shp_strct hl hp) hs) ps h

attribute [local simp] Do.flen Do.rd Do.g0 Do.g1 Do.g2 Do.put Do.pute Do.s0 Do.s1 Do.s2 Do.zero Do.enc

theorem hears_set {m : List Bool} (hm : m.length = 16) (to' fr : Int) (on : Bool) {i k : Nat} (hi : i < 4) (hk : k < 4) : hearsB (setB m to' fr on) i k = if maySet to' fr = true ∧ (i : Int) = to' ∧ (k : Int) = fr then on else hearsB m i k := by
  unfold setB
  by_cases h : maySet to' fr = true
  · simp only [h, if_true, true_and]
    have h' := h
    simp only [maySet, Bool.and_eq_true] at h'
    obtain ⟨a, ha, rfl⟩ := in4_nat h'.1.1.1
    obtain ⟨b, hb, rfl⟩ := in4_nat h'.1.1.2
    have ii : in4 i = true := decide_eq_true (by omega)
    have kk : in4 k = true := decide_eq_true (by omega)
    unfold hearsB
    rw [ii, kk]
    simp only [Bool.and_self, Bool.true_and, Int.toNat_natCast]
    rw [List.getD_eq_getElem?_getD, List.getD_eq_getElem?_getD, List.getElem?_set]
    by_cases e : a * 4 + b = i * 4 + k
    · have : a = i ∧ b = k := by omega
      obtain ⟨rfl, rfl⟩ := this
      have hl : a * 4 + b < m.length := by omega
      simp [hl]
    · have : ¬ ((i : Int) = a ∧ (k : Int) = b) := by omega
      simp only [e, this, if_false]
  · rw [if_neg h, if_neg (fun x => h x.1)]
/-- Nobody hears itself, nobody hears the screen. -/
structure Good (m : List Bool) : Prop where
  len : m.length = 16
  self : ∀ i : Nat, i < 4 → hearsB m i i = false
  scr : ∀ i : Nat, i < 4 → hearsB m i (0 : Nat) = false
theorem Good.set {m : List Bool} (h : Good m) (to' fr : Int) (on : Bool) : Good (setB m to' fr on) := by
  refine ⟨(setB_len ..).trans h.len, fun i hi => ?_, fun i hi => ?_⟩
  · rw [hears_set h.len _ _ _ hi hi, if_neg]
    · exact h.self i hi
    · rintro ⟨h1, h2, h3⟩
      simp only [maySet, Bool.and_eq_true, Bool.not_eq_true', decide_eq_false_iff_not] at h1
      exact h1.1.2 (h2.symm.trans h3)
  · rw [hears_set h.len _ _ _ hi (by omega), if_neg]
    · exact h.scr i hi
    · rintro ⟨h1, h2, h3⟩
      simp only [maySet, Bool.and_eq_true, Bool.not_eq_true', decide_eq_false_iff_not] at h1
      exact h1.2 h3.symm
def sets (m : List Bool) (l : List Do) : List Bool := l.foldl (fun m d => setB m d.dst d.src d.on) m
theorem sets_good {m : List Bool} (h : Good m) : ∀ l, Good (sets m l)
  | [] => h
  | d :: l => sets_good (h.set ..) l
theorem sets_snoc (m : List Bool) (l : List Do) (k : Nat) (hk : k < l.length) : sets m (l.take (k + 1)) = setB (sets m (l.take k)) l[k].dst l[k].src l[k].on := by
  unfold sets
  rw [List.take_succ_eq_append_getElem hk, List.foldl_append]
  rfl
def nobody : List Bool := List.replicate 16 false
theorem nobody_good : Good nobody := by
  refine ⟨rfl, ?_, ?_⟩
  · intro i hi; have : i = 0 ∨ i = 1 ∨ i = 2 ∨ i = 3 := by omega
    rcases this with rfl | rfl | rfl | rfl <;> rfl
  · intro i hi; have : i = 0 ∨ i = 1 ∨ i = 2 ∨ i = 3 := by omega
    rcases this with rfl | rfl | rfl | rfl <;> rfl
theorem start_good : Good startB := by
  refine ⟨rfl, ?_, ?_⟩
  · intro i hi; have : i = 0 ∨ i = 1 ∨ i = 2 ∨ i = 3 := by omega
    rcases this with rfl | rfl | rfl | rfl <;> rfl
  · intro i hi; have : i = 0 ∨ i = 1 ∨ i = 2 ∨ i = 3 := by omega
    rcases this with rfl | rfl | rfl | rfl <;> rfl
theorem tk16 {m : List Bool} (h : m.length = 16) : (m.map AV.bool).take 16 = m.map AV.bool := by rw [← h, take_map_len]
theorem gv16 {m n : List Bool} (h : m.length = 16) (h' : n.length = 16) : setR (m.map AV.bool) 0 (n.map AV.bool) = n.map AV.bool := setR_all (by rw [List.length_map, List.length_map, h, h'])
theorem toL_len (m : List Bool) (fr : Int) : (toL m fr).length ≤ 4 := by
  unfold toL to4
  cases hearsB m 0 fr <;> cases hearsB m 1 fr <;> cases hearsB m 2 fr <;> cases hearsB m 3 fr <;> decide
theorem toL_mem (m : List Bool) (fr : Int) {k : Nat} (hk : k < 4) : decide ((k : Int) ∈ toL m fr) = hearsB m k fr := by
  have : k = 0 ∨ k = 1 ∨ k = 2 ∨ k = 3 := by omega
  unfold toL to4
  rcases this with rfl | rfl | rfl | rfl
  · show decide ((0 : Int) ∈ _) = hearsB m 0 fr
    cases hearsB m 0 fr <;> cases hearsB m 1 fr <;> cases hearsB m 2 fr <;> cases hearsB m 3 fr <;> decide
  · show decide ((1 : Int) ∈ _) = hearsB m 1 fr
    cases hearsB m 0 fr <;> cases hearsB m 1 fr <;> cases hearsB m 2 fr <;> cases hearsB m 3 fr <;> decide
  · show decide ((2 : Int) ∈ _) = hearsB m 2 fr
    cases hearsB m 0 fr <;> cases hearsB m 1 fr <;> cases hearsB m 2 fr <;> cases hearsB m 3 fr <;> decide
  · show decide ((3 : Int) ∈ _) = hearsB m 3 fr
    cases hearsB m 0 fr <;> cases hearsB m 1 fr <;> cases hearsB m 2 fr <;> cases hearsB m 3 fr <;> decide
def nlen (m : List Bool) : Nat → Nat
  | 0 => 0
  | k + 1 => nlen m k + (toL m k).length
theorem toL_small {m : List Bool} (h : Good m) {k : Nat} (hk : k < 4) : (toL m k).length ≤ 3 ∧ (k = 0 → (toL m k).length = 0) := by
  have a0 := h.self 0 (by omega)
  have a1 := h.self 1 (by omega)
  have a2 := h.self 2 (by omega)
  have a3 := h.self 3 (by omega)
  have b1 := h.scr 1 (by omega)
  have b2 := h.scr 2 (by omega)
  have b3 := h.scr 3 (by omega)
  have e0 : ((0 : Nat) : Int) = 0 := rfl
  have e1 : ((1 : Nat) : Int) = 1 := rfl
  have e2 : ((2 : Nat) : Int) = 2 := rfl
  have e3 : ((3 : Nat) : Int) = 3 := rfl
  simp only [e0, e1, e2, e3] at a0 a1 a2 a3 b1 b2 b3
  have : k = 0 ∨ k = 1 ∨ k = 2 ∨ k = 3 := by omega
  unfold toL
  rcases this with rfl | rfl | rfl | rfl
  · rw [e0, a0, b1, b2, b3]; decide
  · rw [e1, a1]; cases hearsB m 0 1 <;> cases hearsB m 2 1 <;> cases hearsB m 3 1 <;> decide
  · rw [e2, a2]; cases hearsB m 0 2 <;> cases hearsB m 1 2 <;> cases hearsB m 3 2 <;> decide
  · rw [e3, a3]; cases hearsB m 0 3 <;> cases hearsB m 1 3 <;> cases hearsB m 2 3 <;> decide
theorem nlen_le {m : List Bool} (h : Good m) : nlen m 4 ≤ 9 ∧ ∀ k, k < 4 → nlen m k ≤ 9 := by
  have h0 := (toL_small h (k := 0) (by omega)).2 rfl
  have h1 := (toL_small h (k := 1) (by omega)).1
  have h2 := (toL_small h (k := 2) (by omega)).1
  have h3 := (toL_small h (k := 3) (by omega)).1
  refine ⟨by simp only [nlen]; omega, fun k hk => ?_⟩
  have : k = 0 ∨ k = 1 ∨ k = 2 ∨ k = 3 := by omega
  rcases this with rfl | rfl | rfl | rfl <;> simp only [nlen] <;> omega
theorem stat_bit (m : List Bool) (to' : Int) {k : Nat} (hk : k < 4) : decide (bAnd .u8 (bShr .u8 (statusI m to') (k : Int)) 1 = 1) = hearsB m to' k := by
  have : k = 0 ∨ k = 1 ∨ k = 2 ∨ k = 3 := by omega
  unfold statusI
  rcases this with rfl | rfl | rfl | rfl
  · show _ = hearsB m to' 0
    cases hearsB m to' 0 <;> cases hearsB m to' 1 <;> cases hearsB m to' 2 <;> cases hearsB m to' 3 <;> decide
  · show _ = hearsB m to' 1
    cases hearsB m to' 0 <;> cases hearsB m to' 1 <;> cases hearsB m to' 2 <;> cases hearsB m to' 3 <;> decide
  · show _ = hearsB m to' 2
    cases hearsB m to' 0 <;> cases hearsB m to' 1 <;> cases hearsB m to' 2 <;> cases hearsB m to' 3 <;> decide
  · show _ = hearsB m to' 3
    cases hearsB m to' 0 <;> cases hearsB m to' 1 <;> cases hearsB m to' 2 <;> cases hearsB m to' 3 <;> decide
theorem stat_top (m : List Bool) (to' : Int) : bAnd .u8 (statusI m to') 240 = 64 := by
  unfold statusI
  cases hearsB m to' 0 <;> cases hearsB m to' 1 <;> cases hearsB m to' 2 <;> cases hearsB m to' 3 <;> decide
theorem to_code (tag : Nat) {k : Nat} (hk : k < 4) : callω L T 10 tag [.int .u8 (codeI k true)] [none] = some (.tup [.int .i64 k, .bool true], [none]) := by
  have e : codeI k true = 88 + k := by unfold codeI; rw [show in4 k = true from decide_eq_true (by omega)]; rfl
  have h := t_matrix_To tag (codeI k true) (by omega) (by omega)
  rw [show in4 (codeI k true - 88) = true from decide_eq_true (by omega)] at h
  rw [h, if_pos rfl, show codeI k true - 88 = k from by omega]
theorem from_code (tag : Nat) {k : Nat} (hk : k < 4) : callω L T 11 tag [.int .u8 (codeI k false)] [none] = some (.tup [.int .i64 k, .bool true], [none]) := by
  have e : codeI k false = 80 + k := by unfold codeI; rw [show in4 k = true from decide_eq_true (by omega)]; rfl
  have h := t_matrix_From tag (codeI k false) (by omega) (by omega)
  rw [show in4 (codeI k false - 80) = true from decide_eq_true (by omega)] at h
  rw [h, if_pos rfl, show codeI k false - 80 = k from by omega]

end Go.Proofs.Ythmepfidhlgemaa
