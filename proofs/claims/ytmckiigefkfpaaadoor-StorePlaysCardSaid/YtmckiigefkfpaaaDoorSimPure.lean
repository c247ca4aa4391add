/- The interpreter's operations are the model's: part 3: what touches no memory. -/
import Derived.LaidEql
import Derived.Test.YtmckiigefkfpaaaDoorSimNew
import Derived.Laws.StructEq
import Derived.ChangeKeysEq
set_option linter.unusedVariables false
set_option linter.unusedSimpArgs false
namespace Go.Sim
open Go

section
variable {P : Program} {s : S} {w : World}

theorem VR.int_inv {k : IntKind} {n : Int} {x : Value} (h : VR s (.int k n) x) : x = .int k n := by cases h; rfl
theorem VR.bool_inv {b : Bool} {x : Value} (h : VR s (.bool b) x) : x = .bool b := by cases h; rfl
theorem VR.str_inv {b : ByteArray} {x : Value} (h : VR s (.str b) x) : x = .string b := by cases h; rfl
theorem VR.agg_inv {cs : List AV} {x : Value} (h : VR s (.agg cs) x) : ∃ vs, x = .agg vs.toArray ∧ VRs s true cs vs := by cases h with | agg hv => exact ⟨_, rfl, hv⟩
theorem VR.tup_inv {cs : List AV} {x : Value} (h : VR s (.tup cs) x) : ∃ vs, x = .tuple vs.toArray ∧ VRs s false cs vs := by cases h with | tup hv => exact ⟨_, rfl, hv⟩

theorem ok_int {op : BinOp} {k : IntKind} {a b : Int} {v : AV} (t : Nat) (h : aInt op k a b = some v) (hs : op ≠ .shl) (hs' : op ≠ .shr) :
    ∃ y, (binOp op t (.int k a) (.int k b)).run P w = .ok y w ∧ VR s v y := by
  cases op <;> simp only [aInt] at h
  case shl => exact (hs rfl).elim
  case shr => exact (hs' rfl).elim
  case quo =>
    split at h
    · cases h
    · rename_i hb
      obtain rfl := Option.some.inj h
      exact ⟨_, by simp [binOp, Op.intDiv, hb], .int _ _⟩
  case rem =>
    split at h
    · cases h
    · rename_i hb
      obtain rfl := Option.some.inj h
      exact ⟨_, by simp [binOp, Op.intDiv, hb], .int _ _⟩
  all_goals first
    | (cases h; done)
    | (obtain rfl := Option.some.inj h
       first
       | exact ⟨_, by simp [binOp, Op.intArith, Op.intBits], .int _ _⟩
       | exact ⟨_, by simp [binOp, Op.intCmp], .bool _⟩)

theorem ok_shift {op : BinOp} {k k' : IntKind} {a b : Int} {v : AV} (t : Nat) (h : aShift op k a b = some v) (ho : op = .shl ∨ op = .shr) :
    ∃ y, (binOp op t (.int k a) (.int k' b)).run P w = .ok y w ∧ VR s v y := by
  unfold aShift at h
  split at h
  · cases h
  · rename_i hb
    rcases ho with rfl | rfl <;> simp only [Option.some.injEq] at h <;> subst h <;> exact ⟨_, by simp [binOp, Op.shift, hb], .int _ _⟩

theorem run_equalIn_bool (d : Nat) {t : Nat} (h : P.underlying t = some .bool) (a b : Bool) (w : World) : (Op.equalIn (d + 1) t (.bool a) (.bool b)).run P w = .ok (a == b) w := by
  simp [Op.equalIn, run_underlying h]

theorem run_equal_bool {t : Nat} (h : P.underlying t = some .bool) (a b : Bool) (w : World) : (Op.equal t (.bool a) (.bool b)).run P w = .ok (a == b) w :=
  run_equalIn_bool 9999 h a b w

theorem run_eqFields {L : Nat → Option TI} (hL : LOK P L) {d e : Nat} (ih : ∀ (t : Nat) (x y : AV) (vx vy : Value) (b : Bool), VR s x vx → VR s y vy → eqT L d t x y = some b → (Op.equalIn e t vx vy).run P w = .ok b w)
    {xs ys : List AV} {vs us : List Value} (hx : VRs s true xs vs) (hy : VRs s true ys us) : ∀ (fields : List Field) {b : Bool}, fields.all (fun f => f.name != "_") = true →
    eqFs L (eqT L d) xs ys (fields.map fun f => (f.offset, f.type)) = some b → (Op.eqFields e vs.toArray us.toArray fields).run P w = .ok b w
  | [], b, _, h => by
    simp only [List.map_nil, eqFs, Option.some.injEq] at h
    subst h
    simp [Op.eqFields]
  | f :: fs, b, hn, h => by
    simp only [List.all_cons, Bool.and_eq_true, bne_iff_ne, ne_eq] at hn
    simp only [List.map_cons, eqFs] at h
    split at h
    · cases h
    rename_i j hj
    split at h
    · rename_i a c ha hc
      obtain ⟨ya, p1, q1⟩ := run_part (hL _ _ hj) hx ha w
      obtain ⟨yc, p2, q2⟩ := run_part (hL _ _ hj) hy hc w
      simp only [Op.eqFields, if_pos hn.1, Sem.run_bind, p1, p2, Result.andThen_ok]
      split at h
      · rename_i hr
        rw [ih _ _ _ _ _ _ q1 q2 hr]
        simpa using run_eqFields hL ih hx hy fs hn.2 h
      · rename_i r hr
        rw [ih _ _ _ _ _ _ q1 q2 h]
        cases b
        · simp
        · exact absurd h hr
    · cases h
theorem run_eqElems {L : Nat → Option TI} (hL : LOK P L) {d e t : Nat} (ih : ∀ (t : Nat) (x y : AV) (vx vy : Value) (b : Bool), VR s x vx → VR s y vy → eqT L d t x y = some b → (Op.equalIn e t vx vy).run P w = .ok b w)
    {j : TI} (hj : TIOK P t j) {xs ys : List AV} {vs us : List Value} (hx : VRs s true xs vs) (hy : VRs s true ys us) : ∀ (is : List Nat) {b : Bool},
    eqEs j (eqT L d t) xs ys is = some b → (Op.eqItems e t j.size vs.toArray us.toArray is).run P w = .ok b w
  | [], b, h => by
    simp only [eqEs, Option.some.injEq] at h
    subst h
    simp [Op.eqItems]
  | k :: ks, b, h => by
    simp only [eqEs] at h
    split at h
    · rename_i a c ha hc
      obtain ⟨ya, p1, q1⟩ := run_part hj hx ha w
      obtain ⟨yc, p2, q2⟩ := run_part hj hy hc w
      simp only [Op.eqItems, Sem.run_bind, p1, p2, Result.andThen_ok]
      split at h
      · rename_i hr
        rw [ih _ _ _ _ _ _ q1 q2 hr]
        simpa using run_eqElems hL ih hj hx hy ks h
      · rename_i r hr
        rw [ih _ _ _ _ _ _ q1 q2 h]
        cases b
        · simp
        · exact absurd h hr
    · cases h
theorem eqT_ok {L : Nat → Option TI} (hL : LOK P L) : ∀ (d e : Nat), d ≤ e → ∀ (t : Nat) (x y : AV) (vx vy : Value) (b : Bool), VR s x vx → VR s y vy → eqT L d t x y = some b → (Op.equalIn e t vx vy).run P w = .ok b w
  | 0, _, _, _, _, _, _, _, _, _, _, h => by cases h
  | d + 1, 0, hle, _, _, _, _, _, _, _, _, _ => by omega
  | d + 1, e + 1, hle, t, x, y, vx, vy, b, hx, hy, h => by
    have ih := eqT_ok hL d e (by omega)
    unfold eqT at h
    split at h
    · cases h
    rename_i i hi
    obtain ⟨info, ds, z, p1, p2, p3, p4, p5, p6, p7, p8, _⟩ := hL t i hi
    split at h
    · rename_i hd
      rw [hd] at p3
      cases hx.bool_inv; cases hy.bool_inv
      cases ds <;> simp only [TDOK] at p3
      obtain rfl := Option.some.inj h
      exact run_equalIn_bool' w e t _ _ p2
    · rename_i hd
      rw [hd] at p3
      cases hx.int_inv; cases hy.int_inv
      cases ds <;> simp only [TDOK] at p3
      split at h
      · rename_i hk
        subst hk
        obtain rfl := Option.some.inj h
        exact run_equalIn_int w e t _ _ _ _ p2
      · cases h
    · rename_i hd
      rw [hd] at p3
      cases hx.str_inv; cases hy.str_inv
      cases ds <;> simp only [TDOK] at p3
      obtain rfl := Option.some.inj h
      exact run_equalIn_string w e t _ _ p2
    · rename_i fs xs ys hd
      rw [hd] at p3 p8
      obtain ⟨vs, rfl, hv⟩ := hx.agg_inv
      obtain ⟨us, rfl, hu⟩ := hy.agg_inv
      cases ds <;> simp only [TDOK] at p3
      rename_i fields
      obtain ⟨p3, _⟩ := p3
      simp only [eqOkD, eqOkB, Bool.and_eq_true, Bool.not_eq_true'] at p8
      have hf : P.fieldsOf t = fields := by simp only [Program.fieldsOf, p2]
      rw [run_equalIn_struct w e t _ _ (by rw [hf]; exact p2) p8.2.1, hf]
      rw [← p3] at h
      exact run_eqFields hL ih hv hu fields.toList p8.1 h
    · rename_i n el xs ys hd
      rw [hd] at p3 p8
      obtain ⟨vs, rfl, hv⟩ := hx.agg_inv
      obtain ⟨us, rfl, hu⟩ := hy.agg_inv
      cases ds <;> simp only [TDOK] at p3
      obtain ⟨rfl, rfl⟩ := p3
      split at h
      · rename_i j hj
        have hj' := hL _ _ hj
        obtain ⟨info', ds', z', r1, r2, r3, r4, _⟩ := hj'
        rw [run_equalIn_array w e _ _ p2 r1]
        simp only [Program.cellsOf, r1, Option.map_some, Option.getD_some, r4]
        exact run_eqElems hL ih (hL _ _ hj) hv hu _ h
      · cases h
    · cases h
theorem ok_bin {L : Nat → Option TI} (hL : LOK P L) {op : BinOp} {t : Nat} {a b v : AV} {x y : Value} (hx : VR s a x) (hy : VR s b y) (h : aBin L t op a b = some v) (ox oy : Operand) :
    ∃ z, (do eqGuard op t ox oy x y; binOp op t x y : Sem Value).run P w = .ok z w ∧ VR s v z := by
  unfold aBin at h
  split at h
  · rename_i k n k' n'
    cases hx.int_inv
    cases hy.int_inv
    have hg : (eqGuard op t ox oy (.int k n) (.int k' n')).run P w = .ok () w := by cases op <;> simp [eqGuard]
    simp only [Sem.run_bind, hg, Result.andThen_ok]
    split at h
    · exact ok_shift t h (.inl rfl)
    · exact ok_shift t h (.inr rfl)
    · rename_i h1 h2
      split at h
      · rename_i hk; subst hk; exact ok_int t h (fun e => h1 e) (fun e => h2 e)
      · cases h
  · rename_i p q
    cases hx.bool_inv
    cases hy.bool_inv
    have hg : (eqGuard op t ox oy (.bool p) (.bool q)).run P w = .ok () w := by cases op <;> simp [eqGuard]
    simp only [Sem.run_bind, hg, Result.andThen_ok]
    split at h
    · rename_i hLt
      obtain ⟨d, h1, h2, _⟩ := (hL t _ hLt).run_und
      have hb : P.underlying t = some .bool := by cases d <;> simp_all [TDOK]
      split at h
      · simp only [Option.some.injEq] at h; subst h
        exact ⟨_, by simp [binOp, run_equal_bool hb], .bool _⟩
      · simp only [Option.some.injEq] at h; subst h
        exact ⟨_, by simp [binOp, run_equal_bool hb], .bool _⟩
      · cases h
    · cases h
  · rename_i p q
    cases hx.str_inv
    cases hy.str_inv
    have hg : (eqGuard op t ox oy (.string p) (.string q)).run P w = .ok () w := by cases op <;> simp [eqGuard]
    simp only [Sem.run_bind, hg, Result.andThen_ok]
    split at h
    · simp only [Option.some.injEq] at h; subst h
      exact ⟨_, by simp [binOp, Op.stringOp], .bool _⟩
    · simp only [Option.some.injEq] at h; subst h
      exact ⟨_, by simp [binOp, Op.stringOp], .bool _⟩
    · cases h
  · rename_i xs ys
    obtain ⟨vs, rfl, hv⟩ := hx.agg_inv
    obtain ⟨us, rfl, hu⟩ := hy.agg_inv
    have key : ∀ b, eqT L 20 t (.agg xs) (.agg ys) = some b → (Op.equalIn 10000 t (.agg vs.toArray) (.agg us.toArray)).run P w = .ok b w ∧ (eqGuard op t ox oy (.agg vs.toArray) (.agg us.toArray)).run P w = .ok () w := by
      intro b hb
      refine ⟨eqT_ok hL 20 10000 (by omega) t _ _ _ _ b hx hy hb, ?_⟩
      unfold eqT at hb
      split at hb
      · cases hb
      rename_i i hi
      obtain ⟨info, ds, z, p1, p2, p3, p4, p5, p6, p7, p8, _⟩ := hL t i hi
      split at hb
      case h_4 fs xs' ys' hd _ _ =>
        rw [hd] at p3 p8
        cases ds <;> simp only [TDOK] at p3
        simp only [eqOkD, eqOkB, Bool.and_eq_true, Bool.not_eq_true'] at p8
        exact run_eqGuard_agg w op t ox oy _ _ p8.2.2
      case h_5 n el xs' ys' hd _ _ =>
        rw [hd] at p3 p8
        cases ds <;> simp only [TDOK] at p3
        simp only [eqOkD, eqOkB, Bool.not_eq_true'] at p8
        exact run_eqGuard_agg w op t ox oy _ _ p8
      all_goals first | (cases hb; done) | contradiction | (simp_all; done)
    split at h
    · cases hb : eqT L 20 t (.agg xs) (.agg ys) with
      | none => rw [hb] at h; cases h
      | some b =>
        rw [hb] at h
        obtain rfl := Option.some.inj h
        obtain ⟨k1, k2⟩ := key b hb
        refine ⟨.bool b, ?_, .bool _⟩
        simp only [Sem.run_bind, k2, Result.andThen_ok]
        rw [run_eql_struct, k1]; rfl
    · cases hb : eqT L 20 t (.agg xs) (.agg ys) with
      | none => rw [hb] at h; cases h
      | some b =>
        rw [hb] at h
        obtain rfl := Option.some.inj h
        obtain ⟨k1, k2⟩ := key b hb
        refine ⟨.bool (!b), ?_, .bool _⟩
        simp only [Sem.run_bind, k2, Result.andThen_ok]
        rw [run_neq_struct, k1]; rfl
    · cases h
  · cases h

theorem run_equalIn_ptr (d : Nat) {t e : Nat} (h : P.underlying t = some (.pointer e)) (pa pb : Option Addr) (hn : pa = none ∨ pb = none) (w : World) : (Op.equalIn (d + 1) t (.pointer pa) (.pointer pb)).run P w = .ok (pa.isNone && pb.isNone) w := by
  rcases hn with rfl | rfl
  · simp [Op.equalIn, run_underlying h]
  · cases pa <;> simp [Op.equalIn, run_underlying h]

theorem run_equal_ptr {t e : Nat} (h : P.underlying t = some (.pointer e)) (pa pb : Option Addr) (hn : pa = none ∨ pb = none) (w : World) : (Op.equal t (.pointer pa) (.pointer pb)).run P w = .ok (pa.isNone && pb.isNone) w :=
  run_equalIn_ptr 9999 h pa pb hn w

theorem run_equalIn_nil (d : Nat) {t : Nat} {ms} (h : P.underlying t = some (.interface ms)) (w : World) : (Op.equalIn (d + 1) t .nilIface .nilIface).run P w = .ok true w := by
  simp [Op.equalIn, run_underlying h]

theorem run_equal_nil {t : Nat} {ms} (h : P.underlying t = some (.interface ms)) (w : World) : (Op.equal t .nilIface .nilIface).run P w = .ok true w :=
  run_equalIn_nil 9999 h w

theorem run_equalIn_held1 (d : Nat) (w : World) {t T : Nat} {u : Value} {ms} (h : P.underlying t = some (.interface ms)) : (Op.equalIn (d + 1) t (.iface T u) .nilIface).run P w = .ok false w := by
  simp [Op.equalIn, run_underlying h]
theorem run_equalIn_held2 (d : Nat) (w : World) {t T : Nat} {u : Value} {ms} (h : P.underlying t = some (.interface ms)) : (Op.equalIn (d + 1) t .nilIface (.iface T u)).run P w = .ok false w := by
  simp [Op.equalIn, run_underlying h]
theorem run_equal_held (w : World) {t T : Nat} {u : Value} {ms} (h : P.underlying t = some (.interface ms)) : (Op.equal t (.iface T u) .nilIface).run P w = .ok false w := run_equalIn_held1 9999 w h
theorem run_equal_held' (w : World) {t T : Nat} {u : Value} {ms} (h : P.underlying t = some (.interface ms)) : (Op.equal t .nilIface (.iface T u)).run P w = .ok false w := run_equalIn_held2 9999 w h

/-- Two errors of package variables. -/
theorem run_equal_errs (hG : GlobP P s.m.gl) (hW : GlobS s) {t : Nat} {ms} (h : P.underlying t = some (.interface ms)) {g g' : Nat} {x y : Value} (hx : VR s (.err g) x) (hy : VR s (.err g') y) : (Op.equal t x y).run P s.w = .ok (decide (g = g')) s.w := by
  cases hx with
  | err ha =>
  obtain ⟨T, te, i, j, h1, h2, h3, h4, h5, hs⟩ := hG.shape _ _ ha
  cases hy with
  | err hb =>
  obtain ⟨a', ea⟩ := hs _ _ ha
  obtain ⟨b', eb⟩ := hs _ _ hb
  cases ea
  cases eb
  by_cases e : g = g'
  · subst e
    rw [ha] at hb
    cases hb
    rw [decide_eq_true rfl]
    exact run_equalIn_iface_ptr_same s.w 9998 _ h h1 h2 h3 h4
  · rw [decide_eq_false e]
    obtain ⟨ca, ta, qa⟩ := (hW _ _ ha).2 _ _ rfl
    obtain ⟨cb, tb, qb⟩ := (hW _ _ hb).2 _ _ rfl
    exact run_equalIn_iface_ptr_other s.w 9998 h h1 h2 h3 h4 (by omega) (fun q => e (hG.inj _ _ _ ha (by rw [q]; exact hb))) qa qb

theorem nilCmp_ok (hG : GlobP P s.m.gl) (hW : GlobS s) {c i b : Bool} {a a' : AV} {x y : Value} (hx : VR s a x) (hy : VR s a' y) (h : nilCmp c a a' = some (i, b)) :
    (i = false ∧ ∃ pa pb : Option Addr, x = .pointer pa ∧ y = .pointer pb ∧ (pa = none ∨ pb = none) ∧ b = (pa.isNone && pb.isNone)) ∨ (i = true ∧ x = .nilIface ∧ y = .nilIface ∧ b = true ∧ c = true) ∨
    (i = true ∧ ((∃ T u, x = .iface T u ∧ y = .nilIface) ∨ (∃ T u, x = .nilIface ∧ y = .iface T u) ∨ (∃ T u T' u', x = .iface T u ∧ y = .iface T' u')) ∧ ∀ t ms, P.underlying t = some (.interface ms) → (Op.equal t x y).run P s.w = .ok b s.w) := by
  unfold nilCmp at h
  split at h
  · simp only [Option.some.injEq, Prod.mk.injEq] at h
    obtain ⟨rfl, rfl⟩ := h
    cases hx; cases hy
    exact .inl ⟨rfl, none, none, rfl, rfl, .inl rfl, rfl⟩
  · simp only [Option.some.injEq, Prod.mk.injEq] at h
    obtain ⟨rfl, rfl⟩ := h
    cases hx; cases hy
    exact .inl ⟨rfl, _, none, rfl, rfl, .inr rfl, rfl⟩
  · simp only [Option.some.injEq, Prod.mk.injEq] at h
    obtain ⟨rfl, rfl⟩ := h
    cases hx; cases hy
    exact .inl ⟨rfl, _, none, rfl, rfl, .inr rfl, rfl⟩
  · simp only [Option.some.injEq, Prod.mk.injEq] at h
    obtain ⟨rfl, rfl⟩ := h
    cases hx; cases hy
    exact .inl ⟨rfl, none, _, rfl, rfl, .inl rfl, rfl⟩
  · simp only [Option.some.injEq, Prod.mk.injEq] at h
    obtain ⟨rfl, rfl⟩ := h
    cases hx; cases hy
    exact .inl ⟨rfl, none, _, rfl, rfl, .inl rfl, rfl⟩
  · cases c with
    | false => simp at h
    | true =>
      simp only [if_true, Option.some.injEq, Prod.mk.injEq] at h
      obtain ⟨rfl, rfl⟩ := h
      cases hx; cases hy
      exact .inr (.inl ⟨rfl, rfl, rfl, rfl, rfl⟩)
  · simp only [Option.some.injEq, Prod.mk.injEq] at h
    obtain ⟨rfl, rfl⟩ := h
    cases hx; cases hy
    exact .inr (.inr ⟨rfl, .inl ⟨_, _, rfl, rfl⟩, fun t ms h => run_equal_held s.w h⟩)
  · simp only [Option.some.injEq, Prod.mk.injEq] at h
    obtain ⟨rfl, rfl⟩ := h
    cases hx; cases hy
    exact .inr (.inr ⟨rfl, .inr (.inl ⟨_, _, rfl, rfl⟩), fun t ms h => run_equal_held' s.w h⟩)
  · simp only [Option.some.injEq, Prod.mk.injEq] at h
    obtain ⟨rfl, rfl⟩ := h
    refine .inr (.inr ⟨rfl, .inr (.inr ?_), fun t ms h => run_equal_errs hG hW h hx hy⟩)
    cases hx; cases hy
    exact ⟨_, _, _, _, rfl, rfl⟩
  · cases h

theorem ok_binN (hG : GlobP P s.m.gl) (hW : GlobS s) {L : Nat → Option TI} (hL : LOK P L) {op : BinOp} {t : Nat} {a b v : AV} {x y : Value} (hx : VR s a x) (hy : VR s b y) (ox oy : Operand) (h : aBinN L t op (isConstO ox || isConstO oy) a b = some v) :
    ∃ z, (do eqGuard op t ox oy x y; binOp op t x y : Sem Value).run P s.w = .ok z s.w ∧ VR s v z := by
  unfold aBinN at h
  split at h
  · rename_i i b hn
    have key : ∃ r : Bool, ((op = .eql ∧ r = b) ∨ (op = .neq ∧ r = !b)) ∧ v = .bool r ∧ ((i = false ∧ ∃ e, P.underlying t = some (.pointer e)) ∨ (i = true ∧ ∃ ms, P.underlying t = some (.interface ms))) := by
      unfold nilOp at h
      split at h
      · rename_i j hj
        obtain ⟨d, q1, q2, _⟩ := (hL t j hj).run_und
        split at h
        all_goals first
          | (rename_i he; simp only [Option.some.injEq] at h; subst h; rw [he] at q1; cases d <;> simp only [TDOK] at q1; first
              | exact ⟨_, .inl ⟨rfl, rfl⟩, rfl, .inl ⟨rfl, _, q2⟩⟩
              | exact ⟨_, .inl ⟨rfl, rfl⟩, rfl, .inr ⟨rfl, _, q2⟩⟩
              | exact ⟨_, .inr ⟨rfl, rfl⟩, rfl, .inl ⟨rfl, _, q2⟩⟩
              | exact ⟨_, .inr ⟨rfl, rfl⟩, rfl, .inr ⟨rfl, _, q2⟩⟩)
          | cases h
      · cases h
    obtain ⟨r, hop, rfl, hty⟩ := key
    refine ⟨.bool r, ?_, .bool _⟩
    rcases nilCmp_ok hG hW hx hy hn with ⟨rfl, pa, pb, rfl, rfl, h1, rfl⟩ | ⟨rfl, rfl, rfl, rfl, hc⟩ | ⟨rfl, hsh, hq⟩
    · obtain ⟨e, he⟩ := (hty.resolve_right (fun q => by cases q.1)).2
      have hq := run_equal_ptr he pa pb h1 s.w
      rcases hop with ⟨rfl, rfl⟩ | ⟨rfl, rfl⟩ <;> simp [eqGuard, binOp, hq]
    · obtain ⟨ms, he⟩ := (hty.resolve_left (fun q => by cases q.1)).2
      have hq := run_equal_nil he s.w
      clear hn h
      rcases hop with ⟨rfl, rfl⟩ | ⟨rfl, rfl⟩ <;> cases ox <;> cases oy <;> first | (simp [isConstO] at hc; done) | simp [eqGuard, binOp, hq]
    · obtain ⟨ms, he⟩ := (hty.resolve_left (fun q => by cases q.1)).2
      have hq := hq t ms he
      clear hn h
      rcases hsh with ⟨T, u, rfl, rfl⟩ | ⟨T, u, rfl, rfl⟩ | ⟨T, u, T', u', rfl, rfl⟩ <;> rcases hop with ⟨rfl, rfl⟩ | ⟨rfl, rfl⟩ <;> simp [eqGuard, binOp, hq]
  · exact ok_bin hL hx hy h ox oy

theorem ok_as (hG : GlobP P s.m.gl) {L : Nat → Option TI} (hL : LOK P L) {t xT : Nat} {ok : Bool} {a v : AV} {x : Value} (hx : VR s a x) (h : aAs L t ok a = some v) : ∃ z, (Instr.typeAssert x xT t ok).run P w = .ok z w ∧ VR s v z := by
  have key : ∀ (h : aAsT L t ok = some v), ∃ i e j, ok = true ∧ P.underlying t = some (.pointer e) ∧ TIOK P e j ∧ j.size ≠ 1 ∧ TIOK P t i ∧ v = .tup [i.zeroAV, .bool false] := by
    intro h
    unfold aAsT at h
    cases ok with
    | false => simp at h
    | true =>
      cases hi : L t with
      | none => simp [hi] at h
      | some i =>
        simp only [hi] at h
        split at h
        · rename_i e hd
          cases hj : L e with
          | none => simp [hj] at h
          | some j =>
            simp only [hj] at h
            split at h
            · cases h
            · rename_i hne
              have hI := hL t i hi
              obtain ⟨info, d, z, _, h2, h3, _⟩ := hL t i hi
              rw [hd] at h3
              cases d <;> simp only [TDOK] at h3
              subst h3
              exact ⟨i, e, j, rfl, h2, hL e j hj, fun q => hne (by rw [q]; rfl), hI, (Option.some.inj h).symm⟩
        · cases h
  unfold aAs at h
  split at h
  · obtain ⟨i, e, j, rfl, h1, h2, h3, h4, rfl⟩ := key h
    cases hx with
    | err ha =>
    obtain ⟨T, te, i', j', q1, q2, q3, q4, q5, hs⟩ := hG.shape _ _ ha
    obtain ⟨a', ea⟩ := hs _ _ ha
    obtain ⟨z, k1, k2⟩ := h4.run_zeroAV s
    have hne : ¬ T = t := by
      intro eT
      rw [eT, h1] at q1
      cases q1
      obtain ⟨info, d, z, g1, _, _, g4, _⟩ := h2
      rw [q4] at g1
      cases g1
      omega
    cases ea
    exact ⟨.tuple #[z, .bool false], by simp [Instr.typeAssert, run_underlying h1, hne, k2], .tup (vs := [z, .bool false]) (.cons (fun e => by cases e) k1 (.cons (fun e => by cases e) (.bool _) (.nil _)))⟩
  · obtain ⟨i, e, j, rfl, h1, h2, h3, h4, rfl⟩ := key h
    cases hx
    obtain ⟨z, k1, k2⟩ := h4.run_zeroAV s
    exact ⟨.tuple #[z, .bool false], by simp [Instr.typeAssert, run_underlying h1, k2], .tup (vs := [z, .bool false]) (.cons (fun e => by cases e) k1 (.cons (fun e => by cases e) (.bool _) (.nil _)))⟩
  · cases h

theorem ok_un {op : UnOp} {a v : AV} {x : Value} (hx : VR s a x) (h : aUn op a = some v) : ∃ z, (Op.unary op x).run P w = .ok z w ∧ VR s v z := by
  unfold aUn at h
  split at h
  · cases hx.int_inv
    simp only [aInt, Option.some.injEq] at h; subst h
    exact ⟨_, by simp [Op.unary, Op.intArith], .int _ _⟩
  · cases hx.int_inv
    simp only [aInt, Option.some.injEq] at h; subst h
    exact ⟨_, by simp [Op.unary, Op.intBits], .int _ _⟩
  · cases hx.bool_inv
    simp only [Option.some.injEq] at h; subst h
    exact ⟨_, by simp [Op.unary], .bool _⟩
  · cases h

/-! ## parts, places -/

theorem fieldOf_ok {L : Nat → Option TI} (hL : LOK P L) {t f o : Nat} {j : TI} (h : fieldOf L t f = some (o, j)) :
    ∃ fs fd, P.underlying t = some (.struct fs) ∧ fs[f]? = some fd ∧ fd.offset = o ∧ TIOK P fd.type j := by
  unfold fieldOf at h
  cases hi : L t with
  | none => simp [hi] at h
  | some i =>
    simp only [hi, Option.bind_eq_bind, Option.bind_some] at h
    split at h
    · rename_i fs hd
      cases hf : fs[f]? with
      | none => simp [hf] at h
      | some p =>
        obtain ⟨o', ty⟩ := p
        simp only [hf, Option.bind_some] at h
        cases hj : L ty with
        | none => simp [hj] at h
        | some j' =>
          simp only [hj, Option.bind_some, Option.some.injEq, Prod.mk.injEq] at h
          obtain ⟨rfl, rfl⟩ := h
          obtain ⟨d, h1, h2, h9⟩ := (hL t i hi).run_und
          clear h9
          rw [hd] at h1
          cases d <;> simp only [TDOK] at h1
          rename_i fields
          obtain ⟨h1, _⟩ := h1
          subst h1
          rw [List.getElem?_map] at hf
          cases hg : fields.toList[f]? with
          | none => simp [hg] at hf
          | some fd =>
            simp only [hg, Option.map_some, Option.some.injEq, Prod.mk.injEq] at hf
            exact ⟨fields, fd, h2, by simpa using hg, hf.1, by rw [hf.2]; exact hL ty _ hj⟩
    · cases h

theorem ok_field {L : Nat → Option TI} (hL : LOK P L) {t f o : Nat} {j : TI} (hf : fieldOf L t f = some (o, j)) {cs : List AV} {x : Value} (hx : VR s (.agg cs) x) {v : AV} (hr : rdCells j cs o = some v) :
    ∃ y, (Instr.field t x f).run P w = .ok y w ∧ VR s v y := by
  obtain ⟨fs, fd, h1, h2, h3, h4⟩ := fieldOf_ok hL hf
  obtain ⟨vs, rfl, hv⟩ := hx.agg_inv
  obtain ⟨y, g1, g2⟩ := run_part (P := P) h4 hv hr w
  refine ⟨y, ?_, g2⟩
  subst h3
  simp [Instr.field, run_underlying h1, h2, asAgg, g1]

theorem run_fieldPlace {j : TI} {fd : Field} (h : TIOK P fd.type j) (h0 : j.size ≠ 0) (ad : Addr) : (fieldPlace ad fd).run P w = .ok (ad.add fd.offset) w := by
  simp [fieldPlace, h.run_size, h0]

theorem Reads.drop {a : Addr} {vs : List Value} (h : Reads s a vs) (n : Nat) : Reads s ⟨a.block, a.off + n, none⟩ (vs.drop n) := fun k v hk => by
  rw [List.getElem?_drop] at hk
  simpa [Nat.add_assoc] using h _ v hk

/-- An address moved on. -/
theorem VR.ref_add {k : Nat} {σ : Nat × Nat} {o : Nat} {x : Value} (h : VR s (.ref k σ o) x) : ∃ b o', x = .pointer (some ⟨b, o', none⟩) ∧ ∀ n, VR s (.ref k σ (o + n)) (.pointer (some ⟨b, o' + n, none⟩)) := by
  cases h with
  | ref hok hl =>
    exact ⟨_, _, rfl, fun n => .ref hok fun blk hb hst => by obtain ⟨h1, h2⟩ := hl blk hb hst; exact ⟨h1, by omega⟩⟩

theorem VR.ipt_add {cells : List AV} {x : Value} (h : VR s (.ipt cells) x) : ∃ b o, x = .pointer (some ⟨b, o, none⟩) ∧ ∀ n, VR s (.ipt (cells.drop n)) (.pointer (some ⟨b, o + n, none⟩)) := by
  obtain ⟨a, vs, rfl, hr, hv⟩ := h.ipt_inv
  exact ⟨_, _, rfl, fun n => .ipt rfl (hr.drop n) (hv.drop n)⟩

theorem ok_fieldAddr {L : Nat → Option TI} (hL : LOK P L) {t f o : Nat} {j : TI} (hf : fieldOf L t f = some (o, j)) (h0 : j.size ≠ 0) {b k : Nat} :
    (Instr.fieldAt t (.pointer (some ⟨b, k, none⟩)) f).run P w = .ok (.pointer (some ⟨b, k + o, none⟩)) w := by
  obtain ⟨fs, fd, h1, h2, h3, h4⟩ := fieldOf_ok hL hf
  subst h3
  simp [Instr.fieldAt, run_underlying h1, h2, Instr.sureAddr, run_fieldPlace h4 h0, addr_add]

theorem arrBy {L : Nat → Option TI} (hL : LOK P L) {t n e : Nat} {i : TI} (h : L t = some i) (hd : i.desc = .arr n e) : P.underlying t = some (.array n e) := by
  obtain ⟨d, h1, h2, _⟩ := (hL t i h).run_und
  rw [hd] at h1
  cases d <;> simp_all [TDOK]

theorem strBy {L : Nat → Option TI} (hL : LOK P L) {t : Nat} {i : TI} (h : L t = some i) (hd : i.desc = .str) : P.underlying t = some .string := by
  obtain ⟨d, h1, h2, _⟩ := (hL t i h).run_und
  rw [hd] at h1
  cases d <;> simp_all [TDOK]

theorem intBy {L : Nat → Option TI} (hL : LOK P L) {t : Nat} {i : TI} {k : IntKind} (h : L t = some i) (hd : i.desc = .int k) : P.underlying t = some (.int k) := by
  obtain ⟨d, h1, h2, _⟩ := (hL t i h).run_und
  rw [hd] at h1
  cases d <;> simp_all [TDOK]

theorem slElem_ok {L : Nat → Option TI} (hL : LOK P L) {t : Nat} {j : TI} (h : slElem L t = some j) : ∃ e i, L t = some i ∧ i.desc = .slice e ∧ P.underlying t = some (.slice e) ∧ TIOK P e j := by
  unfold slElem at h
  cases hi : L t with
  | none => simp [hi] at h
  | some i =>
    simp only [hi, Option.bind_eq_bind, Option.bind_some] at h
    split at h
    · rename_i e hd
      exact ⟨e, i, rfl, hd, sliceBy (hL t i hi) hd, hL e j h⟩
    · cases h

theorem asInt_ok {a : AV} {n : Int} {x : Value} (hx : VR s a x) (h : asInt? a = some n) : ∃ k, x = .int k n := by
  unfold asInt? at h
  split at h
  · cases h; exact ⟨_, hx.int_inv⟩
  · cases h

theorem run_indexAt_arr {t n e : Nat} {j : TI} (hu : P.underlying t = some (.array n e)) (hj : TIOK P e j) (kk : IntKind) (k : Int) (h0 : 0 ≤ k) (h1 : k < n) (b o : Nat) :
    (Instr.indexAt t (.pointer (some ⟨b, o, none⟩)) (.int kk k)).run P w = .ok (.pointer (some ⟨b, o + k.toNat * j.size, none⟩)) w := by
  simp [Instr.indexAt, asIntOf, run_underlying hu, Instr.sureAddr, h0, h1, hj.run_size, addr_add]

theorem run_indexAt_slice {t e : Nat} {j : TI} (hu : P.underlying t = some (.slice e)) (hj : TIOK P e j) (kk : IntKind) (k : Int) (h0 : 0 ≤ k) (n cap : Nat) (h1 : k < n) (ad : Addr) :
    (Instr.indexAt t (.slice (some ad) n cap) (.int kk k)).run P w = .ok (.pointer (some (ad.add (k.toNat * j.size)))) w := by
  simp [Instr.indexAt, asIntOf, run_underlying hu, h0, h1, hj.run_size]

theorem ok_index_arr {t n e : Nat} {j : TI} (hu : P.underlying t = some (.array n e)) (hj : TIOK P e j) {cs : List AV} {x : Value} (hx : VR s (.agg cs) x) (kk : IntKind) (k : Int) (h0 : 0 ≤ k) (h1 : k < n)
    {v : AV} (hr : rdCells j cs (k.toNat * j.size) = some v) : ∃ y, (Instr.index t x (.int kk k)).run P w = .ok y w ∧ VR s v y := by
  obtain ⟨vs, rfl, hv⟩ := hx.agg_inv
  obtain ⟨y, g1, g2⟩ := run_part (P := P) hj hv hr w
  exact ⟨y, by simp [Instr.index, asIntOf, run_underlying hu, h0, h1, hj.run_size, g1], g2⟩

theorem ok_index_str {t : Nat} (hu : P.underlying t = some .string) {b : ByteArray} (kk : IntKind) (k : Int) (h0 : 0 ≤ k) {u : UInt8} (hb : b[k.toNat]? = some u) :
    (Instr.index t (.string b) (.int kk k)).run P w = .ok (.int .u8 u.toNat) w := by
  simp [Instr.index, asIntOf, run_underlying hu, h0, hb]

theorem run_bound (kk : IntKind) (k : Int) (y : Nat) (code : BoundsCode) (h0 : 0 ≤ k) (h1 : k ≤ y) : (Instr.sliceBound (.int kk k) y code).run P w = .ok k.toNat w := run_sliceBound w kk k y code h0 h1

/-- The bounds of 'x[lo:hi]'. -/
theorem ok_bounds (isSl : Bool) (len cap : Nat) (hlc : len ≤ cap) {lo hi : Option AV} {xl xh : Option Value} {l h : Int}
    (hlo : ∀ a, lo = some a → ∃ k n, xl = some (.int k n) ∧ asInt? a = some n) (hlo' : lo = none → xl = none)
    (hhi : ∀ a, hi = some a → ∃ k n, xh = some (.int k n) ∧ asInt? a = some n) (hhi' : hi = none → xh = none)
    (el : bnd 0 lo = some l) (eh : bnd len hi = some h)
    (h0 : 0 ≤ l) (h1 : l ≤ h) (h2 : h ≤ len) :
    (Instr.sliceBounds isSl len cap xl xh none).run P w = .ok (l.toNat, h.toNat, cap) w := by
  have bh : ∀ (kk : IntKind) (code : BoundsCode), (Instr.sliceBound (.int kk h) cap code).run P w = .ok h.toNat w := fun kk code => run_bound kk h cap code (by omega) (by omega)
  have bl : ∀ (kk : IntKind) (code : BoundsCode), (Instr.sliceBound (.int kk l) h.toNat code).run P w = .ok l.toNat w := fun kk code => run_bound kk l h.toNat code h0 (by omega)
  cases lo with
  | none =>
    simp only [bnd, Option.some.injEq] at el
    rw [hlo' rfl]
    cases hi with
    | none =>
      simp only [bnd, Option.some.injEq] at eh
      rw [hhi' rfl]
      subst el eh
      simp [Instr.sliceBounds]
    | some ah =>
      obtain ⟨kh, nh, e1, e2⟩ := hhi ah rfl
      simp only [bnd, e2, Option.some.injEq] at eh
      subst e1 eh el
      simp [Instr.sliceBounds, bh]
  | some al =>
    obtain ⟨kl, nl, e3, e4⟩ := hlo al rfl
    simp only [bnd, e4, Option.some.injEq] at el
    subst e3 el
    cases hi with
    | none =>
      simp only [bnd, Option.some.injEq] at eh
      rw [hhi' rfl]
      subst eh
      have := bl kl .sliceB
      simp only [Int.toNat_natCast] at this
      simp [Instr.sliceBounds, this]
    | some ah =>
      obtain ⟨kh, nh, e1, e2⟩ := hhi ah rfl
      simp only [bnd, e2, Option.some.injEq] at eh
      subst e1 eh
      simp [Instr.sliceBounds, bh, bl]

end

end Go.Sim
