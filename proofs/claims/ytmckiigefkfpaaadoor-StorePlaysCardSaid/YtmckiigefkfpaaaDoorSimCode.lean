/- The interpreter is the model's: regions, code. -/
import Derived.Test.YtmckiigefkfpaaaDoorSimTurn
set_option linter.unusedVariables false
set_option linter.unusedSimpArgs false
namespace Go.Sim
open Go

/-! ## rounds of a loop -/

theorem loopF_more {f : St → Option (Ex × St)} : ∀ {n : Nat} {st : St} {r : Ex × St}, loopF f n st = some r → loopF f (n + 1) st = some r
  | 0, st, r, h => by simp [loopF] at h
  | n + 1, st, r, h => by
    unfold loopF at h ⊢
    cases hf : f st with
    | none => rw [hf] at h; cases h
    | some p =>
      obtain ⟨e, s⟩ := p
      rw [hf] at h
      cases e with
      | normal => exact loopF_more h
      | exit id => exact h
      | ret => exact h

theorem loopF_le {f : St → Option (Ex × St)} {n n' : Nat} {st : St} {r : Ex × St} (h : loopF f n st = some r) (hn : n ≤ n') : loopF f n' st = some r := by
  induction n' with
  | zero => have : n = 0 := by omega
            subst this; exact h
  | succ k ih =>
    by_cases e : n = k + 1
    · subst e; exact h
    · exact loopF_more (ih (by omega))

theorem loopω_of {f : St → Option (Ex × St)} {n : Nat} {st : St} {r : Ex × St} (h : loopF f n st = some r) : loopω f st = some r := by
  have hx : ∃ n, (loopF f n st).isSome := ⟨n, by rw [h]; rfl⟩
  unfold loopω
  rw [dif_pos hx]
  obtain ⟨q, hq⟩ := Option.isSome_iff_exists.1 hx.choose_spec
  have h1 := loopF_le h (Nat.le_max_left n hx.choose)
  have h2 := loopF_le hq (Nat.le_max_right n hx.choose)
  rw [h1] at h2
  rw [hq, ← h2]

theorem of_loopω {f : St → Option (Ex × St)} {st : St} {r : Ex × St} (h : loopω f st = some r) : ∃ n, loopF f n st = some r := by
  unfold loopω at h
  split at h
  · rename_i hx; exact ⟨_, h⟩
  · cases h

theorem loopω_eq (f : St → Option (Ex × St)) (st : St) : loopω f st = match f st with | some (.normal, st') => loopω f st' | r => r := by
  cases hl : loopω f st with
  | some r =>
    obtain ⟨n, hn⟩ := of_loopω hl
    cases n with
    | zero => simp [loopF] at hn
    | succ n =>
      unfold loopF at hn
      cases hf : f st with
      | none => rw [hf] at hn; cases hn
      | some p =>
        obtain ⟨e, s⟩ := p
        rw [hf] at hn
        cases e with
        | normal => exact (loopω_of hn).symm
        | exit id => exact hn.symm
        | ret => exact hn.symm
  | none =>
    have key : ∀ r, (match f st with | some (.normal, st') => loopω f st' | r => r) ≠ some r := by
      intro r h
      cases hf : f st with
      | none => rw [hf] at h; cases h
      | some p =>
        obtain ⟨e, s⟩ := p
        rw [hf] at h
        cases e with
        | normal =>
          obtain ⟨n, hn⟩ := of_loopω h
          have : loopF f (n + 1) st = some r := by unfold loopF; rw [hf]; exact hn
          rw [loopω_of this] at hl; cases hl
        | exit id =>
          have : loopF f 1 st = some r := by unfold loopF; rw [hf]; exact h
          rw [loopω_of this] at hl; cases hl
        | ret =>
          have : loopF f 1 st = some r := by unfold loopF; rw [hf]; exact h
          rw [loopω_of this] at hl; cases hl
    cases hm : (match f st with | some (.normal, st') => loopω f st' | r => r) with
    | none => rfl
    | some r => exact (key r hm).elim

section
variable {P : Program} {c : Cx} {nt : Nat} {st : St} {a : Act} {w : World} {m : Mp} {L : Nat → Option TI} {K : Ann} {Γ : Oracle}

theorem denOps_wp (hnt : K.nt ≤ 500000) (hL : LOK P L) (hΓ : OracleOK P Γ) (hG : GlobK P K c) {ops : List Oper} {Q : Exit → Act → World → Prop} {st' : St} : ∀ (l : List Oper) (st : St) (a : Act) (w : World) (m : Mp), RelM c K.nt st a w m → denOps L K Γ ops l st = some st' →
    (∀ a' w' m', RelM c K.nt st' a' w' m' → Q .normal a' w') → wpList P ops.toArray Q l a w
  | [], st, a, w, m, h, hd, hq => by
    simp only [denOps, Option.some.injEq] at hd
    subst hd
    exact hq a w m h
  | o :: l, st, a, w, m, h, hd, hq => by
    simp only [denOps] at hd
    cases h1 : denOper L K Γ ops o st with
    | none => rw [h1] at hd; cases hd
    | some st1 =>
      rw [h1] at hd
      simp only [Option.bind_some] at hd
      unfold denOper at h1
      split at h1
      · rename_i hlt
        cases hr : runs ops st o with
        | none => rw [hr] at h1; cases h1
        | some b =>
          have hw := runs_ok h hr
          rw [hr] at h1
          unfold wpList
          cases b with
          | true =>
            rw [if_pos hw]
            simp only at h1
            cases hop : denOp L K Γ st (o.dst.getD 0) o.type o.op with
            | none => rw [hop] at h1; cases h1
            | some p =>
              obtain ⟨v, st2⟩ := p
              rw [hop] at h1
              simp only [Option.map_some, Option.some.injEq] at h1
              subst h1
              refine .inl (denOp_goes hL hΓ hG h rfl hop (Nat.lt_of_lt_of_le hlt hnt) _ _ fun y w' m' hR hV => ?_)
              exact denOps_wp hnt hL hΓ hG l _ _ _ m' (hR.put hlt hV) hd hq
          | false =>
            rw [if_neg (by rw [hw]; simp)]
            simp only [Option.some.injEq] at h1
            subst h1
            exact denOps_wp hnt hL hΓ hG l _ _ _ m (h.put hlt (.tup (vs := []) (.nil _))) hd hq
      · cases h1

theorem RelM.sub (h : RelM c nt st a w m) {env : List (Nat × AV)} (he : ∀ k v, aget k env = some v → aget k st.env = some v) : RelM c nt { st with env := env } a w m :=
  ⟨h.defers, h.size, h.next1, h.mB, fun k v hk => h.env k v (he k v hk), h.pres, h.blk, h.apart⟩

theorem tidy_get (cross : List Nat) : ∀ (ops : List Oper) (st : St), (tidy cross ops st).heap = st.heap ∧ (tidy cross ops st).next = st.next ∧ (tidy cross ops st).tag = st.tag ∧ ∀ k v, aget k (tidy cross ops st).env = some v → aget k st.env = some v
  | [], st => ⟨rfl, rfl, rfl, fun _ _ h => h⟩
  | o :: l, st => by
    simp only [tidy]
    have := tidy_get cross l (match o.dst with
      | some d => if cross.contains d then st else { st with env := adel d st.env }
      | none => st)
    obtain ⟨h1, h2, h3, h4⟩ := this
    cases hd : o.dst with
    | none => rw [hd] at h1 h2 h3 h4; exact ⟨h1, h2, h3, h4⟩
    | some d =>
      rw [hd] at h1 h2 h3 h4
      simp only at h1 h2 h3 h4 ⊢
      by_cases hc : cross.contains d = true
      · rw [if_pos hc] at h1 h2 h3 h4; simp only [hc, if_true]; exact ⟨h1, h2, h3, h4⟩
      · rw [if_neg hc] at h1 h2 h3 h4
        rw [if_neg hc]
        refine ⟨h1, h2, h3, fun k v hk => ?_⟩
        have := h4 k v hk
        simp only [aget_adel] at this
        split at this
        · cases this
        · exact this

theorem RelM.tidy (h : RelM c nt st a w m) (cross : List Nat) (ops : List Oper) : RelM c nt (Sim.tidy cross ops st) a w m := by
  obtain ⟨h1, h2, h3, h4⟩ := tidy_get cross ops st
  have := h.sub h4
  have e : Sim.tidy cross ops st = { st with env := (Sim.tidy cross ops st).env } := by
    cases hx : Sim.tidy cross ops st
    rw [hx] at h1 h2 h3
    simp only at h1 h2 h3
    rw [h1, h2, h3]
  rw [e]; exact this

theorem RelM.trim (h : RelM c nt st a w m) (hd : Option (Nat × List Nat × List Nat)) : RelM c nt (Sim.trim hd st) a w m := by
  unfold Sim.trim
  cases hd with
  | none => exact h
  | some p =>
    obtain ⟨r, slots, sites⟩ := p
    simp only
    have hsub : ∀ k b, aget k ((sites.filterMap fun k => (aget k st.heap).map (k, ·)) ++ st.heap.filter fun p => keepKey sites p.1) = some b → aget k st.heap = some b := fun k b hk => by
      rw [aget_append] at hk
      cases h1 : aget k (sites.filterMap fun k => (aget k st.heap).map (k, ·)) with
      | none => rw [h1, Option.none_or] at hk; exact aget_filter k (keepKey sites) st.heap hk
      | some v => rw [h1, Option.some_or] at hk; rw [← hk]; exact aget_pick k sites st.heap h1
    have hl : Later (At st w m) ⟨w, (sites.filterMap fun k => (aget k st.heap).map (k, ·)) ++ st.heap.filter fun p => keepKey sites p.1, m, st.tag, st.next⟩ := by
      refine ⟨Pres.refl _ _, fun b o _ ho => ?_, fun k b hk _ => ⟨b, hsub k b hk, rfl, rfl, rfl, rfl⟩, fun _ x => x, fun _ _ _ x => .inr x, rfl⟩
      obtain ⟨k, blk, h1, h2⟩ := ho
      exact ⟨k, blk, hsub k blk h1, h2⟩
    refine ⟨h.defers, h.size, h.next1, h.mB, fun k v hk => (h.env k v (aget_pick k slots st.env hk)).move hl (.inl (Nat.le_refl _)), h.pres, fun k b hk => ?_, fun k j b b' hkj hk hj => h.apart k j b b' hkj (hsub k b hk) (hsub j b' hj)⟩
    exact (h.blk k b (hsub k b hk)).keep hl rfl rfl rfl (Nat.le_refl _) (fun cs e fr hc => ⟨cs, hc, rfl, fun _ _ _ => rfl⟩) fun es n hc _ _ => hc

/-! ## code -/

def Ex.is : Ex → Exit → Prop
  | .normal, .normal => True
  | .exit i, .exit j => i = j
  | .ret, .ret => True
  | _, _ => False

/-- Where the code ends. -/
def Ends (c : Cx) (nt : Nat) (e : Ex) (st' : St) : Exit → Act → World → Prop := fun x a' w' => e.is x ∧ ∃ m', RelM c nt st' a' w' m'

theorem den_wp (hnt : K.nt ≤ 500000) (hm : P.follows .mixedOrders = true) (hL : LOK P L) (hΓ : OracleOK P Γ) (hG : GlobK P K c) : ∀ (code : Code), drawsOk L K code = true → ∀ (st : St) (a : Act) (w : World) (m : Mp) (e : Ex) (st' : St), RelM c K.nt st a w m → den loopω L K Γ code st = some (e, st') →
    code.wp P (Ends c K.nt e st') a w := by
  intro code
  induction code with
  | skip =>
    intro _ st a w m e st' h hd
    simp only [den, Option.some.injEq, Prod.mk.injEq] at hd
    obtain ⟨rfl, rfl⟩ := hd
    exact wp_skip ⟨trivial, m, h⟩
  | region id ops draw =>
    intro hk st a w m e st' h hd
    simp only [den] at hd
    cases hs : denOps L K Γ ops.toList ops.toList st with
    | none => rw [hs] at hd; cases hd
    | some st1 =>
      rw [hs] at hd
      simp only [Option.map_some, Option.some.injEq, Prod.mk.injEq] at hd
      obtain ⟨rfl, rfl⟩ := hd
      cases draw with
      | false =>
        refine wp_region_list ?_
        have := denOps_wp (P := P) (c := c) (Q := Ends c K.nt .normal (Sim.tidy K.cross ops.toList st1)) hnt hL hΓ hG ops.toList st a w m h hs (fun a' w' m' hR => ⟨trivial, m', hR.tidy _ _⟩)
        simpa using this
      | true =>
        simp only [drawsOk, Bool.not_true, Bool.false_or] at hk
        have := region_any (Q := Ends c K.nt .normal (Sim.tidy K.cross ops.toList st1)) (id := id) (ops := ops.toList) hnt hm hL hΓ hG (by simpa using hk) h hs (fun a' w' m' hR => ⟨trivial, m', hR.tidy _ _⟩)
        simpa using this
  | seq x y ihx ihy =>
    intro hk st a w m e st' h hd
    simp only [drawsOk, Bool.and_eq_true] at hk
    have ihx := ihx hk.1
    have ihy := ihy hk.2
    simp only [den] at hd
    cases hx : den loopω L K Γ x st with
    | none => rw [hx] at hd; cases hd
    | some p =>
      obtain ⟨e1, st1⟩ := p
      rw [hx] at hd
      refine wp_seq (wp_mono (ihx st a w m e1 st1 h hx) ?_)
      rintro ex a' w' ⟨he, m', hR⟩
      cases e1 with
      | normal =>
        cases ex <;> simp only [Ex.is] at he
        exact ihy st1 a' w' m' e st' hR hd
      | exit i =>
        simp only [Option.some.injEq, Prod.mk.injEq] at hd
        obtain ⟨rfl, rfl⟩ := hd
        cases ex <;> simp only [Ex.is] at he
        subst he
        exact ⟨rfl, m', hR⟩
      | ret =>
        simp only [Option.some.injEq, Prod.mk.injEq] at hd
        obtain ⟨rfl, rfl⟩ := hd
        cases ex <;> simp only [Ex.is] at he
        exact ⟨trivial, m', hR⟩
  | cond x y z ihy ihz =>
    intro hk st a w m e st' h hd
    simp only [drawsOk, Bool.and_eq_true] at hk
    have ihy := ihy hk.1
    have ihz := ihz hk.2
    simp only [den] at hd
    have hx := operand_ok h x
    split at hd
    · rename_i b hb
      rw [hb] at hx
      refine wp_cond hx.bool_inv ?_
      cases b with
      | true => simp only [if_true] at hd ⊢; exact ihy st a w m e st' h hd
      | false => simp only [if_false, Bool.false_eq_true] at hd ⊢; exact ihz st a w m e st' h hd
    · cases hd
  | block id x ih =>
    intro hk st a w m e st' h hd
    have ih := ih hk
    simp only [den] at hd
    cases hx : den loopω L K Γ x st with
    | none => rw [hx] at hd; cases hd
    | some p =>
      obtain ⟨e1, st1⟩ := p
      rw [hx] at hd
      refine wp_block (wp_mono (ih st a w m e1 st1 h hx) ?_)
      rintro ex a' w' ⟨he, m', hR⟩
      cases e1 with
      | normal =>
        simp only [Option.some.injEq, Prod.mk.injEq] at hd
        obtain ⟨rfl, rfl⟩ := hd
        cases ex <;> simp only [Ex.is] at he
        exact ⟨trivial, m', hR⟩
      | exit i =>
        cases ex <;> simp only [Ex.is] at he
        subst he
        simp only at hd
        simp only [Exit.inBlock]
        by_cases hi : i = id
        · rw [if_pos hi] at hd ⊢
          simp only [Option.some.injEq, Prod.mk.injEq] at hd
          obtain ⟨rfl, rfl⟩ := hd
          exact ⟨trivial, m', hR⟩
        · rw [if_neg hi] at hd ⊢
          simp only [Option.some.injEq, Prod.mk.injEq] at hd
          obtain ⟨rfl, rfl⟩ := hd
          exact ⟨rfl, m', hR⟩
      | ret =>
        simp only [Option.some.injEq, Prod.mk.injEq] at hd
        obtain ⟨rfl, rfl⟩ := hd
        cases ex <;> simp only [Ex.is] at he
        exact ⟨trivial, m', hR⟩
  | loop x ih =>
    intro hk st a w m e st' h hd
    have ih := ih hk
    simp only [den] at hd
    obtain ⟨n, hn⟩ := of_loopω hd
    refine wp_loop_rounds n ?_
    clear hd
    induction n generalizing st a w m with
    | zero => simp [loopF] at hn
    | succ n ihn =>
      rw [rounds_succ]
      unfold loopF at hn
      cases hx : den loopω L K Γ x (Sim.trim (K.heads.find? (·.1 == firstRegion x)) st) with
      | none => rw [hx] at hn; cases hn
      | some p =>
        obtain ⟨e1, st1⟩ := p
        rw [hx] at hn
        refine wp_mono (ih _ a w m e1 st1 (h.trim _) hx) ?_
        rintro ex a' w' ⟨he, m', hR⟩
        cases e1 with
        | normal =>
          cases ex <;> simp only [Ex.is] at he
          exact ihn st1 a' w' m' hR hn
        | exit i =>
          simp only [Option.some.injEq, Prod.mk.injEq] at hn
          obtain ⟨rfl, rfl⟩ := hn
          cases ex <;> simp only [Ex.is] at he
          subst he
          exact ⟨rfl, m', hR⟩
        | ret =>
          simp only [Option.some.injEq, Prod.mk.injEq] at hn
          obtain ⟨rfl, rfl⟩ := hn
          cases ex <;> simp only [Ex.is] at he
          exact ⟨trivial, m', hR⟩
  | exit id =>
    intro _ st a w m e st' h hd
    simp only [den, Option.some.injEq, Prod.mk.injEq] at hd
    obtain ⟨rfl, rfl⟩ := hd
    exact wp_exit ⟨rfl, m, h⟩
  | ret =>
    intro _ st a w m e st' h hd
    simp only [den, Option.some.injEq, Prod.mk.injEq] at hd
    obtain ⟨rfl, rfl⟩ := hd
    exact wp_ret ⟨trivial, m, h⟩
  | _ =>
    intro _ st a w m e st' h hd
    simp [den] at hd

end

end Go.Sim
