/- Loops: what a loop does, from what a round does. -/
import Derived.Test.YtmckiigefkfpaaaDoorSimGo
set_option linter.unusedVariables false
set_option linter.unusedSimpArgs false
namespace Go.Sim
open Go

section
variable {F : Fx} {ks : List Fr} {a : Code}

/-- Rounds till a stop. -/
def iter {X : Type} (stop : X → Bool) (step : X → X) : Nat → X → X
  | 0, x => x
  | n + 1, x => if stop x then x else iter stop step n (step x)

/-- A loop at its head: only what lives is there. -/
noncomputable def headK (F : Fx) (a : Code) (ks : List Fr) (st : St) : Ans := go F a (.loop a :: ks) st

theorem loopK_head {st : St} : loopK F a ks st = headK F a ks (trim (F.K.heads.find? (·.1 == firstRegion a)) st) := loopK_eq
theorem headK_congr {st st' : St} (h : st = st') : headK F a ks st = headK F a ks st' := h ▸ rfl

/-- A loop whose rounds go from one state of a family to the next one, or out. -/
theorem headK_iter {X : Type} (S : X → St) (I : X → Prop) (stop : X → Bool) (step : X → X) (out : X → Ans) (μ : X → Nat)
    (h : ∀ x, I x → go F a (.loop a :: ks) (S x) = if stop x then out x else headK F a ks (S (step x)))
    (hI : ∀ x, I x → stop x = false → I (step x) ∧ μ (step x) < μ x) :
    ∀ n x, μ x ≤ n → I x → (∀ x, I x → μ x = 0 → stop x = true) → headK F a ks (S x) = out (iter stop step n x)
  | 0, x, hn, hx, h0 => by
    rw [headK, h x hx, h0 x hx (by omega)]
    rfl
  | n + 1, x, hn, hx, h0 => by
    rw [headK, h x hx]
    unfold iter
    cases hs : stop x with
    | true => rfl
    | false =>
      obtain ⟨h1, h2⟩ := hI x hx hs
      simp only [Bool.false_eq_true, if_false]
      exact headK_iter S I stop step out μ h hI n (step x) (by omega) h1 h0

/-- A loop, by induction over what is left. -/
theorem headK_ind {X : Type} (S : X → St) (out : X → Ans) (μ : X → Nat) (I : X → Prop)
    (h : ∀ x, I x → (∀ y, I y → μ y < μ x → headK F a ks (S y) = out y) → go F a (.loop a :: ks) (S x) = out x) (x : X) (hx : I x) : headK F a ks (S x) = out x := by
  generalize hn : μ x = n
  induction n using Nat.strongRecOn generalizing x with
  | ind n ih =>
    subst hn
    exact h x hx fun y hy hlt => ih (μ y) hlt y hy rfl

/-- A loop that counts up to n, and may be left ahead of it. -/
def upto (p : Nat → Bool) (e : Nat → Ans) (out : Ans) : Nat → Nat → Ans
  | 0, _ => out
  | m + 1, k => if p k then e k else upto p e out m (k + 1)

theorem headK_upto (S : Nat → St) (n : Nat) (p : Nat → Bool) (e : Nat → Ans) (out : Ans)
    (h : ∀ k, k < n → go F a (.loop a :: ks) (S k) = if p k then e k else headK F a ks (S (k + 1)))
    (hn : go F a (.loop a :: ks) (S n) = out) (m k : Nat) (hk : k + m = n) : headK F a ks (S k) = upto p e out m k := by
  induction m generalizing k with
  | zero =>
    have : k = n := by omega
    subst this
    rw [headK, hn]; rfl
  | succ m ih =>
    rw [headK, h k (by omega)]
    unfold upto
    split
    · rfl
    · exact ih (k + 1) (by omega)

/-- A loop that counts up to n. -/
theorem headK_up (S : Nat → St) (n : Nat) (out : Ans)
    (h : ∀ k, k < n → go F a (.loop a :: ks) (S k) = headK F a ks (S (k + 1)))
    (hn : go F a (.loop a :: ks) (S n) = out) (k : Nat) (hk : k ≤ n) : headK F a ks (S k) = out := by
  obtain ⟨m, rfl⟩ : ∃ m, n = k + m := ⟨n - k, by omega⟩
  clear hk
  induction m generalizing k with
  | zero => exact hn
  | succ m ih =>
    rw [headK, h k (by omega)]
    refine ih (k + 1) (fun j hj => h j (by omega)) ?_
    rw [show k + 1 + m = k + (m + 1) from by omega]
    exact hn

/-- A loop that lays one thing more behind a slice each round; it may be left ahead of its end. -/
theorem headK_push (S : Nat → List AV → Nat → Nat → St) (n : Nat) (p : Nat → Bool) (f : Nat → AV) (e : Nat → Ans) (out : Ans)
    (h : ∀ k c g nx, k < n → c.length = k → c.all AV.plain = true → (p k = true → go F a (.loop a :: ks) (S k c g nx) = e k) ∧ (p k = false → (f k).plain = true ∧ ∃ g' nx', go F a (.loop a :: ks) (S k c g nx) = headK F a ks (S (k + 1) (c ++ [f k]) g' nx')))
    (hn : ∀ g nx, ((List.range n).map f).all AV.plain = true → go F a (.loop a :: ks) (S n ((List.range n).map f) g nx) = out) :
    ∀ m k g nx, k + m = n → ((List.range k).map f).all AV.plain = true → headK F a ks (S k ((List.range k).map f) g nx) = upto p e out m k := by
  intro m
  induction m with
  | zero =>
    intro k g nx hk hp
    have : k = n := by omega
    subst this
    exact hn g nx hp
  | succ m ih =>
    intro k g nx hk hp
    obtain ⟨h1, h2⟩ := h k ((List.range k).map f) g nx (by omega) (by simp) hp
    unfold upto
    cases hpk : p k with
    | true => rw [headK, h1 hpk]; rfl
    | false =>
      obtain ⟨h3, g', nx', h4⟩ := h2 hpk
      rw [headK, h4]
      have e : (List.range k).map f ++ [f k] = (List.range (k + 1)).map f := by rw [List.range_succ, List.map_append]; rfl
      rw [e]
      refine ih (k + 1) g' nx' (by omega) ?_
      rw [← e, List.all_append, hp]
      simp [h3]

end

theorem range_map {α : Type} {β : Type} (d : α) (xs : List α) (g : α → β) : (List.range xs.length).map (fun k => g (xs.getD k d)) = xs.map g := by
  apply List.ext_getElem
  · simp
  · intro i h1 h2
    simp at h1 h2
    simp [h2]

theorem upto_none {p : Nat → Bool} {e : Nat → Ans} {out : Ans} : ∀ {m k : Nat}, (∀ j, k ≤ j → j < k + m → p j = false) → upto p e out m k = out
  | 0, k, _ => rfl
  | m + 1, k, h => by
    unfold upto
    rw [h k (by omega) (by omega)]
    simp only [Bool.false_eq_true, if_false]
    exact upto_none fun j h1 h2 => h j (by omega) (by omega)

open Classical in
theorem upto_const {p : Nat → Bool} {v out : Ans} : ∀ {m k : Nat}, upto p (fun _ => v) out m k = if (∃ j, k ≤ j ∧ j < k + m ∧ p j = true) then v else out
  | 0, k => by
    rw [if_neg]
    · rfl
    · rintro ⟨j, h1, h2, _⟩; omega
  | m + 1, k => by
    unfold upto
    cases hp : p k with
    | true => rw [if_pos rfl, if_pos ⟨k, by omega, by omega, hp⟩]
    | false =>
      simp only [Bool.false_eq_true, if_false]
      rw [upto_const]
      have : (∃ j, k + 1 ≤ j ∧ j < k + 1 + m ∧ p j = true) ↔ (∃ j, k ≤ j ∧ j < k + (m + 1) ∧ p j = true) := by
        constructor
        · rintro ⟨j, h1, h2, h3⟩; exact ⟨j, by omega, by omega, h3⟩
        · rintro ⟨j, h1, h2, h3⟩
          refine ⟨j, ?_, by omega, h3⟩
          rcases Nat.lt_or_ge k j with h | h
          · exact h
          · have : j = k := by omega
            subst this; rw [hp] at h3; cases h3
      by_cases hc : ∃ j, k ≤ j ∧ j < k + (m + 1) ∧ p j = true
      · rw [if_pos hc, if_pos (this.2 hc)]
      · rw [if_neg hc, if_neg (fun x => hc (this.1 x))]

end Go.Sim
