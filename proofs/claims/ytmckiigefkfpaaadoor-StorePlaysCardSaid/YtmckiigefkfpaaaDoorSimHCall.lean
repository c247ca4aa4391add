/- Calls that take the memory with them: what the callee is promised, what it promises. -/
import Derived.Test.YtmckiigefkfpaaaDoorSimCall
import Derived.Test.YtmckiigefkfpaaaDoorSimHeap
set_option linter.unusedVariables false
set_option linter.unusedSimpArgs false
namespace Go.Sim
open Go

/-- The memory that was handed over, at the callee's beginning. -/
abbrev HS (w : World) (tag : Nat) (lent : List (Option (List AV))) (m : Mp) : S := ⟨w, hHeap tag lent, m, tag, 1⟩

abbrev HCx (w : World) (tag : Nat) (lent : List (Option (List AV))) (m : Mp) : Cx := ⟨w, Own (HS w tag lent m), 1000000, m.base, m.ext, m.ban, m.gl⟩

structure HMem (c : Cx) (s : S) (tag : Nat) : Prop where
  blk : ∀ k b, aget k s.heap = some b → b.stamp = (tag, 0) ∧ BlkM c s k b
  apart : ∀ k j b b', k ≠ j → aget k s.heap = some b → aget j s.heap = some b' → (s.m.base k).1 = (s.m.base j).1 →
    ∀ o, ¬ ((s.m.base k).2 ≤ o ∧ o < (s.m.base k).2 + s.m.ext k ∧ (s.m.base j).2 ≤ o ∧ o < (s.m.base j).2 + s.m.ext j)

structure HPre (w : World) (tag : Nat) (args : List AV) (lent : List (Option (List AV))) (vs : List Value) (m : Mp) : Prop where
  mB : m.B = w.heap.size ∧ ∀ b o, m.ban b o → b < w.heap.size
  glob : GlobS (HS w tag lent m)
  args : VRs (HS w tag lent m) false args vs
  mem : HMem (HCx w tag lent m) (HS w tag lent m) tag

structure HPost (w w' : World) (tag : Nat) (args : List AV) (lent lent' : List (Option (List AV))) (m m' : Mp) (r : AV) (x : Value) : Prop where
  mB : m'.B = m.B ∧ m'.ban = m.ban ∧ m'.gl = m.gl
  pres : Pres (Own (HS w tag lent m)) w w'
  res : VR (HS w' tag lent' m') r x
  mem : HMem (HCx w tag lent m) (HS w' tag lent' m') tag
  root : ∀ k ∈ rootKeys args, ∀ b, aget k (hHeap tag lent') = some b → m'.base k = m.base k ∧ m'.ext k = m.ext k

def CallOKH (P : Program) (f : Nat) (tag : Nat) (args : List AV) (lent : List (Option (List AV))) (r : AV) (lent' : List (Option (List AV))) : Prop :=
  ∀ (w : World) (vs : List Value) (m : Mp), HPre w tag args lent vs m → GlobP P m.gl → Invokes P f vs.toArray w fun x w' => ∃ m', HPost w w' tag args lent lent' m m' r x

structure OracleOK (P : Program) (Γ : Oracle) : Prop where
  one : ∀ f tag args lent r lent', Γ f tag args lent = some (r, lent') → CallOK P f tag args lent r lent'
  all : ∀ f tag args lent r lent', Γ (f + 1000000000) tag (.mapd [] [] :: args) lent = some (r, lent') → CallOKH P f tag args lent r lent'

variable {c : Cx} {nt : Nat} {st : St} {a : Act} {w : World} {m : Mp}

theorem RelM.blkM (h : RelM c nt st a w m) {k : Nat} {b : Blk} (hb : aget k st.heap = some b) : BlkM c (At st w m) k b := (h.blk k b hb).2.2

theorem Packed.mem (hR : RelM c nt st a w m) {pk : Pk} {tag : Nat} {l : List (Option (List AV))} {m' : Mp} (h : Packed st m pk tag l (HS w tag l m'))
    (hban : ∀ b o, m'.ban b o → Held (At st w m) b o) (hgl : m'.gl = m.gl) {c' : Cx} (hnp : c'.np = 1000000)
    (hreg : ∀ k b, aget k (hHeap tag l) = some b → ∀ o, (m'.base k).2 ≤ o → o < (m'.base k).2 + m'.ext k → c'.w0.heap.size ≤ (m'.base k).1 ∨ c'.A (m'.base k).1 o) :
    HMem c' (HS w tag l m') tag := by
  have hA := h.anew (w := w) rfl rfl rfl hban hgl
  refine ⟨fun k' b' hb => ?_, h.apart hR⟩
  obtain ⟨k, g, b, m1, m2, m3, m4, m5, m6⟩ := h.blk k' b' hb
  subst m4
  refine ⟨rfl, ?_⟩
  refine (hR.blkM m2).ren hA rfl (h.keys _ m1).symm m5 m6 (fun _ h1 h2 => by rw [hnp] at h1; omega) fun o o1 o2 => ?_
  have := hreg k' _ hb o
  simp only at m5 m6 o1 o2 this ⊢
  rw [m5, m6] at this
  exact this o1 o2

end Go.Sim
