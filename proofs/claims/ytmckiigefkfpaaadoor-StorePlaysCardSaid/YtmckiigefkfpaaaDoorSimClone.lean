/- maps.Clone, as the interpreter has it: a new map with the old one's entries (keys and values that lead to no memory). -/
import Derived.Test.YtmckiigefkfpaaaDoorSimHFn
import Derived.Test.YtmckiigefkfpaaaDoorSimMap
import Derived.WalkKit
import Derived.MapKept
import Derived.Laws.Externs
set_option linter.unusedVariables false
set_option linter.unusedSimpArgs false
namespace Go.Sim
open Go

def mcloneLaw (tag : Nat) (args : List AV) (lent : List (Option (List AV))) : Option (AV × List (Option (List AV))) :=
  match args, lent with
  | [.mref 500000 g], [some [.mref 500000 g0, .mapd ks vs]] => if g = (tag, 0) ∧ ks.all AV.plain = true ∧ vs.all AV.plain = true then
      some (.mref 900000 (tag, 0), [some [.mref 500000 (0, 0), .mapd ks vs], some [.mref 900000 (0, 0), .mapd ks vs]]) else none
  | _, _ => none

theorem mclone_ok {P : Program} {f : FuncId} (he : ∀ args w, (callFunc f args).run P w = .ok (.enter f args) w)
    (hc : ∀ (b : Nat) (es : Array MapEntry) (clock : Nat) (w : World), w.heap[b]? = some (.map es clock) → Calls P f #[.map (some b)] w fun e w' => e = .returned (.map (some w.heap.size)) ∧ w' = w.alloc (.map es clock))
    (tag : Nat) (args : List AV) (lent : List (Option (List AV))) (r : AV) (lent' : List (Option (List AV))) (h : mcloneLaw tag args lent = some (r, lent')) : CallOKH P f tag args lent r lent' := by
  unfold mcloneLaw at h
  split at h
  · rename_i g g0 ks vs
    split at h
    · rename_i hp
      obtain ⟨rfl, hpk, hpv⟩ := hp
      simp only [Option.some.injEq, Prod.mk.injEq] at h
      obtain ⟨rfl, rfl⟩ := h
      intro w us m pre _
      obtain ⟨x, rfl, hx⟩ := pre.args.one_inv
      have hb : aget 500000 (hHeap tag [some [.mref 500000 g0, .mapd ks vs]]) = some ⟨(tag, 0), [.mapd ks vs]⟩ := by simp [hHeap, aget]
      have hxe : x = .map (some (m.base 500000).1) := hx.mref_inv hb rfl
      subst hxe
      obtain ⟨_, hm⟩ := pre.mem.blk 500000 _ hb
      have hk5 : isMapKey 500000 = true := rfl
      have hk9 : isMapKey 900000 = true := rfl
      unfold BlkM at hm
      rw [if_pos hk5] at hm
      obtain ⟨ks0, vs0, es, n, q1, q2, q3, q4, q5, q6, q7, q8, q9⟩ := hm
      simp only [List.cons.injEq, AV.mapd.injEq, and_true] at q1
      obtain ⟨rfl, rfl⟩ := q1
      simp only at q2 q3 q4 q5
      have hlt : (m.base 500000).1 < w.heap.size := (Array.getElem?_eq_some_iff.1 q2).1
      have hold : (w.alloc (.map es n)).heap[(m.base 500000).1]? = some (.map es n) := by
        show (w.heap.push _)[_]? = _
        rw [Array.getElem?_push, if_neg (by omega)]; exact q2
      have hnew := alloc_heap w (.map es n)
      have keys : ∀ {k : Nat} {b : Blk}, aget k (hHeap tag [some [.mref 500000 (0, 0), .mapd ks vs], some [.mref 900000 (0, 0), .mapd ks vs]]) = some b → (k = 500000 ∨ k = 900000) ∧ b = ⟨(tag, 0), [.mapd ks vs]⟩ := by
        intro k b hk
        simp only [hHeap, aget] at hk
        by_cases e1 : 500000 = k
        · rw [if_pos e1] at hk; exact ⟨.inl e1.symm, (Option.some.inj hk).symm⟩
        · rw [if_neg e1] at hk
          by_cases e2 : 900000 = k
          · rw [if_pos e2] at hk; exact ⟨.inr e2.symm, (Option.some.inj hk).symm⟩
          · rw [if_neg e2] at hk; cases hk
      refine .inl ⟨he _ _, (hc _ es n w q2).mono ?_⟩
      rintro e w' ⟨rfl, rfl⟩
      refine ⟨_, rfl, m.set 900000 (w.heap.size, 0) 1, ⟨⟨rfl, rfl, rfl⟩, Pres.alloc _ _ _, ?_, ⟨?_, ?_⟩, ?_⟩⟩
      · refine .mref (okS_new tag 0) fun blk hk _ => ?_
        simp [Mp.set]
      · intro k b hk
        obtain ⟨hkk, rfl⟩ := keys hk
        clear hk
        refine ⟨rfl, ?_⟩
        unfold BlkM
        rcases hkk with rfl | rfl
        · rw [if_pos hk5]
          refine ⟨ks, vs, es, n, rfl, ?_, ?_, ?_, ?_, (q6.pvs hpk).vrs _ false, (q7.pvs hpv).vrs _ false, q8, q9⟩
          · simpa [Mp.set] using hold
          · simpa [Mp.set] using q3
          · simpa [Mp.set] using q4
          · simpa [Mp.set] using q5
        · rw [if_pos hk9]
          refine ⟨ks, vs, es, n, rfl, ?_, ?_, ?_, ?_, (q6.pvs hpk).vrs _ false, (q7.pvs hpv).vrs _ false, q8, q9⟩
          · simpa [Mp.set] using hnew
          · simp [Mp.set]
          · simp [Mp.set]
          · simp [Mp.set]
      · intro k j b b' hkj hk hj hbb o
        obtain ⟨hk, _⟩ := keys hk
        obtain ⟨hj, _⟩ := keys hj
        exfalso
        rcases hk with rfl | rfl <;> rcases hj with rfl | rfl
        · exact hkj rfl
        · simp [Mp.set] at hbb; omega
        · simp [Mp.set] at hbb; omega
        · exact hkj rfl
      · intro k hk b _
        simp only [rootKeys, refOf, List.append_nil, List.mem_singleton] at hk
        subst hk
        simp [Mp.set]
    · cases h
  · cases h

/-! the function's own code: what its operations do -/
section
variable {P : Program} (w : World)
theorem run_equalIn_mapn (d : Nat) (t k e : TypeId) (p : Option Nat) (h : P.underlying t = some (.map k e)) :
    (Op.equalIn (d + 1) t (.map p) (.map none)).run P w = .ok p.isNone w := by
  cases p <;> simp [Op.equalIn, run_underlying h]
theorem run_eql_mapn (t k e : TypeId) (p : Option Nat) (h : P.underlying t = some (.map k e)) :
    (binOp .eql t (.map p) (.map none)).run P w = .ok (.bool p.isNone) w := by
  simp only [binOp]
  simp [show Op.equal t (.map p) (.map none) = Op.equalIn (9999 + 1) t (.map p) (.map none) from rfl, run_equalIn_mapn w 9999 t k e p h]
theorem run_asrt_map (t xT k e : TypeId) (v : Value) (h : P.underlying t = some (.map k e)) : (Instr.typeAssert (.iface t v) xT t false).run P w = .ok v w := by
  simp [Instr.typeAssert, run_underlying h, go_sem, Result.andThen]
theorem run_mclone {r : Nat} {es : Array MapEntry} {clock : Nat} (t : TypeId) (hb : w.heap[r]? = some (.map es clock)) :
    (Extern.MapsClone.clone #[.iface t (.map (some r))]).run P w = .ok (.iface t (.map (some w.heap.size))) (w.alloc (.map es clock)) := by
  have e : Extern.MapsClone.clone #[.iface t (.map (some r))] = (getObj r >>= fun o => match o with
      | .map entries clock => (newObj (.map entries clock) >>= fun n => pure (.iface t (.map (some n))))
      | _ => stuck "maps.clone: a map expected") := rfl
  rw [e]
  simp [MapKept.run_getObj_map hb, Result.andThen, go_sem]
end

end Go.Sim
