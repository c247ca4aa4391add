/- Functions without a body of their own: internal/bytealg.IndexByte at a row of bytes, by the model's entry. -/
import Derived.Test.YtmckiigefkfpaaaDoorSimTab
import Derived.Lib.Bytealg
import Derived.Laws.Externs
set_option linter.unusedVariables false
set_option linter.unusedSimpArgs false
namespace Go.Sim
open Go

/-- Where a byte stands first among these; -1: nowhere. -/
def idxOf : List Int → Int → Int
  | [], _ => -1
  | x :: l, c => if x.toNat % 256 = c.toNat % 256 then 0 else if idxOf l c = -1 then -1 else idxOf l c + 1

theorem u8_beq (x c : Int) : (UInt8.ofNat x.toNat == c.toNat.toUInt8) = decide (x.toNat % 256 = c.toNat % 256) := by
  by_cases h : x.toNat % 256 = c.toNat % 256
  · rw [decide_eq_true h, beq_iff_eq]
    apply UInt8.toNat_inj.1
    simpa using h
  · rw [decide_eq_false h, beq_eq_false_iff_ne]
    intro e
    apply h
    have := congrArg UInt8.toNat e
    simpa using this

theorem idx_eq (xs : List Int) (c : Int) : Lib.indexByte (xs.map fun n => UInt8.ofNat n.toNat) c.toNat.toUInt8 = idxOf xs c := by
  induction xs with
  | nil => rfl
  | cons x xs ih =>
    simp only [List.map_cons, Lib.indexByte, idxOf, ih, u8_beq, decide_eq_true_eq, beq_iff_eq]

theorem run_loadB {P : Program} (w : World) : ∀ (xs : List Int) (a : Addr) (acc : ByteArray), (∀ (j : Nat) (x : Int), xs[j]? = some x → w.cell? (a.add j) = some (.int .u8 x)) →
    (Extern.Bytes.loadBytes a xs.length acc).run P w = .ok ⟨acc.data ++ (xs.map fun n => UInt8.ofNat n.toNat).toArray⟩ w
  | [], a, acc, _ => by simp [Extern.Bytes.loadBytes]
  | x :: l, a, acc, h => by
    have h0 : w.cell? a = some (.int .u8 x) := by
      have := h 0 x rfl
      simpa [Addr.add] using this
    have ih := run_loadB (P := P) w l (a.add 1) (acc.push x.toNat.toUInt8) (fun j y hy => by
      have := h (j + 1) y (by simpa using hy)
      have e : (a.add 1).add j = a.add (j + 1) := by
        unfold Addr.add
        by_cases hj : j = 0
        · subst hj; simp
        · simp [hj]; omega
      rw [e]; exact this)
    simp only [List.length_cons, Extern.Bytes.loadBytes, Sem.run_bind, run_load, h0, Result.andThen]
    rw [ih]
    congr 1
    apply ByteArray.ext
    simp [ByteArray.push]

theorem run_idx {P : Program} (w : World) (a : Addr) (n c : Nat) (xs : List Int) (hx : xs.length = n) (hc : ∀ (j : Nat) (x : Int), xs[j]? = some x → w.cell? (a.add j) = some (.int .u8 x)) (cv : Int) :
    (Extern.BytealgIndexByte.indexByte #[.slice (some a) n c, .int .u8 cv]).run P w = .ok (.int .i64 (idxOf xs cv)) w := by
  have hl := run_loadB (P := P) w xs a .empty hc
  rw [hx] at hl
  have hs := Lib.run_indexByteString (P := P) ⟨(xs.map fun n => UInt8.ofNat n.toNat).toArray⟩ cv w
  have he : (⟨ByteArray.empty.data ++ (xs.map fun n => UInt8.ofNat n.toNat).toArray⟩ : ByteArray) = ⟨(xs.map fun n => UInt8.ofNat n.toNat).toArray⟩ := by
    apply ByteArray.ext
    show (#[] : Array UInt8) ++ (xs.map fun n => UInt8.ofNat n.toNat).toArray = (xs.map fun n => UInt8.ofNat n.toNat).toArray
    simp
  rw [he] at hl
  change Sem.run P (do
    let b ← Extern.Bytes.bytesOf (.slice (some a) n c)
    let c ← Extern.Bytes.asByte (.int .u8 cv)
    match (List.range b.size).find? fun i => b[i]! == c with
    | some i => pure (goInt i)
    | none => pure (goInt (-1))) w = _
  change Sem.run P (do
    let b ← Extern.Bytes.bytesOf (.string ⟨(xs.map fun n => UInt8.ofNat n.toNat).toArray⟩)
    let c ← Extern.Bytes.asByte (.int .u8 cv)
    match (List.range b.size).find? fun i => b[i]! == c with
    | some i => pure (goInt i)
    | none => pure (goInt (-1))) w = _ at hs
  simp only [Extern.Bytes.bytesOf, Sem.run_bind, Sem.run_pure, hl, Result.andThen] at hs ⊢
  rw [hs, idx_eq]

/-- internal/bytealg.IndexByte, as the interpreter has it. -/
def idxLaw (_ : Nat) (args : List AV) (lent : List (Option (List AV))) : Option (AV × List (Option (List AV))) :=
  match args, lent with
  | [.isl z n cells, .int .u8 c], [none, none] => if z = 1 ∧ cells.length = n then (u8s cells).map fun xs => (.int .i64 (idxOf xs c), [none, none]) else none
  | _, _ => none

theorem idxLaw_eq (tag : Nat) (xs : List Int) (c : Int) : idxLaw tag [.isl 1 xs.length (xs.map (.int .u8)), .int .u8 c] [none, none] = some (.int .i64 (idxOf xs c), [none, none]) := by
  have : u8s (xs.map (.int .u8)) = some xs := by
    induction xs with
    | nil => rfl
    | cons x xs ih => simp only [List.map_cons, u8s, ih, Option.map_some]
  simp [idxLaw, this]

theorem idx_ok {P : Program} {f : FuncId} {fn : Func} (hf : P.funcs[f]? = some fn) (hname : (fn.name == "runtime.NumGoroutine") = false)
    (hb : fn.body.isNone = true) (hn : Extern.findNext fn = none) (he : Extern.find fn = some Extern.BytealgIndexByte.indexByte)
    (tag : Nat) (args : List AV) (lent : List (Option (List AV))) (r : AV) (lent' : List (Option (List AV))) (h : idxLaw tag args lent = some (r, lent')) : CallOK P f tag args lent r lent' := by
  unfold idxLaw at h
  split at h
  · rename_i z n cells c
    split at h
    · rename_i hc
      obtain ⟨rfl, hlen⟩ := hc
      cases hu : u8s cells with
      | none => simp [hu] at h
      | some xs =>
        simp only [hu, Option.map_some, Option.some.injEq, Prod.mk.injEq] at h
        obtain ⟨rfl, rfl⟩ := h
        intro w vs m pre _
        obtain ⟨x, y, rfl, hx, hy⟩ := pre.args.two_inv
        have hyv := hy.int_inv
        subst hyv
        refine .inr (.inl ⟨.int .i64 (idxOf xs c), w, ?_, ?_⟩)
        · rw [run_callFunc_extern hf hname hb hn he]
          have key : (Extern.BytealgIndexByte.indexByte #[x, .int .u8 c]).run P w = .ok (.int .i64 (idxOf xs c)) w := by
            rcases VR.isl_inv (.inl hx) with ⟨ad, cap, us, rfl, ha, hl, hr, hv⟩ | ⟨ad, cap, rfl, rfl, rfl⟩
            · have hus := u8s_ok hv hu
              subst hus
              have hl2 := hv.length
              simp only [List.length_map] at hl2
              refine run_idx w ad n cap xs (by omega) (fun j x hj => ?_) c
              rw [addr_add' ha]
              exact (hr j (.int .u8 x) (by rw [List.getElem?_map, hj]; rfl)).1
            · simp only [u8s, Option.some.injEq] at hu
              subst hu
              cases ad with
              | none =>
                have hs := Lib.run_indexByteString (P := P) .empty c w
                exact hs
              | some ad => exact run_idx w ad 0 cap [] rfl (fun j x hj => by simp at hj) c
          show ((Extern.BytealgIndexByte.indexByte [x, Value.int .u8 c].toArray).run P w).andThen _ = _
          rw [show ([x, Value.int .u8 c].toArray : Array Value) = #[x, .int .u8 c] from rfl, key]
          rfl
        · refine ⟨Pres.refl _ _, ⟨[], .one (.plain rfl), .nil⟩, rfl, fun k hk => ?_, fun k old hk => ?_⟩
          · exact hk
          · match k, hk with
            | 0, hk => cases hk
            | 1, hk => cases hk
            | k + 2, hk => cases hk
    · cases h
  · cases h

end Go.Sim
