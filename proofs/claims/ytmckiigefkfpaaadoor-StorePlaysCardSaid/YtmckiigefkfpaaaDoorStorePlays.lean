/- StorePlays: Whatever a store is told: each answer, who goes, what is there, in order, are what the chapter says; a copy goes its own way.. Tied: the package variables hold what the program's text lays in them. -/
import Derived.Test.YtmckiigefkfpaaaDoorRows
import Derived.Test.YtmckiigefkfpaaaDoorSimT
import Derived.Test.YtmckiigefkfpaaaDoorSimY
import Derived.Test.YtmckiigefkfpaaaDoorPrs5
import Derived.Test.YtmckiigefkfpaaaDoorSimLaid
import Derived.Test.YtmckiigefkfpaaaDoorSimGlob
import Derived.Test.YtmckiigefkfpaaaDoorTie
import Derived.Test.YtmckiigefkfpaaaDoorCards
import Derived.SevenTiedAt
set_option maxRecDepth 100000
set_option maxHeartbeats 40000000
set_option linter.unusedSimpArgs false
set_option linter.unusedVariables false
namespace Go.Proofs.YtmckiigefkfpaaaDoor.storePlays
open Go Go.Sim
attribute [local irreducible] chk brX hX finH keyX visit packed backPk backOk backHeap stays getAll getX strX setX takeX normX fillX lendX partsX opsX callK lentK lentR giveX adoptX resX joinX headX loopX seqK blkK regK finX exOps ex eqT
attribute [local simp] setR_int setR_bool setR_zero setR_succ repl_int repl_bool List.getElem?_cons_zero List.getElem?_cons_succ List.getElem?_nil w_i64 w_u64 w_u8 bAnd_u8 bOr_u8 bXor_u8 bAndNot_u8 bShl_u8 wrap_u8_range all_plain_int all_plain_bool all_plain_app pl_bool pl_int pl_str pl_nilp pl_nsl pl_nilI pl_nilF take_map_len AV.cells TI.isAgg

theorem law (cs : List AV) (h : ShpAll L 5 Tryd.f6.params.toList cs) : ∃ lent, callω L T 6 0 cs (List.replicate Tryd.f6.params.toList.length none) = some (.bool true, lent) := by
  rw [Tryd.params6] at h
  obtain ⟨most, _, rfl, _, h⟩ := shpAll_int rfl h
  obtain ⟨p1, _, rfl, hl, hp1, h⟩ := shpAll_slice rfl rfl h
  obtain rfl := shpAll_nil h
  obtain ⟨ds, e1, e2, e3⟩ := Do.parts (n := 2) rfl rfl p1 hp1
  rw [e1, ← e2]
  have hm : maxLen = 9223372036854775807 := rfl
  exact ⟨_, plays_ok most ds (by rw [e2]; omega)⟩

open Go.ChangeShapes Go.WideShapes Go.ChangeAt Go.RowKit
theorem met (os : Os) (args : Array Value) : laidMetH Tryd.prog [("ceefax/api.ErrRange", Rows.laid_ceefax_api_ErrRange), ("ceefax/api.ErrLength", Rows.laid_ceefax_api_ErrLength), ("ceefax/api.ErrBits", Rows.laid_ceefax_api_ErrBits), ("ceefax/api.ErrKind", Rows.laid_ceefax_api_ErrKind), ("ceefax/api.ErrNone", Rows.laid_ceefax_api_ErrNone), ("ceefax/api.ErrMode", Rows.laid_ceefax_api_ErrMode)] ((World.doorLaid Tryd.prog 4000 os).forCall (fun _ _ => 0) ⟨#[], args, []⟩).memory :=
  laidMetH_of_parts3 (fuel := 8) (laidMet_of_run' 8 (by kernel_rfl) (by kernel_rfl)) (by kernel_rfl) (by kernel_rfl)
theorem errTy : ErrTy Tryd.prog "*errors.errorString" 26 111 135 9 :=
  ErrTy.of (nm0 := "errors.errorString") (by decide) (by kernel_rfl) (by kernel_rfl) (by decide) Tryd.underlying111 Tryd.underlying135 rfl rfl Tryd.underlying9 (by kernel_rfl) (by kernel_rfl) Tryd.underlying26 (by kernel_rfl) (by kernel_rfl)
theorem lifted (os : Os) (started : os.Started) (H : Type) (enc : TypeId × Value → H) :
    ReturnsInHanded {} Tryd.checked os 6 .any (fun w args => (Rows.storePlaysSpec.pre enc Tryd.prog Tryd.f6 Rows.storePlaysRow.domain false w args ∧ laidMetH Tryd.prog [("ceefax/api.ErrRange", Rows.laid_ceefax_api_ErrRange), ("ceefax/api.ErrLength", Rows.laid_ceefax_api_ErrLength), ("ceefax/api.ErrBits", Rows.laid_ceefax_api_ErrBits), ("ceefax/api.ErrKind", Rows.laid_ceefax_api_ErrKind), ("ceefax/api.ErrNone", Rows.laid_ceefax_api_ErrNone), ("ceefax/api.ErrMode", Rows.laid_ceefax_api_ErrMode)] w) ∧ sizedMet enc Tryd.prog Tryd.f6 (OpenSpec.ofChange Rows.storePlaysSpec) false w args) (Rows.storePlaysSpec.post enc Tryd.prog Tryd.f6 false true false false) := by
  refine law_lift_laid (C := Tryd.checked) (n := 5) own started (by kernel_rfl) Tryd.func6 L_ok T_ok (show T 6 = some (.code a6) from rfl) laid (by kernel_rfl) rfl Tryd.underlying4 rfl ?_ (fun W h => glob_of_laid errTy h (by kernel_rfl) (by kernel_rfl) (by kernel_rfl) (by kernel_rfl)) (fun _ _ => law)
    (ChangeSpec.witness_shaped (enc := enc) (C := Tryd.checked) (os := os) (X := fun w _ => laidMetH Tryd.prog [("ceefax/api.ErrRange", Rows.laid_ceefax_api_ErrRange), ("ceefax/api.ErrLength", Rows.laid_ceefax_api_ErrLength), ("ceefax/api.ErrBits", Rows.laid_ceefax_api_ErrBits), ("ceefax/api.ErrKind", Rows.laid_ceefax_api_ErrKind), ("ceefax/api.ErrNone", Rows.laid_ceefax_api_ErrNone), ("ceefax/api.ErrMode", Rows.laid_ceefax_api_ErrMode)] w) false (World.doorLaid Tryd.prog 4000 os) #[.int .i64 0, .slice none 0 0] 8 rfl (World.shaped_of_RefB (by kernel_rfl) (by kernel_rfl)) (by kernel_rfl) (by kernel_rfl) (by kernel_rfl) (met os _))
  intro H ds hl
  rw [Tryd.params6] at hl
  match ds, hl with
  | [d1, d2], _ => rfl

theorem over : Rows.storePlaysRow.holds Tryd.pinned (OpenSpec.ofChange Rows.storePlaysSpec) :=
  OpenClaim.holds_of_wide 6 Tryd.f6 rfl rfl rfl rfl rfl rfl rfl ⟨rfl, rfl, rfl, rfl, rfl⟩ rfl rfl rfl rfl rfl (by kernel_rfl) Tryd.func6 (by kernel_rfl)
    (of_decide_eq_true (by kernel_rfl)) (by unfold Func.isWrapper; first | (rw [if_pos (by decide +kernel)]; kernel_rfl) | (rw [if_neg (by decide +kernel)]; exact ⟨rfl, rfl⟩))
    (fun os started H enc _ => lifted os started H enc)

theorem proved : Rows.StorePlaysCardSaid :=
  Claim7.holds_tied_plain_at .later [] [.sentinel, .sentinel, .sentinel, .sentinel, .sentinel, .sentinel] true (true, "247cac0dc1f209e3e8be4ce6036ad321c004e720894f4c5325df0725f8e52f57") true
    over (fun _ h => by cases h) (by kernel_rfl) (fun _ h => by cases h) storePlays_row_tie rfl ⟨rfl, rfl⟩ (by kernel_rfl) rfl
    (fun f fn hf hfn => by
      obtain rfl : f = 6 := Option.some.inj ((show Tryd.prog.funcNamed "ceefax/ceefaxlaw13.StorePlays" = some 6 by kernel_rfl).symm.trans hf) |>.symm
      obtain rfl : fn = Tryd.f6 := (Option.some.inj (Tryd.func6.symm.trans hfn)).symm
      exact ⟨by kernel_rfl, fun j t ht => by
        have hm : t ∈ Tryd.f6.params.toList := by simpa using Array.mem_of_getElem? ht
        have hall : (Tryd.f6.params.toList.all fun u => !Tryd.prog.wantsStandIn u) = true := by kernel_rfl
        exact (show Tryd.prog.wantsStandIn t = false by simpa using List.all_eq_true.1 hall t hm)⟩)
    (by kernel_rfl)
#print axioms proved
end Go.Proofs.YtmckiigefkfpaaaDoor.storePlays
