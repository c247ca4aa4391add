/- Part of the proof: an interpreter of the model, proved sound, and what it makes of the functions. -/
import Derived.Test.YtbaenaalfpcaaaaGreatDoorRows
import Derived.Test.YtbaenaalfpcaaaaGreatDoorA5
import Derived.Test.YtbaenaalfpcaaaaGreatDoorA4
import Derived.Test.YtbaenaalfpcaaaaGreatDoorCEcho
import Derived.Test.YtbaenaalfpcaaaaGreatDoorTie
import Derived.Test.YtbaenaalfpcaaaaGreatDoorCards
import Derived.SevenTiedAt
set_option linter.unusedVariables false
set_option linter.unusedSimpArgs false
set_option maxRecDepth 100000
set_option maxHeartbeats 40000000
namespace Go.Proofs.YtbaenaalfpcaaaaGreatDoor.wholeEcho
open Go Go.Sim
attribute [local irreducible] chk brX hX finH keyX visit packed backPk backOk backHeap stays getAll getX strX setX takeX normX fillX lendX partsX opsX callK lentK lentR giveX adoptX resX joinX headX loopX seqK blkK regK finX exOps ex eqT finMX matAll
attribute [local simp] zc2 zbg zbd zau zbm zb6 List.getElem?_cons_zero List.getElem?_cons_succ List.getElem?_nil w_i64 w_u64 w_u8 zcu bOr_u8 zcv zb3 zd0 zaj zar zao zaq zcy pl_int pl_str zcz pl_nsl zd1 zcx zag AV.cells TI.isAgg
theorem law (cs : List AV) (h : ShpAll L 5 Tryz.f9.params.toList cs) : ∃ lent, callω L T 9 0 cs (List.replicate Tryz.f9.params.toList.length none) = some (.bool true, lent) := by
 rw [Tryz.params9] at h
 obtain ⟨p1, _, rfl, hl1, hp1, ha⟩ := zde rfl rfl h
 obtain rfl := zhc ha
 obtain ⟨xs, e1, e2, e5⟩ := zd2 (n := 3) rfl p1 hp1
 rw [e1, ← e2]
 exact ⟨_, zq6 0 xs⟩
open Go.ChangeShapes Go.WideShapes Go.ChangeAt Go.RowKit
theorem met (os : Os) (args : Array Value) : laidMetH Tryz.prog [("ceefax/api.ErrRange", Rows.laid_ceefax_api_ErrRange), ("ceefax/api.ErrLength", Rows.laid_ceefax_api_ErrLength), ("ceefax/api.ErrBits", Rows.laid_ceefax_api_ErrBits), ("ceefax/api.ErrKind", Rows.laid_ceefax_api_ErrKind), ("ceefax/api.ErrNone", Rows.laid_ceefax_api_ErrNone), ("ceefax/api.ErrMode", Rows.laid_ceefax_api_ErrMode)] ((World.doorLaid Tryz.prog 4000 os).forCall (fun _ _ => 0) ⟨#[], args, []⟩).memory :=
 laidMetH_of_parts3 (fuel := 8) (laidMet_of_run' 8 (by kernel_rfl) (by kernel_rfl)) (by kernel_rfl) (by kernel_rfl)
theorem errTy : ErrTy Tryz.prog "*errors.errorString" 26 376 390 9 :=
 ErrTy.of (nm0 := "errors.errorString") (by decide) (by kernel_rfl) (by kernel_rfl) (by decide) Tryz.underlying376 Tryz.underlying390 rfl rfl Tryz.underlying9 (by kernel_rfl) (by kernel_rfl) Tryz.underlying26 (by kernel_rfl) (by kernel_rfl)
theorem lifted (os : Os) (started : os.Started) (H : Type) (enc : TypeId × Value → H) :
  ReturnsInHanded {} Tryz.checked os 9 .any (fun w args => (Rows.wholeEchoSpec.pre enc Tryz.prog Tryz.f9 Rows.wholeEchoRow.domain false w args ∧ laidMetH Tryz.prog [("ceefax/api.ErrRange", Rows.laid_ceefax_api_ErrRange), ("ceefax/api.ErrLength", Rows.laid_ceefax_api_ErrLength), ("ceefax/api.ErrBits", Rows.laid_ceefax_api_ErrBits), ("ceefax/api.ErrKind", Rows.laid_ceefax_api_ErrKind), ("ceefax/api.ErrNone", Rows.laid_ceefax_api_ErrNone), ("ceefax/api.ErrMode", Rows.laid_ceefax_api_ErrMode)] w) ∧ sizedMet enc Tryz.prog Tryz.f9 (OpenSpec.ofChange Rows.wholeEchoSpec) false w args) (Rows.wholeEchoSpec.post enc Tryz.prog Tryz.f9 false true false false) := by
 refine ze8 (C := Tryz.checked) (n := 5) own started (by kernel_rfl) Tryz.func9 L_ok T_ok (show T 9 = some (.code a9) from rfl) laid (by kernel_rfl) rfl Tryz.underlying4 rfl ?_ (fun W h => zek errTy h (by kernel_rfl) (by kernel_rfl) (by kernel_rfl) (by kernel_rfl)) (fun _ _ => law)
  (ChangeSpec.witness_shaped (enc := enc) (C := Tryz.checked) (os := os) (X := fun w _ => laidMetH Tryz.prog [("ceefax/api.ErrRange", Rows.laid_ceefax_api_ErrRange), ("ceefax/api.ErrLength", Rows.laid_ceefax_api_ErrLength), ("ceefax/api.ErrBits", Rows.laid_ceefax_api_ErrBits), ("ceefax/api.ErrKind", Rows.laid_ceefax_api_ErrKind), ("ceefax/api.ErrNone", Rows.laid_ceefax_api_ErrNone), ("ceefax/api.ErrMode", Rows.laid_ceefax_api_ErrMode)] w) false (World.doorLaid Tryz.prog 4000 os) #[.slice none 0 0] 8 rfl (World.shaped_of_RefB (by kernel_rfl) (by kernel_rfl)) (by kernel_rfl) (by kernel_rfl) (by kernel_rfl) (met os _))
 intro H ds hl
 rw [Tryz.params9] at hl
 match ds, hl with
 | [d1], _ => rfl
theorem over : Rows.wholeEchoRow.holds Tryz.pinned (OpenSpec.ofChange Rows.wholeEchoSpec) :=
 OpenClaim.holds_of_wide 9 Tryz.f9 rfl rfl rfl rfl rfl rfl rfl ⟨rfl, rfl, rfl, rfl, rfl⟩ rfl rfl rfl rfl rfl (by kernel_rfl) Tryz.func9 (by kernel_rfl)
  (of_decide_eq_true (by kernel_rfl)) (by unfold Func.isWrapper; first | (rw [if_pos (by decide +kernel)]; kernel_rfl) | (rw [if_neg (by decide +kernel)]; exact ⟨rfl, rfl⟩))
  (fun os started H enc _ => lifted os started H enc)
theorem proved : Rows.WholeEchoCardSaid :=
 Claim7.holds_tied_plain_at .later [] [.sentinel, .sentinel, .sentinel, .sentinel, .sentinel, .sentinel] true (true, "c503bbb2b8591b0119eec0c4d39986a3ac3ce477720decb53dd68fb800619b78") true
  over (fun _ h => by cases h) (by kernel_rfl) (fun _ h => by cases h) wholeEcho_row_tie rfl ⟨rfl, rfl⟩ (by kernel_rfl) rfl
  (fun f fn hf hfn => by
   obtain rfl : f = 9 := Option.some.inj ((show Tryz.prog.funcNamed "ceefax/ceefaxtop.WholeEcho" = some 9 by kernel_rfl).symm.trans hf) |>.symm
   obtain rfl : fn = Tryz.f9 := (Option.some.inj (Tryz.func9.symm.trans hfn)).symm
   exact ⟨by kernel_rfl, fun j t ht => by
    have hm : t ∈ Tryz.f9.params.toList := by simpa using Array.mem_of_getElem? ht
    have hall : (Tryz.f9.params.toList.all fun u => !Tryz.prog.wantsStandIn u) = true := by kernel_rfl
    exact (show Tryz.prog.wantsStandIn t = false by simpa using List.all_eq_true.1 hall t hm)⟩)
  (by kernel_rfl)
#print axioms proved
end Go.Proofs.YtbaenaalfpcaaaaGreatDoor.wholeEcho
