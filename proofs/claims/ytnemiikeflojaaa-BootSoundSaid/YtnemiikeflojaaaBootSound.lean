/-
  BootSound returns true, whatever its arguments: its code is walked in a verified interpreter over abstract memory (the texts Ab..), function by function; the arguments are opened into that memory by their types.
-/
import Derived.Test.YtnemiikeflojaaaRows
import Derived.Test.YtnemiikeflojaaaAbC
import Derived.Test.YtnemiikeflojaaaUG
namespace Go.Proofs.Ytnemiikeflojaaa.bootSound
open Go.ChangeShapes Go.WideShapes Go.ChangeAt Go.RowKit
set_option linter.unusedVariables false

theorem own : ownKnob Try.prog.godebug = none := by kernel_rfl

set_option maxRecDepth 100000 in
theorem good : Ab.goodB Try.prog = true := by kernel_rfl
set_option maxRecDepth 100000 in
theorem alive : Ab.OrcOk Try.prog := Ab.orc1_ok (fun H => @Ab.orc_closed Try.prog Ab.orc0 good Ab.orc0_ok 1000000 _ (by kernel_rfl) H)
set_option maxRecDepth 100000 in
theorem laid : laidOutB Try.prog = true := by kernel_rfl
set_option maxRecDepth 100000 in
theorem sup : (Try.f3.params.toList.all fun t => Ab.supB Try.prog 20 t) = true := by kernel_rfl
set_option maxRecDepth 100000 in
theorem rdb : (Try.f3.params.toList.all fun t => Try.prog.readableRec t && Nat.blt t Try.prog.types.size) = true := by kernel_rfl
theorem rdb' : ∀ t ∈ Try.f3.params.toList, Try.prog.readableRec t = true ∧ t < Try.prog.types.size := fun t ht => by
  have := List.all_eq_true.1 rdb t ht
  rw [Bool.and_eq_true, Ab.blt_eq] at this
  exact ⟨this.1, of_decide_eq_true this.2⟩

theorem walk (av : List Value) (bs : List (List Value)) (h : Ab.ArgS Try.prog Try.f3.params.toList Try.prog.globals.size av bs) :
    Ab.wCall Try.prog 3 av (Ab.lay (Ab.start Try.prog.globals.size) bs) fun v _ => v = .bool true := by
  have hO := Ab.st_args Try.prog.globals.size bs
  have h : Ab.ArgS Try.prog [22, 3, 27] Try.prog.globals.size av bs := by rw [Try.params3] at h; exact h
  obtain ⟨v, vs, b1, b2, xs, rfl, rfl, r1, hb, h1⟩ := J.arg_bytes h
  obtain ⟨x, vs, rfl, _, h2⟩ := Ab.arg_int (k := .i64) Try.underlying3 h1
  obtain ⟨s, vs, rfl, h3⟩ := J.arg_slot h2
  obtain ⟨rfl, rfl⟩ := Ab.arg_nil h3
  rw [Ab.argG_append] at hO
  exact J.sound_main hO r1.app hb

set_option maxRecDepth 100000 in
theorem lifted (os : Os) (started : os.Started) (H : Type) (enc : TypeId × Value → H) :
    ReturnsInHanded {} Try.checked os 3 .any (Rows.bootSoundSpec.pre6 enc Try.prog Try.f3 Rows.bootSoundRow.domain false) (Rows.bootSoundSpec.post enc Try.prog Try.f3 false true false false) := by
  refine returnsInHanded_of_change (C := Try.checked) own started (by kernel_rfl) Try.func3
    (ChangeSpec.witness6 (enc := enc) (C := Try.checked) false ⟨#[], #[.slice none 0 0, .int .i64 0, .agg #[.int .i64 0, .int .i64 0, .int .u64 0, .int .i64 0, .int .u8 0, .int .u8 0, .int .u8 0, .int .u8 0, .int .u8 0, .int .u8 0, .int .u8 0, .int .u8 0, .int .u8 0, .int .u8 0, .int .u8 0, .int .u8 0, .int .u8 0, .int .u8 0, .int .u8 0, .int .u8 0, .int .u8 0, .int .u8 0, .int .u8 0, .int .u8 0, .int .u8 0, .int .u8 0, .int .u8 0, .int .u8 0, .int .u8 0, .int .u8 0, .int .u8 0, .int .u8 0, .int .u8 0, .int .u8 0, .int .u8 0, .int .u8 0]], []⟩ 8 (by kernel_rfl) (by kernel_rfl) (by kernel_rfl) (by kernel_rfl)) ?_
  intro W base args ds gs before hval0 hW hcnd _
  have hW' := hW
  obtain ⟨p, q, hA, hV, rfl, hfz, hnd⟩ := hW
  obtain ⟨rfl, rfl⟩ := trodVars_none hV
  have hlen := Ab.trodAll_len hA
  refine (Ab.law_calls good alive (fun t ht => List.all_eq_true.1 sup t ht) walk (fun j t v ht hv => hval0 j t v (by simpa using ht) (by simpa using hv)) hA).mono fun e W' ⟨he, hg⟩ => ?_
  subst he
  obtain ⟨d0, d1, d2, rfl⟩ : ∃ d0 d1 d2, ds = [d0, d1, d2] := by
    have hlen : ds.length = 3 := by rw [Try.params3] at hlen; exact hlen
    match ds, hlen with
    | [d0, d1, d2], _ => exact ⟨d0, d1, d2, rfl⟩
  exact ⟨_, rfl, Ab.post_law laid rdb' rfl hW' hg (fun _ _ _ => (trodAll_cons_mk (shut_bool Try.underlying4 _) trodAll_mk0)) rfl rfl⟩

theorem over : Rows.bootSoundRow.holds Try.pinned (OpenSpec.ofChange Rows.bootSoundSpec) :=
  OpenClaim.holds_of_wide 3 Try.f3 rfl rfl rfl rfl rfl rfl rfl ⟨rfl, rfl, rfl, rfl, rfl⟩ rfl rfl rfl rfl rfl (by kernel_rfl) Try.func3 (by kernel_rfl)
    (of_decide_eq_true (by kernel_rfl)) (by unfold Func.isWrapper; first | (rw [if_pos (by decide +kernel)]; kernel_rfl) | (rw [if_neg (by decide +kernel)]; exact ⟨rfl, rfl⟩))
    (fun os started H enc _ => lifted os started H enc)

theorem proved : Rows.BootSoundSaid :=
  over
end Go.Proofs.Ytnemiikeflojaaa.bootSound
