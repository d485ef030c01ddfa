/-
  BootStarts returns true, whatever its arguments: its code is walked in a verified interpreter over abstract memory (the texts Ab..), function by function; the arguments are opened into that memory by their types.
-/
import Derived.Test.YtnemiikeflojaaaGreatRows
import Derived.Test.YtnemiikeflojaaaGreatAbC
import Derived.Test.YtnemiikeflojaaaGreatUI
namespace Go.Proofs.YtnemiikeflojaaaGreat.bootStarts
open Go.ChangeShapes Go.WideShapes Go.ChangeAt Go.RowKit
set_option linter.unusedVariables false

theorem own : ownKnob Tryz.prog.godebug = none := by kernel_rfl

set_option maxRecDepth 100000 in
theorem good : Ab.goodB Tryz.prog = true := by kernel_rfl
set_option maxRecDepth 100000 in
theorem alive : Ab.OrcOk Tryz.prog := Ab.orc1_ok (fun H => @Ab.orc_closed Tryz.prog Ab.orc0 good Ab.orc0_ok 1000000 _ (by kernel_rfl) H)
set_option maxRecDepth 100000 in
theorem laid : laidOutB Tryz.prog = true := by kernel_rfl
set_option maxRecDepth 100000 in
theorem sup : (Tryz.f3.params.toList.all fun t => Ab.supB Tryz.prog 20 t) = true := by kernel_rfl
set_option maxRecDepth 100000 in
theorem rdb : (Tryz.f3.params.toList.all fun t => Tryz.prog.readableRec t && Nat.blt t Tryz.prog.types.size) = true := by kernel_rfl
theorem rdb' : ∀ t ∈ Tryz.f3.params.toList, Tryz.prog.readableRec t = true ∧ t < Tryz.prog.types.size := fun t ht => by
  have := List.all_eq_true.1 rdb t ht
  rw [Bool.and_eq_true, Ab.blt_eq] at this
  exact ⟨this.1, of_decide_eq_true this.2⟩

theorem walk (av : List Value) (bs : List (List Value)) (h : Ab.ArgS Tryz.prog Tryz.f3.params.toList Tryz.prog.globals.size av bs) :
    Ab.wCall Tryz.prog 3 av (Ab.lay (Ab.start Tryz.prog.globals.size) bs) fun v _ => v = .bool true := by
  have hO := Ab.st_args Tryz.prog.globals.size bs
  have h : Ab.ArgS Tryz.prog [34] Tryz.prog.globals.size av bs := by rw [Tryz.params3] at h; exact h
  obtain ⟨b0, b1, t, v, w, ns, ks, vs, c1, c2, rfl, rfl, htw, r1, hnb, r2, hkb, h2⟩ := J.arg_starts h
  obtain ⟨rfl, rfl⟩ := Ab.arg_nil h2
  rw [Ab.argG_append] at hO
  have n1 := J.RdN.app (Δ := Ab.argG (Tryz.prog.globals.size + c1.length) []) r1
  have n2 := Ab.RdB.app (Δ := Ab.argG (Tryz.prog.globals.size + c1.length) []) r2
  exact J.starts_main hO htw n1 hnb n2 hkb

set_option maxRecDepth 100000 in
theorem lifted (os : Os) (started : os.Started) (H : Type) (enc : TypeId × Value → H) :
    ReturnsInHanded {} Tryz.checked os 3 .any (Rows.bootStartsSpec.pre6 enc Tryz.prog Tryz.f3 Rows.bootStartsRow.domain false) (Rows.bootStartsSpec.post enc Tryz.prog Tryz.f3 false true false false) := by
  refine returnsInHanded_of_change (C := Tryz.checked) own started (by kernel_rfl) Tryz.func3
    (ChangeSpec.witness6 (enc := enc) (C := Tryz.checked) false ⟨#[], #[.agg #[.int .i64 0, .int .i64 0, .int .i64 0, .int .i64 0, .int .u64 0, .int .i64 0, .int .u8 0, .int .u8 0, .int .u8 0, .int .u8 0, .int .u8 0, .int .u8 0, .int .u8 0, .int .u8 0, .int .u8 0, .int .u8 0, .int .u8 0, .int .u8 0, .int .u8 0, .int .u8 0, .int .u8 0, .int .u8 0, .int .u8 0, .int .u8 0, .int .u8 0, .int .u8 0, .int .u8 0, .int .u8 0, .int .u8 0, .int .u8 0, .int .u8 0, .int .u8 0, .int .u8 0, .int .u8 0, .int .u8 0, .int .u8 0, .int .u8 0, .int .u8 0, .int .i64 0, .int .i64 0, .int .u64 0, .int .i64 0, .int .u8 0, .int .u8 0, .int .u8 0, .int .u8 0, .int .u8 0, .int .u8 0, .int .u8 0, .int .u8 0, .int .u8 0, .int .u8 0, .int .u8 0, .int .u8 0, .int .u8 0, .int .u8 0, .int .u8 0, .int .u8 0, .int .u8 0, .int .u8 0, .int .u8 0, .int .u8 0, .int .u8 0, .int .u8 0, .int .u8 0, .int .u8 0, .int .u8 0, .int .u8 0, .int .u8 0, .int .u8 0, .int .u8 0, .int .u8 0, .int .u8 0, .int .u8 0, .int .i64 0, .int .i64 0, .int .u64 0, .slice none 0 0, .slice none 0 0]], []⟩ 8 (by kernel_rfl) (by kernel_rfl) (by kernel_rfl) (by kernel_rfl)) ?_
  intro W base args ds gs before hval0 hW hcnd _
  have hW' := hW
  obtain ⟨p, q, hA, hV, rfl, hfz, hnd⟩ := hW
  obtain ⟨rfl, rfl⟩ := trodVars_none hV
  have hlen := Ab.trodAll_len hA
  refine (Ab.law_calls good alive (fun t ht => List.all_eq_true.1 sup t ht) walk (fun j t v ht hv => hval0 j t v (by simpa using ht) (by simpa using hv)) hA).mono fun e W' ⟨he, hg⟩ => ?_
  subst he
  obtain ⟨d0, rfl⟩ : ∃ d0, ds = [d0] := by
    have hlen : ds.length = 1 := by rw [Tryz.params3] at hlen; exact hlen
    match ds, hlen with
    | [d0], _ => exact ⟨d0, rfl⟩
  exact ⟨_, rfl, Ab.post_law laid rdb' rfl hW' hg (fun _ _ _ => (trodAll_cons_mk (shut_bool Tryz.underlying4 _) trodAll_mk0)) rfl rfl⟩

theorem over : Rows.bootStartsRow.holds Tryz.pinned (OpenSpec.ofChange Rows.bootStartsSpec) :=
  OpenClaim.holds_of_wide 3 Tryz.f3 rfl rfl rfl rfl rfl rfl rfl ⟨rfl, rfl, rfl, rfl, rfl⟩ rfl rfl rfl rfl rfl (by kernel_rfl) Tryz.func3 (by kernel_rfl)
    (of_decide_eq_true (by kernel_rfl)) (by unfold Func.isWrapper; first | (rw [if_pos (by decide +kernel)]; kernel_rfl) | (rw [if_neg (by decide +kernel)]; exact ⟨rfl, rfl⟩))
    (fun os started H enc _ => lifted os started H enc)

theorem proved : Rows.BootStartsSaid :=
  over
end Go.Proofs.YtnemiikeflojaaaGreat.bootStarts
