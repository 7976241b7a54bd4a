/- THE STATEMENT ExecutiveCurtails: the walk joined to the row. -/
import Derived.Test.YtppgppnkhpjlpaaRows
import Derived.WalkKit
import Derived.ProofKit
import Derived.OpenShut
import Derived.ShutString
import Derived.ChangeOld
import Derived.Below
import Derived.Test.YtppgppnkhpjlpaaRm
import Derived.Test.YtppgppnkhpjlpaaVgj
import Derived.Test.YtppgppnkhpjlpaaVgm
namespace Go.Proofs.Ytppgppnkhpjlpaa
open Go.Vg Go.RowKit
set_option linter.unusedVariables false

namespace executiveCurtailsDone
open Go.Vm Go.ChangeShapes Go.WideShapes Go.ChangeAt Go.RowKit
open Go.ChangeMaps (open_string shut_string)
set_option linter.unusedVariables false

theorem own : ownKnob Try.prog.godebug = none := by kernel_rfl
theorem laidOut : laidOutB Try.prog = true := by kernel_rfl

/-! ### the walk: the Go text returns true, and writes nothing that was there -/
theorem walk (a0 : Option Addr) (len0 cap0 : Nat) (a1 : Int) (b2 : Bool) (w : World) (w0 : ∃ ls, Ss loadC 2 (fun _ _ => True) w (.slice a0 len0 cap0) ls) :
    Calls Try.prog 3 #[.slice a0 len0 cap0, .int .i64 a1, .bool b2] w fun e w' => e = .returned (.bool true) ∧ Below w.heap.size w w' := by
  obtain ⟨ls, hl⟩ := w0
  exact (ecurt_spec (need := a1) (near := b2) hl).mono fun e w' ⟨v, he, hv, hE⟩ => ⟨by rw [he, hv], hE⟩

/-! ### THE ROW's STEP: WRITTEN OUT: LEAVE IT -/
set_option maxRecDepth 100000 in
theorem lifted (os : Os) (started : os.Started) (H : Type) (enc : TypeId × Value → H) :
    ReturnsInHanded {} Try.checked os 3 .any (Rows.executiveCurtailsSpec.pre6 enc Try.prog Try.f3 Rows.executiveCurtailsRow.domain false) (Rows.executiveCurtailsSpec.post enc Try.prog Try.f3 false true false false) := by
  refine returnsInHanded_of_change (C := Try.checked) own started (by kernel_rfl) Try.func3
    (ChangeSpec.witness6 (enc := enc) (C := Try.checked) false ⟨#[], #[.slice none 0 0, .int .i64 0, .bool false], []⟩ 8 (by kernel_rfl) (by kernel_rfl) (by kernel_rfl) (by kernel_rfl)) ?_
  intro W base args ds gs before hval0 hW hcnd _
  have hval : ∀ (j : Nat) t v, Try.f3.params[j]? = some t → args[j]? = some v → Value.okWide Try.prog W .any base t v := hval0
  have hW' := hW
  obtain ⟨p, q, hA0, hV, rfl, hfz, hnd⟩ := hW
  have hA : DataW.TrodAll enc Try.prog W 0 (fun _ => true) true Try.f3.params.toList args.toList ds p := hA0
  rw [Try.params3] at hA hval
  obtain ⟨v0, vs0, d0, ds0, p0, q0, hargs, rfl, rfl, h0, r0⟩ := trodAll_cons hA
  obtain ⟨v1, vs1, d1, ds1, p1, q1, rfl, rfl, rfl, h1, r1⟩ := trodAll_cons r0
  obtain ⟨v2, vs2, d2, ds2, p2, q2, rfl, rfl, rfl, h2, r2⟩ := trodAll_cons r1
  obtain ⟨rfl, rfl, rfl⟩ := trodAll_nil r2
  obtain rfl : args = #[v0, v1, v2] := by cases args; simp_all
  obtain ⟨rfl, rfl⟩ := trodVars_none hV
  obtain ⟨a0, len0, cap0, rfl⟩ := okWide_slice Try.underlying22 (hval 0 22 v0 rfl rfl)
  have k0 := h0
  have lt0 : ∀ x ∈ p0, x.block < W.heap.size := by obtain ⟨m, hm⟩ := k0; exact DataW.trod_lt m _ _ _ hm
  have w0 : ∃ ls, Ss loadC 2 (fun _ _ => True) W (.slice a0 len0 cap0) ls := by
    obtain ⟨fuel, hf⟩ := h0
    rcases Go.Deep.open_slice_pairs Try.underlying22 Try.underlying25 (by kernel_rfl) rfl rfl (by kernel_rfl) (by kernel_rfl) hf with ⟨hcs, _⟩ | ⟨a, len, cap, m, n, V0, V1, D0, D1, P0, P1, hcs, hb, hl, hm, hmm, _, hx⟩
    · simp [Value.cells] at hcs
      obtain ⟨rfl, rfl, rfl⟩ := hcs
      exact ⟨[], Ss.nil (by decide)⟩
    · simp [Value.cells] at hcs
      obtain ⟨rfl, rfl, rfl⟩ := hcs
      have hlm : len0 ≤ m := by rw [hmm]; split <;> omega
      have each : ∀ i, i < len0 → ∃ p : Int × Int, V0 i = .int .i64 p.1 ∧ V1 i = .int .i64 p.2 := fun i hi => by
        obtain ⟨_, _, h3, h4⟩ := hx i (by omega)
        obtain ⟨z0, e0, _⟩ := DataW.trod_int Try.underlying3 h3
        obtain ⟨z1, e1, _⟩ := DataW.trod_int Try.underlying3 h4
        exact ⟨(z0, z1), by simpa using e0, by simpa using e1⟩
      obtain ⟨q, hq⟩ := Go.Deep.choose_lt each
      refine ⟨byR q len0, Ss.of_cells (c := loadC) (size := 2) (by decide) (fun _ => rfl) (length_byR ..) hl hm fun i hi j u hj => ?_⟩
      rw [byR_at hi] at hj
      obtain ⟨h1, h2, _, _⟩ := hx i (by omega)
      match j, hj with
      | 0, hj =>
        rw [(hq i hi).1] at h1
        have : u = .int .i64 (q i).1 := by simpa using hj.symm
        rw [this]; exact h1
      | 1, hj =>
        rw [(hq i hi).2] at h2
        have : u = .int .i64 (q i).2 := by simpa using hj.symm
        rw [this]; exact h2
      | j + 2, hj => simp at hj
  obtain ⟨a1, rfl, rfl, rfl, w1⟩ := open_int Try.underlying3 (hval 1 3 v1 rfl rfl) h1
  obtain ⟨b2, rfl, rfl, rfl⟩ := open_bool Try.underlying4 (hval 2 4 v2 rfl rfl) h2
  clear hA0 hval0
  refine (walk a0 len0 cap0 a1 b2 W w0).mono fun e W' ⟨he, bel⟩ => ?_
  subst he
  exact ⟨_, rfl, _, _, _, [], _, [], hW', trodAll_mk1 (shut_bool Try.underlying4 _), (trodAll_cons_mk (Below.trod laidOut (by kernel_rfl) (of_decide_eq_true (by kernel_rfl)) k0 bel lt0) (trodAll_cons_mk (shut_int Try.underlying3 w1) (trodAll_cons_mk (shut_bool Try.underlying4 _) trodAll_mk0))), rfl, bel.frame _, fun h => by cases h⟩

theorem over : Rows.executiveCurtailsRow.holds Try.pinned (OpenSpec.ofChange Rows.executiveCurtailsSpec) :=
  OpenClaim.holds_of_wide 3 Try.f3 rfl rfl rfl rfl rfl rfl rfl ⟨rfl, rfl, rfl, rfl, rfl⟩ rfl rfl rfl rfl rfl (by kernel_rfl) Try.func3 (by kernel_rfl)
    (of_decide_eq_true (by kernel_rfl)) (by unfold Func.isWrapper; first | (rw [if_pos (by decide +kernel)]; kernel_rfl) | (rw [if_neg (by decide +kernel)]; exact ⟨rfl, rfl⟩))
    (fun os started H enc _ => lifted os started H enc)

/-- ████ THE STATEMENT ████ -/
theorem proved : Rows.ExecutiveCurtailsSaid := over
#print axioms proved
end executiveCurtailsDone

end Go.Proofs.Ytppgppnkhpjlpaa
