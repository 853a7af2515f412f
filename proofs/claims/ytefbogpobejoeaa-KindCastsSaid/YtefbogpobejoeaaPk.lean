/- The law KindCasts: WHATEVER THE INPUT it tells true, it never panics, and the input reads as it did: the row, out of KindCasts_calls. -/
import Derived.Test.YtefbogpobejoeaaRows
import Derived.Test.YtefbogpobejoeaaRw
import Derived.Test.YtefbogpobejoeaaWk
set_option linter.unusedVariables false
set_option linter.unusedSimpArgs false
namespace Go.Proofs.Ytefbogpobejoeaa.kindCasts
open Go.ChangeShapes Go.WideShapes Go.ChangeAt Go.RowKit Go.Joins
open Go.ChangeMaps (open_string shut_string)
theorem own : ownKnob Try.prog.godebug = none := by kernel_rfl
set_option maxRecDepth 100000 in
theorem lifted (os : Os) (started : os.Started) (H : Type) (enc : TypeId × Value → H) :
    ReturnsInHanded {} Try.checked os 3 .any (Rows.kindCastsSpec.pre6 enc Try.prog Try.f3 Rows.kindCastsRow.domain false) (Rows.kindCastsSpec.post enc Try.prog Try.f3 false true false false) := by
  refine returnsInHanded_of_change_sized (C := Try.checked) own started (by kernel_rfl) Try.func3
    (ChangeSpec.witness6 (enc := enc) (C := Try.checked) false ⟨#[], #[.agg #[.int .i64 0, .int .u64 0, .string ByteArray.empty], .agg #[.string ByteArray.empty, .int .i64 0, .int .i64 0], .agg #[.string ByteArray.empty, .int .i64 0, .int .i64 0]], []⟩ 8 (by kernel_rfl) (by kernel_rfl) (by kernel_rfl) (by kernel_rfl)) ?_
  intro W base args ds gs before hval0 hW hcnd hsz0 _
  have hval : ∀ (j : Nat) t v, Try.f3.params[j]? = some t → args[j]? = some v → Value.okWide Try.prog W .any base t v := hval0
  have hW' := hW
  obtain ⟨p, q, hA0, hV, rfl, hfz, hnd⟩ := hW
  have hA : DataW.TrodAll enc Try.prog W 0 (fun _ => true) true Try.f3.params.toList args.toList ds p := hA0
  rw [Try.params3] at hA hval
  obtain ⟨v0, vs0, d0, ds0, p0, q0, hargs, rfl, rfl, h0, r0⟩ := trodAll_cons hA
  obtain ⟨v1, vs1, d1, ds1, p1, q1, rfl, rfl, rfl, h1, r1⟩ := trodAll_cons r0
  obtain ⟨v2, vs2, d2, ds2, p2, q2, rfl, rfl, rfl, h2, r2⟩ := trodAll_cons r1
  obtain ⟨rfl, rfl, rfl⟩ := trodAll_nil r2
  obtain rfl : args = #[v0, v1, v2] := by cases args; simp_all
  obtain ⟨rfl, rfl⟩ := trodVars_none hV
  obtain ⟨a0, b0, c0, rfl, e0, f0, g0, t0⟩ := open_val (hval 0 24 v0 rfl rfl) h0
  obtain ⟨a1, b1, c1, rfl, e1, f1, g1, t1⟩ := open_fld (hval 1 26 v1 rfl rfl) h1
  obtain ⟨a2, b2, c2, rfl, e2, f2, g2, t2⟩ := open_fld (hval 2 26 v2 rfl rfl) h2
  clear hA0 hval0 hsz0
  refine (KindCasts_calls a0 b0 c0 a1 b1 c1 a2 b2 c2 e0.1 e0.2 f0.1 f0.2 g0 e1.1 e1.2 f1.1 f1.2 g1 e2.1 e2.2 f2.1 f2.2 g2 W).mono fun e W' ⟨he, bel⟩ => ?_
  subst he
  exact ⟨_, rfl, _, _, _, [], _, [], hW', trodAll_mk1 (shut_bool Try.underlying4 _), (trodAll_cons_mk (t0 _ _ _ _) (trodAll_cons_mk (t1 _ _ _ _) (trodAll_cons_mk (t2 _ _ _ _) trodAll_mk0))), rfl, bel.frame _, fun h => by cases h⟩
theorem over : Rows.kindCastsRow.holds Try.pinned (OpenSpec.ofChange Rows.kindCastsSpec) :=
  OpenClaim.holds_of_wide 3 Try.f3 rfl rfl rfl rfl rfl rfl rfl ⟨rfl, rfl, rfl, rfl, rfl⟩ rfl rfl rfl rfl rfl (by kernel_rfl) Try.func3 (by kernel_rfl)
    (of_decide_eq_true (by kernel_rfl)) (by unfold Func.isWrapper; first | (rw [if_pos (by decide +kernel)]; kernel_rfl) | (rw [if_neg (by decide +kernel)]; exact ⟨rfl, rfl⟩))
    (fun os started H enc _ => lifted os started H enc)
theorem proved : Rows.KindCastsSaid := over
end Go.Proofs.Ytefbogpobejoeaa.kindCasts
namespace Go.Proofs.Ytefbogpobejoeaa
/-- The row, under a short name, for the claim. -/
theorem kindCasts_holds : Rows.KindCastsSaid := kindCasts.proved
end Go.Proofs.Ytefbogpobejoeaa
