/- Proved: the law PagePlaces returns true for every input, and its arguments read behind the call as they did; no condition beyond the given row. -/
import Derived.Test.YtlkbeomimbohlaaGreatL3x9
set_option linter.unusedVariables false
set_option linter.unusedSimpArgs false
namespace Go.Proofs.YtlkbeomimbohlaaGreat
open Go Go.Abs Go.ChangeShapes Go.WideShapes Go.RowKit Go.Proofs Go.Abs.A30
set_option maxRecDepth 100000
set_option linter.unusedVariables false
theorem pagePlaces_lifted (os:Os) (started:os.Started) (H:Type) (enc:TypeId×Value→H) :
  ReturnsInHanded {} Tryz.checked os 3 .any (ChangeSpec.pre6 enc Tryz.prog Tryz.f3 Rows.pagePlacesSpec [] false)
   (Rows.pagePlacesSpec.post enc Tryz.prog Tryz.f3 false true false false):=by
 refine returnsInHanded_of_change (C:=Tryz.checked) own started (by kernel_rfl) Tryz.func3
  (ChangeSpec.witness6_at (enc:=enc) (C:=Tryz.checked) (os:=os) false (restWorld os) #[.agg #[.slice none 0 0,.slice none 0 0],.agg #[.int .i64 0,.int .i64 0],.agg #[.int .i8 0,.int .i8 0]] 8 rfl (by kernel_rfl) (by kernel_rfl) (by kernel_rfl) (by kernel_rfl) (by kernel_rfl)) ?_
 intro W base args ds gs before hval hW _ _
 have hW':=hW
 obtain ⟨p,q,hA,hV,-,-,-⟩:=hW'
 have hA:DataW.TrodAll enc Tryz.prog W 0 (fun _=>true) true Tryz.f3.params.toList args.toList ds p:=hA
 rw [Tryz.params3] at hA
 have hval:∀ (j:Nat) t v,Tryz.f3.params[j]?=some t→args[j]?=some v→Value.okWide Tryz.prog W .any base t v:=hval
 rw [Tryz.params3] at hval
 obtain ⟨v0,v1,v2,d0,d1,d2,p0,p1,p2,rfl,rfl,rfl,h0,h1,h2⟩:=trodAll_three hA
 obtain ⟨a0,o0,r0⟩:=Rd.argT Tryz.underlying25 rd_case (hval 0 25 v0 rfl rfl) h0
 obtain ⟨a1,o1,r1⟩:=Rd.argA Tryz.underlying26 rd_n2 (hval 1 26 v1 rfl rfl) h1
 obtain ⟨a2,o2,r2⟩:=Rd.argA Tryz.underlying28 rd_b2 (hval 2 28 v2 rfl rfl) h2
 exact law_step rfl rfl hW rfl (by decide +kernel) (law3 a0.1 a0.2 o0.1 o0.2 a1.1 a1.2 a2.1 a2.2 o2.1 o2.2) (Ps.cons r0 (Ps.cons r1 (Ps.one r2)))
theorem pagePlaces_holds:Rows.PagePlacesSaid:=
 OpenClaim.holds_of_wide 3 Tryz.f3 rfl rfl rfl rfl rfl rfl rfl ⟨rfl,rfl,rfl,rfl,rfl⟩ rfl rfl rfl rfl rfl (by kernel_rfl) Tryz.func3 (by kernel_rfl)
  (of_decide_eq_true (by kernel_rfl)) (by unfold Func.isWrapper;rw [if_neg (of_decide_eq_false (by kernel_rfl))];exact ⟨rfl,rfl⟩)
  (fun os started H enc _=>pagePlaces_lifted os started H enc)
end Go.Proofs.YtlkbeomimbohlaaGreat
