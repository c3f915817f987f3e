/- Proved: the law PagePoints returns true for every input, and its arguments read behind the call as they did; no condition beyond the given row. -/
import Derived.Test.YtlkbeomimbohlaaGreatC24
set_option linter.unusedVariables false
set_option linter.unusedSimpArgs false
namespace Go.Abs.A30
open Go Go.Abs Go.Proofs
set_option maxRecDepth 100000
set_option maxHeartbeats 4000000
set_option linter.unusedVariables false
def ac6:AC:=by
 apply fun (y:AC) (_:@Eq AC (anF Tryz.prog 6 mu1 [] 0 0 []) y)=>y
 conv=>lhs;reduce;dsimp
theorem fn6:factOf Tryz.prog 6=some (ac6.strip,[.tmp 4],153):=by kernel_rfl
theorem ok6:ac6.okAll=true:=by kernel_rfl
end Go.Abs.A30
namespace Go.Abs.A30
open Go Go.Abs Go.Proofs
set_option maxRecDepth 100000
set_option linter.unusedVariables false
set_option linter.unusedSimpArgs false
attribute [local simp ↓] awp_skip awp_seq awp_cond awp_block awp_exit awp_ret awp_reg awp_draw awp_ghost awp_loop awp_rfun awpR_nil awpR_cons awpX_nil awpX_0 awpX_1 awpX_2 awpI_eq awpI_t awpI_f awpStep_eq
attribute [local simp] condL_true condL_false condL_dec evDel evV evN evS evA initFr Ghost.app Fr.var Fr.blk Fr.ff FF.val Abs.look Fr.app Fr.erase Fr.noSlot AV.noSlot AV.noSlotL Blk.noSlot Fr.spoken AV.fz AV.fzL Blk.fz binV binI shI binS unV fillA FF.parts FF.vals headO intO boundO lenV scalarEq leavesEq AV.aggc AV.cells FF.read FF.rows AV.one PV.one chunk freshB newS pickV retK evRs evRl evR resOf mkTup mkAgg allP cloOf okP_nil okX_p okX okP addN Del.noSlot Del.owners Rnd reify_p normM insM Fr.back Fr.backV Fr.setPs normV insV
attribute [local simp] renF Fr.trim Blk.trim AV.rn AV.rnL Blk.rn AV.among AV.amongL Blk.among okF retM fixS BIG initFF
attribute [local simp] FF.reify FF.reifyL PV.flat
section
attribute [local simp ↓] oneD2 oneI oneC onePa onePi oneSp onePl
theorem pickI_spec (line x:Int) (L:List Dpl):pickI line x L=-1∨∃ k,∃ h:k<L.length,pickI line x L=k∧hitB line x L[k]=true:=by
 unfold pickI
 cases e:L.findIdx? (hitB line x) with
 | none=>exact .inl rfl
 | some k=>
  obtain ⟨h,h1,_⟩:=List.findIdx?_eq_some_iff_getElem.1 e
  exact .inr ⟨k,h,rfl,h1⟩
theorem law6 (F:List (List (List Int))) (D:List (List Int)) (hF:∀ x∈F,x.length≤9223372036854775807∧∀ y∈x,∀ n∈y,R n) (hD:∀ x∈D,x.length≤9223372036854775807∧∀ n∈x,R n) (a0 a1:Int) (h0:-128≤a0∧a0<128) (h1:-128≤a1∧a1<128) :
  Best Tryz.prog 6 [.agg [.sl 1 (F.map lllRow),.sl 1 (D.map llRow)],.agg [.int .i8 a0,.int .i8 a1]] (.p (.bool true)):=by
 obtain ⟨cs,w,ps,⟨hc,hco,hw1,hw2,hps⟩,q10⟩:=b10 F D hF hD
 have hcs:CorsOk2 cs:=⟨by omega,fun c h=>(hco c h).fine⟩
 have q15:=b15 cs hcs w ⟨by omega,by omega⟩ cs ps hps
 have q18:=b18 cs hcs w ⟨by omega,by omega⟩ cs ps hps
 have hl:=allK_len (cs:=cs) (w:=w) hps ps.length
 have h3:=hps.1
 have hll:(docL cs w ps).length≤36:=by unfold docL;omega
 have hB:=docL_bnd hcs (w:=w) ⟨by omega,by omega⟩ hps
 have hpk:=fun line x k hk h=>@pickI_hit cs hcs w ⟨by omega,by omega⟩ ps hps line x k hk h
 simp only [docRow] at q10 q15 q18
 obtain ⟨L,eL⟩:∃ L,docL cs w ps=L:=⟨_,rfl⟩
 simp only [eL] at q15 q18 hll hB hpk
 refine best mixed fn6 ok6 (by simp) ?_
 simp -dsimp [ac6]
 refine call_p b9 (by simp) (by simp) ?_
 simp -dsimp
 refine call_p q10 (by simp) (by simp) ?_
 simp -dsimp
 refine call_p q15 (by simp) (by simp) ?_
 simp -dsimp
 refine loopC L.length (fun k=>⟨[(3,.ptr (3,0) 2 0 0),(5,.p (.bool true)),(6,.ptr (6,0) 3 0 0),(7,.p (.sl 9 (cs.map corRow))),(8,.p (.sl 6 (L.map dplRow))),(31,.p (.sl 6 (L.map dplRow))),(32,.p (.int .i64 L.length)),(33,.p (.int .i64 k))],
  [((3,0),.box [.p (.int .i8 a0),.p (.int .i8 a1)]),((6,0),.box [.p (.int .i64 w),.p (.sl 3 (cs.map pinRow)),.p (.sl 4 (ps.map parRow))])]⟩) (fun _=>True) (fun k hk _=>?_) trivial (by simp)
 by_cases h:k<L.length
 ·obtain ⟨⟨n,pi,pf,pl,px,pw⟩,ep⟩:∃ p,L[k]=p:=⟨_,rfl⟩
  obtain ⟨g1,g2,g3,g4⟩:=hB (n,⟨pi,pf,pl,px,pw⟩) (by rw [←ep];simp)
  dsimp only at g1 g2 g3 g4
  have wk:R ((k:Int)+1):=⟨by omega,by omega⟩
  have w1:R (px+pw):=⟨by omega,by omega⟩
  have w2:R (px+pw - 1):=⟨by omega,by omega⟩
  have p1:=q18 pl px
  have p2:=q18 pl (px+pw - 1)
  by_cases hw0:0<pw
  ·have e1:pickI pl px L=k:=hpk pl px k h (by rw [ep];simp [hitB];omega)
   have e2:pickI pl (px+pw - 1) L=k:=hpk pl (px+pw - 1) k h (by rw [ep];simp [hitB];omega)
   rw [e1] at p1
   rw [e2] at p2
   have m1:max (k:Int) 0=k:=by omega
   simp -dsimp [h,ep,dplRow]
   refine call_p p1 (by simp) (by simp) ?_
   simp -dsimp [wr w1,wr w2]
   refine call_p p2 (by simp) (by simp) ?_
   simp -dsimp [hw0,m1,wr wk,h]
  ·simp -dsimp [h,ep,dplRow]
   refine call_p p1 (by simp) (by simp) ?_
   simp -dsimp [wr w1,wr w2]
   refine call_p p2 (by simp) (by simp) ?_
   simp -dsimp [hw0,wr wk,h]
 ·have:k=L.length:=by omega
  subst this
  have wa0:R a0:=⟨by omega,by omega⟩
  have wa1:R a1:=⟨by omega,by omega⟩
  simp -dsimp [h,wr wa0,wr wa1]
  obtain ⟨line,el⟩:∃ v,IntKind.i64.wrap (((a0 % 2 ^ IntKind.i64.bits).toNat &&& 7 % 2 ^ IntKind.i64.bits:Nat):Int)=v:=⟨_,rfl⟩
  rw [el]
  have p1:=q18 line a1
  have hsp:=pickI_spec line a1 L
  have hpk1:=fun k hk h=>hpk line a1 k hk h
  obtain ⟨pk,epk⟩:∃ v,pickI line a1 L=v:=⟨_,rfl⟩
  rw [epk] at p1 hsp
  simp only [epk] at hpk1
  refine call_p p1 (by simp) (by simp) ?_
  simp -dsimp
  refine loopC L.length (fun k=>⟨[(5,.p (.bool true)),(15,.p (.int .i64 line)),(16,.p (.int .i64 a1)),(17,.p (.int .i64 (max pk 0))),(18,.p (.bool (decide (0≤pk)))),(19,.p (.int .i64 (if 0≤pk∧pk<(k:Int) then 1 else 0))),(99,.p (.sl 6 (L.map dplRow))),(100,.p (.int .i64 L.length)),(101,.p (.int .i64 k))],[]⟩) (fun _=>True) (fun k hk _=>?_) trivial (by
   have:¬(0≤pk∧pk<((0:Nat):Int)):=by omega
   simp [this])
  by_cases h:k<L.length
  ·obtain ⟨⟨n,pi,pf,pl,px,pw⟩,ep⟩:∃ p,L[k]=p:=⟨_,rfl⟩
   obtain ⟨g1,g2,g3,g4⟩:=hB (n,⟨pi,pf,pl,px,pw⟩) (by rw [←ep];simp)
   dsimp only at g1 g2 g3 g4
   have wk:R ((k:Int)+1):=⟨by omega,by omega⟩
   have w1:R (px+pw):=⟨by omega,by omega⟩
   have hitk:=hpk1 k h
   rw [ep] at hitk
   have hno:¬(pl=line∧px≤a1∧a1<px+pw)→(if 0≤pk∧pk<((k+1:Nat):Int) then (1:Int) else 0)=if 0≤pk∧pk<(k:Int) then 1 else 0:=by
    intro hn
    have hne:pk≠k:=by
     intro e
     rcases hsp with e2 | ⟨j,hj,e2,e3⟩
     ·omega
     ·have:j=k:=by omega
      subst this
      rw [ep] at e3
      simp only [hitB,Bool.and_eq_true,decide_eq_true_eq] at e3
      exact hn ⟨e3.2.1.1,e3.2.1.2,e3.2.2⟩
    by_cases q:0≤pk∧pk<(k:Int)
    ·rw [if_pos q,if_pos (by push_cast;omega)]
    ·rw [if_neg q,if_neg (by push_cast;omega)]
   by_cases c1:pl=line
   ·by_cases c2:px≤a1
    ·by_cases c3:a1<px+pw
     ·have e:=hitk (by simp [hitB,c1,c2,c3];omega)
      have e1:¬(0≤pk∧pk<(k:Int)):=by omega
      have e2:0≤pk∧pk<((k+1:Nat):Int):=by push_cast;omega
      have e3:(0:Int)≤k:=by omega
      have e4:max (k:Int) 0=k:=by omega
      have w2:R (1:Int):=⟨by omega,by omega⟩
      rw [if_neg e1,if_pos e2,e]
      simp -dsimp [h,ep,dplRow,c1,c2,c3,wr w1,wr w2,wr wk,e3,e4]
     ·rw [hno (fun q=>c3 q.2.2)]
      obtain ⟨mk,emk⟩:∃ v:Int,(if 0≤pk∧pk<(k:Int) then (1:Int) else 0)=v:=⟨_,rfl⟩
      rw [emk]
      simp -dsimp [h,ep,dplRow,c1,c2,c3,wr w1,wr wk]
    ·rw [hno (fun q=>c2 q.2.1)]
     obtain ⟨mk,emk⟩:∃ v:Int,(if 0≤pk∧pk<(k:Int) then (1:Int) else 0)=v:=⟨_,rfl⟩
     rw [emk]
     simp -dsimp [h,ep,dplRow,c1,c2,wr w1,wr wk]
   ·rw [hno (fun q=>c1 q.1)]
    obtain ⟨mk,emk⟩:∃ v:Int,(if 0≤pk∧pk<(k:Int) then (1:Int) else 0)=v:=⟨_,rfl⟩
    rw [emk]
    simp -dsimp [h,ep,dplRow,c1,wr w1,wr wk]
  ·have:k=L.length:=by omega
   subst this
   rcases hsp with e | ⟨j,hj,e,_⟩
   ·have e1:¬(0≤pk∧pk<(L.length:Int)):=by omega
    rw [if_neg e1,e]
    simp -dsimp [h]
    decide
   ·have e1:0≤pk∧pk<(L.length:Int):=by omega
    rw [if_pos e1,e]
    have e3:(0:Int)≤j:=by omega
    simp -dsimp [h,e3]
end
end Go.Abs.A30
namespace Go.Proofs.YtlkbeomimbohlaaGreat
open Go Go.Abs Go.ChangeShapes Go.WideShapes Go.RowKit Go.Proofs Go.Abs.A30
set_option maxRecDepth 100000
set_option linter.unusedVariables false
theorem pagePoints_lifted (os:Os) (started:os.Started) (H:Type) (enc:TypeId×Value→H) :
  ReturnsInHanded {} Tryz.checked os 6 .any (ChangeSpec.pre6 enc Tryz.prog Tryz.f6 Rows.pagePointsSpec [] false)
   (Rows.pagePointsSpec.post enc Tryz.prog Tryz.f6 false true false false):=by
 refine returnsInHanded_of_change (C:=Tryz.checked) own started (by kernel_rfl) Tryz.func6
  (ChangeSpec.witness6_at (enc:=enc) (C:=Tryz.checked) (os:=os) false (restWorld os) #[.agg #[.slice none 0 0,.slice none 0 0],.agg #[.int .i8 0,.int .i8 0]] 8 rfl (by kernel_rfl) (by kernel_rfl) (by kernel_rfl) (by kernel_rfl) (by kernel_rfl)) ?_
 intro W base args ds gs before hval hW _ _
 have hW':=hW
 obtain ⟨p,q,hA,hV,-,-,-⟩:=hW'
 have hA:DataW.TrodAll enc Tryz.prog W 0 (fun _=>true) true Tryz.f6.params.toList args.toList ds p:=hA
 rw [Tryz.params6] at hA
 have hval:∀ (j:Nat) t v,Tryz.f6.params[j]?=some t→args[j]?=some v→Value.okWide Tryz.prog W .any base t v:=hval
 rw [Tryz.params6] at hval
 obtain ⟨v0,v1,d0,d1,p0,p1,rfl,rfl,rfl,h0,h1⟩:=trodAll_two hA
 obtain ⟨a0,o0,r0⟩:=Rd.argT Tryz.underlying25 rd_case (hval 0 25 v0 rfl rfl) h0
 obtain ⟨a1,o1,r1⟩:=Rd.argA Tryz.underlying28 rd_b2 (hval 1 28 v1 rfl rfl) h1
 exact law_step rfl rfl hW rfl (by decide +kernel) (law6 a0.1 a0.2 o0.1 o0.2 a1.1 a1.2 o1.1 o1.2) (Ps.cons r0 (Ps.one r1))
theorem pagePoints_holds:Rows.PagePointsSaid:=
 OpenClaim.holds_of_wide 6 Tryz.f6 rfl rfl rfl rfl rfl rfl rfl ⟨rfl,rfl,rfl,rfl,rfl⟩ rfl rfl rfl rfl rfl (by kernel_rfl) Tryz.func6 (by kernel_rfl)
  (of_decide_eq_true (by kernel_rfl)) (by unfold Func.isWrapper;rw [if_neg (of_decide_eq_false (by kernel_rfl))];exact ⟨rfl,rfl⟩)
  (fun os started H enc _=>pagePoints_lifted os started H enc)
end Go.Proofs.YtlkbeomimbohlaaGreat
