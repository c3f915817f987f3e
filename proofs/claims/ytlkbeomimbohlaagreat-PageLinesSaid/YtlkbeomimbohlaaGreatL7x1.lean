/- Proved: the law PageLines returns true for every input, and its arguments read behind the call as they did; no condition beyond the given row. -/
import Derived.Test.YtlkbeomimbohlaaGreatC24
set_option linter.unusedVariables false
set_option linter.unusedSimpArgs false
namespace Go.Abs.A30
open Go Go.Abs Go.Proofs
set_option maxRecDepth 100000
set_option maxHeartbeats 4000000
set_option linter.unusedVariables false
def ac7:AC:=by
 apply fun (y:AC) (_:@Eq AC (let e0:=[3,4,5,6,7,8,9,11,24,25,26,38,39,40];let e1:=[3,4,5,6,7,8,9,11,13,24,25,26,38,39,40];let e2:=[3,4,5,6,7,8,24,25,26];(qk [0] (qs (qr [(qp 1 (.box (.v 0))),(qp 2 (.mov (.c (.bool false))))]) (qk [1] (qs (qr [(qp 14 (.call 9 [])),(yn 3 14 [0,0,0])]) (qk [1,3] (qs (qr [(qp 16 (qt 2 1)),(qi 17 (.call 10 [.v 16]) [0]),(yn 15 17 [1]),(qi 18 (.ext (.v 15) 0) [2]),(qi 19 (.ext (.v 15) 1) [2]),(qp 4 (.alloc [.int .i64 0,.nsl,.nsl])),(qo (.store 3 (.v 4) (.v 18)) [5,3,1,0,1,2,3,5]),(yn 5 19 [4,6,0,1,2,3,4,5,6])]) (qk [3,4,5] (qs (qr [(qp 20 (qt 3 4)),(ym 21 5),(qi 22 (.call 15 [.v 20,.v 21]) [0,1]),(yn 6 22 [2,2,0,1,2])]) (qk [3,4,5,6] (qs (qr [(qp 7 (.mov (qz 0))),(qi 8 (.mov (qz 0)) [0,0])]) (qk [3,4,5,6,7,8] (qs (qs (qr [(qp 23 (qf 2 4)),(yk 24 23 [0]),(yh 25 24 [1]),(qp 26 (.mov (qz 0)))]) (qk e2 (.block 0 (.loop (qk e2 (qs (qr [(qp 27 (qb .lss 26 25))]) (qk [3,4,5,6,7,8,24,25,26,27] (qs (qq (.v 27) .skip (.exit 0)) (qk e2 (qs (.block 1 (qs (qr [(ym 28 26),(qp 29 (qj 4 24 26)),(qi 30 (qt 4 29) [1]),(qp 10 (.alloc [.str ⟨#[]⟩,.int .i64 0,.nsl,.int .i64 0])),(yn 9 28 [0,0,1,2,3]),(qo (.store 4 (.v 10) (.v 30)) [3,2,4,0,1,2,3,4])]) (qk [3,4,5,6,7,8,9,10,24,25,26] (qs (qr [(qp 11 (.mov (qz 1)))]) (qk [3,4,5,6,7,8,9,10,11,24,25,26] (qs (qs (qr [(ym 31 5),(qp 32 (qf 0 10)),(yk 33 32 [1]),(qp 34 (qf 1 10)),(qi 35 (qt 3 34) [3]),(qp 36 (qf 0 4)),(yk 37 36 [5]),(qi 38 (.call 19 [.v 31,.v 33,.v 35,.v 37]) [0,2,4,6]),(yh 39 38 [7]),(qp 40 (.mov (qz 0)))]) (qk e0 (.block 2 (.loop (qk e0 (qs (qr [(qp 41 (qb .lss 40 39))]) (qk [3,4,5,6,7,8,9,11,24,25,26,38,39,40,41] (qs (qq (.v 41) .skip (.exit 2)) (qk e0 (qs (.block 3 (qs (qr [(qp 42 (qj 6 38 40)),(qi 43 (qt 6 42) [0]),(qp 13 (.alloc [.int .i64 0,.int .i64 0,.int .i64 0,.int .i64 0,.int .i64 0,.int .i64 0])),(qo (.store 6 (.v 13) (.v 43)) [2,1,0,1,2])]) (qk e1 (qs (qr [(ym 44 11),(qp 45 (qf 3 13)),(yk 46 45 [1]),(yc 47 .add 46 (qz 1) [2]),(qi 48 (.mm true (.v 44) (.v 47)) [0,3]),(yn 11 48 [4,0,1,2,3,4])]) (qk e1 (qs (qr [(ym 49 9),(qp 50 (qf 3 13)),(yk 51 50 [1]),(ym 52 8),(yb 53 .add 51 52 [2,3]),(yf 54 0 13 [0,1,2]),(qo (.store 1 (.v 54) (.v 49)) [5,0,0,1,2]),(yf 55 3 13 [0,1,2,3,4,5,6]),(qo (.store 1 (.v 55) (.v 53)) [7,4,6,0,1,2,3,4,5,6])]) (qk e1 (qs (qs (qd [(qe (ym 56 7) [57,58] [] 2),(qe (ym 57 6) [56] [0] 2),(qe (yh 58 57 [1]) [56] [0] 2),(qe (yb 59 .geq 56 58 [0,2]) [] [] 2),(qe (yn 60 59 [3]) [] [] 2),(qe (qg 61 (qm 6) 60 false [4]) [62,65] [] 2),(qe (qg 62 (qm 7) 60 false [4]) [61,65] [5] 2),(qe (qg 63 (qj 6 61 62) 60 false [5,6,4]) [65] [] 2),(qe (qg 64 (qt 6 63) 60 false [7,4]) [65] [] 2),(qe (qg 65 (qt 6 13) 60 false [4]) [61,62,63,64] [5,6,7,8] 2),(qe (qg 66 (.eqs true 6 [(0,1),(1,1),(2,1),(3,1),(4,1),(5,1)] (.v 64) (.v 65)) 60 false [8,9,4]) [] [] 2),(qe (qi 67 (.pick (.v 60) (.c (.bool true)) (.v 66)) [4,10]) [] [] 2)]) (qk [3,4,5,6,7,8,9,11,24,25,26,38,39,40,67] (qq (.v 67) (qs (qr [(qp 2 (.mov (.c (.bool false))))]) (qk [2] .ret)) .skip))) (qk e0 (qr [(ym 68 7),(yc 69 .add 68 (qz 1) [0]),(yn 7 69 [1,0,1])])))))))))) (qk e0 (qr [(qp 70 (qc .add 40 (qz 1))),(yn 40 70 [0])])))))))))))) (qk [3,4,5,6,7,8,11,24,25,26] (qr [(ym 71 8),(ym 72 11),(yb 73 .add 71 72 [0,1]),(yn 8 73 [2,0,1,2])])))))))) (qk e2 (qr [(qp 74 (qc .add 26 (qz 1))),(yn 26 74 [0])])))))))))))) (qk [3,6,7] (qs (qr [(ym 75 3),(yn 76 75 [0]),(qg 77 (qm 7) 76 true [1]),(qg 78 (qm 6) 76 true [1]),(qg 79 (qn 78) 76 true [3,1]),(qg 80 (qb .eql 77 79) 76 true [2,4,1]),(qi 81 (.pick (.v 76) (.v 80) (.c (.bool false))) [1,5]),(yn 82 81 [6,1]),(qg 83 (.build [.int .i64 0,.nsl,.int .i64 0] [(0,1,.c (.int .i64 8))]) 82 true [7]),(qg 84 (.call 20 [.v 83]) 82 true [8,7,7]),(qi 85 (.pick (.v 82) (.v 84) (.c (.bool false))) [7,9]),(yn 2 85 [10,9,0,1,2,3,4,5,6,7,8,9,10])]) (qk [2] .ret)))))))))))))))) y)=>y
 dsimp
theorem fn7:factOf Tryz.prog 7=some (ac7.strip,[.tmp 2],86):=by kernel_rfl
theorem ok7:ac7.okAll=true:=by kernel_rfl
end Go.Abs.A30
namespace Go.Abs.A30
open Go Go.Abs Go.Proofs
set_option maxRecDepth 100000
set_option linter.unusedVariables false
set_option linter.unusedSimpArgs false
attribute [local simp ↓] awp_skip awp_seq awp_cond awp_block awp_exit awp_ret awp_reg awp_draw awp_ghost awp_loop awp_rfun awpR_nil awpR_cons awpX_nil awpX_0 awpX_1 awpX_2 awpI_eq awpI_t awpI_f awpStep_eq
attribute [local simp] condL_true condL_false condL_dec evDel evV evN evS evA initFr Ghost.app Fr.var Fr.blk Fr.ff FF.val Abs.look Fr.app Fr.erase Fr.noSlot AV.noSlot AV.noSlotL Blk.noSlot Fr.spoken AV.fz AV.fzL Blk.fz binV binI shI binS unV fillA FF.parts FF.vals headO intO boundO lenV scalarEq leavesEq AV.aggc AV.cells FF.read FF.rows AV.one PV.one chunk freshB newS pickV retK evRs evRl evR resOf mkTup mkAgg allP cloOf okP_nil okX_p okX okP addN Del.noSlot Del.owners Rnd reify_p normM insM Fr.back Fr.backV Fr.setPs normV insV
attribute [local simp] renF Fr.trim Blk.trim AV.rn AV.rnL Blk.rn AV.among AV.amongL Blk.among okF retM fixS BIG initFF
attribute [local simp] FF.reify FF.reifyL PV.flat
section
attribute [local simp ↓] oneD2 oneI oneC onePa onePi oneSp onePl
theorem allK_pre (cs:List Cor) (w:Int) (ps:List Par) (k d:Nat):allK cs w ps k <+: allK cs w ps (k+d):=by
 induction d with
 | zero=>exact List.prefix_refl _
 | succ d ih=>rw [show k+(d+1)=(k+d)+1 by omega,allK_succ];exact ih.trans (List.prefix_append _ _)
theorem docL_at {cs:List Cor} {w:Int} {ps:List Par} {k i:Nat} (hk:k<ps.length) (hi:i<(parV cs w ps[k]).length):(docL cs w ps)[(allK cs w ps k).length+i]?=some (shiftP k (lineK cs w ps k) (parV cs w ps[k])[i]):=by
 obtain ⟨r,hr⟩:=allK_pre cs w ps (k+1) (ps.length - (k+1))
 rw [show k+1+(ps.length - (k+1))=ps.length by omega] at hr
 have e:docL cs w ps=allK cs w ps k++(paraK cs w ps k++r):=by rw [←List.append_assoc,←allK_succ,hr];rfl
 rw [e,List.getElem?_append_right (by omega),Nat.add_sub_cancel_left]
 have e2:paraK cs w ps k=(parV cs w ps[k]).map (shiftP k (lineK cs w ps k)):=by unfold paraK;rw [List.getElem?_eq_getElem hk]
 rw [e2,List.getElem?_append_left (by simpa using hi),List.getElem?_map,List.getElem?_eq_getElem hi]
 rfl
theorem law7 (F:List (List (List Int))) (D:List (List Int)) (hF:∀ x∈F,x.length≤9223372036854775807∧∀ y∈x,∀ n∈y,R n) (hD:∀ x∈D,x.length≤9223372036854775807∧∀ n∈x,R n) :
  Best Tryz.prog 7 [.agg [.sl 1 (F.map lllRow),.sl 1 (D.map llRow)]] (.p (.bool true)):=by
 obtain ⟨cs,w,ps,⟨hc,hco,hw1,hw2,hps⟩,q10⟩:=b10 F D hF hD
 have hcs:CorsOk2 cs:=⟨by omega,fun c h=>(hco c h).fine⟩
 have q15:=b15 cs hcs w ⟨by omega,by omega⟩ cs ps hps
 have hl:=allK_len (cs:=cs) (w:=w) hps ps.length
 have h3:=hps.1
 have q20:Best Tryz.prog 20 [.agg [.int .i64 8,.nsl,.int .i64 0]] (.p (.bool true)):=by
  have:=b20 ⟨8,[],0⟩ (by simp)
  have e:fitN ⟨8,[],0⟩=true:=by simp [fitN,CL]
  rw [e] at this
  exact Best.argw this ⟨leV.agg ⟨leV.refl _,leV.nsl 1,leV.refl _,trivial⟩,trivial⟩
 simp only [docRow] at q10 q15
 refine best mixed fn7 ok7 (by simp) ?_
 simp -dsimp [ac7]
 refine call_p b9 (by simp) (by simp) ?_
 simp -dsimp
 refine call_p q10 (by simp) (by simp) ?_
 simp -dsimp
 refine call_p q15 (by simp) (by simp) ?_
 simp -dsimp
 refine loopC ps.length (fun k=>⟨[(3,.p (.bool true)),(4,.ptr (4,0) 3 0 0),(5,.p (.sl 9 (cs.map corRow))),(6,.p (.sl 6 ((docL cs w ps).map dplRow))),(7,.p (.int .i64 (allK cs w ps k).length)),(8,.p (.int .i64 (lineK cs w ps k))),(24,.p (.sl 4 (ps.map parRow))),(25,.p (.int .i64 ps.length)),(26,.p (.int .i64 k))],
  [((4,0),.box [.p (.int .i64 w),.p (.sl 3 (cs.map pinRow)),.p (.sl 4 (ps.map parRow))])]⟩) (fun _=>True) (fun k hk _=>?_) trivial (by simp [allK,lineK])
 by_cases h:k<ps.length
 ·obtain ⟨⟨t,s⟩,ex⟩:∃ x,ps[k]=x:=⟨_,rfl⟩
  have hpk:=hps.2 ⟨t,s⟩ (by rw [←ex];simp)
  obtain ⟨ht,hs1,hs2⟩:=id hpk
  dsimp only at ht hs1 hs2
  have hb:=parV_b (cs:=cs) (w:=w) hpk
  have hlb:=lineK_b (cs:=cs) (w:=w) hps k hk
  have q:=b19 cs hcs t (by omega) s (by omega) w ⟨by omega,by omega⟩ hs1
  have eV:placesN cs t s w=parV cs w ⟨t,s⟩:=rfl
  rw [eV] at q
  have hsucc:lineK cs w ps (k+1)=lineK cs w ps k+maxL (parV cs w ⟨t,s⟩):=by
   simp only [lineK,List.getElem?_eq_getElem h,ex]
  have hat:=fun i hi=>@docL_at cs w ps k i h hi
  rw [ex] at hat
  have hsl:(allK cs w ps (k+1)).length=(allK cs w ps k).length+(parV cs w ⟨t,s⟩).length:=by
   rw [allK_succ,List.length_append]
   unfold paraK
   rw [List.getElem?_eq_getElem h,ex]
   simp
  have hal:=allK_len (cs:=cs) (w:=w) hps k
  obtain ⟨V,eV2⟩:∃ V,parV cs w ⟨t,s⟩=V:=⟨_,rfl⟩
  simp only [eV2] at q hb hsucc hat hsl
  obtain ⟨line,el⟩:∃ x,lineK cs w ps k=x:=⟨_,rfl⟩
  rw [el] at hlb hsucc hat
  obtain ⟨a,ea⟩:∃ x,(allK cs w ps k).length=x:=⟨_,rfl⟩
  rw [ea] at hat hsl hal
  rw [el,hsucc,ea,hsl]
  have hall:((V.map plcRow).all fun r=>r.all PV.one)=true:=onePl V
  simp -dsimp [h,ex,parRow]
  refine call_o q (by simp [stgRow]) (by simp) ?_
  simp -dsimp
  refine loopC V.length (fun i=>⟨[(3,.p (.bool true)),(4,.ptr (4,0) 3 0 0),(5,.p (.sl 9 (cs.map corRow))),(6,.p (.sl 6 ((docL cs w ps).map dplRow))),(7,.p (.int .i64 ((a+i:Nat):Int))),(8,.p (.int .i64 line)),(9,.p (.int .i64 k)),(11,.p (.int .i64 (maxL (V.take i)))),(24,.p (.sl 4 (ps.map parRow))),(25,.p (.int .i64 ps.length)),(26,.p (.int .i64 k)),(38,.ref (38,0) 6 0 V.length),(39,.p (.int .i64 V.length)),(40,.p (.int .i64 i))],
   [((4,0),.box [.p (.int .i64 w),.p (.sl 3 (cs.map pinRow)),.p (.sl 4 (ps.map parRow))]),((38,0),.sl 60 6 (V.map plcRow))]⟩) (fun _=>True) (fun i hi _=>?_) trivial (by simp [maxL])
  have hmb:=maxL_b hb.2 i
  by_cases hi2:i<V.length
  ·obtain ⟨⟨pi,pf,pl,px,pw⟩,ep⟩:∃ p,V[i]=p:=⟨_,rfl⟩
   have hpl:=hb.2 ⟨pi,pf,pl,px,pw⟩ (by rw [←ep];simp)
   dsimp only at hpl
   have hmax:=maxL_succ V i hi2
   have hg:=hat i hi2
   rw [ep] at hmax hg
   dsimp only at hmax
   obtain ⟨m,em⟩:∃ m,a+i=m:=⟨_,rfl⟩
   rw [em] at hg
   obtain ⟨hml,hmg⟩:=List.getElem?_eq_some_iff.1 hg
   have hml2:(m:Int)<(docL cs w ps).length:=by omega
   have hml3:¬(docL cs w ps).length≤m:=by omega
   have wi:R ((i:Int)+1):=⟨by omega,by omega⟩
   have wm:R ((m:Int)+1):=⟨by omega,by omega⟩
   have wl:R (pl+1):=⟨by omega,by omega⟩
   have wl2:R (pl+line):=⟨by omega,by omega⟩
   simp -dsimp [hi2,ep,em,plcRow,hml,hml2,hml3,hmg,shiftP,dplRow,wr wi,wr wm,wr wl,wr wl2]
   exact ⟨by omega,hmax.symm⟩
  ·have:i=V.length:=by omega
   subst this
   have wk:R ((k:Int)+1):=⟨by omega,by omega⟩
   have hmm:=maxL_b hb.2 V.length
   rw [List.take_length] at hmm
   have wl:R (line+maxL V):=⟨by omega,by omega⟩
   simp -dsimp [hi2,wr wl,wr wk,h]
 ·have:k=ps.length:=by omega
  subst this
  have edl:allK cs w ps ps.length=docL cs w ps:=rfl
  rw [edl]
  simp -dsimp [h]
  refine call_p q20 (by simp) (by simp) ?_
  simp -dsimp
end
end Go.Abs.A30
namespace Go.Proofs.YtlkbeomimbohlaaGreat
open Go Go.Abs Go.ChangeShapes Go.WideShapes Go.RowKit Go.Proofs Go.Abs.A30
set_option maxRecDepth 100000
set_option linter.unusedVariables false
theorem pageLines_lifted (os:Os) (started:os.Started) (H:Type) (enc:TypeId×Value→H) :
  ReturnsInHanded {} Tryz.checked os 7 .any (ChangeSpec.pre6 enc Tryz.prog Tryz.f7 Rows.pageLinesSpec [] false)
   (Rows.pageLinesSpec.post enc Tryz.prog Tryz.f7 false true false false):=by
 refine returnsInHanded_of_change (C:=Tryz.checked) own started (by kernel_rfl) Tryz.func7
  (ChangeSpec.witness6_at (enc:=enc) (C:=Tryz.checked) (os:=os) false (restWorld os) #[.agg #[.slice none 0 0,.slice none 0 0]] 8 rfl (by kernel_rfl) (by kernel_rfl) (by kernel_rfl) (by kernel_rfl) (by kernel_rfl)) ?_
 intro W base args ds gs before hval hW _ _
 have hW':=hW
 obtain ⟨p,q,hA,hV,-,-,-⟩:=hW'
 have hA:DataW.TrodAll enc Tryz.prog W 0 (fun _=>true) true Tryz.f7.params.toList args.toList ds p:=hA
 rw [Tryz.params7] at hA
 have hval:∀ (j:Nat) t v,Tryz.f7.params[j]?=some t→args[j]?=some v→Value.okWide Tryz.prog W .any base t v:=hval
 rw [Tryz.params7] at hval
 obtain ⟨v0,d0,rfl,rfl,h0⟩:=trodAll_one hA
 obtain ⟨a0,o0,r0⟩:=Rd.argT Tryz.underlying25 rd_case (hval 0 25 v0 rfl rfl) h0
 exact law_step rfl rfl hW rfl (by decide +kernel) (law7 a0.1 a0.2 o0.1 o0.2) (Ps.one r0)
theorem pageLines_holds:Rows.PageLinesSaid:=
 OpenClaim.holds_of_wide 7 Tryz.f7 rfl rfl rfl rfl rfl rfl rfl ⟨rfl,rfl,rfl,rfl,rfl⟩ rfl rfl rfl rfl rfl (by kernel_rfl) Tryz.func7 (by kernel_rfl)
  (of_decide_eq_true (by kernel_rfl)) (by unfold Func.isWrapper;rw [if_neg (of_decide_eq_false (by kernel_rfl))];exact ⟨rfl,rfl⟩)
  (fun os started H enc _=>pageLines_lifted os started H enc)
end Go.Proofs.YtlkbeomimbohlaaGreat
