/- A part of the proof: an abstract reading of the model, contracts of functions. -/
import Derived.Test.YtlkbeomimbohlaaGreatC13
set_option linter.unusedVariables false
set_option linter.unusedSimpArgs false
namespace Go.Abs.A30
open Go Go.Abs Go.Proofs
set_option maxRecDepth 100000
set_option linter.unusedVariables false
set_option linter.unusedSimpArgs false
attribute [local simp ↓] awp_skip awp_seq awp_cond awp_block awp_exit awp_ret awp_reg awp_draw awp_ghost awp_loop awp_rfun awpR_nil awpR_cons awpX_nil awpX_0 awpX_1 awpX_2 awpI_eq awpI_t awpI_f awpStep_eq
attribute [local simp] condL_true condL_false condL_dec evDel evV evN evS evA initFr Ghost.app Fr.var Fr.blk Fr.ff FF.val Abs.look Fr.app Fr.erase Fr.noSlot AV.noSlot AV.noSlotL Blk.noSlot Fr.spoken AV.fz AV.fzL Blk.fz binV binI shI binS unV fillA FF.parts FF.vals headO intO boundO lenV scalarEq leavesEq AV.aggc AV.cells FF.read FF.rows AV.one PV.one chunk freshB newS pickV retK evRs evRl evR resOf mkTup mkAgg allP cloOf okP_nil okX_p okX okP addN Del.noSlot Del.owners Rnd reify_p normM insM Fr.back Fr.backV Fr.setPs normV insV
attribute [local simp] renF Fr.trim Blk.trim AV.rn AV.rnL Blk.rn AV.among AV.amongL Blk.among okF retM fixS BIG initFF
attribute [local simp] FF.reify FF.reifyL PV.flat
section
set_option maxHeartbeats 4000000
attribute [local simp] mkM
theorem b220' (x:Mk) (B Q:Nat) (hx:x.bd B Q) (hB:B≤1000) (hQ:Q≤100000) (n axes points:Nat) (hn:n≤65535) (ha:axes≤1000) (hp:points≤2000000):∃ y:Mk,y.bd (B+4) (Q+2*B+20) ∧
  BestF Tryz.prog 220 (mkM (BIG,0) 999990 x) [.ptr (BIG,0) 4 0 0,.p (.int .i64 n),.p (.int .i64 axes),.p (.int .i64 points)] [(BIG,0)] (.p (.tup [])) (mkM (BIG,0) 999980 y):=by
 refine bestEF mixed fn220 ok220 (by simp) (by simp) ?_
 have t1:(n:Int).tmod 26=((n % 26:Nat):Int):=by rw [Int.tmod_eq_emod_of_nonneg (by omega)];omega
 have t2:(n:Int).tdiv 26=((n / 26:Nat):Int):=by rw [Int.tdiv_eq_ediv_of_nonneg (by omega)];omega
 obtain ⟨o,eo⟩:∃ o:Nat,1+n % 26=o:=⟨_,rfl⟩
 obtain ⟨k,ek⟩:∃ k:Nat,n / 26=k:=⟨_,rfl⟩
 have ho:o≤26∧1≤o:=by omega
 have hk:k≤2600:=by omega
 have t3:(n:Int) / 26=k:=by omega
 have t4:(1:Int)+n % 26=o:=by omega
 have t5:(n:Int).tmod 26=(n:Int) % 26:=Int.tmod_eq_emod_of_nonneg (by omega)
 have w1:R (o:Int):=⟨by omega,by omega⟩
 have w2:R (k:Int):=⟨by omega,by omega⟩
 clear t1 t2 eo ek
 by_cases c1:23≤o
 ·have c1':(23:Int)≤o∧(o:Int)≤26:=by omega
  obtain ⟨y,hy,q⟩:=b244' x B Q hx hB hQ o k (by omega)
  simp -dsimp [ac220,t3,t4,t5,wr w1,wr w2,c1'.1,c1'.2]
  refine call_m q (by simp) (by simp) (by simp) ?_
  simp -dsimp [retEF]
  exact ⟨y,by simp,hy.mono (by omega) (by omega) (by omega) (by omega)⟩
 ·have c1':¬(23:Int)≤o:=by omega
  simp -dsimp [ac220,t3,t4,t5,wr w1,wr w2,c1',↓ awpC_of xc220b]
  obtain ⟨p,h,most,ops⟩:=x
  have hto:List.take ops.length (ops.map intRow)=ops.map intRow:=List.take_of_length_le (by simp)
  have htp:List.take p.length (p.map mvRow)=p.map mvRow:=List.take_of_length_le (by simp)
  refine awpC_in (seqG1 (α:=Bool) (fun b=>⟨[(0,.ptr (1000000,0) 4 0 0),(2,.p (.int .i64 axes)),(3,.p (.int .i64 points)),(8,.p (.int .i64 o)),(9,.p (.int .i64 k)),(10,.p (.bool b))],mkM (1000000,0) 999990 ⟨p,h,most,ops⟩⟩) (fun b=>b=true↔15≤o∧o≤20) ?_ ?_)
  ·by_cases e1:15≤o
   ·have e1':(15:Int)≤o:=by omega
    by_cases e2:o≤18
    ·have e2':(o:Int)≤18:=by omega
     simp -dsimp [e1',e2']
     omega
    ·have e2':¬(o:Int)≤18:=by omega
     by_cases e3:o=19
     ·have e3':(o:Int)=19:=by omega
      simp -dsimp [e1',e2',e3']
      omega
     ·have e3':¬(o:Int)=19:=by omega
      by_cases e4:o=20
      ·have e4':(o:Int)=20:=by omega
       simp -dsimp [e1',e2',e3',e4']
       omega
      ·have e4':¬(o:Int)=20:=by omega
       simp -dsimp [e1',e2',e3',e4']
       omega
   ·have e1':¬(15:Int)≤o:=by omega
    have e3':¬(o:Int)=19:=by omega
    have e4':¬(o:Int)=20:=by omega
    simp -dsimp [e1',e3',e4']
    omega
  ·intro b hb
   refine seqG1 (α:=Nat) (fun o=>⟨[(0,.ptr (1000000,0) 4 0 0),(2,.p (.int .i64 axes)),(3,.p (.int .i64 points)),(8,.p (.int .i64 o)),(9,.p (.int .i64 k))],mkM (1000000,0) 999990 ⟨p,h,most,ops⟩⟩) (fun o=>o≤22∧(15≤o∧o≤20→0<points)∧(o=14→0<axes)) ?_ ?_
   ·cases b with
    | true=>
     have hb':=hb.1 rfl
     by_cases hz:points=0
     ·simp -dsimp [hz]
      exact ⟨13,by omega,rfl⟩
     ·have hz':¬(points:Int)=0:=by omega
      have e14:¬(o:Int)=14:=by omega
      simp -dsimp [hz,hz',e14]
      refine ⟨o,⟨by omega,fun _=>by omega,fun _=>by omega⟩,rfl⟩
    | false=>
     have hb':¬(15≤o∧o≤20):=fun e=>by have:=hb.2 e;simp at this
     by_cases e14:o=14
     ·by_cases hz:axes=0
      ·simp -dsimp [e14,hz]
       exact ⟨13,by omega,rfl⟩
      ·have hz':¬(axes:Int)=0:=by omega
       simp -dsimp [e14,hz,hz']
       refine ⟨14,⟨by omega,by omega⟩,rfl⟩
     ·have e14':¬(o:Int)=14:=by omega
      simp -dsimp [e14']
      refine ⟨o,⟨by omega,fun _=>by omega,fun _=>by omega⟩,rfl⟩
   ·clear ho t4 w1 c1 c1' hb
    rintro o ⟨ho,g1,g2⟩
    obtain ⟨b1,b2,b3,b4,b5,b6,b7⟩:=hx
    dsimp only at b1 b2 b3 b4 b5
    by_cases d1:o=19∨o=20
    ·have hp0:0<points:=g1 (by omega)
     have hp0':(points:Int)≠0:=by omega
     have m1:(k:Int).tmod points=((k % points:Nat):Int):=by rw [Int.tmod_eq_emod_of_nonneg (by omega)];omega
     obtain ⟨r,er⟩:∃ r:Nat,k % points=r:=⟨_,rfl⟩
     rw [er] at m1
     have m2:(k:Int) % points=r:=by omega
     have hp1:points≠0:=by omega
     have q:=b245' ⟨p,h,most,ops⟩ 1 r (by dsimp only;omega) (by dsimp only;omega)
     rw [show takesF 1=0 from rfl,show givesF 1=1 from rfl,show h - ((0:Nat):Int)+((1:Nat):Int)=h+1 by omega] at q
     have ht1:List.take (p.length+1) (p.map mvRow++[mvRow (1,(r:Int))])=p.map mvRow++[mvRow (1,(r:Int))]:=List.take_of_length_le (by simp)
     rcases d1 with d1 | d1
     ·subst d1
      simp -dsimp [xc220c,hp0',hp1,m1,m2]
      refine call_m q (by simp) (by simp) (by simp) ?_
      simp -dsimp [ht1,hto]
      have q:=b245' ⟨p++[(1,(r:Int))],h+1,most,ops⟩ 19 0 (by simp;omega) (by dsimp only;omega)
      rw [show takesF 19=1 from rfl,show givesF 19=1 from rfl,show h+1 - ((1:Nat):Int)+((1:Nat):Int)=h+1 by omega] at q
      refine call_m q (by simp) (by simp) (by simp) ?_
      simp -dsimp [retEF]
      refine ⟨⟨p++[(1,(r:Int))]++[(19,0)],h+1,most,ops⟩,by simp,by dsimp only;omega,by dsimp only;omega,fun z hz=>by have:=b3 z hz;omega,by simp;omega,by dsimp only;omega,by omega,by omega⟩
     ·subst d1
      obtain ⟨kq,ekq⟩:∃ v:Nat,k / points=v:=⟨_,rfl⟩
      have n1:(k:Int) / points=kq:=by omega
      have n5:kq≤k:=by rw [←ekq];exact Nat.div_le_self _ _
      have n2:R (kq:Int):=⟨by omega,by omega⟩
      have n3:(kq:Int).tmod 100=((kq % 100:Nat):Int):=by rw [Int.tmod_eq_emod_of_nonneg (by omega)];omega
      obtain ⟨r2,er2⟩:∃ v:Nat,kq % 100=v:=⟨_,rfl⟩
      rw [er2] at n3
      have n4:R ((r2:Int) - 40):=⟨by omega,by omega⟩
      simp -dsimp [xc220c,hp0',hp1,m1,m2]
      refine call_m q (by simp) (by simp) (by simp) ?_
      simp -dsimp [ht1,hto,hp0',hp1,n1,wr n2,n3,wr n4]
      have q:=b245' ⟨p++[(1,(r:Int))],h+1,most,ops⟩ 1 (r2 - 40) (by simp;omega) (by dsimp only;omega)
      rw [show takesF 1=0 from rfl,show givesF 1=1 from rfl,show h+1 - ((0:Nat):Int)+((1:Nat):Int)=h+2 by omega] at q
      refine call_m q (by simp) (by simp) (by simp) ?_
      have ht2:List.take (p.length+1+1) (p.map mvRow++[mvRow (1,(r:Int)),mvRow (1,(r2:Int) - 40)])=p.map mvRow++[mvRow (1,(r:Int)),mvRow (1,(r2:Int) - 40)]:=List.take_of_length_le (by simp)
      simp -dsimp [ht2,hto]
      have q:=b245' ⟨p++[(1,(r:Int))]++[(1,(r2:Int) - 40)],h+2,most,ops⟩ 20 0 (by simp;omega) (by dsimp only;omega)
      rw [show takesF 20=2 from rfl,show givesF 20=0 from rfl,show h+2 - ((2:Nat):Int)+((0:Nat):Int)=h by omega] at q
      refine call_m q (by simp) (by simp) (by simp) ?_
      simp -dsimp [retEF]
      refine ⟨⟨p++[(1,(r:Int))]++[(1,(r2:Int) - 40)]++[(20,0)],h,most,ops⟩,by simp,by dsimp only;omega,by dsimp only;omega,fun z hz=>by have:=b3 z hz;omega,by simp;omega,by dsimp only;omega,by omega,by omega⟩
    ·have d2:¬(o:Int)=19:=by omega
     have d3:¬(o:Int)=20:=by omega
     have tk:=takesF_le o
     have n3:(k:Int).tmod 300=((k % 300:Nat):Int):=by rw [Int.tmod_eq_emod_of_nonneg (by omega)];omega
     obtain ⟨r2,er2⟩:∃ v:Nat,k % 300=v:=⟨_,rfl⟩
     rw [er2] at n3
     have n4:R ((r2:Int) - 100):=⟨by omega,by omega⟩
     simp -dsimp [xc220c,d2,d3,↓ awpC_of xc220d]
     refine loopM (fun z:List (Int×Int)×Int=>(2 - z.2).toNat) (fun y=>⟨[(0,.ptr (1000000,0) 4 0 0),(2,.p (.int .i64 axes)),(3,.p (.int .i64 points)),(8,.p (.int .i64 o)),(9,.p (.int .i64 k))],mkM (1000000,0) 999990 ⟨y.1,y.2,most,ops⟩⟩) (fun z=>h≤z.2∧z.2≤B+2∧z.1.length≤Q+(z.2 - h).natAbs) (p,h) (fun z hQ=>?_) ⟨by omega,by dsimp only;omega,by dsimp only;omega⟩ (by simp)
     obtain ⟨z,u⟩:=z
     have htz:List.take z.length (z.map mvRow)=z.map mvRow:=List.take_of_length_le (by simp)
     dsimp only at hQ
     simp -dsimp [htz,hto,↓ awpC_of xc220d]
     refine call_p (b246 o) (by simp) (by simp) ?_
     by_cases hu:u<takesF o
     ·have q:=b245 ⟨z,u,most,ops⟩ 1 (r2 - 100) (by dsimp only;omega) (by dsimp only;omega) (1000000,0) 999980 999990 (by decide) (by decide) (by decide) (by decide) (by decide) (by decide) (by decide)
      rw [show takesF 1=0 from rfl,show givesF 1=1 from rfl,show u - ((0:Nat):Int)+((1:Nat):Int)=u+1 by omega] at q
      have n5:(k:Int) % 300=r2:=by omega
      simp -dsimp [hu,htz,hto,n3,n5,wr n4,↓ awpC_of xc220d]
      refine call_m q (by simp) (by simp) (by simp) ?_
      simp -dsimp
      exact ⟨z++[(1,(r2:Int) - 100)],u+1,by omega,⟨by omega,by omega,by simp;omega⟩,by simp⟩
     ·simp -dsimp [hu,htz,hto,↓ awpC_of xc220d]
      refine awpC_in ?_
      simp -dsimp [xc220d,↓ awpC_of xc220g]
      refine awpC_in (seqG3 (α:=Int) (fun v=>⟨[(0,.ptr (1000000,0) 4 0 0),(8,.p (.int .i64 o)),(11,.p (.int .i64 v))],mkM (1000000,0) 999990 ⟨z,u,most,ops⟩⟩) (fun v=>True) ?_ ?_)
      ·have hkp:∀ m:Nat,(k:Int).tmod m=(k:Int) % m:=fun m=>Int.tmod_eq_emod_of_nonneg (by omega)
       have c:o=1∨o=14∨o=15∨o=16∨o=17∨o=18∨o=21∨o=22∨(o≠1∧o≠14∧o≠15∧o≠16∧o≠17∧o≠18∧o≠21∧o≠22):=by omega
       rcases c with rfl | rfl | rfl | rfl | rfl | rfl | rfl | rfl | ⟨c1,c2,c3,c4,c5,c6,c7,c8⟩
       ·simp -dsimp [htz,hto]
       ·have g:axes≠0:=by have:=g2 rfl;omega
        simp -dsimp [htz,hto,g]
       ·have g:points≠0:=by have:=g1 (by omega);omega
        simp -dsimp [htz,hto,g]
       ·have g:points≠0:=by have:=g1 (by omega);omega
        simp -dsimp [htz,hto,g]
       ·have g:points≠0:=by have:=g1 (by omega);omega
        simp -dsimp [htz,hto,g]
       ·have g:points≠0:=by have:=g1 (by omega);omega
        simp -dsimp [htz,hto,g]
       ·simp -dsimp [htz,hto]
       ·simp -dsimp [htz,hto]
       ·have c1':¬(o:Int)=1:=by omega
        have c2':¬(o:Int)=14:=by omega
        have c3':¬(o:Int)=15:=by omega
        have c4':¬(o:Int)=16:=by omega
        have c5':¬(o:Int)=17:=by omega
        have c6':¬(o:Int)=18:=by omega
        have c7':¬(o:Int)=21:=by omega
        have c8':¬(o:Int)=22:=by omega
        simp -dsimp [htz,hto,c1',c2',c3',c4',c5',c6',c7',c8']
      ·intro v _
       have tg:=givesF_le o
       have q:=b245' ⟨z,u,most,ops⟩ o v (by dsimp only;omega) (by dsimp only;omega)
       simp -dsimp [xc220e]
       refine call_m q (by simp) (by simp) (by simp) ?_
       simp -dsimp [retEF]
       refine ⟨⟨z++[((o:Int),v)],u - takesF o+givesF o,most,ops⟩,by simp,by dsimp only;omega,by dsimp only;omega,fun z hz=>by have:=b3 z hz;omega,by simp;omega,by dsimp only;omega,by omega,by omega⟩
end
end Go.Abs.A30
namespace Go.Abs.A30
open Go Go.Abs Go.Proofs
set_option maxRecDepth 100000
set_option maxHeartbeats 4000000
set_option linter.unusedVariables false
def ac193:AC:=by
 apply fun (y:AC) (_:@Eq AC (anD [⟨2,[],[.ownC (10,0) 3 (999991,1) 3 1,.ownC (10,0) 0 (999990,1) 329 2],none⟩,⟨7,[],[.canC (10,0) 3 (999991,1),.canC (10,0) 0 (999990,1)],none⟩,⟨9,[],[.canC (10,0) 3 (999981,1),.canC (10,0) 0 (999980,1)],none⟩,⟨14,[],[.zsl 6 2],none⟩,⟨15,[.canC (10,0) 0 (10,1),.freeze (10,1)],[],none⟩] (anF Tryz.prog 193 mu1 [] 0 0 [])) y)=>y
 conv=>lhs;reduce;dsimp
theorem fn193:factOf Tryz.prog 193=some (ac193.strip,[.tmp 6],58):=by kernel_rfl
theorem ok193:ac193.okAll=true:=by kernel_rfl
end Go.Abs.A30
namespace Go.Abs.A30
open Go Go.Abs Go.Proofs
set_option maxRecDepth 100000
set_option linter.unusedVariables false
set_option linter.unusedSimpArgs false
attribute [local simp ↓] awp_skip awp_seq awp_cond awp_block awp_exit awp_ret awp_reg awp_draw awp_ghost awp_loop awp_rfun awpR_nil awpR_cons awpX_nil awpX_0 awpX_1 awpX_2 awpI_eq awpI_t awpI_f awpStep_eq
attribute [local simp] condL_true condL_false condL_dec evDel evV evN evS evA initFr Ghost.app Fr.var Fr.blk Fr.ff FF.val Abs.look Fr.app Fr.erase Fr.noSlot AV.noSlot AV.noSlotL Blk.noSlot Fr.spoken AV.fz AV.fzL Blk.fz binV binI shI binS unV fillA FF.parts FF.vals headO intO boundO lenV scalarEq leavesEq AV.aggc AV.cells FF.read FF.rows AV.one PV.one chunk freshB newS pickV retK evRs evRl evR resOf mkTup mkAgg allP cloOf okP_nil okX_p okX okP addN Del.noSlot Del.owners Rnd reify_p normM insM Fr.back Fr.backV Fr.setPs normV insV
attribute [local simp] renF Fr.trim Blk.trim AV.rn AV.rnL Blk.rn AV.among AV.amongL Blk.among okF retM fixS BIG initFF
attribute [local simp] FF.reify FF.reifyL PV.flat
section
set_option maxHeartbeats 2000000
attribute [local simp] mkM
theorem b220 (x:Mk) (B Q:Nat) (hx:x.bd B Q) (hB:B≤1000) (hQ:Q≤100000) (n axes points:Nat) (hn:n≤65535) (ha:axes≤1000) (hp:points≤2000000) (s:Slot) (i m:Nat) (g1:i≠m) (g2:i+1≠m) (g3:m+1≠i) (g4:s.1≠i) (g5:s.1≠m) (g6:s.1≠i+1) (g7:s.1≠m+1):∃ y:Mk,y.bd (B+4) (Q+2*B+20) ∧
  BestF Tryz.prog 220 (mkM s i x) [.ptr s 4 0 0,.p (.int .i64 n),.p (.int .i64 axes),.p (.int .i64 points)] [s] (.p (.tup [])) (mkM s m y):=by
 obtain ⟨y,h1,h2⟩:=b220' x B Q hx hB hQ n axes points hn ha hp
 exact ⟨y,h1,mkRen h2 s i m g1 g2 g3 g4 g5 g6 g7 (fun _=>rfl)⟩
theorem b221 (x:Mk) (ops:List Int) (o:Int) (ho:x.op=ops++[o]) (hp:x.p.length≤1000000) (hh:-1000000≤x.h∧x.h≤1000000) (ht:-1000000≤o∧o≤1000000) (hl:ops.length≤1000000) (s:Slot) (i m:Nat) (g1:i≠m) (g2:i+1≠m) (g3:m+1≠i) (g4:s.1≠i) (g5:s.1≠m) (g6:s.1≠i+1) (g7:s.1≠m+1):∃ y:List (Int×Int),y.length≤x.p.length+(x.h - o).natAbs+1 ∧
  BestF Tryz.prog 221 (mkM s i x) [.ptr s 4 0 0] [s] (.p (.tup [])) (mkM s m ⟨y,o,x.most,ops⟩):=by
 obtain ⟨y,h1,h2⟩:=b221' x ops o ho hp hh ht hl
 exact ⟨y,h1,mkRen h2 s i m g1 g2 g3 g4 g5 g6 g7 (fun _=>rfl)⟩
theorem b193 (l:List Int) (hl:l.length≤20) (axes points:Nat) (ha:axes≤1000) (hp:points≤2000000):∃ x:List (Int×Int),x.length≤60 ∧
  Best Tryz.prog 193 [.sl 1 (l.map intRow),.int .i64 axes,.int .i64 points] (.p (.sl 2 (x.map mvRow))):=by
 obtain ⟨v,⟨x,rfl,hx⟩,h⟩:=bestE (Q:=fun v=>∃ x:List (Int×Int),v=.sl 2 (x.map mvRow)∧x.length≤60) mixed fn193 ok193 (args:=[.sl 1 (l.map intRow),.int .i64 axes,.int .i64 points]) (by simp) (by
  simp -dsimp [ac193]
  refine loopE l.length (fun k (y:Mk)=>⟨[(0,.p (.sl 1 (l.map intRow))),(1,.p (.int .i64 axes)),(2,.p (.int .i64 points)),(7,.ptr (10,0) 4 0 0),(8,.p (.int .i64 k))],[((10,0),.box [.ref (999990,1) 2 0 y.p.length,.p (.int .i64 y.h),.p (.int .i64 y.most),.ref (999991,1) 1 0 y.op.length]),((999990,1),.sl 329 2 (y.p.map mvRow)),((999991,1),.sl 3 1 (y.op.map intRow))]⟩) (fun k y=>y.bd (4*k) (200*k)) ⟨[],0,0,[]⟩ (fun k y hk hQ=>?_) ⟨by dsimp only;omega,by dsimp only;omega,by simp,by simp,by simp,by omega,by omega⟩ (by simp)
  obtain ⟨b1,b2,b3,b4,b5,b6,b7⟩:=hQ
  have hto:List.take y.op.length (y.op.map intRow)=y.op.map intRow:=List.take_of_length_le (by simp)
  have htp:List.take y.p.length (y.p.map mvRow)=y.p.map mvRow:=List.take_of_length_le (by simp)
  have w1:R ((y.p.length:Int)+y.h):=⟨by omega,by omega⟩
  have w2:R ((y.p.length:Int)+y.h+12):=⟨by omega,by omega⟩
  by_cases h:k<l.length∧(y.p.length:Int)+y.h+12<40
  ·obtain ⟨h1,h2⟩:=h
   have wk:R ((k:Int)+1):=⟨by omega,by omega⟩
   obtain ⟨x,ex⟩:∃ x,l[k]=x:=⟨_,rfl⟩
   have ab:=andS_bd x
   obtain ⟨n,hn⟩:∃ n:Nat,andS x=n:=⟨(andS x).toNat,by omega⟩
   have hw:IntKind.i64.wrap (((x % 2 ^ IntKind.i64.bits).toNat &&& 65535 % 2 ^ IntKind.i64.bits:Nat):Int)=n:=by rw [←hn];exact and_wrap x
   obtain ⟨z,hz,q⟩:=b220 y (4*k) (200*k) ⟨b1,b2,b3,b4,b5,b6,b7⟩ (by omega) (by omega) n axes points (by omega) ha hp (10,0) 999990 999980 (by decide) (by decide) (by decide) (by decide) (by decide) (by decide) (by decide)
   simp -dsimp [h1,h2,wr w1,wr w2,ex,intRow,hw]
   refine call_m q (by simp) (by simp) (by simp) ?_
   have hto:List.take z.op.length (z.op.map intRow)=z.op.map intRow:=List.take_of_length_le (by simp)
   have htp:List.take z.p.length (z.p.map mvRow)=z.p.map mvRow:=List.take_of_length_le (by simp)
   simp -dsimp [hto,htp,wr wk,h1]
   refine ⟨z,hz.mono (by omega) (by omega) (by omega) (by omega),?_⟩
   simp
  ·have c:¬(k<l.length)∨(k<l.length∧¬((y.p.length:Int)+y.h+12<40)):=by omega
   rcases c with c | ⟨c,c'⟩
   ·simp -dsimp [c,hto,htp]
    have hk4:4*k≤80:=by omega
    refine loopM (fun z:Mk=>z.op.length) (fun y=>⟨[(7,.ptr (10,0) 4 0 0)],[((10,0),.box [.ref (999990,1) 2 0 y.p.length,.p (.int .i64 y.h),.p (.int .i64 y.most),.ref (999991,1) 1 0 y.op.length]),((999990,1),.sl 329 2 (y.p.map mvRow)),((999991,1),.sl 3 1 (y.op.map intRow))]⟩) (fun z=>-80≤z.h∧z.h≤80∧(∀ o∈z.op,-80≤o∧o≤80)∧z.p.length+161*z.op.length≤648000∧z.op.length≤4000) y (fun z hQ=>?_) ⟨by omega,by omega,fun o ho=>by have:=b3 o ho;omega,by omega,by omega⟩ (by simp)
    obtain ⟨q1,q2,q3,q4,q5⟩:=hQ
    have hzp:List.take z.p.length (z.p.map mvRow)=z.p.map mvRow:=List.take_of_length_le (by simp)
    rcases List.eq_nil_or_concat z.op with e0 | ⟨ops,o,e0⟩
    ·by_cases h60:(60:Int)<z.p.length
     ·simp -dsimp [e0,hzp,h60,retE]
     ·have h60':¬60<z.p.length:=by omega
      simp -dsimp [e0,hzp,h60,h60',retE]
      exact ⟨z.p,rfl,by omega⟩
    ·rw [List.concat_eq_append] at e0
     have ho:=q3 o (by rw [e0];simp)
     rw [e0] at q4 q5
     simp only [List.length_append,List.length_cons,List.length_nil] at q4 q5
     obtain ⟨v,hv,q⟩:=b221 z ops o e0 (by omega) (by omega) (by omega) (by omega) (10,0) 999980 999990 (by decide) (by decide) (by decide) (by decide) (by decide) (by decide) (by decide)
     have hto2:List.take (ops.length+1) (ops.map intRow++[intRow o])=ops.map intRow++[intRow o]:=List.take_of_length_le (by simp)
     have hpos:(0:Int)<(ops.length:Int)+1:=by omega
     simp -dsimp [e0,hzp,hto2,hpos]
     refine call_m q (by simp [e0]) (by simp) (by simp) ?_
     simp -dsimp
     exact ⟨⟨v,o,z.most,ops⟩,by dsimp only;rw [e0];simp,⟨by dsimp only;omega,by dsimp only;omega,fun x hx=>q3 x (by rw [e0];simp [show x∈ops from hx]),by dsimp only;omega,by dsimp only;omega⟩,by simp⟩
   ·simp -dsimp [c,c',wr w1,wr w2,hto,htp]
    have hk4:4*k≤80:=by omega
    refine loopM (fun z:Mk=>z.op.length) (fun y=>⟨[(7,.ptr (10,0) 4 0 0)],[((10,0),.box [.ref (999990,1) 2 0 y.p.length,.p (.int .i64 y.h),.p (.int .i64 y.most),.ref (999991,1) 1 0 y.op.length]),((999990,1),.sl 329 2 (y.p.map mvRow)),((999991,1),.sl 3 1 (y.op.map intRow))]⟩) (fun z=>-80≤z.h∧z.h≤80∧(∀ o∈z.op,-80≤o∧o≤80)∧z.p.length+161*z.op.length≤648000∧z.op.length≤4000) y (fun z hQ=>?_) ⟨by omega,by omega,fun o ho=>by have:=b3 o ho;omega,by omega,by omega⟩ (by simp)
    obtain ⟨q1,q2,q3,q4,q5⟩:=hQ
    have hzp:List.take z.p.length (z.p.map mvRow)=z.p.map mvRow:=List.take_of_length_le (by simp)
    rcases List.eq_nil_or_concat z.op with e0 | ⟨ops,o,e0⟩
    ·by_cases h60:(60:Int)<z.p.length
     ·simp -dsimp [e0,hzp,h60,retE]
     ·have h60':¬60<z.p.length:=by omega
      simp -dsimp [e0,hzp,h60,h60',retE]
      exact ⟨z.p,rfl,by omega⟩
    ·rw [List.concat_eq_append] at e0
     have ho:=q3 o (by rw [e0];simp)
     rw [e0] at q4 q5
     simp only [List.length_append,List.length_cons,List.length_nil] at q4 q5
     obtain ⟨v,hv,q⟩:=b221 z ops o e0 (by omega) (by omega) (by omega) (by omega) (10,0) 999980 999990 (by decide) (by decide) (by decide) (by decide) (by decide) (by decide) (by decide)
     have hto2:List.take (ops.length+1) (ops.map intRow++[intRow o])=ops.map intRow++[intRow o]:=List.take_of_length_le (by simp)
     have hpos:(0:Int)<(ops.length:Int)+1:=by omega
     simp -dsimp [e0,hzp,hto2,hpos]
     refine call_m q (by simp [e0]) (by simp) (by simp) ?_
     simp -dsimp
     exact ⟨⟨v,o,z.most,ops⟩,by dsimp only;rw [e0];simp,⟨by dsimp only;omega,by dsimp only;omega,fun x hx=>q3 x (by rw [e0];simp [show x∈ops from hx]),by dsimp only;omega,by dsimp only;omega⟩,by simp⟩)
 exact ⟨x,hx,h⟩
end
end Go.Abs.A30
namespace Go.Abs.A30
open Go Go.Abs Go.Proofs
set_option maxRecDepth 100000
set_option maxHeartbeats 4000000
set_option linter.unusedVariables false
def ac222:AC:=by
 apply fun (y:AC) (_:@Eq AC (anF Tryz.prog 222 mu1 [] 0 0 []) y)=>y
 conv=>lhs;reduce;dsimp
theorem fn222:factOf Tryz.prog 222=some (ac222.strip,[.tmp 2],18):=by kernel_rfl
theorem ok222:ac222.okAll=true:=by kernel_rfl
def ac224:AC:=by
 apply fun (y:AC) (_:@Eq AC (anF Tryz.prog 224 mu1 [] 0 0 []) y)=>y
 conv=>lhs;reduce;dsimp
theorem fn224:factOf Tryz.prog 224=some (ac224.strip,[.tmp 2],31):=by kernel_rfl
theorem ok224:ac224.okAll=true:=by kernel_rfl
def ac248:AC:=by
 apply fun (y:AC) (_:@Eq AC (anF Tryz.prog 248 mu1 [] 0 0 []) y)=>y
 conv=>lhs;reduce;dsimp
theorem fn248:factOf Tryz.prog 248=some (ac248.strip,[.tmp 2],11):=by kernel_rfl
theorem ok248:ac248.okAll=true:=by kernel_rfl
def ac249:AC:=by
 apply fun (y:AC) (_:@Eq AC (anF Tryz.prog 249 mu1 [] 0 0 []) y)=>y
 conv=>lhs;reduce;dsimp
theorem fn249:factOf Tryz.prog 249=some (ac249.strip,[.tmp 6],76):=by kernel_rfl
theorem ok249:ac249.okAll=true:=by kernel_rfl
def ac266:AC:=by
 apply fun (y:AC) (_:@Eq AC (anF Tryz.prog 266 mu1 [] 0 0 []) y)=>y
 conv=>lhs;reduce;dsimp
theorem fn266:factOf Tryz.prog 266=some (ac266.strip,[.tmp 4],40):=by kernel_rfl
theorem ok266:ac266.okAll=true:=by kernel_rfl
def ac250:AC:=by
 apply fun (y:AC) (_:@Eq AC (anF Tryz.prog 250 mu1 [] 0 0 []) y)=>y
 conv=>lhs;reduce;dsimp
theorem fn250:factOf Tryz.prog 250=some (ac250.strip,[.tmp 2],51):=by kernel_rfl
theorem ok250:ac250.okAll=true:=by kernel_rfl
def ac225:AC:=by
 apply fun (y:AC) (_:@Eq AC (anF Tryz.prog 225 mu1 [] 0 0 []) y)=>y
 conv=>lhs;reduce;dsimp
theorem fn225:factOf Tryz.prog 225=some (ac225.strip,[.tmp 6],47):=by kernel_rfl
theorem ok225:ac225.okAll=true:=by kernel_rfl
def ac274:AC:=by
 apply fun (y:AC) (_:@Eq AC (anF Tryz.prog 274 mu1 [] 0 0 []) y)=>y
 conv=>lhs;reduce;dsimp
theorem fn274:factOf Tryz.prog 274=some (ac274.strip,[.cell 4 true 2],16):=by kernel_rfl
theorem ok274:ac274.okAll=true:=by kernel_rfl
def ac275:AC:=by
 apply fun (y:AC) (_:@Eq AC (anF Tryz.prog 275 mu1 [] 0 0 []) y)=>y
 conv=>lhs;reduce;dsimp
theorem fn275:factOf Tryz.prog 275=some (ac275.strip,[.cell 4 true 2],18):=by kernel_rfl
theorem ok275:ac275.okAll=true:=by kernel_rfl
def ac276:AC:=by
 apply fun (y:AC) (_:@Eq AC (anF Tryz.prog 276 mu1 [] 0 0 []) y)=>y
 conv=>lhs;reduce;dsimp
theorem fn276:factOf Tryz.prog 276=some (ac276.strip,[.cell 6 true 2],43):=by kernel_rfl
theorem ok276:ac276.okAll=true:=by kernel_rfl
def ac277:AC:=by
 apply fun (y:AC) (_:@Eq AC (anF Tryz.prog 277 mu1 [] 0 0 []) y)=>y
 conv=>lhs;reduce;dsimp
theorem fn277:factOf Tryz.prog 277=some (ac277.strip,[.tmp 6],52):=by kernel_rfl
theorem ok277:ac277.okAll=true:=by kernel_rfl
def ac278:AC:=by
 apply fun (y:AC) (_:@Eq AC (anF Tryz.prog 278 mu1 [] 0 0 []) y)=>y
 conv=>lhs;reduce;dsimp
theorem fn278:factOf Tryz.prog 278=some (ac278.strip,[.tmp 4,.tmp 5],20):=by kernel_rfl
theorem ok278:ac278.okAll=true:=by kernel_rfl
def xc252d:AC:=by
 apply fun (y:AC) (_:@Eq AC (anS 11 [] [] (anF Tryz.prog 252 mu1 [] 0 0 [])) y)=>y
 conv=>lhs;reduce;dsimp
def xc252c:AC:=(fun (z0:AC)=>by
 apply fun (y:AC) (_:@Eq AC (anS 8 [⟨11,[],[],some z0⟩] [] (anF Tryz.prog 252 mu1 [] 0 0 [])) y)=>y
 conv=>lhs;reduce;dsimp) xc252d
def xc252b:AC:=(fun (z0:AC)=>by
 apply fun (y:AC) (_:@Eq AC (anS 6 [⟨8,[],[],some z0⟩] [] (anF Tryz.prog 252 mu1 [] 0 0 [])) y)=>y
 conv=>lhs;reduce;dsimp) xc252c
def ac252:AC:=(fun (z0:AC)=>by
 apply fun (y:AC) (_:@Eq AC (anD [⟨6,[],[],some z0⟩] (anF Tryz.prog 252 mu1 [] 0 0 [])) y)=>y
 conv=>lhs;reduce;dsimp) xc252b
theorem fn252:factOf Tryz.prog 252=some (ac252.strip,[.tmp 6],66):=by kernel_rfl
theorem ok252:ac252.okAll=true:=by kernel_rfl
end Go.Abs.A30
namespace Go.Abs.A30
open Go Go.Abs Go.Proofs
set_option maxRecDepth 100000
set_option linter.unusedVariables false
set_option linter.unusedSimpArgs false
attribute [local simp ↓] awp_skip awp_seq awp_cond awp_block awp_exit awp_ret awp_reg awp_draw awp_ghost awp_loop awp_rfun awpR_nil awpR_cons awpX_nil awpX_0 awpX_1 awpX_2 awpI_eq awpI_t awpI_f awpStep_eq
attribute [local simp] condL_true condL_false condL_dec evDel evV evN evS evA initFr Ghost.app Fr.var Fr.blk Fr.ff FF.val Abs.look Fr.app Fr.erase Fr.noSlot AV.noSlot AV.noSlotL Blk.noSlot Fr.spoken AV.fz AV.fzL Blk.fz binV binI shI binS unV fillA FF.parts FF.vals headO intO boundO lenV scalarEq leavesEq AV.aggc AV.cells FF.read FF.rows AV.one PV.one chunk freshB newS pickV retK evRs evRl evR resOf mkTup mkAgg allP cloOf okP_nil okX_p okX okP addN Del.noSlot Del.owners Rnd reify_p normM insM Fr.back Fr.backV Fr.setPs normV insV
attribute [local simp] renF Fr.trim Blk.trim AV.rn AV.rnL Blk.rn AV.among AV.amongL Blk.among okF retM fixS BIG initFF
attribute [local simp] FF.reify FF.reifyL PV.flat
section
def smallB (n:Int):Bool:=decide (-1048576≤n) && decide (n≤1048576)
def SO (a:Int×Int):Prop:=-1048576≤a.1∧a.1≤a.2∧a.2≤1048576
theorem b248 (a b:Int):Best Tryz.prog 248 [.agg [.int .i64 a,.int .i64 b]] (.p (.bool (smallB a && smallB b))):=by
 refine best mixed fn248 ok248 (by simp) ?_
 simp -dsimp [ac248]
 refine call_p (b233 a) (by simp) (by simp) ?_
 by_cases h:smallB a=true
 ·have h':=h
  unfold smallB at h'
  simp -dsimp [h']
  refine call_p (b233 b) (by simp) (by simp) ?_
  simp -dsimp [h]
  rfl
 ·have h0:smallB a=false:=by simpa using h
  have h':=h0
  unfold smallB at h'
  simp -dsimp [h',h0]
theorem b222 (a b:Int):Best Tryz.prog 222 [.agg [.int .i64 a,.int .i64 b]] (.p (.bool (decide (4≤a) && decide (a≤b) && decide (b≤32)))):=by
 refine best mixed fn222 ok222 (by simp) ?_
 by_cases h1:4≤a<;>by_cases h2:a≤b<;>by_cases h3:b≤32<;>simp -dsimp [ac222,h1,h2,h3]
theorem b274 (a b c d:Int):Best Tryz.prog 274 [.agg [.int .i64 a,.int .i64 b],.agg [.int .i64 c,.int .i64 d]] (.p (.agg [.int .i64 (min a c),.int .i64 (max b d)])):=by
 refine best mixed fn274 ok274 (by simp) ?_
 simp -dsimp [ac274]
theorem b275 (a b c d:Int):∃ x:Int×Int,SO x∧Best Tryz.prog 275 [.agg [.int .i64 a,.int .i64 b],.agg [.int .i64 c,.int .i64 d]] (.p (.agg [.int .i64 x.1,.int .i64 x.2])):=by
 obtain ⟨v,⟨x,rfl,hx⟩,h⟩:=bestE (Q:=fun v=>∃ x:Int×Int,v=.agg [.int .i64 x.1,.int .i64 x.2]∧SO x) mixed fn275 ok275 (args:=[.agg [.int .i64 a,.int .i64 b],.agg [.int .i64 c,.int .i64 d]]) (by simp) (by
  by_cases h1:b<c
  ·simp -dsimp [ac275,h1,retE]
   exact ⟨1,1,by simp [SO]⟩
  ·by_cases h2:d≤a
   ·simp -dsimp [ac275,h1,h2,retE]
    exact ⟨0,0,by simp [SO]⟩
   ·simp -dsimp [ac275,h1,h2,retE]
    exact ⟨0,1,by simp [SO]⟩)
 exact ⟨x,hx,h⟩
theorem w11:IntKind.i64.wrap 1=1:=wr ⟨by omega,by omega⟩
theorem w12:IntKind.i64.wrap 2=2:=wr ⟨by omega,by omega⟩
theorem abs_le_mul (a b:Int) (ha:-1048576≤a∧a≤1048576) (hb:-1048576≤b∧b≤1048576):-1099511627776≤a*b∧a*b≤1099511627776:=by
 have h:(a*b).natAbs≤1048576*1048576:=by
  rw [Int.natAbs_mul]
  exact Nat.mul_le_mul (by omega) (by omega)
 omega
theorem b278 {a b:Int} (ha:-1048576≤a∧a≤1048576) (hb:-1048576≤b∧b≤1048576):∃ v:Int,Best Tryz.prog 278 [.int .i64 a,.int .i64 b] (.p (.tup [.int .i64 v,.bool true])):=by
 refine ⟨roundS (a*b) 64,best mixed fn278 ok278 (by simp) ?_⟩
 have h1:-1099511627776≤a*b∧a*b≤1099511627776:=by
  have h:=abs_le_mul a b ha hb
  omega
 have w:R (a*b):=⟨by omega,by omega⟩
 simp -dsimp [ac278]
 refine call_p (b233 a) (by simp) (by simp) ?_
 simp -dsimp [ha.1,ha.2]
 refine call_p (b233 b) (by simp) (by simp) ?_
 simp -dsimp [hb.1,hb.2,wr w]
 refine call_p (b203 (n:=a*b) (d:=64) w (by omega) ⟨by omega,by omega⟩) (by simp) (by simp) ?_
 simp -dsimp
theorem b277 (op:Int) {a b:Int} (ha:-1048576≤a∧a≤1048576) (hb:-1048576≤b∧b≤1048576):∃ v:Int,Best Tryz.prog 277 [.int .i64 op,.int .i64 a,.int .i64 b] (.p (.int .i64 v)):=by
 obtain ⟨v,⟨x,rfl⟩,h⟩:=bestE (Q:=fun v=>∃ x:Int,v=.int .i64 x) mixed fn277 ok277 (args:=[.int .i64 op,.int .i64 a,.int .i64 b]) (by simp) (by
  by_cases h5:op=5
  ·simp -dsimp [ac277,h5,retE]
  ·by_cases h6:op=6
   ·simp -dsimp [ac277,h6,retE]
   ·by_cases h7:op=7
    ·obtain ⟨v,q⟩:=b278 ha hb
     simp -dsimp [ac277,h7]
     refine call_p q (by simp) (by simp) ?_
     simp -dsimp [retE]
    ·by_cases h8:op=8
     ·simp -dsimp [ac277,h8,retE]
     ·by_cases h9:op=9
      ·simp -dsimp [ac277,h9,retE]
      ·by_cases h10:op=10
       ·simp -dsimp [ac277,h10,retE]
       ·simp -dsimp [ac277,h5,h6,h7,h8,h9,h10]
        refine call_p (b203 (n:=a) (d:=64) ⟨by omega,by omega⟩ (by omega) ⟨by omega,by omega⟩) (by simp) (by simp) ?_
        simp -dsimp [retE])
 exact ⟨x,h⟩
theorem b276 (op:Int) {a b:Int×Int} (ha:SO a) (hb:SO b):∃ x:Int×Int,x.1≤x.2∧Best Tryz.prog 276 [.int .i64 op,.agg [.int .i64 a.1,.int .i64 a.2],.agg [.int .i64 b.1,.int .i64 b.2]] (.p (.agg [.int .i64 x.1,.int .i64 x.2])):=by
 obtain ⟨a1,a2⟩:=a
 obtain ⟨c1,c2⟩:=b
 obtain ⟨ha1,ha2,ha3⟩:=ha
 obtain ⟨hb1,hb2,hb3⟩:=hb
 dsimp only at *
 obtain ⟨v,⟨x,rfl,hx⟩,h⟩:=bestE (Q:=fun v=>∃ x:Int×Int,v=.agg [.int .i64 x.1,.int .i64 x.2]∧x.1≤x.2) mixed fn276 ok276 (args:=[.int .i64 op,.agg [.int .i64 a1,.int .i64 a2],.agg [.int .i64 c1,.int .i64 c2]]) (by simp) (by
  simp -dsimp [ac276]
  obtain ⟨v,q⟩:=b277 op (a:=a1) (b:=c1) (by omega) (by omega)
  refine call_p q (by simp) (by simp) ?_
  simp -dsimp
  refine loopE 2 (fun k (y:Int×Int)=>⟨[(0,.p (.int .i64 op)),(4,.ptr (4,0) 2 0 0),(5,.ptr (5,0) 2 0 0),(6,.ptr (6,0) 2 0 0),(8,.ptr (8,0) 2 0 0),(9,.p (.int .i64 k))],[((4,0),.box [.p (.int .i64 a1),.p (.int .i64 a2)]),((5,0),.box [.p (.int .i64 c1),.p (.int .i64 c2)]),((6,0),.box [.p (.int .i64 0),.p (.int .i64 0)]),((8,0),.box [.p (.int .i64 y.1),.p (.int .i64 y.2)])]⟩) (fun k y=>y.1≤y.2) (v,v) (fun k y hk hQ=>?_) (by simp) (by simp)
  obtain ⟨y1,y2⟩:=y
  dsimp only at hQ
  by_cases h:k<2
  ·have h':(k:Int)<2:=by omega
   have wk:R ((k:Int)+1):=⟨by omega,by omega⟩
   simp -dsimp [h']
   refine loopE 2 (fun j (y:Int×Int)=>⟨[(0,.p (.int .i64 op)),(4,.ptr (4,0) 2 0 0),(5,.ptr (5,0) 2 0 0),(6,.ptr (6,0) 2 0 0),(8,.ptr (8,0) 2 0 0),(9,.p (.int .i64 k)),(10,.p (.int .i64 j))],[((4,0),.box [.p (.int .i64 a1),.p (.int .i64 a2)]),((5,0),.box [.p (.int .i64 c1),.p (.int .i64 c2)]),((6,0),.box [.p (.int .i64 0),.p (.int .i64 0)]),((8,0),.box [.p (.int .i64 y.1),.p (.int .i64 y.2)])]⟩) (fun j y=>y.1≤y.2) (y1,y2) (fun j y hj hQ=>?_) hQ (by simp)
   obtain ⟨z1,z2⟩:=y
   dsimp only at hQ
   by_cases g:j<2
   ·have g':(j:Int)<2:=by omega
    have wj:R ((j:Int)+1):=⟨by omega,by omega⟩
    have hk2:k=0∨k=1:=by omega
    have hj2:j=0∨j=1:=by omega
    rcases hk2 with rfl | rfl<;>rcases hj2 with rfl | rfl
    ·obtain ⟨v,q⟩:=b277 op (a:=a1) (b:=c1) (by omega) (by omega)
     simp -dsimp
     refine call_p q (by simp) (by simp) ?_
     simp -dsimp
     refine call_p (b274 z1 z2 v v) (by simp) (by simp) ?_
     simp -dsimp
     exact ⟨min z1 v,max z2 v,by omega,by simp [w11,w12]⟩
    ·obtain ⟨v,q⟩:=b277 op (a:=a1) (b:=c2) (by omega) (by omega)
     simp -dsimp
     refine call_p q (by simp) (by simp) ?_
     simp -dsimp
     refine call_p (b274 z1 z2 v v) (by simp) (by simp) ?_
     simp -dsimp
     exact ⟨min z1 v,max z2 v,by omega,by simp [w11,w12]⟩
    ·obtain ⟨v,q⟩:=b277 op (a:=a2) (b:=c1) (by omega) (by omega)
     simp -dsimp
     refine call_p q (by simp) (by simp) ?_
     simp -dsimp
     refine call_p (b274 z1 z2 v v) (by simp) (by simp) ?_
     simp -dsimp
     exact ⟨min z1 v,max z2 v,by omega,by simp [w11,w12]⟩
    ·obtain ⟨v,q⟩:=b277 op (a:=a2) (b:=c2) (by omega) (by omega)
     simp -dsimp
     refine call_p q (by simp) (by simp) ?_
     simp -dsimp
     refine call_p (b274 z1 z2 v v) (by simp) (by simp) ?_
     simp -dsimp
     exact ⟨min z1 v,max z2 v,by omega,by simp [w11,w12]⟩
   ·have g':¬(j:Int)<2:=by omega
    simp -dsimp [g',wr wk,h]
    omega
  ·have h':¬(k:Int)<2:=by omega
   simp -dsimp [h',retE]
   exact ⟨y1,y2,⟨rfl,rfl⟩,hQ⟩)
 exact ⟨x,hx,h⟩
end
section
set_option maxHeartbeats 2000000
def InsOk (axes points:Nat) (x:Int×Int):Prop:=1≤x.1∧x.1≤26∧(x.1=1→-1048576≤x.2∧x.2≤1048576)∧(x.1=14→0≤x.2∧x.2<axes)∧(15≤x.1∧x.1≤18→0≤x.2∧x.2<points)∧(x.1=21∨x.1=22→0≤x.2∧x.2<8)∧(x.1=26→1≤x.2∧x.2≤8)
theorem b249 (a n:Int) (axes points:Nat):∃ v:Int,(v=0→InsOk axes points (a,n))∧Best Tryz.prog 249 [.agg [.int .i64 a,.int .i64 n],.int .i64 axes,.int .i64 points] (.p (.int .i64 v)):=by
 obtain ⟨v,⟨x,rfl,hx⟩,h⟩:=bestE (Q:=fun v=>∃ x:Int,v=.int .i64 x∧(x=0→InsOk axes points (a,n))) mixed fn249 ok249 (args:=[.agg [.int .i64 a,.int .i64 n],.int .i64 axes,.int .i64 points]) (by simp) (by
  simp -dsimp [ac249]
  refine call_p (b233 n) (by simp) (by simp) ?_
  have rng:∀ lo hi:Int,¬(n<lo∨(¬n<lo∧hi≤n))→lo≤n∧n<hi:=fun lo hi h=>by omega
  by_cases c1:a=1
  ·by_cases g1:-1048576≤n<;>by_cases g2:n≤1048576<;>simp -dsimp [c1,g1,g2,retE,InsOk]
  ·by_cases c2:a=14
   ·by_cases g1:n<0
    ·simp -dsimp [c2,g1,retE]
    ·by_cases g2:(axes:Int)≤n
     ·simp -dsimp [c2,g1,g2,retE]
     ·simp -dsimp [c2,g1,g2,retE]
      unfold InsOk;dsimp only;omega
   ·by_cases c3:a=15∨a=16∨a=17∨a=18
    ·rcases c3 with rfl | rfl | rfl | rfl
     all_goals
      by_cases g1:n<0
      ·simp -dsimp [g1,retE]
      ·by_cases g2:(points:Int)≤n
       ·simp -dsimp [g1,g2,retE]
       ·simp -dsimp [g1,g2,retE]
        unfold InsOk;dsimp only;omega
    ·obtain ⟨d1,d2,d3,d4⟩:a≠15∧a≠16∧a≠17∧a≠18:=by omega
     by_cases c4:a=21∨a=22
     ·rcases c4 with rfl | rfl
      all_goals
       by_cases g1:n<0
       ·simp -dsimp [g1,retE]
       ·by_cases g2:(8:Int)≤n
        ·simp -dsimp [g1,g2,retE]
        ·simp -dsimp [g1,g2,retE]
         unfold InsOk;dsimp only;omega
     ·obtain ⟨d5,d6⟩:a≠21∧a≠22:=by omega
      by_cases c5:a=26
      ·by_cases g1:n<1
       ·simp -dsimp [c5,g1,retE]
       ·by_cases g2:(8:Int)<n
        ·simp -dsimp [c5,g1,g2,retE]
        ·simp -dsimp [c5,g1,g2,retE]
         unfold InsOk;dsimp only;omega
      ·by_cases g1:a<1
       ·simp -dsimp [c1,c2,d1,d2,d3,d4,d5,d6,c5,g1,retE]
       ·by_cases g2:(26:Int)<a
        ·simp -dsimp [c1,c2,d1,d2,d3,d4,d5,d6,c5,g1,g2,retE]
        ·by_cases g3:n=0
         ·simp -dsimp [c1,c2,d1,d2,d3,d4,d5,d6,c5,g1,g2,g3,retE]
          unfold InsOk;dsimp only;omega
         ·simp -dsimp [c1,c2,d1,d2,d3,d4,d5,d6,c5,g1,g2,g3,retE])
 exact ⟨x,hx,h⟩
end
section
set_option maxHeartbeats 2000000
theorem b252 (p:List (Int×Int)) (hp:p.length≤1000) (a:Nat) (ha:a<p.length) (e:Bool):∃ v:Nat,a+1≤v∧v≤p.length∧Best Tryz.prog 252 [.sl 2 (p.map mvRow),.int .i64 a,.bool e] (.p (.int .i64 v)):=by
 obtain ⟨v,⟨x,rfl,hx⟩,h⟩:=bestE (Q:=fun v=>∃ x:Nat,v=.int .i64 x∧a+1≤x∧x≤p.length) mixed fn252 ok252 (args:=[.sl 2 (p.map mvRow),.int .i64 a,.bool e]) (by simp) (by
  have w0:R ((a:Int)+1):=⟨by omega,by omega⟩
  simp -dsimp [ac252,wr w0]
  refine loopE (p.length - (a+1)) (fun k (d:Int)=>⟨[(0,.p (.sl 2 (p.map mvRow))),(2,.p (.bool e)),(7,.p (.int .i64 d)),(8,.p (.int .i64 ((a+1+k:Nat))))],[]⟩) (fun _ _=>True) 0 (fun k d hk _=>?_) trivial (by simp)
  obtain ⟨q,eq⟩:∃ q,a+1+k=q:=⟨_,rfl⟩
  dsimp only
  rw [eq]
  by_cases h:q<p.length
  ·obtain ⟨⟨o,n⟩,ex⟩:∃ x,p[q]=x:=⟨_,rfl⟩
   have h':(q:Int)<p.length:=by omega
   have w:R ((q:Int)+1):=⟨by omega,by omega⟩
   by_cases c23:o=23
   ·by_cases hd:IntKind.i64.wrap (d+1)=0
    ·simp -dsimp [xc252b,xc252c,xc252d,h,ex,mvRow,c23,hd,wr w]
     omega
    ·simp -dsimp [xc252b,xc252c,xc252d,h,ex,mvRow,c23,hd,wr w]
     omega
   ·by_cases c26:o=26
    ·by_cases hd:IntKind.i64.wrap (d+1)=0
     ·simp -dsimp [xc252b,xc252c,xc252d,h,ex,mvRow,c26,hd,wr w]
      omega
     ·simp -dsimp [xc252b,xc252c,xc252d,h,ex,mvRow,c26,hd,wr w]
      omega
    ·by_cases c25:o=25
     ·by_cases hd:d=0
      ·simp -dsimp [xc252b,xc252c,xc252d,h,ex,mvRow,c25,hd,wr w,retE]
       exact ⟨by omega,by omega⟩
      ·simp -dsimp [xc252b,xc252c,xc252d,h,ex,mvRow,c25,hd,wr w]
       omega
     ·by_cases c24:o=24
      ·by_cases hd:d=0
       ·cases e with
        | true=>
         simp -dsimp [xc252b,xc252c,xc252d,h,ex,mvRow,c24,hd,wr w]
         omega
        | false=>
         simp -dsimp [xc252b,xc252c,xc252d,h,ex,mvRow,c24,hd,wr w,retE]
         exact ⟨by omega,by omega⟩
       ·simp -dsimp [xc252b,xc252c,xc252d,h,ex,mvRow,c24,hd,wr w]
        omega
      ·by_cases hd:d=0
       ·simp -dsimp [xc252b,xc252c,xc252d,h,ex,mvRow,c23,c24,c25,c26,hd,wr w]
        omega
       ·simp -dsimp [xc252b,xc252c,xc252d,h,ex,mvRow,c23,c24,c25,c26,hd,wr w]
        omega
  ·simp -dsimp [h,retE]
   first | exact ⟨p.length,rfl,by omega,by omega⟩ | exact ⟨p.length,⟨rfl,by omega,by omega⟩⟩ | exact ⟨by omega,by omega⟩)
 exact ⟨x,hx.1,hx.2,h⟩
theorem b266 (p:List (Int×Int)) (hp:p.length≤1000) (a:Nat) (ha:a≤p.length):∃ v:Int,-1≤v∧v<a∧Best Tryz.prog 266 [.sl 2 (p.map mvRow),.int .i64 a] (.p (.int .i64 v)):=by
 obtain ⟨v,⟨x,rfl,hx⟩,h⟩:=bestE (Q:=fun v=>∃ x:Int,v=.int .i64 x∧-1≤x∧x<a) mixed fn266 ok266 (args:=[.sl 2 (p.map mvRow),.int .i64 a]) (by simp) (by
  have w0:R ((a:Int) - 1):=⟨by omega,by omega⟩
  simp -dsimp [ac266,wr w0]
  refine loopE a (fun k (d:Int)=>⟨[(0,.p (.sl 2 (p.map mvRow))),(5,.p (.int .i64 d)),(6,.p (.int .i64 ((a:Int) - 1 - k)))],[]⟩) (fun _ _=>True) 0 (fun k d hk _=>?_) trivial (by simp)
  by_cases h:k<a
  ·obtain ⟨q,eq⟩:∃ q:Nat,(a:Int) - 1 - k=q:=⟨a - 1 - k,by omega⟩
   dsimp only
   rw [eq]
   have hq:q<p.length:=by omega
   obtain ⟨⟨o,n⟩,ex⟩:∃ x,p[q]=x:=⟨_,rfl⟩
   have hq':(0:Int)≤q:=by omega
   have w:R ((q:Int) - 1):=⟨by omega,by omega⟩
   have e1:(a:Int) - 1 - (k+1)=q - 1:=by omega
   by_cases c25:o=25
   ·simp -dsimp [hq,hq',ex,mvRow,c25,wr w,h]
    omega
   ·by_cases c23:o=23
    ·by_cases hd:d=0
     ·simp -dsimp [hq,hq',ex,mvRow,c23,hd,wr w,h,retE]
      omega
     ·simp -dsimp [hq,hq',ex,mvRow,c23,hd,wr w,h]
      omega
    ·by_cases c26:o=26
     ·by_cases hd:d=0
      ·simp -dsimp [hq,hq',ex,mvRow,c26,hd,wr w,h,retE]
       omega
      ·simp -dsimp [hq,hq',ex,mvRow,c26,hd,wr w,h]
       omega
     ·simp -dsimp [hq,hq',ex,mvRow,c23,c25,c26,wr w,h]
      omega
  ·have:k=a:=by omega
   subst this
   have h':¬(0:Int)≤(k:Int) - 1 - k:=by omega
   simp -dsimp [h',retE]
   omega)
 exact ⟨x,hx.1,hx.2,h⟩
end
section
set_option maxHeartbeats 2000000
theorem b250 (p:List (Int×Int)) (hp:p.length≤1000):∃ b:Bool,Best Tryz.prog 250 [.sl 2 (p.map mvRow)] (.p (.bool b)):=by
 obtain ⟨v,⟨x,rfl⟩,h⟩:=bestE (Q:=fun v=>∃ x:Bool,v=.bool x) mixed fn250 ok250 (args:=[.sl 2 (p.map mvRow)]) (by simp) (by
  simp -dsimp [ac250]
  refine loopE p.length (fun k (_:Unit)=>⟨[(0,.p (.sl 2 (p.map mvRow))),(3,.p (.int .i64 k))],[]⟩) (fun _ _=>True) () (fun k d hk _=>?_) trivial (by simp)
  by_cases h:k<p.length
  ·obtain ⟨⟨o,n⟩,ex⟩:∃ x,p[k]=x:=⟨_,rfl⟩
   have w:R ((k:Int)+1):=⟨by omega,by omega⟩
   obtain ⟨v,v1,v2,q⟩:=b266 p hp k hk
   have fin:k<p.length∧∃ (_:Unit),True:=⟨h,(),trivial⟩
   simp -dsimp [h]
   refine call_p q (by simp) (by simp) ?_
   by_cases c1:o=23∨o=26
   ·obtain ⟨z,z1,z2,r⟩:=b252 p hp k h true
    rcases c1 with rfl | rfl
    ·simp -dsimp [ex,mvRow,h]
     refine call_p r (by simp) (by simp) ?_
     by_cases hz:(z:Int)=p.length<;>simp -dsimp [hz,retE,wr w,h]
    ·simp -dsimp [ex,mvRow,h]
     refine call_p r (by simp) (by simp) ?_
     by_cases hz:(z:Int)=p.length<;>simp -dsimp [hz,retE,wr w,h]
   ·obtain ⟨c2,c3⟩:o≠23∧o≠26:=by omega
    by_cases c4:o=25
    ·by_cases hv:v<0<;>simp -dsimp [ex,mvRow,h,c4,hv,retE,wr w]
    ·by_cases c5:o=24
     ·by_cases hv:v<0
      ·simp -dsimp [ex,mvRow,h,c5,hv,retE,wr w]
      ·obtain ⟨u,eu⟩:∃ u:Nat,v=u:=⟨v.toNat,by omega⟩
       subst eu
       have hu:u<p.length:=by omega
       obtain ⟨⟨o2,n2⟩,ex2⟩:∃ x,p[u]=x:=⟨_,rfl⟩
       by_cases c6:o2=23
       ·obtain ⟨z,z1,z2,r⟩:=b252 p hp u hu false
        simp -dsimp [ex,ex2,mvRow,h,c5,c6,hu,hv]
        refine call_p r (by simp) (by simp) ?_
        by_cases hz:(z:Int)=k<;>simp -dsimp [hz,retE,wr w,h]
       ·simp -dsimp [ex,ex2,mvRow,h,c5,c6,hu,hv,retE]
     ·simp -dsimp [ex,mvRow,h,c2,c3,c4,c5,wr w]
  ·simp -dsimp [h,retE])
 exact ⟨x,h⟩
theorem b225 (p:List (Int×Int)) (hp:p.length≤1000) (axes points:Nat):∃ v:Int,(v=0→p.length≤60∧axes≤3∧points≤40∧∀ x∈p,InsOk axes points x)∧Best Tryz.prog 225 [.sl 2 (p.map mvRow),.int .i64 axes,.int .i64 points] (.p (.int .i64 v)):=by
 obtain ⟨v,⟨x,rfl,hx⟩,h⟩:=bestE (Q:=fun v=>∃ x:Int,v=.int .i64 x∧(x=0→p.length≤60∧axes≤3∧points≤40∧∀ x∈p,InsOk axes points x)) mixed fn225 ok225 (args:=[.sl 2 (p.map mvRow),.int .i64 axes,.int .i64 points]) (by simp) (by
  have n1:¬(axes:Int)<0:=by omega
  have n2:¬(points:Int)<0:=by omega
  by_cases g1:(3:Int)<axes
  ·simp -dsimp [ac225,n1,g1,retE]
  ·by_cases g2:(40:Int)<points
   ·simp -dsimp [ac225,n1,n2,g1,g2,retE]
   ·by_cases g3:(60:Int)<p.length
    ·simp -dsimp [ac225,n1,n2,g1,g2,g3,retE]
    ·simp -dsimp [ac225,n1,n2,g1,g2,g3]
     refine loopE p.length (fun k (_:Unit)=>⟨[(0,.p (.sl 2 (p.map mvRow))),(1,.p (.int .i64 axes)),(2,.p (.int .i64 points)),(7,.p (.int .i64 k))],[]⟩) (fun k _=>∀ x∈p.take k,InsOk axes points x) () (fun k d hk hQ=>?_) (by simp) (by simp)
     by_cases h:k<p.length
     ·obtain ⟨⟨o,n⟩,ex⟩:∃ x,p[k]=x:=⟨_,rfl⟩
      have w:R ((k:Int)+1):=⟨by omega,by omega⟩
      obtain ⟨v,hv,q⟩:=b249 o n axes points
      simp -dsimp [h,ex,mvRow]
      refine call_p q (by simp) (by simp) ?_
      by_cases hz:v=0
      ·have hi:=hv hz
       simp -dsimp [hz,wr w,h]
       intro a b hx
       rw [List.take_add_one,List.getElem?_eq_getElem h,ex] at hx
       rcases List.mem_append.1 hx with g | g
       ·exact hQ _ g
       ·have:(a,b)=(o,n):=by simpa using g
        rw [this];exact hi
      ·simp -dsimp [hz,retE]
     ·have:k=p.length:=by omega
      subst this
      obtain ⟨b,q⟩:=b250 p hp
      rw [List.take_length] at hQ
      simp -dsimp [h]
      refine call_p q (by simp) (by simp) ?_
      cases b
      ·simp -dsimp [retE]
      ·simp -dsimp [retE]
       exact ⟨by omega,by omega,by omega,fun a b hx=>hQ _ hx⟩)
 exact ⟨x,hx,h⟩
end
end Go.Abs.A30
namespace Go.Abs.A30
open Go Go.Abs Go.Proofs
set_option maxRecDepth 100000
set_option maxHeartbeats 4000000
set_option linter.unusedVariables false
def ac269:AC:=by
 apply fun (y:AC) (_:@Eq AC (anF Tryz.prog 269 mu1 [999970,999971,999972,999973,999980,999981,999982,999983,999990,999991,999992,999993,1000000,1000001,1000002,1000003,1000004,1000005,1000006,1000007] 258048 1048575 [0]) y)=>y
 conv=>lhs;reduce;dsimp
theorem fn269:factOf Tryz.prog 269=some (ac269.strip,[],13):=by kernel_rfl
theorem ok269:ac269.okAll=true:=by kernel_rfl
def ac268:AC:=by
 apply fun (y:AC) (_:@Eq AC (anD [⟨6,[],[.ren (3,0) (999970,0),.canC (999970,0) 3 (999971,0),.canC (999970,0) 20 (999972,0),.canC (999970,0) 21 (999973,0)],none⟩] (anF Tryz.prog 268 mu1 [999970,999971,999972,999973,999980,999981,999982,999983,999990,999991,999992,999993,1000000,1000001,1000002,1000003,1000004,1000005,1000006,1000007] 258048 1048575 [0])) y)=>y
 conv=>lhs;reduce;dsimp
theorem fn268:factOf Tryz.prog 268=some (ac268.strip,[.tmp 2],28):=by kernel_rfl
theorem ok268:ac268.okAll=true:=by kernel_rfl
def xc253b:AC:=by
 apply fun (y:AC) (_:@Eq AC (anS 2 [] [] (anF Tryz.prog 253 mu1 [999970,999971,999972,999973,999980,999981,999982,999983,999990,999991,999992,999993,1000000,1000001,1000002,1000003,1000004,1000005,1000006,1000007] 258048 1048575 [0])) y)=>y
 conv=>lhs;reduce;dsimp
def ac253:AC:=(fun (z0:AC)=>by
 apply fun (y:AC) (_:@Eq AC (anD [⟨2,[],[],some z0⟩] (anF Tryz.prog 253 mu1 [999970,999971,999972,999973,999980,999981,999982,999983,999990,999991,999992,999993,1000000,1000001,1000002,1000003,1000004,1000005,1000006,1000007] 258048 1048575 [0])) y)=>y
 conv=>lhs;reduce;dsimp) xc253b
theorem fn253:factOf Tryz.prog 253=some (ac253.strip,[],27):=by kernel_rfl
theorem ok253:ac253.okAll=true:=by kernel_rfl
def xc272c:AC:=by
 apply fun (y:AC) (_:@Eq AC (anS 11 [] [] (anF Tryz.prog 272 mu1 [999970,999971,999972,999973,999980,999981,999982,999983,999990,999991,999992,999993,1000000,1000001,1000002,1000003,1000004,1000005,1000006,1000007] 258048 1048575 [0])) y)=>y
 conv=>lhs;reduce;dsimp
def xc272b:AC:=(fun (z0:AC)=>by
 apply fun (y:AC) (_:@Eq AC (anS 9 [⟨11,[],[],some z0⟩] [] (anF Tryz.prog 272 mu1 [999970,999971,999972,999973,999980,999981,999982,999983,999990,999991,999992,999993,1000000,1000001,1000002,1000003,1000004,1000005,1000006,1000007] 258048 1048575 [0])) y)=>y
 conv=>lhs;reduce;dsimp) xc272c
def ac272:AC:=(fun (z0:AC)=>by
 apply fun (y:AC) (_:@Eq AC (anD [⟨9,[],[],some z0⟩] (anF Tryz.prog 272 mu1 [999970,999971,999972,999973,999980,999981,999982,999983,999990,999991,999992,999993,1000000,1000001,1000002,1000003,1000004,1000005,1000006,1000007] 258048 1048575 [0])) y)=>y
 conv=>lhs;reduce;dsimp) xc272b
theorem fn272:factOf Tryz.prog 272=some (ac272.strip,[],65):=by kernel_rfl
theorem ok272:ac272.okAll=true:=by kernel_rfl
def ac271:AC:=by
 apply fun (y:AC) (_:@Eq AC (anD [⟨4,[],[.canV 8 (8,1),.freeze (8,1),.zsl 8 2],none⟩,⟨6,[],[.canV 8 (8,1),.freeze (8,1),.zsl 8 2],none⟩,⟨8,[],[.canV 8 (8,1),.freeze (8,1),.zsl 8 2],none⟩,⟨10,[],[.canV 8 (8,1),.freeze (8,1),.zsl 8 2],none⟩,⟨12,[],[.canV 8 (8,1),.freeze (8,1),.zsl 8 2],none⟩,⟨14,[],[.canV 8 (8,1),.freeze (8,1),.zsl 8 2],none⟩,⟨16,[],[.canV 8 (8,1),.freeze (8,1),.zsl 8 2],none⟩,⟨18,[],[.canV 8 (8,1),.freeze (8,1),.zsl 8 2],none⟩,⟨20,[],[.canV 8 (8,1),.freeze (8,1),.zsl 8 2],none⟩,⟨29,[],[.canV 8 (8,1),.freeze (8,1),.zsl 8 2],none⟩,⟨37,[],[.canV 8 (8,1),.freeze (8,1),.zsl 8 2],none⟩,⟨39,[],[.canV 8 (8,1),.freeze (8,1),.zsl 8 2],none⟩] (anF Tryz.prog 271 mu1 [999970,999971,999972,999973,999980,999981,999982,999983,999990,999991,999992,999993,1000000,1000001,1000002,1000003,1000004,1000005,1000006,1000007] 258048 1048575 [0])) y)=>y
 conv=>lhs;reduce;dsimp
theorem fn271:factOf Tryz.prog 271=some (ac271.strip,[.tmp 8],130):=by kernel_rfl
theorem ok271:ac271.okAll=true:=by kernel_rfl
def ac270:AC:=by
 apply fun (y:AC) (_:@Eq AC (anF Tryz.prog 270 mu1 [999970,999971,999972,999973,999980,999981,999982,999983,999990,999991,999992,999993,1000000,1000001,1000002,1000003,1000004,1000005,1000006,1000007] 258048 1048575 [0,1]) y)=>y
 conv=>lhs;reduce;dsimp
theorem fn270:factOf Tryz.prog 270=some (ac270.strip,[],134):=by kernel_rfl
theorem ok270:ac270.okAll=true:=by kernel_rfl
end Go.Abs.A30
namespace Go.Abs.A30
open Go Go.Abs Go.Proofs
set_option maxRecDepth 100000
set_option linter.unusedVariables false
set_option linter.unusedSimpArgs false
attribute [local simp ↓] awp_skip awp_seq awp_cond awp_block awp_exit awp_ret awp_reg awp_draw awp_ghost awp_loop awp_rfun awpR_nil awpR_cons awpX_nil awpX_0 awpX_1 awpX_2 awpI_eq awpI_t awpI_f awpStep_eq
attribute [local simp] condL_true condL_false condL_dec evDel evV evN evS evA initFr Ghost.app Fr.var Fr.blk Fr.ff FF.val Abs.look Fr.app Fr.erase Fr.noSlot AV.noSlot AV.noSlotL Blk.noSlot Fr.spoken AV.fz AV.fzL Blk.fz binV binI shI binS unV fillA FF.parts FF.vals headO intO boundO lenV scalarEq leavesEq AV.aggc AV.cells FF.read FF.rows AV.one PV.one chunk freshB newS pickV retK evRs evRl evR resOf mkTup mkAgg allP cloOf okP_nil okX_p okX okP addN Del.noSlot Del.owners Rnd reify_p normM insM Fr.back Fr.backV Fr.setPs normV insV
attribute [local simp] renF Fr.trim Blk.trim AV.rn AV.rnL Blk.rn AV.among AV.amongL Blk.among okF retM fixS BIG initFF
attribute [local simp] FF.reify FF.reifyL PV.flat
section
set_option maxHeartbeats 2000000
structure Mc where
 sz:Int×Int
 ax:List (Int×Int)
 st:List (Int×Int)
 sl:Nat→Int×Int
 x:List (Int×Int)
 y:List (Int×Int)
 high:Int
 steps:Int
 failed:Int
def mcBox (a x y:Slot) (m:Mc):Blk:=.box [.p (.int .i64 m.sz.1),.p (.int .i64 m.sz.2),.p (.sl 2 (m.ax.map mvRow)),.ref a 2 0 m.st.length,
 .p (.int .i64 (m.sl 0).1),.p (.int .i64 (m.sl 0).2),.p (.int .i64 (m.sl 1).1),.p (.int .i64 (m.sl 1).2),.p (.int .i64 (m.sl 2).1),.p (.int .i64 (m.sl 2).2),.p (.int .i64 (m.sl 3).1),.p (.int .i64 (m.sl 3).2),
 .p (.int .i64 (m.sl 4).1),.p (.int .i64 (m.sl 4).2),.p (.int .i64 (m.sl 5).1),.p (.int .i64 (m.sl 5).2),.p (.int .i64 (m.sl 6).1),.p (.int .i64 (m.sl 6).2),.p (.int .i64 (m.sl 7).1),.p (.int .i64 (m.sl 7).2),
 .ref x 2 0 m.x.length,.ref y 2 0 m.y.length,.p (.int .i64 m.high),.p (.int .i64 m.steps),.p (.int .i64 m.failed)]
def mcM (s a x y:Slot) (m:Mc):List (Slot×Blk):=[(a,.sl 26 2 (m.st.map mvRow)),(s,mcBox a x y m),(x,.sl 26 2 (m.x.map mvRow)),(y,.sl 26 2 (m.y.map mvRow))]
theorem mcRen {f:FuncId} {m m':Mc} {l:List AV} {v:PV} (h:BestF Tryz.prog f (mcM (BIG,0) (BIG+1,0) (BIG+2,0) (BIG+3,0) m) (.ptr (BIG,0) 25 0 0 :: l) [(BIG,0),(BIG+1,0),(BIG+2,0),(BIG+3,0)] (.p v) (mcM (BIG,0) (BIG+1,0) (BIG+2,0) (BIG+3,0) m'))
  (s a x y:Slot) (h1:s≠a) (h2:s≠x) (h3:s≠y) (h4:a≠x) (h5:a≠y) (h6:x≠y) (hl:∀ ρ,AV.rnFL ρ l=l) :
  BestF Tryz.prog f (mcM s a x y m) (.ptr s 25 0 0 :: l) [s,a,x,y] (.p v) (mcM s a x y m'):=by
 have g:=h.ren (fun t=>if t=(BIG,0) then s else if t=(BIG+1,0) then a else if t=(BIG+2,0) then x else y) (fun t=>if t=s then (BIG,0) else if t=a then (BIG+1,0) else if t=x then (BIG+2,0) else (BIG+3,0))
  (by simp [mcM];grind) (by simp [mcM];grind) (by simp;grind) (by simp) (by simp [mcM,mcBox])
 simpa [mcM,mcBox,rnM,Blk.rnF,AV.rnFL,AV.rnF,hl] using g
attribute [local simp] mcM mcBox
theorem b269' (m:Mc) (e:Int):BestF Tryz.prog 269 (mcM (BIG,0) (BIG+1,0) (BIG+2,0) (BIG+3,0) m) [.ptr (BIG,0) 25 0 0,.p (.int .i64 e)] [(BIG,0),(BIG+1,0),(BIG+2,0),(BIG+3,0)] (.p (.tup [])) (mcM (BIG,0) (BIG+1,0) (BIG+2,0) (BIG+3,0) { m with failed:=if m.failed=0 then e else m.failed }):=by
 refine bestF mixed fn269 ok269 (by simp) (by simp) ?_
 by_cases h:m.failed=0<;>simp -dsimp [ac269,h,retF]
end
section
set_option maxHeartbeats 2000000
attribute [local simp] mcM mcBox
theorem b269 (m:Mc) (e:Int) (s a x y:Slot) (h1:s≠a) (h2:s≠x) (h3:s≠y) (h4:a≠x) (h5:a≠y) (h6:x≠y):BestF Tryz.prog 269 (mcM s a x y m) [.ptr s 25 0 0,.p (.int .i64 e)] [s,a,x,y] (.p (.tup [])) (mcM s a x y { m with failed:=if m.failed=0 then e else m.failed }):=
 mcRen (b269' m e) s a x y h1 h2 h3 h4 h5 h6 (fun _=>rfl)
theorem b253' (m:Mc) (t:Nat) (ht:t≤10):∃ y:Int×Int,(y.2=0→m.failed=0∧t≤m.st.length)∧BestF Tryz.prog 253 (mcM (BIG,0) (BIG+1,0) (BIG+2,0) (BIG+3,0) m) [.ptr (BIG,0) 25 0 0,.p (.int .i64 t)] [(BIG,0),(BIG+1,0),(BIG+2,0),(BIG+3,0)] (.p (.tup [])) (mcM (BIG,0) (BIG+1,0) (BIG+2,0) (BIG+3,0) { m with steps:=y.1,failed:=y.2 }):=by
 refine bestEF mixed fn253 ok253 (by simp) (by simp) ?_
 have f1:∀ n:Int,n≠0→(if m.failed=0 then n else m.failed)≠0:=fun n hn=>by split<;>omega
 by_cases c1:600≤m.steps
 ·simp -dsimp [ac253,xc253b,c1]
  refine call_m (b269' m 24) (by simp) (by simp) (by simp) ?_
  have g1:=f1 24 (by decide)
  generalize (if m.failed=0 then 24 else m.failed)=f at *
  by_cases c2:(m.st.length:Int)<t
  ·simp -dsimp [c2]
   refine call_m (b269' { m with steps:=IntKind.i64.wrap (m.steps+1),failed:=f } 21) (by simp) (by simp) (by simp) ?_
   simp -dsimp [retEF,g1]
   exact ⟨IntKind.i64.wrap (m.steps+1),f,by simp,fun e=>absurd e g1⟩
  ·simp -dsimp [c2,retEF]
   exact ⟨IntKind.i64.wrap (m.steps+1),f,by simp,fun e=>absurd e g1⟩
 ·by_cases c2:(m.st.length:Int)<t
  ·simp -dsimp [ac253,xc253b,c1,c2]
   refine call_m (b269' { m with steps:=IntKind.i64.wrap (m.steps+1) } 21) (by simp) (by simp) (by simp) ?_
   have g1:=f1 21 (by decide)
   simp -dsimp [retEF]
   exact ⟨IntKind.i64.wrap (m.steps+1),_,⟨rfl,rfl⟩,fun e=>absurd e g1⟩
  ·simp -dsimp [ac253,xc253b,c1,c2,retEF]
   exact ⟨IntKind.i64.wrap (m.steps+1),m.failed,⟨rfl,rfl⟩,fun e=>⟨e,by omega⟩⟩
theorem b253 (m:Mc) (t:Nat) (ht:t≤10) (s a x y:Slot) (h1:s≠a) (h2:s≠x) (h3:s≠y) (h4:a≠x) (h5:a≠y) (h6:x≠y):∃ st f:Int,(f=0→m.failed=0∧t≤m.st.length)∧BestF Tryz.prog 253 (mcM s a x y m) [.ptr s 25 0 0,.p (.int .i64 t)] [s,a,x,y] (.p (.tup [])) (mcM s a x y { m with steps:=st,failed:=f }):=by
 obtain ⟨⟨u,f⟩,g1,g2⟩:=b253' m t ht
 exact ⟨u,f,g1,mcRen g2 s a x y h1 h2 h3 h4 h5 h6 (fun _=>rfl)⟩
end
section
set_option maxHeartbeats 2000000
attribute [local simp] mcM mcBox
theorem oneM (z:List (Int×Int)):((z.map mvRow).all fun r=>r.all PV.one)=true:=by
 rw [List.all_eq_true];intro r hr;obtain ⟨x,_,rfl⟩:=List.mem_map.1 hr;rfl
attribute [local simp ↓] oneM
theorem b268' (m:Mc) (h1:m.st.length≤100000) (h2:m.x.length≤100000) (h3:m.y.length≤100000):BestF Tryz.prog 268 (mcM (BIG,0) (BIG+1,0) (BIG+2,0) (BIG+3,0) m) [.ptr (BIG,0) 25 0 0] [(BIG,0),(BIG+1,0),(BIG+2,0),(BIG+3,0)] (.ptr (999970,0) 25 0 0) (mcM (BIG,0) (BIG+1,0) (BIG+2,0) (BIG+3,0) m++mcM (999970,0) (999971,0) (999972,0) (999973,0) m):=by
 refine bestF mixed fn268 ok268 (by simp) (by simp) ?_
 have t1:List.take m.st.length (m.st.map mvRow)=m.st.map mvRow:=List.take_of_length_le (by simp)
 have t2:List.take m.x.length (m.x.map mvRow)=m.x.map mvRow:=List.take_of_length_le (by simp)
 have t3:List.take m.y.length (m.y.map mvRow)=m.y.map mvRow:=List.take_of_length_le (by simp)
 have m1:m.st.length≤maxLen:=by unfold maxLen;omega
 have m2:m.x.length≤maxLen:=by unfold maxLen;omega
 have m3:m.y.length≤maxLen:=by unfold maxLen;omega
 have k1:m.st.length*16≤140737488355328:=by omega
 have k2:m.x.length*16≤140737488355328:=by omega
 have k3:m.y.length*16≤140737488355328:=by omega
 simp -dsimp [ac268,t1,t2,t3,m1,m2,m3,k1,k2,k3,List.range,List.range.loop,retF,-List.all_eq_true]
end
section
set_option maxHeartbeats 4000000
attribute [local simp] mcM mcBox
attribute [local simp ↓] oneM
theorem b272' (m:Mc) (a b:Int×Int) (h0:0≤a.1) (h1:a.1≤a.2) (h2:a.2<m.y.length) (hb:SO b) (hy:∀ z∈m.y,SO z) (hl:m.y.length≤100000):∃ y:List (Int×Int)×Int,(y.1.length=m.y.length∧∀ z∈y.1,SO z) ∧
  BestF Tryz.prog 272 (mcM (BIG,0) (BIG+1,0) (BIG+2,0) (BIG+3,0) m) [.ptr (BIG,0) 25 0 0,.p (.agg [.int .i64 a.1,.int .i64 a.2]),.p (.agg [.int .i64 b.1,.int .i64 b.2])] [(BIG,0),(BIG+1,0),(BIG+2,0),(BIG+3,0)] (.p (.tup [])) (mcM (BIG,0) (BIG+1,0) (BIG+2,0) (BIG+3,0) { m with y:=y.1,failed:=y.2 }):=by
 refine bestEF mixed fn272 ok272 (by simp) (by simp) ?_
 obtain ⟨a1,a2⟩:=a
 obtain ⟨b1,b2⟩:=b
 obtain ⟨hb1,hb2,hb3⟩:=hb
 dsimp only at *
 simp -dsimp [ac272]
 refine loopE (a2 - a1+1).toNat (fun k (z:List (Int×Int))=>⟨[(0,.ptr (1000000,0) 25 0 0),(4,.ptr (4,0) 2 0 0),(5,.ptr (5,0) 2 0 0),(6,.p (.int .i64 (a1+k)))],((4,0),.box [.p (.int .i64 a1),.p (.int .i64 a2)]) :: ((5,0),.box [.p (.int .i64 b1),.p (.int .i64 b2)]) :: [((1000000,0),mcBox (1000001,0) (1000002,0) (1000003,0) { m with y:=z }),((1000001,0),.sl 26 2 (m.st.map mvRow)),((1000002,0),.sl 26 2 (m.x.map mvRow)),((1000003,0),.sl 26 2 (z.map mvRow))]⟩) (fun k z=>z.length=m.y.length∧∀ u∈z,SO u) m.y (fun k z hk hQ=>?_) ⟨rfl,hy⟩ (by simp)
 obtain ⟨hz,hs⟩:=hQ
 by_cases h:a1+k≤a2
 ·obtain ⟨q,eq⟩:∃ q:Nat,a1+k=q:=⟨(a1+k).toNat,by omega⟩
  have hq:q<z.length:=by omega
  obtain ⟨⟨u1,u2⟩,eu⟩:∃ u,z[q]=u:=⟨_,rfl⟩
  obtain ⟨hu1,hu2,hu3⟩:=hs (u1,u2) (by rw [←eu];simp)
  dsimp only at hu1 hu2 hu3
  have w1:R (u1+b1):=⟨by omega,by omega⟩
  have w2:R (u2+b2):=⟨by omega,by omega⟩
  have w3:R ((q:Int)+1):=⟨by omega,by omega⟩
  have h':(q:Int)≤a2:=by omega
  have hqz:q<m.y.length:=by omega
  rw [eq]
  simp -dsimp [h',hqz,hq,eu,mvRow,wr w1,wr w2,↓ awpC_of xc272b]
  have r1:=b248 (u1+b1) (u2+b2)
  refine call_p r1 (by simp) (by simp) ?_
  by_cases hsm:smallB (u1+b1)=true∧smallB (u2+b2)=true
  ·obtain ⟨s1,s2⟩:=hsm
   simp -dsimp [s1,s2,↓ awpC_of xc272b]
   unfold smallB at s1 s2
   rw [←Bool.decide_and,decide_eq_true_eq] at s1 s2
   refine awpC_in (seqG1 (α:=Int×Int) (fun w=>⟨[(0,.ptr (1000000,0) 25 0 0),(4,.ptr (4,0) 2 0 0),(5,.ptr (5,0) 2 0 0),(6,.p (.int .i64 q)),(7,.ptr (7,0) 2 0 0)],((4,0),.box [.p (.int .i64 a1),.p (.int .i64 a2)]) :: ((5,0),.box [.p (.int .i64 b1),.p (.int .i64 b2)]) :: ((7,0),.box [.p (.int .i64 w.1),.p (.int .i64 w.2)]) :: [((1000000,0),mcBox (1000001,0) (1000002,0) (1000003,0) { m with y:=z }),((1000001,0),.sl 26 2 (m.st.map mvRow)),((1000002,0),.sl 26 2 (m.x.map mvRow)),((1000003,0),.sl 26 2 (z.map mvRow))]⟩) SO ?_ ?_)
   ·by_cases hlt:a1<a2
    ·simp -dsimp [hlt,hq,eu,mvRow]
     refine call_p (b274 (u1+b1) (u2+b2) u1 u2) (by simp) (by simp) ?_
     simp -dsimp
     exact ⟨by dsimp only;omega,by dsimp only;omega,by dsimp only;omega⟩
    ·simp -dsimp [hlt]
     exact ⟨by dsimp only;omega,by dsimp only;omega,by dsimp only;omega⟩
   ·rintro ⟨w1',w2'⟩ hw
    simp -dsimp [xc272c,hq,wr w3]
    refine ⟨by omega,z.set q (w1',w2'),⟨by simpa using hz,fun c d hcd=>?_⟩,by omega,by simp,?_⟩
    ·rcases List.mem_or_eq_of_mem_set hcd with g | g
     ·exact hs _ g
     ·rw [g];exact hw
    ·rw [List.map_set];simp [mvRow]
  ·have hsm':(smallB (u1+b1) && smallB (u2+b2))=false:=by simpa using hsm
   simp -dsimp [hsm',↓ awpC_of xc272b]
   refine call_m (b269' { m with y:=z } 26) (by simp) (by simp) (by simp) ?_
   simp -dsimp [retEF]
   exact ⟨z,⟨rfl,rfl⟩,hz,fun a b h=>hs _ h⟩
 ·have h':¬(a1+k≤a2):=h
  simp -dsimp [h',retEF]
  exact ⟨z,⟨rfl,rfl⟩,hz,fun a b h=>hs _ h⟩
theorem b272 (m:Mc) (a b:Int×Int) (h0:0≤a.1) (h1:a.1≤a.2) (h2:a.2<m.y.length) (hb:SO b) (hy:∀ z∈m.y,SO z) (hl:m.y.length≤100000) (s t x y:Slot) (g1:s≠t) (g2:s≠x) (g3:s≠y) (g4:t≠x) (g5:t≠y) (g6:x≠y):∃ (u:List (Int×Int)) (f:Int),(u.length=m.y.length∧∀ z∈u,SO z) ∧
  BestF Tryz.prog 272 (mcM s t x y m) [.ptr s 25 0 0,.p (.agg [.int .i64 a.1,.int .i64 a.2]),.p (.agg [.int .i64 b.1,.int .i64 b.2])] [s,t,x,y] (.p (.tup [])) (mcM s t x y { m with y:=u,failed:=f }):=by
 obtain ⟨⟨u,f⟩,k1,k2⟩:=b272' m a b h0 h1 h2 hb hy hl
 exact ⟨u,f,k1,mcRen k2 s t x y g1 g2 g3 g4 g5 g6 (fun _=>rfl)⟩
end
end Go.Abs.A30
