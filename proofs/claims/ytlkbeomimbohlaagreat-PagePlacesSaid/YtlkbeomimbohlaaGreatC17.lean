/- A part of the proof: an abstract reading of the model, contracts of functions. -/
import Derived.Test.YtlkbeomimbohlaaGreatC16
set_option linter.unusedVariables false
set_option linter.unusedSimpArgs false
namespace Go.Abs.A30
open Go Go.Abs Go.Proofs
set_option maxRecDepth 100000
set_option maxHeartbeats 4000000
set_option linter.unusedVariables false
def ac229:AC:=by
 apply fun (y:AC) (_:@Eq AC (anF Tryz.prog 229 mu1 [] 0 0 []) y)=>y
 conv=>lhs;reduce;dsimp
theorem fn229:factOf Tryz.prog 229=some (ac229.strip,[.tmp 2],67):=by kernel_rfl
theorem ok229:ac229.okAll=true:=by kernel_rfl
def ac230:AC:=by
 apply fun (y:AC) (_:@Eq AC (anF Tryz.prog 230 mu1 [] 0 0 []) y)=>y
 conv=>lhs;reduce;dsimp
theorem fn230:factOf Tryz.prog 230=some (ac230.strip,[.tmp 2],153):=by kernel_rfl
theorem ok230:ac230.okAll=true:=by kernel_rfl
def ac231:AC:=by
 apply fun (y:AC) (_:@Eq AC (anF Tryz.prog 231 mu1 [] 0 0 []) y)=>y
 conv=>lhs;reduce;dsimp
theorem fn231:factOf Tryz.prog 231=some (ac231.strip,[.tmp 2],33):=by kernel_rfl
theorem ok231:ac231.okAll=true:=by kernel_rfl
def ac197:AC:=by
 apply fun (y:AC) (_:@Eq AC (anF Tryz.prog 197 mu1 [] 0 0 []) y)=>y
 conv=>lhs;reduce;dsimp
theorem fn197:factOf Tryz.prog 197=some (ac197.strip,[.tmp 2],66):=by kernel_rfl
theorem ok197:ac197.okAll=true:=by kernel_rfl
def ac162:AC:=by
 apply fun (y:AC) (_:@Eq AC (anF Tryz.prog 162 mu1 [] 0 0 []) y)=>y
 conv=>lhs;reduce;dsimp
theorem fn162:factOf Tryz.prog 162=some (ac162.strip,[.tmp 2],35):=by kernel_rfl
theorem ok162:ac162.okAll=true:=by kernel_rfl
def ac122:AC:=by
 apply fun (y:AC) (_:@Eq AC (anF Tryz.prog 122 mu1 [] 0 0 []) y)=>y
 conv=>lhs;reduce;dsimp
theorem fn122:factOf Tryz.prog 122=some (ac122.strip,[.tmp 2],6):=by kernel_rfl
theorem ok122:ac122.okAll=true:=by kernel_rfl
def ac70:AC:=by
 apply fun (y:AC) (_:@Eq AC (anF Tryz.prog 70 mu1 [] 0 0 []) y)=>y
 conv=>lhs;reduce;dsimp
theorem fn70:factOf Tryz.prog 70=some (ac70.strip,[.cell 2 true 11],8):=by kernel_rfl
theorem ok70:ac70.okAll=true:=by kernel_rfl
def xc198c:AC:=by
 apply fun (y:AC) (_:@Eq AC (anS 7 [] [] (anF Tryz.prog 198 mu1 [] 0 0 [])) y)=>y
 conv=>lhs;reduce;dsimp
def xc198b:AC:=(fun (z0:AC)=>by
 apply fun (y:AC) (_:@Eq AC (anS 4 [⟨7,[],[],some z0⟩] [] (anF Tryz.prog 198 mu1 [] 0 0 [])) y)=>y
 conv=>lhs;reduce;dsimp) xc198c
def ac198:AC:=(fun (z0:AC)=>by
 apply fun (y:AC) (_:@Eq AC (anD [⟨4,[],[],some z0⟩] (anF Tryz.prog 198 mu1 [] 0 0 [])) y)=>y
 conv=>lhs;reduce;dsimp) xc198b
theorem fn198:factOf Tryz.prog 198=some (ac198.strip,[.tmp 4,.tmp 5],103):=by kernel_rfl
theorem ok198:ac198.okAll=true:=by kernel_rfl
end Go.Abs.A30
namespace Go.Abs.A30
open Go Go.Abs Go.Proofs
set_option maxRecDepth 100000
set_option linter.unusedVariables false
set_option linter.unusedSimpArgs false
attribute [local simp ↓] awp_skip awp_seq awp_cond awp_block awp_exit awp_ret awp_reg awp_draw awp_ghost awp_loop awp_rfun awpR_nil awpR_cons awpX_nil awpX_0 awpX_1 awpX_2 awpI_eq awpI_t awpI_f awpStep_eq
attribute [local simp] condL_true condL_false condL_dec evDel evV evN evS evA initFr Ghost.app Fr.var Fr.blk Fr.ff FF.val Abs.look Fr.app Fr.erase Fr.noSlot AV.noSlot AV.noSlotL Blk.noSlot Fr.spoken AV.fz AV.fzL Blk.fz binV binI shI binS unV fillA FF.parts FF.vals headO intO boundO lenV scalarEq leavesEq AV.aggc AV.cells FF.read FF.rows AV.one PV.one chunk freshB newS pickV retK evRs evRl evR resOf mkTup mkAgg allP cloOf okP_nil okX_p okX okP addN Del.noSlot Del.owners Rnd reify_p normM insM Fr.back Fr.backV Fr.setPs normV insV
attribute [local simp] renF Fr.trim Blk.trim AV.rn AV.rnL Blk.rn AV.among AV.amongL Blk.among okF retM fixS BIG initFF
attribute [local simp] FF.reify FF.reifyL PV.flat
section
attribute [local simp ↓] awp_scope awp_label
set_option maxHeartbeats 400000
attribute [local simp] evC
attribute [local simp ↓] oneI oneS oneSS
theorem b259 (x y:Int) (b:Bool):Best Tryz.prog 259 [.agg [.int .i64 x,.int .i64 y,.bool b]] (.p (.int .i64 (if b then 1 else 0))):=by
 refine best mixed fn259 ok259 (by simp) ?_
 cases b<;>simp -dsimp [ac259]
theorem b231 (r a:Int) (m:List (Int×Int)) (hm:m.length≤1002001):∃ s:ByteArray,s.size≤100000000∧Best Tryz.prog 231 [.agg [.int .i64 r,.int .i64 a,.sl 2 (m.map mvRow)]] (.p (.str s)):=by
 obtain ⟨v,⟨s,rfl,hs⟩,hb⟩:=bestE (Q:=fun v=>∃ s:ByteArray,v=.str s∧s.size≤100000000) mixed fn231 ok231 (args:=[.agg [.int .i64 r,.int .i64 a,.sl 2 (m.map mvRow)]]) (by simp) (by
  simp -dsimp [ac231]
  refine loopE m.length (fun k (z:Nat×List Int)=>⟨[(1,.ptr (1,0) 3 0 0),(3,.ref (26,z.1) 1 0 z.2.length),(4,.p (.int .i64 k))],[((1,0),.box [.p (.int .i64 r),.p (.int .i64 a),.p (.sl 2 (m.map mvRow))]),((26,z.1),.sl 3 1 (z.2.map intRow))]⟩) (fun k z=>z.2.length=2*k) (0,[]) (fun k z hk hz=>?_) rfl (by simp)
  obtain ⟨c,z⟩:=z
  dsimp only at hz
  by_cases h:k<m.length
  ·obtain ⟨⟨x,y⟩,ex⟩:∃ x,m[k]=x:=⟨_,rfl⟩
   have wk:R ((k:Int)+1):=⟨by omega,by omega⟩
   have m1:z.length+2≤maxLen:=by unfold maxLen;omega
   have m2:(z.length+2)*8≤140737488355328:=by omega
   simp -dsimp [h,ex,mvRow,wr wk,m1,m2,List.range,List.range.loop]
   exact ⟨c+1,z++[x,y],by simp;omega,⟨rfl,by simp⟩,rfl,by simp [intRow]⟩
  ·have:k=m.length:=by omega
   subst this
   obtain ⟨s1,h1,q1⟩:=b232 a
   obtain ⟨s2,h2,q2⟩:=b258 z (by omega)
   have ht:List.take z.length (z.map intRow)=z.map intRow:=List.take_of_length_le (by simp)
   have l1:s1.size+s2.size≤9223372036854775807:=by omega
   simp -dsimp [h]
   refine call_p q1 (by simp) (by simp) ?_
   simp -dsimp
   refine call_f q2 (by simp [ht]) (by simp) (by simp) ?_
   simp -dsimp [l1,retE]
   omega)
 exact ⟨s,hs,hb⟩
def glB (x:Gl):Blk:=.box [.p (.sl 1 (x.con.map conRow)),.p (.sl 3 (x.an.map i3Row)),.p (.int .i64 x.h1),.p (.int .i64 x.h2),.p (.int .i64 x.h3),.p (.int .i64 x.w),.p (.sl 3 (x.del.map dlRow)),.p (.sl 2 (x.prog.map mvRow))]
attribute [local simp] glB
set_option maxHeartbeats 4000000 in
theorem b230 (x:Gl) (hx:x.ok):∃ s:ByteArray,s.size≤100000000∧Best Tryz.prog 230 [.agg (glRow x)] (.p (.str s)):=by
 obtain ⟨c3,c5,a3,d2,dm,p60⟩:=hx
 obtain ⟨s0,hs0,q0⟩:=b232 (x.con.length:Int)
 obtain ⟨v,⟨s,rfl,hs⟩,hb⟩:=bestE (Q:=fun v=>∃ s:ByteArray,v=.str s∧s.size≤100000000) mixed fn230 ok230 (args:=[.agg (glRow x)]) (by simp) (by
  simp -dsimp [ac230,glRow]
  refine call_p q0 (by simp) (by simp) ?_
  simp -dsimp
  refine loopE x.con.length (fun k (z:ByteArray)=>⟨[(1,.ptr (1,0) 8 0 0),(3,.p (.str z)),(4,.p (.int .i64 k))],[((1,0),glB x)]⟩) (fun k z=>z.size≤11+1000*k) s0 (fun k z hk hz=>?_) hs0 (by simp)
  by_cases h:k<x.con.length
  ·obtain ⟨y,ey⟩:∃ y,x.con[k]=y:=⟨_,rfl⟩
   have hy:=c5 y (by rw [←ey];simp)
   have wk:R ((k:Int)+1):=⟨by omega,by omega⟩
   simp -dsimp [h]
   refine loopE y.length (fun j (u:Nat×List Int)=>⟨[(1,.ptr (1,0) 8 0 0),(3,.p (.str z)),(4,.p (.int .i64 k)),(5,.ref (52,u.1) 1 0 u.2.length),(6,.p (.int .i64 j))],[((1,0),glB x),((52,u.1),.sl 3 1 (u.2.map intRow))]⟩) (fun j u=>u.2.length=3*j) (0,[]) (fun j u hj hu=>?_) rfl (by simp)
   obtain ⟨c,u⟩:=u
   dsimp only at hu
   by_cases hjl:j<y.length
   ·obtain ⟨⟨p1,p2,p3⟩,ep⟩:∃ p,y[j]=p:=⟨_,rfl⟩
    have wj:R ((j:Int)+1):=⟨by omega,by omega⟩
    have m1:u.length+3≤maxLen:=by unfold maxLen;omega
    have m2:(u.length+3)*8≤140737488355328:=by omega
    simp -dsimp [h,ey,conRow,hjl,ep,List.range,List.range.loop]
    refine call_p (b259 p1 p2 p3) (by simp) (by simp) ?_
    simp -dsimp [wr wj,m1,m2,List.range,List.range.loop]
    exact ⟨hjl,c+1,u++[p1,p2,if p3 then 1 else 0],by simp;omega,⟨rfl,by simp⟩,rfl,by simp [intRow]⟩
   ·have:j=y.length:=by omega
    subst this
    obtain ⟨s2,h2,q2⟩:=b258 u (by omega)
    have ht:List.take u.length (u.map intRow)=u.map intRow:=List.take_of_length_le (by simp)
    have l1:z.size+s2.size≤9223372036854775807:=by omega
    have l2:(z++s2).size≤11+1000*(k+1):=by rw [catS];omega
    obtain ⟨o2,eo2⟩:∃ o,z++s2=o:=⟨_,rfl⟩
    rw [eo2] at l2
    simp -dsimp [h,ey,conRow]
    refine call_f q2 (by simp [ht]) (by simp) (by simp) ?_
    simp -dsimp [l1,eo2,wr wk,h]
    exact l2
  ·have:k=x.con.length:=by omega
   subst this
   simp -dsimp [h]
   refine loopE x.an.length (fun j (u:Nat×List Int)=>⟨[(1,.ptr (1,0) 8 0 0),(3,.p (.str z)),(8,.ref (84,u.1) 1 0 u.2.length),(9,.p (.int .i64 j))],[((1,0),glB x),((84,u.1),.sl 3 1 (u.2.map intRow))]⟩) (fun j u=>u.2.length=3*j) (0,[]) (fun j u hj hu=>?_) rfl (by simp)
   obtain ⟨ca,u⟩:=u
   dsimp only at hu
   by_cases hja:j<x.an.length
   ·obtain ⟨⟨p1,p2,p3⟩,ep⟩:∃ p,x.an[j]=p:=⟨_,rfl⟩
    have wj:R ((j:Int)+1):=⟨by omega,by omega⟩
    have m1:u.length+3≤maxLen:=by unfold maxLen;omega
    have m2:(u.length+3)*8≤140737488355328:=by omega
    simp -dsimp [hja,ep,i3Row,wr wj,m1,m2,List.range,List.range.loop]
    exact ⟨ca+1,u++[p1,p2,p3],by simp;omega,⟨rfl,by simp⟩,rfl,by simp [intRow]⟩
   ·have:j=x.an.length:=by omega
    subst this
    simp -dsimp [hja]
    refine loopE x.prog.length (fun j (w:Nat×List Int)=>⟨[(1,.ptr (1,0) 8 0 0),(3,.p (.str z)),(8,.ref (84,ca) 1 0 u.length),(10,.ref (106,w.1) 1 0 w.2.length),(11,.p (.int .i64 j))],[((1,0),glB x),((84,ca),.sl 3 1 (u.map intRow)),((106,w.1),.sl 3 1 (w.2.map intRow))]⟩) (fun j w=>w.2.length=2*j) (0,[]) (fun j w hj hw=>?_) rfl (by simp)
    obtain ⟨cp,w⟩:=w
    dsimp only at hw
    by_cases hjp:j<x.prog.length
    ·obtain ⟨⟨p1,p2⟩,ep⟩:∃ p,x.prog[j]=p:=⟨_,rfl⟩
     have wj:R ((j:Int)+1):=⟨by omega,by omega⟩
     have m1:w.length+2≤maxLen:=by unfold maxLen;omega
     have m2:(w.length+2)*8≤140737488355328:=by omega
     simp -dsimp [hjp,ep,mvRow,wr wj,m1,m2,List.range,List.range.loop]
     exact ⟨cp+1,w++[p1,p2],by simp;omega,⟨rfl,by simp⟩,rfl,by simp [intRow]⟩
    ·have:j=x.prog.length:=by omega
     subst this
     simp -dsimp [hjp]
     refine loopE x.del.length (fun j (t:Nat×List Int)=>⟨[(1,.ptr (1,0) 8 0 0),(3,.p (.str z)),(8,.ref (84,ca) 1 0 u.length),(10,.ref (106,cp) 1 0 w.length),(12,.ref (122,t.1) 1 0 t.2.length),(13,.p (.int .i64 j))],[((1,0),glB x),((84,ca),.sl 3 1 (u.map intRow)),((106,cp),.sl 3 1 (w.map intRow)),((122,t.1),.sl 3 1 (t.2.map intRow))]⟩) (fun j t=>t.2.length=j) (0,[]) (fun j t hj ht=>?_) rfl (by simp)
     obtain ⟨cd,t⟩:=t
     dsimp only at ht
     by_cases hjd:j<x.del.length
     ·obtain ⟨⟨p1,p2,p3⟩,ep⟩:∃ p,x.del[j]=p:=⟨_,rfl⟩
      have wj:R ((j:Int)+1):=⟨by omega,by omega⟩
      have m1:t.length+1≤maxLen:=by unfold maxLen;omega
      have m2:(t.length+1)*8≤140737488355328:=by omega
      simp -dsimp [hjd,ep,dlRow,wr wj,m1,m2,List.range,List.range.loop]
      exact ⟨cd+1,t++[p1],by simp;omega,⟨rfl,by simp⟩,rfl,by simp [intRow]⟩
     ·have:j=x.del.length:=by omega
      subst this
      obtain ⟨s1,h1,q1⟩:=b232 x.h1
      obtain ⟨s2,h2,q2⟩:=b232 x.h2
      obtain ⟨s3,h3,q3⟩:=b232 x.h3
      obtain ⟨s4,h4,q4⟩:=b258 u (by omega)
      obtain ⟨s5,h5,q5⟩:=b232 x.w
      obtain ⟨s6,h6,q6⟩:=b258 w (by omega)
      obtain ⟨s7,h7,q7⟩:=b258 t (by omega)
      have hu':List.take u.length (u.map intRow)=u.map intRow:=List.take_of_length_le (by simp)
      have hw':List.take w.length (w.map intRow)=w.map intRow:=List.take_of_length_le (by simp)
      have ht':List.take t.length (t.map intRow)=t.map intRow:=List.take_of_length_le (by simp)
      have l1:s1.size+s2.size≤9223372036854775807:=by omega
      have l2:s1.size+s2.size+s3.size≤9223372036854775807:=by omega
      have g1:z.size+s4.size≤9223372036854775807:=by omega
      have g2:z.size+s4.size+(s1.size+s2.size+s3.size)≤9223372036854775807:=by omega
      have g3:z.size+s4.size+(s1.size+s2.size+s3.size)+s5.size≤9223372036854775807:=by omega
      have g4:z.size+s4.size+(s1.size+s2.size+s3.size)+s5.size+s6.size≤9223372036854775807:=by omega
      have g5:z.size+s4.size+(s1.size+s2.size+s3.size)+s5.size+s6.size+s7.size≤9223372036854775807:=by omega
      simp -dsimp [hjd]
      refine call_p q1 (by simp) (by simp) ?_
      simp -dsimp
      refine call_p q2 (by simp) (by simp) ?_
      simp -dsimp [l1]
      refine call_p q3 (by simp) (by simp) ?_
      simp -dsimp [l1,l2]
      refine call_f q4 (by simp [hu']) (by simp) (by simp) ?_
      simp -dsimp [g1,g2]
      refine call_p q5 (by simp) (by simp) ?_
      simp -dsimp [g1,g2,g3]
      refine call_f q6 (by simp [hw']) (by simp) (by simp) ?_
      simp -dsimp [g1,g2,g3,g4]
      refine call_f q7 (by simp [ht']) (by simp) (by simp) ?_
      simp -dsimp [g1,g2,g3,g4,g5,retE]
      omega)
 exact ⟨s,hs,hb⟩
end
section
attribute [local simp ↓] awp_scope awp_label
set_option maxHeartbeats 1000000
attribute [local simp] evC
attribute [local simp ↓] oneI oneS oneSS
def fntRow (c:Cor) (ls:List (List Ru)) (gs:List Gl):List PV:=[.str c.nm,.int .i64 c.ver,.sl 5 (c.ax.map axRow),.sl 1 (c.rg.map regRow),.int .i64 c.gl,.sl 4 (c.ch.map chRow),.sl 3 (c.pr.map i3Row),.sl 2 (c.hd.map hdRow),.str c.rt,.sl 1 (ls.map lkRow),.sl 8 (gs.map glRow)]
def ftB (c:Cor) (ls:List (List Ru)) (gs:List Gl):Blk:=.box [.p (.str c.nm),.p (.int .i64 c.ver),.p (.sl 5 (c.ax.map axRow)),.p (.sl 1 (c.rg.map regRow)),.p (.int .i64 c.gl),.p (.sl 4 (c.ch.map chRow)),.p (.sl 3 (c.pr.map i3Row)),.p (.sl 2 (c.hd.map hdRow)),.p (.str c.rt),.p (.sl 1 (ls.map lkRow)),.p (.sl 8 (gs.map glRow))]
attribute [local simp] ftB
theorem oneK (l:List (Int×Int×Int)):((l.map i3Row).all fun r=>r.all PV.one)=true:=by
 rw [List.all_eq_true];intro r hr;obtain ⟨u,_,rfl⟩:=List.mem_map.1 hr;rfl
attribute [local simp ↓] oneK
theorem b229 (l:List Ru) (hl:l.length≤4) (hr:∀ r∈l,r.fine):∃ s:ByteArray,s.size≤100000000∧Best Tryz.prog 229 [.agg (lkRow l)] (.p (.str s)):=by
 obtain ⟨s0,hs0,q0⟩:=b232 (l.length:Int)
 obtain ⟨v,⟨s,rfl,hs⟩,hb⟩:=bestE (Q:=fun v=>∃ s:ByteArray,v=.str s∧s.size≤100000000) mixed fn229 ok229 (args:=[.agg (lkRow l)]) (by simp) (by
  simp -dsimp [ac229,lkRow]
  refine call_p q0 (by simp) (by simp) ?_
  simp -dsimp
  refine loopE l.length (fun k (z:ByteArray)=>⟨[(1,.ptr (1,0) 1 0 0),(3,.p (.str z)),(4,.p (.int .i64 k))],[((1,0),.box [.p (.sl 5 (l.map ruRow))])]⟩) (fun k z=>z.size≤11+1000000*k) s0 (fun k z hk hz=>?_) hs0 (by simp)
  by_cases h:k<l.length
  ·obtain ⟨⟨bk,inp,ah,out,cl⟩,ex⟩:∃ x,l[k]=x:=⟨_,rfl⟩
   obtain ⟨⟨f1,f2⟩,⟨f3,f4⟩,⟨f5,f6⟩,f7,f8⟩:=hr _ (show (⟨bk,inp,ah,out,cl⟩:Ru)∈l by rw [←ex];simp)
   dsimp only at f1 f2 f3 f4 f5 f6 f7 f8
   have wk:R ((k:Int)+1):=⟨by omega,by omega⟩
   simp -dsimp [h,ex,ruRow]
   refine loopE cl.length (fun j (u:Nat×List Int)=>⟨[(1,.ptr (1,0) 1 0 0),(3,.p (.str z)),(4,.p (.int .i64 k)),(5,.ptr (5,0) 5 0 0),(6,.ref (45,u.1) 1 0 u.2.length),(7,.p (.int .i64 j))],[((1,0),.box [.p (.sl 5 (l.map ruRow))]),((5,0),.box [.p (.sl 1 (bk.map llRow)),.p (.sl 1 (inp.map llRow)),.p (.sl 1 (ah.map llRow)),.p (.sl 1 (out.map intRow)),.p (.sl 2 (cl.map fun c=>[.int .i64 c.1,.int .i64 c.2]))]),((45,u.1),.sl 3 1 (u.2.map intRow))]⟩) (fun j u=>u.2.length=2*j) (0,[]) (fun j u hj hu=>?_) rfl (by simp [ruRow])
   obtain ⟨c,u⟩:=u
   dsimp only at hu
   by_cases hjl:j<cl.length
   ·obtain ⟨⟨p1,p2⟩,ep⟩:∃ p,cl[j]=p:=⟨_,rfl⟩
    have wj:R ((j:Int)+1):=⟨by omega,by omega⟩
    have m1:u.length+2≤maxLen:=by unfold maxLen;omega
    have m2:(u.length+2)*8≤140737488355328:=by omega
    simp -dsimp [hjl,ep,wr wj,m1,m2,List.range,List.range.loop]
    exact ⟨c+1,u++[p1,p2],by simp;omega,⟨rfl,by simp⟩,rfl,by simp [intRow]⟩
   ·have:j=cl.length:=by omega
    subst this
    obtain ⟨s1,h1,q1⟩:=b257 bk (by omega) (fun x hx=>by have:=f2 x hx;omega)
    obtain ⟨s2,h2,q2⟩:=b257 inp (by omega) (fun x hx=>by have:=f4 x hx;omega)
    obtain ⟨s3,h3,q3⟩:=b257 ah (by omega) (fun x hx=>by have:=f6 x hx;omega)
    obtain ⟨s4,h4,q4⟩:=b258 out (by omega)
    obtain ⟨s5,h5,q5⟩:=b258 u (by omega)
    have ht:List.take u.length (u.map intRow)=u.map intRow:=List.take_of_length_le (by simp)
    have g1:z.size+s1.size≤9223372036854775807:=by omega
    have g2:z.size+s1.size+s2.size≤9223372036854775807:=by omega
    have g3:z.size+s1.size+s2.size+s3.size≤9223372036854775807:=by omega
    have g4:z.size+s1.size+s2.size+s3.size+s4.size≤9223372036854775807:=by omega
    have g5:z.size+s1.size+s2.size+s3.size+s4.size+s5.size≤9223372036854775807:=by omega
    have l0:(z++s1++s2++s3++s4++s5).size=z.size+s1.size+s2.size+s3.size+s4.size+s5.size:=by rw [catS,catS,catS,catS,catS]
    have b1:s1.size≤80000:=by omega
    have b2:s2.size≤80000:=by omega
    have b3:s3.size≤80000:=by omega
    have b4:s4.size≤44:=by omega
    have b5:s5.size≤77:=by omega
    have l2:(z++s1++s2++s3++s4++s5).size≤11+1000000*(k+1):=by
     omega
    obtain ⟨o2,eo2⟩:∃ o,z++s1++s2++s3++s4++s5=o:=⟨_,rfl⟩
    rw [eo2] at l2
    simp -dsimp [hjl]
    refine call_p q1 (by simp) (by simp) ?_
    simp -dsimp [g1]
    refine call_p q2 (by simp) (by simp) ?_
    simp -dsimp [g1,g2]
    refine call_p q3 (by simp) (by simp) ?_
    simp -dsimp [g1,g2,g3]
    refine call_p q4 (by simp) (by simp) ?_
    simp -dsimp [g1,g2,g3,g4]
    refine call_f q5 (by simp [ht]) (by simp) (by simp) ?_
    simp -dsimp [g1,g2,g3,g4,g5,eo2,wr wk,h]
    exact l2
  ·have:k=l.length:=by omega
   subst this
   simp -dsimp [h,retE]
   omega)
 exact ⟨s,hs,hb⟩
theorem b197 (c:Cor) (ls:List (List Ru)) (gs:List Gl) (hf:FOk ls gs):∃ ks:List (Int×Int×Int),ks.length≤4000∧Best Tryz.prog 197 [.agg (fntRow c ls gs)] (.p (.sl 3 (ks.map i3Row))):=by
 obtain ⟨⟨f1,_⟩,f2,f3⟩:=hf
 obtain ⟨v,⟨s,rfl,hs⟩,hb⟩:=bestE (Q:=fun v=>∃ ks:List (Int×Int×Int),v=.sl 3 (ks.map i3Row)∧ks.length≤4000) mixed fn197 ok197 (args:=[.agg (fntRow c ls gs)]) (by simp) (by
  simp -dsimp [ac197,fntRow]
  refine loopE ls.length (fun j (u:Nat×List (Int×Int×Int))=>⟨[(1,.ptr (1,0) 11 0 0),(3,.ref (19,u.1) 3 0 u.2.length),(4,.p (.int .i64 j))],[((1,0),ftB c ls gs),((19,u.1),.sl 281 3 (u.2.map i3Row))]⟩) (fun j u=>u.2.length=j) (0,[]) (fun j u hj hu=>?_) rfl (by simp)
  obtain ⟨n,u⟩:=u
  dsimp only at hu
  have wj:R ((j:Int)+1):=⟨by omega,by omega⟩
  have m1:u.length+1≤maxLen:=by unfold maxLen;omega
  have m2:(u.length+1)*24≤140737488355328:=by omega
  by_cases h:j<ls.length
  ·simp -dsimp [h,wr wj,m1,m2,List.range,List.range.loop]
   exact ⟨n+1,u++[(1,(j:Int),0)],by simp [hu],⟨rfl,by simp⟩,rfl,by simp [i3Row]⟩
  ·have:j=ls.length:=by omega
   subst this
   simp -dsimp [h]
   refine loopE gs.length (fun j (u:Nat×List (Int×Int×Int))=>⟨[(1,.ptr (1,0) 11 0 0),(3,.ref (19,u.1) 3 0 u.2.length),(5,.p (.int .i64 j))],[((1,0),ftB c ls gs),((19,u.1),.sl 281 3 (u.2.map i3Row))]⟩) (fun j u=>u.2.length=ls.length+j) (n,u) (fun j u hj hu=>?_) hu (by simp)
   obtain ⟨n,u⟩:=u
   dsimp only at hu
   have wj:R ((j:Int)+1):=⟨by omega,by omega⟩
   have m1:u.length+1≤maxLen:=by unfold maxLen;omega
   have m2:(u.length+1)*24≤140737488355328:=by omega
   by_cases h:j<gs.length
   ·simp -dsimp [h,wr wj,m1,m2,List.range,List.range.loop]
    exact ⟨n+1,u++[(2,(j:Int),0)],by simp;omega,⟨rfl,by simp⟩,rfl,by simp [i3Row]⟩
   ·have:j=gs.length:=by omega
    subst this
    simp -dsimp [h]
    refine loopE gs.length (fun j (u:Nat×List (Int×Int×Int))=>⟨[(1,.ptr (1,0) 11 0 0),(3,.ref (19,u.1) 3 0 u.2.length),(6,.p (.int .i64 j))],[((1,0),ftB c ls gs),((19,u.1),.sl 281 3 (u.2.map i3Row))]⟩) (fun j u=>u.2.length≤ls.length+gs.length+2*j) (n,u) (fun j u hj hu=>?_) (by dsimp only;omega) (by simp)
    obtain ⟨n,u⟩:=u
    dsimp only at hu
    by_cases h:j<gs.length
    ·obtain ⟨x,ex⟩:∃ x,gs[j]=x:=⟨_,rfl⟩
     obtain ⟨_,_,_,d2,_⟩:=f3 x (by rw [←ex];simp)
     have wj:R ((j:Int)+1):=⟨by omega,by omega⟩
     simp -dsimp [h]
     refine loopE x.del.length (fun i (w:Nat×List (Int×Int×Int))=>⟨[(1,.ptr (1,0) 11 0 0),(3,.ref (19,w.1) 3 0 w.2.length),(6,.p (.int .i64 j)),(7,.p (.int .i64 i))],[((1,0),ftB c ls gs),((19,w.1),.sl 281 3 (w.2.map i3Row))]⟩) (fun i w=>w.2.length=u.length+i) (n,u) (fun i w hi hw=>?_) rfl (by simp)
     obtain ⟨n,w⟩:=w
     dsimp only at hw
     by_cases hi2:i<x.del.length
     ·obtain ⟨⟨p1,p2,p3⟩,ep⟩:∃ p,x.del[i]=p:=⟨_,rfl⟩
      have wi:R ((i:Int)+1):=⟨by omega,by omega⟩
      have m1:w.length+1≤maxLen:=by unfold maxLen;omega
      have m2:(w.length+1)*24≤140737488355328:=by omega
      simp -dsimp [h,ex,glRow,hi2,ep,dlRow,wr wi,m1,m2,List.range,List.range.loop]
      exact ⟨n+1,w++[(3,(j:Int),p1)],by simp;omega,⟨rfl,by simp⟩,rfl,by simp [i3Row]⟩
     ·have:i=x.del.length:=by omega
      subst this
      simp -dsimp [h,ex,glRow,hi2,wr wj]
      exact ⟨n,w,by omega,⟨rfl,rfl⟩,rfl,rfl⟩
    ·have:j=gs.length:=by omega
     subst this
     have ht:List.take u.length (u.map i3Row)=u.map i3Row:=List.take_of_length_le (by simp)
     simp -dsimp [h,ht,retE]
     exact ⟨u,rfl,by omega⟩)
 exact ⟨s,hs,hb⟩
end
section
attribute [local simp ↓] awp_scope awp_label
set_option maxHeartbeats 1000000
attribute [local simp] evC
attribute [local simp ↓] oneI oneS oneSS oneK
attribute [local simp] ftB
def K198:AE→Fr→Prop:=retE [.tmp 4,.tmp 5] (fun v=>∃ (s:ByteArray) (e:Int),v=.tup [.str s,.int .i64 e]∧s.size≤100000000)
theorem e0z:(⟨#[]⟩:ByteArray).size=0:=rfl
theorem b198c (c:Cor) (ls:List (List Ru)) (gs:List Gl) (hf:FOk ls gs) (k r:Int) (n:Nat) (hn:n<gs.length) :
  awp Tryz.prog xc198c K198 ⟨[(2,.ptr (2,0) 11 0 0),(3,.ptr (3,0) 3 0 0)],[((2,0),ftB c ls gs),((3,0),.box [.p (.int .i64 k),.p (.int .i64 n),.p (.int .i64 r)])]⟩:=by
 obtain ⟨x,ex⟩:∃ x,gs[n]=x:=⟨_,rfl⟩
 have hx:=hf.2.2 x (by rw [←ex];simp)
 obtain ⟨_,_,_,d2,dv,_⟩:=id hx
 by_cases h2:k=2
 ·subst h2
  by_cases hr:r=0
  ·subst hr
   obtain ⟨s,hs,q⟩:=b230 x hx
   simp -dsimp [xc198c,hn,ex,glRow]
   refine call_p q (by simp [glRow]) (by simp) ?_
   simp -dsimp [K198,retE]
   exact hs
  ·simp -dsimp [xc198c,hr]
   refine loopE x.del.length (fun i (_:Unit)=>⟨[(2,.ptr (2,0) 11 0 0),(3,.ptr (3,0) 3 0 0),(6,.p (.int .i64 i))],[((2,0),ftB c ls gs),((3,0),.box [.p (.int .i64 2),.p (.int .i64 n),.p (.int .i64 r)])]⟩) (fun _ _=>True) () (fun i _ hi _=>?_) trivial (by simp)
   by_cases hi2:i<x.del.length
   ·simp -dsimp [hn,ex,glRow,hi2,K198,retE,e0z]
   ·have:i=x.del.length:=by omega
    subst this
    simp -dsimp [hn,ex,glRow,K198,retE,e0z]
 ·simp -dsimp [xc198c,h2]
  refine loopE x.del.length (fun i (_:Unit)=>⟨[(2,.ptr (2,0) 11 0 0),(3,.ptr (3,0) 3 0 0),(6,.p (.int .i64 i))],[((2,0),ftB c ls gs),((3,0),.box [.p (.int .i64 k),.p (.int .i64 n),.p (.int .i64 r)])]⟩) (fun _ _=>True) () (fun i _ hi _=>?_) trivial (by simp)
  by_cases hi2:i<x.del.length
  ·by_cases h3:k=3
   ·obtain ⟨⟨p1,p2,p3⟩,ep⟩:∃ p,x.del[i]=p:=⟨_,rfl⟩
    have hp:=dv _ (show (p1,p2,p3)∈x.del by rw [←ep];simp)
    have wi:R ((i:Int)+1):=⟨by omega,by omega⟩
    subst h3
    by_cases hpr:p1=r
    ·obtain ⟨s,hs,q⟩:=b231 p1 p2 p3 hp
     subst hpr
     simp -dsimp [hn,ex,glRow,hi2,ep,dlRow]
     refine call_p q (by simp) (by simp) ?_
     simp -dsimp [K198,retE]
     exact hs
    ·simp -dsimp [hn,ex,glRow,hi2,ep,dlRow,hpr,wr wi]
   ·simp -dsimp [hn,ex,glRow,hi2,h3,K198,retE,e0z]
  ·have:i=x.del.length:=by omega
   subst this
   simp -dsimp [hn,ex,glRow,K198,retE,e0z]
theorem b198b (c:Cor) (ls:List (List Ru)) (gs:List Gl) (hf:FOk ls gs) (k n r:Int) :
  awp Tryz.prog xc198b K198 ⟨[(2,.ptr (2,0) 11 0 0),(3,.ptr (3,0) 3 0 0)],[((2,0),ftB c ls gs),((3,0),.box [.p (.int .i64 k),.p (.int .i64 n),.p (.int .i64 r)])]⟩:=by
 by_cases h1:n<0
 ·simp -dsimp [xc198b,h1,K198,retE,e0z]
 ·obtain ⟨m,rfl⟩:∃ m:Nat,n=m:=⟨n.toNat,by omega⟩
  have h0:¬(m:Int)<0:=by omega
  by_cases h2:m<gs.length
  ·have h2':¬(gs.length:Int)≤m:=by omega
   simp -dsimp [xc198b,h0,h2',↓ awpC_of xc198c]
   exact awpC_in (b198c c ls gs hf k r m h2)
  ·have h2':(gs.length:Int)≤m:=by omega
   simp -dsimp [xc198b,h0,h2',K198,retE,e0z]
theorem b198 (c:Cor) (ls:List (List Ru)) (gs:List Gl) (hf:FOk ls gs) (k n r:Int):∃ (s:ByteArray) (e:Int),s.size≤100000000∧Best Tryz.prog 198 [.agg (fntRow c ls gs),.agg [.int .i64 k,.int .i64 n,.int .i64 r]] (.p (.tup [.str s,.int .i64 e])):=by
 obtain ⟨v,⟨s,e,rfl,hs⟩,hb⟩:=bestE (Q:=fun v=>∃ (s:ByteArray) (e:Int),v=.tup [.str s,.int .i64 e]∧s.size≤100000000) mixed fn198 ok198 (args:=[.agg (fntRow c ls gs),.agg [.int .i64 k,.int .i64 n,.int .i64 r]]) (by simp) (by
  change awp Tryz.prog ac198 K198 _
  have rest:=b198b c ls gs hf k n r
  simp only [ftB] at rest
  by_cases h1:k=1
  ·subst h1
   by_cases h2:r=0
   ·subst h2
    by_cases h3:0≤n
    ·obtain ⟨m,rfl⟩:∃ m:Nat,n=m:=⟨n.toNat,by omega⟩
     by_cases h4:m<ls.length
     ·have h4':(m:Int)<ls.length:=by omega
      obtain ⟨x,ex⟩:∃ x,ls[m]=x:=⟨_,rfl⟩
      have hx:=hf.1.2 x (by rw [←ex];simp)
      obtain ⟨s,hs,q⟩:=b229 x hx.1 hx.2
      simp -dsimp [ac198,fntRow,h4,h4',ex,lkRow,↓ awpC_of xc198b]
      refine call_p q (by simp [lkRow]) (by simp) ?_
      simp -dsimp [K198,retE]
      exact hs
     ·have h4':¬(m:Int)<ls.length:=by omega
      simp -dsimp [ac198,fntRow,h4',↓ awpC_of xc198b]
      exact awpC_in rest
    ·simp -dsimp [ac198,fntRow,h3,↓ awpC_of xc198b]
     exact awpC_in rest
   ·simp -dsimp [ac198,fntRow,h2,↓ awpC_of xc198b]
    exact awpC_in rest
  ·simp -dsimp [ac198,fntRow,h1,↓ awpC_of xc198b]
   exact awpC_in rest)
 exact ⟨s,e,hs,hb⟩
theorem b162 (c:Cor) (ls:List (List Ru)) (gs:List Gl) (hf:FOk ls gs):∃ l:List ByteArray,(l.length≤4000∧∀ x∈l,x.size≤8)∧Best Tryz.prog 162 [.agg (fntRow c ls gs)] (.p (.sl 1 (l.map sRow))):=by
 obtain ⟨ks,hk4,qk⟩:=b197 c ls gs hf
 obtain ⟨v,⟨s,rfl,hs⟩,hb⟩:=bestE (Q:=fun v=>∃ l:List ByteArray,v=.sl 1 (l.map sRow)∧(l.length≤4000∧∀ x∈l,x.size≤8)) mixed fn162 ok162 (args:=[.agg (fntRow c ls gs)]) (by simp) (by
  simp only [fntRow] at qk
  simp -dsimp [ac162,fntRow]
  refine call_p qk (by simp) (by simp) ?_
  simp -dsimp
  refine loopE ks.length (fun j (u:Nat×List ByteArray)=>⟨[(1,.ptr (1,0) 11 0 0),(3,.ref (33,u.1) 1 0 u.2.length),(4,.p (.sl 3 (ks.map i3Row))),(5,.p (.int .i64 j))],[((1,0),ftB c ls gs),((33,u.1),.sl 9 1 (u.2.map sRow))]⟩) (fun j u=>u.2.length=j∧∀ x∈u.2,x.size≤8) (0,[]) (fun j u hj hu=>?_) ⟨rfl,by simp⟩ (by simp)
  obtain ⟨n,u⟩:=u
  obtain ⟨hu,hu8⟩:=hu
  dsimp only at hu hu8
  by_cases h:j<ks.length
  ·obtain ⟨⟨p1,p2,p3⟩,ep⟩:∃ p,ks[j]=p:=⟨_,rfl⟩
   have wj:R ((j:Int)+1):=⟨by omega,by omega⟩
   have m1:u.length+1≤maxLen:=by unfold maxLen;omega
   have m2:(u.length+1)*16≤140737488355328:=by omega
   obtain ⟨s1,e1,h1,q1⟩:=b198 c ls gs hf p1 p2 p3
   obtain ⟨s2,h2,q2⟩:=b199 p1 p2 p3 s1 (by omega)
   simp only [fntRow] at q1
   simp -dsimp [h,ep,i3Row]
   refine call_p q1 (by simp) (by simp) ?_
   simp -dsimp [h,ep,i3Row]
   refine call_p q2 (by simp) (by simp) ?_
   simp -dsimp [wr wj,m1,m2,List.range,List.range.loop,h]
   refine ⟨n+1,u++[s2],⟨by simp [hu],fun x hx=>?_⟩,⟨rfl,by simp⟩,rfl,by simp [sRow]⟩
   rcases List.mem_append.1 hx with g | g
   ·exact hu8 x g
   ·rw [List.mem_singleton.1 g];omega
  ·have:j=ks.length:=by omega
   subst this
   have ht:List.take u.length (u.map sRow)=u.map sRow:=List.take_of_length_le (by simp)
   simp -dsimp [h,ht,retE]
   exact ⟨u,rfl,by omega,hu8⟩)
 exact ⟨s,hs,hb⟩
theorem b122 (c:Cor) (ls:List (List Ru)) (gs:List Gl) (hf:FOk ls gs):∃ s:ByteArray,s.size=8∧Best Tryz.prog 122 [.agg (fntRow c ls gs)] (.p (.str s)):=by
 obtain ⟨l,⟨l1,l2⟩,q1⟩:=b162 c ls gs hf
 obtain ⟨s,hs,q2⟩:=b161 l l1 l2
 refine ⟨s,hs,best mixed fn122 ok122 (by simp) ?_⟩
 simp only [fntRow] at q1
 simp -dsimp [ac122,fntRow]
 refine call_p q1 (by simp) (by simp) ?_
 simp -dsimp
 refine call_p q2 (by simp) (by simp) ?_
 simp -dsimp
theorem b70 (c:Cor) (ls:List (List Ru)) (gs:List Gl) (hf:FOk ls gs):∃ s:ByteArray,s.size=8∧Best Tryz.prog 70 [.agg (fntRow c ls gs)] (.p (.agg (fntRow { c with rt:=s } ls gs))):=by
 obtain ⟨s,hs,q⟩:=b122 c ls gs hf
 refine ⟨s,hs,best mixed fn70 ok70 (by simp) ?_⟩
 simp only [fntRow] at q
 simp -dsimp [ac70,fntRow]
 refine call_p q (by simp) (by simp) ?_
 simp -dsimp
end
end Go.Abs.A30
namespace Go.Abs.A30
open Go Go.Abs Go.Proofs
set_option maxRecDepth 100000
set_option maxHeartbeats 4000000
set_option linter.unusedVariables false
def ac31:AC:=by
 apply fun (y:AC) (_:@Eq AC (anF Tryz.prog 31 mu1 [] 0 0 []) y)=>y
 conv=>lhs;reduce;dsimp
theorem fn31:factOf Tryz.prog 31=some (ac31.strip,[.tmp 2],33):=by kernel_rfl
theorem ok31:ac31.okAll=true:=by kernel_rfl
def ac30:AC:=by
 apply fun (y:AC) (_:@Eq AC (anF Tryz.prog 30 mu1 [] 0 0 []) y)=>y
 conv=>lhs;reduce;dsimp
theorem fn30:factOf Tryz.prog 30=some (ac30.strip,[.tmp 2],20):=by kernel_rfl
theorem ok30:ac30.okAll=true:=by kernel_rfl
def ac73:AC:=by
 apply fun (y:AC) (_:@Eq AC (anF Tryz.prog 73 mu1 [] 0 0 []) y)=>y
 conv=>lhs;reduce;dsimp
theorem fn73:factOf Tryz.prog 73=some (ac73.strip,[.cell 2 true 3],30):=by kernel_rfl
theorem ok73:ac73.okAll=true:=by kernel_rfl
def ac72:AC:=by
 apply fun (y:AC) (_:@Eq AC (anF Tryz.prog 72 mu1 [] 0 0 []) y)=>y
 conv=>lhs;reduce;dsimp
theorem fn72:factOf Tryz.prog 72=some (ac72.strip,[.tmp 2],39):=by kernel_rfl
theorem ok72:ac72.okAll=true:=by kernel_rfl
def ac10:AC:=by
 apply fun (y:AC) (_:@Eq AC (anD [⟨8,[.canV 4 (4,1),.freeze (4,1)],[],none⟩] (anF Tryz.prog 10 mu1 [] 0 0 [])) y)=>y
 conv=>lhs;reduce;dsimp
theorem fn10:factOf Tryz.prog 10=some (ac10.strip,[.cell 2 true 3,.tmp 3],47):=by kernel_rfl
theorem ok10:ac10.okAll=true:=by kernel_rfl
def xc32c:AC:=by
 apply fun (y:AC) (_:@Eq AC (anS 12 [] [] (anF Tryz.prog 32 mu1 [] 0 0 [])) y)=>y
 conv=>lhs;reduce;dsimp
def xc32b:AC:=(fun (z0:AC)=>by
 apply fun (y:AC) (_:@Eq AC (anS 4 [⟨6,[],[.ownC (7,0) 1 (48,0) 143 3],none⟩,⟨12,[],[.ownC (7,0) 2 (78,0) 41 4],some z0⟩] [] (anF Tryz.prog 32 mu1 [] 0 0 [])) y)=>y
 conv=>lhs;reduce;dsimp) xc32c
def ac32:AC:=(fun (z0:AC)=>by
 apply fun (y:AC) (_:@Eq AC (anD [⟨4,[],[.zsl 5 1],some z0⟩] (anF Tryz.prog 32 mu1 [] 0 0 [])) y)=>y
 conv=>lhs;reduce;dsimp) xc32b
theorem fn32:factOf Tryz.prog 32=some (ac32.strip,[.cell 4 true 3],81):=by kernel_rfl
theorem ok32:ac32.okAll=true:=by kernel_rfl
end Go.Abs.A30
namespace Go.Abs.A30
open Go Go.Abs Go.Proofs
set_option maxRecDepth 100000
set_option linter.unusedVariables false
set_option linter.unusedSimpArgs false
attribute [local simp ↓] awp_skip awp_seq awp_cond awp_block awp_exit awp_ret awp_reg awp_draw awp_ghost awp_loop awp_rfun awpR_nil awpR_cons awpX_nil awpX_0 awpX_1 awpX_2 awpI_eq awpI_t awpI_f awpStep_eq
attribute [local simp] condL_true condL_false condL_dec evDel evV evN evS evA initFr Ghost.app Fr.var Fr.blk Fr.ff FF.val Abs.look Fr.app Fr.erase Fr.noSlot AV.noSlot AV.noSlotL Blk.noSlot Fr.spoken AV.fz AV.fzL Blk.fz binV binI shI binS unV fillA FF.parts FF.vals headO intO boundO lenV scalarEq leavesEq AV.aggc AV.cells FF.read FF.rows AV.one PV.one chunk freshB newS pickV retK evRs evRl evR resOf mkTup mkAgg allP cloOf okP_nil okX_p okX okP addN Del.noSlot Del.owners Rnd reify_p normM insM Fr.back Fr.backV Fr.setPs normV insV
attribute [local simp] renF Fr.trim Blk.trim AV.rn AV.rnL Blk.rn AV.among AV.amongL Blk.among okF retM fixS BIG initFF
attribute [local simp] FF.reify FF.reifyL PV.flat
section
attribute [local simp ↓] awp_scope awp_label
set_option maxHeartbeats 1000000
attribute [local simp] evC
attribute [local simp ↓] oneI oneS oneSS oneK
attribute [local simp] ftB
def lllRow (x:List (List Int)):List PV:=[.sl 1 (x.map llRow)]
abbrev Fnt:=Cor×List (List Ru)×List Gl
def fRow (f:Fnt):List PV:=fntRow f.1 f.2.1 f.2.2
theorem oneF (l:List Fnt):((l.map fRow).all fun r=>r.all PV.one)=true:=by
 rw [List.all_eq_true];intro r hr;obtain ⟨u,_,rfl⟩:=List.mem_map.1 hr;rfl
theorem oneC (l:List Cor):((l.map corRow).all fun r=>r.all PV.one)=true:=by
 rw [List.all_eq_true];intro r hr;obtain ⟨u,_,rfl⟩:=List.mem_map.1 hr;rfl
theorem oneLl (l:List (List (List Int))):((l.map lllRow).all fun r=>r.all PV.one)=true:=by
 rw [List.all_eq_true];intro r hr;obtain ⟨u,_,rfl⟩:=List.mem_map.1 hr;rfl
attribute [local simp ↓] oneF oneC oneLl
def FsOk (l:List Fnt):Prop:=∀ f∈l,f.1.ok
theorem b31 (L:List (List (List Int))) (hL:∀ x∈L,x.length≤140737488355328∧∀ y∈x,∀ n∈y,R n):∃ fs:List Fnt,(fs.length≤3∧FsOk fs)∧Best Tryz.prog 31 [.sl 1 (L.map lllRow)] (.p (.sl 11 (fs.map fRow))):=by
 obtain ⟨v,⟨s,rfl,hs⟩,hb⟩:=bestE (Q:=fun v=>∃ fs:List Fnt,v=.sl 11 (fs.map fRow)∧(fs.length≤3∧FsOk fs)) mixed fn31 ok31 (args:=[.sl 1 (L.map lllRow)]) (by simp) (by
  simp -dsimp [ac31]
  refine loopE (min L.length 3) (fun k (z:Nat×List Fnt)=>⟨[(0,.p (.sl 1 (L.map lllRow))),(3,.ref (31,z.1) 11 0 z.2.length),(4,.p (.int .i64 k))],[((31,z.1),.sl 135 11 (z.2.map fRow))]⟩) (fun k z=>z.2.length=k∧FsOk z.2) (0,[]) (fun k z hk hz=>?_) ⟨rfl,by simp [FsOk]⟩ (by simp)
  obtain ⟨n,z⟩:=z
  obtain ⟨hz1,hz2⟩:=hz
  dsimp only at hz1 hz2
  by_cases h1:k<L.length
  ·by_cases h2:k<3
   ·have h2':(k:Int)<3:=by omega
    have wk:R ((k:Int)+1):=⟨by omega,by omega⟩
    obtain ⟨x,ex⟩:∃ x,L[k]=x:=⟨_,rfl⟩
    obtain ⟨hx1,hx2⟩:=hL x (by rw [←ex];simp)
    obtain ⟨c,ls,gs,⟨hc,hf⟩,q1⟩:=b69 x hx2 hx1
    obtain ⟨nm,enm⟩:∃ nm:ByteArray,([[PV.str ⟨#[111,110,101]⟩],[PV.str ⟨#[116,119,111,50]⟩],[PV.str ⟨#[116,104,114,101,101]⟩]]:List (List PV))[k]?=some [PV.str nm]:=by
     have:k=0∨k=1∨k=2:=by omega
     rcases this with rfl | rfl | rfl<;>exact ⟨_,rfl⟩
    obtain ⟨rt,hrt,q2⟩:=b70 { c.cor with nm:=nm } ls gs hf
    have m1:z.length+1≤maxLen:=by unfold maxLen;omega
    have m2:(z.length+1)*216≤140737488355328:=by omega
    have hall:((z.map fRow++[fRow (⟨nm,c.ver,c.ax,c.rg,c.gl,c.ch,c.pr,c.hd,rt⟩,ls,gs)]).all fun r=>r.all PV.one)=true:=by
     have:=oneF (z++[(⟨nm,c.ver,c.ax,c.rg,c.gl,c.ch,c.pr,c.hd,rt⟩,ls,gs)])
     rwa [List.map_append] at this
    simp only [fRow,fntRow] at hall
    simp only [corRow0] at q1
    simp only [fntRow,Cor0.cor] at q2
    simp -dsimp [h1,h2',ex,lllRow]
    refine call_p q1 (by simp) (by simp) ?_
    simp -dsimp [enm,h2',List.range,List.range.loop]
    refine call_p q2 (by simp) (by simp) ?_
    simp -dsimp [wr wk,m1,m2,List.range,List.range.loop,-List.all_eq_true]
    refine ⟨by omega,n+1,z++[(⟨nm,c.ver,c.ax,c.rg,c.gl,c.ch,c.pr,c.hd,rt⟩,ls,gs)],⟨by simp [hz1],fun f hf=>?_⟩,⟨rfl,by simp⟩,rfl,by simp [fRow,fntRow]⟩
    rcases List.mem_append.1 hf with q | q
    ·exact hz2 f q
    ·rw [List.mem_singleton.1 q];exact (Cor0.ok' hc:c.cor.ok)
   ·have:k=3:=by omega
    subst this
    have ht:List.take z.length (z.map fRow)=z.map fRow:=List.take_of_length_le (by simp)
    have h3:(3:Int)<L.length:=by omega
    simp -dsimp [h1,h3,ht,retE]
    exact ⟨z,rfl,by omega,hz2⟩
  ·have ht:List.take z.length (z.map fRow)=z.map fRow:=List.take_of_length_le (by simp)
   simp -dsimp [h1,ht,retE]
   exact ⟨z,rfl,by omega,hz2⟩)
 exact ⟨s,hs,hb⟩
end
end Go.Abs.A30
namespace Go.Abs.A30
open Go Go.Abs Go.Proofs
set_option maxRecDepth 100000
set_option maxHeartbeats 4000000
set_option linter.unusedVariables false
def ac113:AC:=by
 apply fun (y:AC) (_:@Eq AC (anF Tryz.prog 113 mu1 [] 0 0 []) y)=>y
 conv=>lhs;reduce;dsimp
theorem fn113:factOf Tryz.prog 113=some (ac113.strip,[.tmp 0],34):=by kernel_rfl
theorem ok113:ac113.okAll=true:=by kernel_rfl
def ac65:AC:=by
 apply fun (y:AC) (_:@Eq AC (anF Tryz.prog 65 mu1 [] 0 0 []) y)=>y
 conv=>lhs;reduce;dsimp
theorem fn65:factOf Tryz.prog 65=some (ac65.strip,[.cell 2 true 2],25):=by kernel_rfl
theorem ok65:ac65.okAll=true:=by kernel_rfl
def ac24:AC:=by
 apply fun (y:AC) (_:@Eq AC (anF Tryz.prog 24 mu1 [] 0 0 []) y)=>y
 conv=>lhs;reduce;dsimp
theorem fn24:factOf Tryz.prog 24=some (ac24.strip,[.tmp 2],6):=by kernel_rfl
theorem ok24:ac24.okAll=true:=by kernel_rfl
def ac66:AC:=by
 apply fun (y:AC) (_:@Eq AC (anF Tryz.prog 66 mu1 [] 0 0 []) y)=>y
 conv=>lhs;reduce;dsimp
theorem fn66:factOf Tryz.prog 66=some (ac66.strip,[.tmp 2],12):=by kernel_rfl
theorem ok66:ac66.okAll=true:=by kernel_rfl
def ac108:AC:=by
 apply fun (y:AC) (_:@Eq AC (qk [0] (qs (qr [(qp 2 (.mov (qz 0)))]) (qk [0] (qs (qs (qr [(ym 4 0),(qi 5 (.call 65 [.v 4]) [0]),(qp 3 (.alloc [.int .i64 0,.int .i64 0])),(qo (.store 2 (.v 3) (.v 5)) [2,1,1,0,1,2])]) (qk [3] (.block 0 (qs (qr [(qp 7 (qt 2 3)),(qp 8 (.build [.int .i64 0,.int .i64 0] [(0,1,.c (.int .i64 3)),(1,1,.c (.int .i64 0))])),(qi 9 (.eqs false 2 [(0,1),(1,1)] (.v 7) (.v 8)) [0,1]),(yn 6 9 [2])]) (qk [3,6] (qq (.v 6) (qs (qr [(qp 2 (.mov (qz 3)))]) (qk [2] .ret)) (qs (qr [(qp 11 (qf 1 3)),(yk 12 11 [0]),(yc 13 .eql 12 (qz 2) [1]),(yn 10 13 [2])]) (qk [3,10] (qq (.v 10) (qs (qr [(qp 2 (.mov (qz 2)))]) (qk [2] .ret)) (qs (qr [(qp 15 (qf 1 3)),(yk 16 15 [0]),(yc 17 .gtr 16 (qz 0) [1]),(yn 14 17 [2])]) (qk [14] (qq (.v 14) (qs (qr [(qp 2 (.mov (qz 1)))]) (qk [2] .ret)) .skip)))))))))))) (qk [] (qs (qr [(qp 2 (.mov (qz 0)))]) (qk [2] .ret))))))) y)=>y
 dsimp
theorem fn108:factOf Tryz.prog 108=some (ac108.strip,[.tmp 2],18):=by kernel_rfl
theorem ok108:ac108.okAll=true:=by kernel_rfl
def ac99:AC:=by
 apply fun (y:AC) (_:@Eq AC (anF Tryz.prog 99 mu1 [] 0 0 []) y)=>y
 conv=>lhs;reduce;dsimp
theorem fn99:factOf Tryz.prog 99=some (ac99.strip,[.tmp 2],6):=by kernel_rfl
theorem ok99:ac99.okAll=true:=by kernel_rfl
def ac98:AC:=by
 apply fun (y:AC) (_:@Eq AC (anF Tryz.prog 98 mu1 [] 0 0 []) y)=>y
 conv=>lhs;reduce;dsimp
theorem fn98:factOf Tryz.prog 98=some (ac98.strip,[.tmp 2],13):=by kernel_rfl
theorem ok98:ac98.okAll=true:=by kernel_rfl
def ac112:AC:=by
 apply fun (y:AC) (_:@Eq AC (anF Tryz.prog 112 mu1 [] 0 0 []) y)=>y
 conv=>lhs;reduce;dsimp
theorem fn112:factOf Tryz.prog 112=some (ac112.strip,[.tmp 3],9):=by kernel_rfl
theorem ok112:ac112.okAll=true:=by kernel_rfl
def ac25:AC:=by
 apply fun (y:AC) (_:@Eq AC (anF Tryz.prog 25 mu1 [] 0 0 []) y)=>y
 conv=>lhs;reduce;dsimp
theorem fn25:factOf Tryz.prog 25=some (ac25.strip,[.tmp 4],40):=by kernel_rfl
theorem ok25:ac25.okAll=true:=by kernel_rfl
def ac49:AC:=by
 apply fun (y:AC) (_:@Eq AC (anF Tryz.prog 49 mu1 [] 0 0 []) y)=>y
 conv=>lhs;reduce;dsimp
theorem fn49:factOf Tryz.prog 49=some (ac49.strip,[.tmp 4],12):=by kernel_rfl
theorem ok49:ac49.okAll=true:=by kernel_rfl
def ac152:AC:=by
 apply fun (y:AC) (_:@Eq AC (anF Tryz.prog 152 mu1 [] 0 0 []) y)=>y
 conv=>lhs;reduce;dsimp
theorem fn152:factOf Tryz.prog 152=some (ac152.strip,[.tmp 4],19):=by kernel_rfl
theorem ok152:ac152.okAll=true:=by kernel_rfl
def ac153:AC:=by
 apply fun (y:AC) (_:@Eq AC (anF Tryz.prog 153 mu1 [] 0 0 []) y)=>y
 conv=>lhs;reduce;dsimp
theorem fn153:factOf Tryz.prog 153=some (ac153.strip,[.tmp 3],8):=by kernel_rfl
theorem ok153:ac153.okAll=true:=by kernel_rfl
def ac60:AC:=by
 apply fun (y:AC) (_:@Eq AC (anF Tryz.prog 60 mu1 [] 0 0 []) y)=>y
 conv=>lhs;reduce;dsimp
theorem fn60:factOf Tryz.prog 60=some (ac60.strip,[.tmp 4,.tmp 5],17):=by kernel_rfl
theorem ok60:ac60.okAll=true:=by kernel_rfl
def ac59:AC:=by
 apply fun (y:AC) (_:@Eq AC (anF Tryz.prog 59 mu1 [] 0 0 []) y)=>y
 conv=>lhs;reduce;dsimp
theorem fn59:factOf Tryz.prog 59=some (ac59.strip,[.tmp 3],14):=by kernel_rfl
theorem ok59:ac59.okAll=true:=by kernel_rfl
def ac57:AC:=by
 apply fun (y:AC) (_:@Eq AC (anF Tryz.prog 57 mu1 [] 0 0 []) y)=>y
 conv=>lhs;reduce;dsimp
theorem fn57:factOf Tryz.prog 57=some (ac57.strip,[.tmp 3],8):=by kernel_rfl
theorem ok57:ac57.okAll=true:=by kernel_rfl
def ac105:AC:=by
 apply fun (y:AC) (_:@Eq AC (anF Tryz.prog 105 mu1 [] 0 0 []) y)=>y
 conv=>lhs;reduce;dsimp
theorem fn105:factOf Tryz.prog 105=some (ac105.strip,[.tmp 4],19):=by kernel_rfl
theorem ok105:ac105.okAll=true:=by kernel_rfl
def ac56:AC:=by
 apply fun (y:AC) (_:@Eq AC (anF Tryz.prog 56 mu1 [] 0 0 []) y)=>y
 conv=>lhs;reduce;dsimp
theorem fn56:factOf Tryz.prog 56=some (ac56.strip,[.tmp 4],8):=by kernel_rfl
theorem ok56:ac56.okAll=true:=by kernel_rfl
def ac107:AC:=by
 apply fun (y:AC) (_:@Eq AC (anD [⟨4,[],[.zslC (4,0) 3 2],none⟩,⟨6,[],[.zslC (4,0) 3 2],none⟩] (anF Tryz.prog 107 mu1 [] 0 0 [])) y)=>y
 conv=>lhs;reduce;dsimp
theorem fn107:factOf Tryz.prog 107=some (ac107.strip,[.cell 4 true 4,.tmp 5],19):=by kernel_rfl
theorem ok107:ac107.okAll=true:=by kernel_rfl
def xc21b:AC:=by
 apply fun (y:AC) (_:@Eq AC (anS 10 [] [] (anF Tryz.prog 21 mu1 [] 0 0 [])) y)=>y
 conv=>lhs;reduce;dsimp
def ac21:AC:=(fun (z0:AC)=>by
 apply fun (y:AC) (_:@Eq AC (anD [⟨10,[],[],some z0⟩,⟨11,[],[.canV 4 (29,0)],none⟩] (anF Tryz.prog 21 mu1 [] 0 0 [])) y)=>y
 conv=>lhs;reduce;dsimp) xc21b
theorem fn21:factOf Tryz.prog 21=some (ac21.strip,[.tmp 4],32):=by kernel_rfl
theorem ok21:ac21.okAll=true:=by kernel_rfl
end Go.Abs.A30
namespace Go.Abs.A30
open Go Go.Abs Go.Proofs
set_option maxRecDepth 100000
set_option linter.unusedVariables false
set_option linter.unusedSimpArgs false
attribute [local simp ↓] awp_skip awp_seq awp_cond awp_block awp_exit awp_ret awp_reg awp_draw awp_ghost awp_loop awp_rfun awpR_nil awpR_cons awpX_nil awpX_0 awpX_1 awpX_2 awpI_eq awpI_t awpI_f awpStep_eq
attribute [local simp] condL_true condL_false condL_dec evDel evV evN evS evA initFr Ghost.app Fr.var Fr.blk Fr.ff FF.val Abs.look Fr.app Fr.erase Fr.noSlot AV.noSlot AV.noSlotL Blk.noSlot Fr.spoken AV.fz AV.fzL Blk.fz binV binI shI binS unV fillA FF.parts FF.vals headO intO boundO lenV scalarEq leavesEq AV.aggc AV.cells FF.read FF.rows AV.one PV.one chunk freshB newS pickV retK evRs evRl evR resOf mkTup mkAgg allP cloOf okP_nil okX_p okX okP addN Del.noSlot Del.owners Rnd reify_p normM insM Fr.back Fr.backV Fr.setPs normV insV
attribute [local simp] renF Fr.trim Blk.trim AV.rn AV.rnL Blk.rn AV.among AV.amongL Blk.among okF retM fixS BIG initFF
attribute [local simp] FF.reify FF.reifyL PV.flat
section
set_option maxHeartbeats 2000000
def blkL:List (Int×Int×Int×Int):=[(10,10,1,0),(32,32,2,0),(33,47,4,0),(48,57,3,0),(64,95,5,1),(96,103,6,1),(104,127,7,2),(128,143,8,2),(144,151,6,2),(152,183,9,3),(184,184,10,3),(185,191,11,3),(192,199,12,3),(200,207,6,3),(240,240,13,0),(241,241,14,0)]
def blkRow (x:Int×Int×Int×Int):List PV:=[.int .i64 x.1,.int .i64 x.2.1,.int .i64 x.2.2.1,.int .i64 x.2.2.2]
theorem b113:Best Tryz.prog 113 [] (.p (.sl 4 (blkL.map blkRow))):=by
 refine best mixed fn113 ok113 (by simp) ?_
 simp -dsimp [ac113,List.range,List.range.loop,blkL,blkRow]
def inB (c:Int) (b:Int×Int×Int×Int):Bool:=decide (b.1≤c) && decide (c≤b.2.1)
def kindN (c:Int):Int×Int:=match blkL.find? (inB c) with
 | some b=>b.2.2
 | none=>(0,0)
def clsN (c:Int):Int:=(kindN c).1
def scrN (c:Int):Int:=(kindN c).2
theorem kindN_at {c:Int} {k:Nat} {b:Int×Int×Int×Int} (hk:blkL[k]?=some b) (h:inB c b=true) (hn:∀ y∈blkL.take k,inB c y=false):kindN c=b.2.2:=by
 have:blkL.find? (inB c)=some b:=by
  rw [List.find?_eq_some_iff_getElem]
  obtain ⟨h1,h2⟩:=List.getElem?_eq_some_iff.1 hk
  refine ⟨h,k,h1,h2,fun j hj=>?_⟩
  rw [hn _ (List.mem_take_iff_getElem.2 ⟨j,by omega,rfl⟩)];rfl
 unfold kindN;rw [this]
theorem kindN_none {c:Int} (hn:∀ y∈blkL,inB c y=false):kindN c=(0,0):=by
 have:blkL.find? (inB c)=none:=by rw [List.find?_eq_none];intro y hy;simp [hn y hy]
 unfold kindN;rw [this]
theorem b65 (c:Int):Best Tryz.prog 65 [.int .i64 c] (.p (.agg [.int .i64 (kindN c).1,.int .i64 (kindN c).2])):=by
 refine best mixed fn65 ok65 (by simp) ?_
 simp -dsimp [ac65]
 refine call_p b113 (by simp) (by simp) ?_
 have hlen:blkL.length=16:=rfl
 simp -dsimp [hlen]
 refine loopC 16 (fun k=>⟨[(0,.p (.int .i64 c)),(2,.ptr (2,0) 2 0 0),(5,.p (.sl 4 (blkL.map blkRow))),(6,.p (.int .i64 16)),(7,.p (.int .i64 k))],[((2,0),.box [.p (.int .i64 0),.p (.int .i64 0)])]⟩) (fun k=>∀ y∈blkL.take k,inB c y=false) (fun k hk hall=>?_) (by simp) (by simp)
 by_cases h:k<16
 ·have hl:k<blkL.length:=by rw [hlen];exact h
  have hx:blkL[k]?=some blkL[k]:=List.getElem?_eq_getElem hl
  obtain ⟨⟨b1,b2,b3,b4⟩,eb⟩:∃ b,blkL[k]=b:=⟨_,rfl⟩
  rw [eb] at hx
  have hk':(k:Int)<16:=by omega
  have wk:R ((k:Int)+1):=⟨by omega,by omega⟩
  have fin:inB c (b1,b2,b3,b4)=false→∀ y∈blkL.take (k+1),inB c y=false:=fun hf y hy=>by
   rw [List.take_add_one,hx] at hy
   rcases List.mem_append.1 hy with g | g
   ·exact hall y g
   ·simp at g;rw [g];exact hf
  by_cases h1:b1≤c
  ·by_cases h2:c≤b2
   ·have hin:inB c (b1,b2,b3,b4)=true:=by simp [inB,h1,h2]
    have hkn:=kindN_at hx hin hall
    simp -dsimp [h,hk',hlen,eb,blkRow,h1,h2,hkn]
   ·have hin:inB c (b1,b2,b3,b4)=false:=by simp [inB,h2]
    simp -dsimp [h,hk',hlen,eb,blkRow,h1,h2,wr wk]
    exact fun a b d e hy=>fin hin (a,b,d,e) hy
  ·have hin:inB c (b1,b2,b3,b4)=false:=by simp [inB,h1]
   simp -dsimp [h,hk',hlen,eb,blkRow,h1,wr wk]
   exact fun a b d e hy=>fin hin (a,b,d,e) hy
 ·have:k=16:=by omega
  subst this
  have hkn:=kindN_none (c:=c) (by rw [show blkL=blkL.take 16 from rfl];exact hall)
  simp -dsimp [hkn]
theorem b24 (c:Int):Best Tryz.prog 24 [.int .i64 c] (.p (.int .i64 (clsN c))):=by
 refine best mixed fn24 ok24 (by simp) ?_
 simp -dsimp [ac24]
 refine call_p (b65 c) (by simp) (by simp) ?_
 simp -dsimp [clsN]
theorem b99 (c:Int):Best Tryz.prog 99 [.int .i64 c] (.p (.int .i64 (scrN c))):=by
 refine best mixed fn99 ok99 (by simp) ?_
 simp -dsimp [ac99]
 refine call_p (b65 c) (by simp) (by simp) ?_
 simp -dsimp [scrN]
def extN (c:Int):Bool:=decide (clsN c=6) || decide (clsN c=10) || decide (clsN c=11) || decide (clsN c=12) || decide (clsN c=13) || decide (clsN c=14)
theorem b66 (c:Int):Best Tryz.prog 66 [.int .i64 c] (.p (.bool (extN c))):=by
 refine best mixed fn66 ok66 (by simp) ?_
 simp -dsimp [ac66]
 refine call_p (b24 c) (by simp) (by simp) ?_
 unfold extN
 generalize clsN c=k
 by_cases h1:k=6
 ·simp -dsimp [h1]
 by_cases h2:k=10
 ·simp -dsimp [h2]
 by_cases h3:k=11
 ·simp -dsimp [h3]
 by_cases h4:k=12
 ·simp -dsimp [h4]
 by_cases h5:k=13
 ·simp -dsimp [h5]
 by_cases h6:k=14
 ·simp -dsimp [h6]
 ·simp -dsimp [h1,h2,h3,h4,h5,h6]
def strongN (c:Int):Int:=if kindN c=(3,0) then 3 else if (kindN c).2=2 then 2 else if 0<(kindN c).2 then 1 else 0
theorem b108 (c:Int):Best Tryz.prog 108 [.int .i64 c] (.p (.int .i64 (strongN c))):=by
 refine best mixed fn108 ok108 (by simp) ?_
 simp -dsimp [ac108]
 refine call_p (b65 c) (by simp) (by simp) ?_
 unfold strongN
 obtain ⟨⟨a,b⟩,e⟩:∃ k,kindN c=k:=⟨_,rfl⟩
 rw [e]
 by_cases h1:a=3
 ·by_cases h2:b=0
  ·simp -dsimp [h1,h2]
  ·by_cases h3:b=2
   ·simp -dsimp [h1,h3]
   ·by_cases h4:0<b<;>simp -dsimp [h1,h2,h3,h4]
 ·by_cases h3:b=2
  ·simp -dsimp [h1,h3]
  ·by_cases h4:0<b<;>simp -dsimp [h1,h3,h4]
def stuckN (k:Int):Bool:=decide (k=1) || decide (k=2) || decide (k=4)
theorem b98 (k:Int):Best Tryz.prog 98 [.int .i64 k] (.p (.bool (stuckN k))):=by
 refine best mixed fn98 ok98 (by simp) ?_
 by_cases h1:k=1
 ·simp -dsimp [ac98,h1,stuckN]
 by_cases h2:k=2
 ·simp -dsimp [ac98,h2,stuckN]
 ·simp -dsimp [ac98,h1,h2,stuckN]
end
end Go.Abs.A30
namespace Go.Abs.A30
open Go Go.Abs Go.Proofs
set_option maxRecDepth 100000
set_option maxHeartbeats 4000000
set_option linter.unusedVariables false
def ac111:AY:=(.ghost (.keep [0,1])
 (.scope (.seq (.reg [⟨some 6,.mkfn (.func 112) [] [.v 1],none,[]⟩,
  ⟨some 3,.mov (.v 6),none,[0,0]⟩])
 (.ghost (.keep [0,1,3]) (.seq (.reg [⟨some 4,.mov (.c (.int .i64 0)),none,[]⟩])
 (.ghost (.keep [0,1,3,4]) (.seq (.label 0)
 (.ghost (.keep [0,1,3,4]) (.seq (.reg [⟨some 7,.load false 1 (.v 1),none,[]⟩,
  ⟨some 8,.len true (.v 7),none,[0]⟩,
  ⟨some 9,.mov (.c (.int .i64 0)),none,[]⟩])
 (.ghost (.keep [0,1,3,4,8,9]) (.block 0 (.loop (.ghost (.keep [0,1,3,4,8,9]) (.seq (.reg [⟨some 10,.bin .lss (.v 9) (.v 8),none,[]⟩])
 (.ghost (.keep [0,1,3,4,8,9,10]) (.seq (.cond (.v 10)
 .skip
 (.exit 0))
 (.ghost (.keep [0,1,3,4,8,9]) (.seq (.block 1 (.seq (.reg [⟨some 11,.mov (.v 9),none,[]⟩,
  ⟨some 5,.mov (.v 11),none,[0,0]⟩])
 (.ghost (.keep [0,1,3,4,5,8,9]) (.seq (.block 2 (.seq (.seq (.reg [⟨some 13,.mov (.v 5),none,[]⟩,
  ⟨some 14,.bin .eql (.v 13) (.c (.int .i64 0)),none,[0]⟩,
  ⟨some 12,.mov (.v 14),none,[1]⟩])
 (.ghost (.keep [0,1,3,4,5,8,9,12]) (.cond (.v 12)
 .skip
 (.seq (.reg [⟨some 15,.mov (.v 5),none,[]⟩,
  ⟨some 16,.mov (.v 4),none,[]⟩,
  ⟨some 17,.bin .sub (.v 15) (.v 16),none,[0,1]⟩,
  ⟨some 18,.bin .eql (.v 17) (.c (.int .i64 6)),none,[2]⟩,
  ⟨some 12,.mov (.v 18),none,[3]⟩])
 (.ghost (.keep [0,1,3,4,5,8,9,12]) (.cond (.v 12)
 .skip
 (.reg [⟨some 19,.mov (.v 3),none,[]⟩,
  ⟨some 20,.mov (.v 5),none,[]⟩,
  ⟨some 21,.bin .sub (.v 20) (.c (.int .i64 1)),none,[1]⟩,
  ⟨some 22,.callv (.v 19) [.v 21],none,[0,2]⟩,
  ⟨some 23,.bin .eql (.v 22) (.c (.int .i64 1)),none,[3]⟩,
  ⟨some 12,.mov (.v 23),none,[4,3]⟩])))))))
 (.ghost (.keep [0,1,3,4,5,8,9,12]) (.cond (.v 12)
 .skip
 (.seq (.seq (.reg [⟨some 25,.load false 1 (.v 1),none,[]⟩,
  ⟨some 26,.mov (.v 5),none,[]⟩,
  ⟨some 27,.idxS (.v 25) (.v 26),none,[0,1]⟩,
  ⟨some 28,.conv .i64 (.v 27),none,[2]⟩,
  ⟨some 29,.call 66 [.v 28],none,[3]⟩,
  ⟨some 24,.mov (.v 29),none,[4,4]⟩])
 (.ghost (.keep [0,1,3,4,5,8,9,24]) (.cond (.v 24)
 .skip
 (.reg [⟨some 30,.mov (.v 3),none,[]⟩,
  ⟨some 31,.mov (.v 5),none,[]⟩,
  ⟨some 32,.callv (.v 30) [.v 31],none,[0,1]⟩,
  ⟨some 33,.bin .eql (.v 32) (.c (.int .i64 9)),none,[2]⟩,
  ⟨some 34,.mov (.v 33),none,[3,2]⟩,
  ⟨some 35,.mov (.v 3),some (34,true),[4]⟩,
  ⟨some 36,.mov (.v 5),some (34,true),[4]⟩,
  ⟨some 37,.bin .sub (.v 36) (.c (.int .i64 1)),some (34,true),[6,4]⟩,
  ⟨some 38,.callv (.v 35) [.v 37],some (34,true),[5,7,4,4]⟩,
  ⟨some 39,.bin .eql (.v 38) (.c (.int .i64 10)),some (34,true),[8,4]⟩,
  ⟨some 40,.pick (.v 34) (.v 39) (.c (.bool false)),none,[4,9]⟩,
  ⟨some 24,.mov (.v 40),none,[10,8]⟩]))))
 (.ghost (.keep [0,1,3,4,5,8,9,24]) (.cond (.v 24)
 (.exit 1)
 .skip)))))))
 (.ghost (.keep [0,1,3,5,8,9]) (.seq (.reg [⟨some 41,.mov (.v 5),none,[]⟩,
  ⟨some 4,.mov (.v 41),none,[0,0]⟩])
 (.ghost (.keep [0,1,3,4,5,8,9]) (.seq (.yield false [⟨⟨some 42,.mov (.v 0),none,[]⟩,[43],[],[],[],2⟩,
  ⟨⟨some 43,.mov (.v 5),none,[]⟩,[42],[],[],[0],2⟩]
  ⟨some 44,.callv (.v 42) [.v 43],none,[0,1]⟩ [⟨some 45,.un .not (.v 44),none,[2]⟩])
 (.ghost (.keep [0,1,3,4,8,9,45]) (.cond (.v 45)
 (.exit 0)
 .skip))))))))))
 (.ghost (.keep [0,1,3,4,8,9]) (.reg [⟨some 46,.bin .add (.v 9) (.c (.int .i64 1)),none,[]⟩,
  ⟨some 9,.mov (.v 46),none,[0]⟩]))))))))))))))))))))
theorem fn111:factOf Tryz.prog 111=some (ac111.strip,[],47):=by kernel_rfl
theorem ok111:ac111.okAll=true:=by kernel_rfl
def ac64:AC:=by
 apply fun (y:AC) (_:@Eq AC (anF Tryz.prog 64 mu1 [] 0 0 []) y)=>y
 conv=>lhs;reduce;dsimp
theorem fn64:factOf Tryz.prog 64=some (ac64.strip,[.tmp 2],4):=by kernel_rfl
theorem ok64:ac64.okAll=true:=by kernel_rfl
def ac186:AC:=by
 apply fun (y:AC) (_:@Eq AC (anF Tryz.prog 186 mu1 [] 0 0 []) y)=>y
 conv=>lhs;reduce;dsimp
theorem fn186:factOf Tryz.prog 186=some (ac186.strip,[.tmp 4],17):=by kernel_rfl
theorem ok186:ac186.okAll=true:=by kernel_rfl
def ac219:AC:=by
 apply fun (y:AC) (_:@Eq AC (anF Tryz.prog 219 mu1 [] 0 0 []) y)=>y
 conv=>lhs;reduce;dsimp
theorem fn219:factOf Tryz.prog 219=some (ac219.strip,[.tmp 2],6):=by kernel_rfl
theorem ok219:ac219.okAll=true:=by kernel_rfl
def ac103:AC:=by
 apply fun (y:AC) (_:@Eq AC (anF Tryz.prog 103 mu1 [] 0 0 []) y)=>y
 conv=>lhs;reduce;dsimp
theorem fn103:factOf Tryz.prog 103=some (ac103.strip,[.tmp 4],31):=by kernel_rfl
theorem ok103:ac103.okAll=true:=by kernel_rfl
def xc149b:AC:=by
 apply fun (y:AC) (_:@Eq AC (anS 13 [] [] (anF Tryz.prog 149 mu1 [999970,999971,999972,999973,999980,999981,999982,999983,999990,999991,999992,999993,1000000,1000001,1000002,1000003,1000004,1000005,1000006,1000007] 258048 1048575 [3])) y)=>y
 conv=>lhs;reduce;dsimp
def ac149:AC:=(fun (z0:AC)=>by
 apply fun (y:AC) (_:@Eq AC (anD [⟨13,[],[],some z0⟩,⟨15,[],[.canV 8 (44,0)],none⟩,⟨17,[],[.ren (44,0) (999980,0)],none⟩] (anF Tryz.prog 149 mu1 [999970,999971,999972,999973,999980,999981,999982,999983,999990,999991,999992,999993,1000000,1000001,1000002,1000003,1000004,1000005,1000006,1000007] 258048 1048575 [3])) y)=>y
 conv=>lhs;reduce;dsimp) xc149b
theorem fn149:factOf Tryz.prog 149=some (ac149.strip,[.tmp 8],46):=by kernel_rfl
theorem ok149:ac149.okAll=true:=by kernel_rfl
def ac104:AC:=by
 apply fun (y:AC) (_:@Eq AC (anF Tryz.prog 104 mu1 [999970,999971,999972,999973,999980,999981,999982,999983,999990,999991,999992,999993,1000000,1000001,1000002,1000003,1000004,1000005,1000006,1000007] 258048 1048575 [0]) y)=>y
 conv=>lhs;reduce;dsimp
theorem fn104:factOf Tryz.prog 104=some (ac104.strip,[],11):=by kernel_rfl
theorem ok104:ac104.okAll=true:=by kernel_rfl
def ac55:AC:=by
 apply fun (y:AC) (_:@Eq AC (anD [⟨2,[],[.canV 5 (10,0)],none⟩,⟨3,[],[.freeze (10,0)],none⟩,⟨9,[],[.canV 4 (25,0)],none⟩] (anF Tryz.prog 55 mu1 [] 0 0 [])) y)=>y
 conv=>lhs;reduce;dsimp
theorem fn55:factOf Tryz.prog 55=some (ac55.strip,[.tmp 4],28):=by kernel_rfl
theorem ok55:ac55.okAll=true:=by kernel_rfl
def xc150b:AC:=by
 apply fun (y:AC) (_:@Eq AC (anS 7 [] [] (anF Tryz.prog 150 mu1 [999970,999971,999972,999973,999980,999981,999982,999983,999990,999991,999992,999993,1000000,1000001,1000002,1000003,1000004,1000005,1000006,1000007] 258048 1048575 [0])) y)=>y
 conv=>lhs;reduce;dsimp
def ac150:AC:=(fun (z0:AC)=>by
 apply fun (y:AC) (_:@Eq AC (anD [⟨7,[],[],some z0⟩] (anF Tryz.prog 150 mu1 [999970,999971,999972,999973,999980,999981,999982,999983,999990,999991,999992,999993,1000000,1000001,1000002,1000003,1000004,1000005,1000006,1000007] 258048 1048575 [0])) y)=>y
 conv=>lhs;reduce;dsimp) xc150b
theorem fn150:factOf Tryz.prog 150=some (ac150.strip,[],134):=by kernel_rfl
theorem ok150:ac150.okAll=true:=by kernel_rfl
def xc180b:AC:=by
 apply fun (y:AC) (_:@Eq AC (anS 8 [] [] (anF Tryz.prog 180 mu1 [999970,999971,999972,999973,999980,999981,999982,999983,999990,999991,999992,999993,1000000,1000001,1000002,1000003,1000004,1000005,1000006,1000007] 258048 1048575 [0])) y)=>y
 conv=>lhs;reduce;dsimp
def ac180:AC:=(fun (z0:AC)=>by
 apply fun (y:AC) (_:@Eq AC (anD [⟨8,[],[],some z0⟩] (anF Tryz.prog 180 mu1 [999970,999971,999972,999973,999980,999981,999982,999983,999990,999991,999992,999993,1000000,1000001,1000002,1000003,1000004,1000005,1000006,1000007] 258048 1048575 [0])) y)=>y
 conv=>lhs;reduce;dsimp) xc180b
theorem fn180:factOf Tryz.prog 180=some (ac180.strip,[],49):=by kernel_rfl
theorem ok180:ac180.okAll=true:=by kernel_rfl
def ac23:AC:=by
 apply fun (y:AC) (_:@Eq AC (anD [⟨2,[],[.ownC (3,0) 0 (999980,1) 76 2],none⟩] (anF Tryz.prog 23 mu1 [] 0 0 [])) y)=>y
 conv=>lhs;reduce;dsimp
theorem fn23:factOf Tryz.prog 23=some (ac23.strip,[.tmp 2],27):=by kernel_rfl
theorem ok23:ac23.okAll=true:=by kernel_rfl
end Go.Abs.A30
namespace Go.Abs.A30
open Go Go.Abs Go.Proofs
set_option maxRecDepth 100000
set_option linter.unusedVariables false
set_option linter.unusedSimpArgs false
attribute [local simp ↓] awp_skip awp_seq awp_cond awp_block awp_exit awp_ret awp_reg awp_draw awp_ghost awp_loop awp_rfun awpR_nil awpR_cons awpX_nil awpX_0 awpX_1 awpX_2 awpI_eq awpI_t awpI_f awpStep_eq
attribute [local simp] condL_true condL_false condL_dec evDel evV evN evS evA initFr Ghost.app Fr.var Fr.blk Fr.ff FF.val Abs.look Fr.app Fr.erase Fr.noSlot AV.noSlot AV.noSlotL Blk.noSlot Fr.spoken AV.fz AV.fzL Blk.fz binV binI shI binS unV fillA FF.parts FF.vals headO intO boundO lenV scalarEq leavesEq AV.aggc AV.cells FF.read FF.rows AV.one PV.one chunk freshB newS pickV retK evRs evRl evR resOf mkTup mkAgg allP cloOf okP_nil okX_p okX okP addN Del.noSlot Del.owners Rnd reify_p normM insM Fr.back Fr.backV Fr.setPs normV insV
attribute [local simp] renF Fr.trim Blk.trim AV.rn AV.rnL Blk.rn AV.among AV.amongL Blk.among okF retM fixS BIG initFF
attribute [local simp] FF.reify FF.reifyL PV.flat
section
set_option maxHeartbeats 4000000
def ba (l:List UInt8):ByteArray:=⟨l.toArray⟩
theorem ba_size (l:List UInt8):(ba l).size=l.length:=by simp [ba,ByteArray.size]
def bT (t:List UInt8) (i:Nat):UInt8:=t.getD i 0
def cT (t:List UInt8) (i:Nat):Int:=((bT t i).toNat:Int)
theorem ba_get {l:List UInt8} {i:Nat} (h:i<l.length):(ba l)[i]?=some (bT l i):=by
 rw [getElem?_pos (ba l) i (by rw [ba_size];exact h)]
 have:(ba l)[i]'(by rw [ba_size];exact h)=l[i]:=rfl
 rw [this]
 simp [bT,h]
theorem wb (b:UInt8):IntKind.i64.wrap (b.toNat:Int)=b.toNat:=wr ⟨by omega,by have:=b.toNat_lt;omega⟩
theorem ba_at {l:List UInt8} {i:Nat} (h:i<(ba l).size):(ba l)[i]=bT l i:=by
 have h':i<l.length:=by rwa [ba_size] at h
 show l[i]=bT l i
 simp [bT,h']
theorem w1:IntKind.i64.wrap 1=1:=rfl
theorem w6:IntKind.i64.wrap 6=6:=rfl
attribute [local simp] ba_size wb ba_at w1 w6
def clsT (t:List UInt8) (i:Nat):Int:=clsN (cT t i)
theorem b112 (t:List UInt8) (i:Nat) (h:i<t.length):Best Tryz.prog 112 [.int .i64 i,.ro [.str (ba t)]] (.p (.int .i64 (clsT t i))):=by
 refine best mixed fn112 ok112 (by simp) ?_
 simp -dsimp [ac112,ba_get h]
 refine call_p (b24 (cT t i)) (by simp [cT]) (by simp) ?_
 simp -dsimp [clsT]
def begT (t:List UInt8) (i f:Nat):Bool:=decide (i=0) || decide ((i:Int) - f=6) || decide (clsT t (i - 1)=1) || !(extN (cT t i) || (decide (clsT t i=9) && decide (clsT t (i - 1)=10)))
def stT (t:List UInt8):Nat→List Nat×Nat
 | 0=>([],0)
 | i+1=>if begT t i (stT t i).2 then ((stT t i).1++[i],i) else stT t i
theorem stT_le (t:List UInt8):∀ i,(stT t i).2≤i
 | 0=>Nat.le_refl _
 | i+1=>by
  have:=stT_le t i
  simp only [stT];split
  ·exact Nat.le_succ _
  ·omega
theorem stT_len (t:List UInt8):∀ i,(stT t i).1.length≤i
 | 0=>Nat.le_refl _
 | i+1=>by
  have:=stT_len t i
  simp only [stT];split
  ·simp;omega
  ·omega
theorem stT_pre (t:List UInt8) (i:Nat):∀ j,i≤j→(stT t i).1 <+: (stT t j).1:=by
 intro j h
 induction h with
 | refl=>exact List.prefix_refl _
 | step h ih=>
  rename_i m
  simp only [stT];split
  ·exact ih.trans (List.prefix_append _ _)
  ·exact ih
theorem loopYP {P:Program} {l:Nat} {xs:List (List PV)} {K:AE→Fr→Option Nat→Prop} {g:Ghost} {x:AY} {t:Tag (AY.ghost g x) K} (n:Nat) (fr:Nat→Fr) (pc:Nat→Nat) (step:∀ k,k≤n→awpY P l xs x (fun e F' p'=>match e with
  | .normal=>k<n∧g.app F'=some (fr (k+1))∧p'=some (pc (k+1))
  | e=>K e F' p') (fr k) (some (pc k))) {F:Fr} {p0:Nat} (hp:p0=pc 0) (hF:g.app F=some (fr 0)):loopY P l xs (.ghost g x) K t F (some p0):=by
 subst hp
 have key:∀ m k F,k+m=n→g.app F=some (fr k)→lpY (awpY P l xs (.ghost g x)) (m+1) K F (some (pc k)):=by
  intro m
  induction m with
  | zero=>
   intro k F hk hF
   show awpY P l xs (.ghost g x) _ F (some (pc k))
   rw [awpY_ghost,hF]
   refine awpY_mono (fun e F' p' q=>?_) (step k (by omega))
   cases e with
   | normal=>exact absurd q.1 (by omega)
   | exit i=>exact q
   | ret=>exact q
  | succ m ih=>
   intro k F hk hF
   show awpY P l xs (.ghost g x) _ F (some (pc k))
   rw [awpY_ghost,hF]
   refine awpY_mono (fun e F' p' q=>?_) (step k (by omega))
   cases e with
   | normal=>
    obtain ⟨h1,h2,rfl⟩:=q
    exact ih (k+1) F' (by omega) h2
   | exit i=>exact q
   | ret=>exact q
 exact ⟨n+1,key n 0 F (by omega) hF⟩
attribute [local simp ↓] awpY_skip awpY_seq awpY_cond awpY_block awpY_loop awpY_exit awpY_ret awpY_reg awpY_draw awpY_ghost awpY_yt awpY_yf stepY_eq awpY_scope awpY_label
attribute [local simp] coreY Fr.pure AV.pur
def natRow (i:Nat):List PV:=[.int .i64 i]
theorem g111 (t:List UInt8) (hl:t.length≤1000000):Gens Tryz.prog 111 [] [.ro [.str (ba t)]] ((stT t t.length).1.map natRow):=by
 refine gens mixed fn111 ok111 (by simp) fun l=>?_
 simp -dsimp [ac111]
 refine loopYP t.length (fun k=>⟨[(0,.p (.clo (.yield l) [] [])),(1,.p (.ro [.str (ba t)])),(3,.p (.clo (.func 112) [] [.ro [.str (ba t)]])),(4,.p (.int .i64 (stT t k).2)),(8,.p (.int .i64 t.length)),(9,.p (.int .i64 k))],[]⟩) (fun k=>(stT t k).1.length) (fun k hk=>?_) rfl (by simp [stT])
 obtain ⟨f,ef⟩:∃ f,(stT t k).2=f:=⟨_,rfl⟩
 have hf:f≤k:=ef ▸ stT_le t k
 by_cases h:k<t.length
 ·have wk:R ((k:Int)+1):=⟨by omega,by omega⟩
  have wf:R ((k:Int) - f):=⟨by omega,by omega⟩
  have hget:=ba_get h
  have yes:begT t k f=true→stT t (k+1)=((stT t k).1++[k],k):=fun e=>by simp only [stT,ef,e,if_true]
  have no:begT t k f=false→stT t (k+1)=stT t k:=fun e=>by simp [stT,ef,e]
  have item:begT t k f=true→(stT t t.length).1[(stT t k).1.length]?=some k:=fun e=>by
   obtain ⟨r,hr⟩:=stT_pre t (k+1) t.length h
   rw [yes e] at hr
   rw [←hr]
   simp
  have hrow:∀ x:Nat,natRow x=[.int .i64 (x:Int)]:=fun _=>rfl
  rw [ef]
  by_cases h0:k=0
  ·subst h0
   have hb:begT t 0 f=true:=by simp [begT]
   have hy:=yes hb
   have hi:=item hb
   simp -dsimp [h,hi,hy,hrow]
   skip
  have h0':¬(k:Int)=0:=by omega
  by_cases h6:(k:Int) - f=6
  ·have hb:begT t k f=true:=by simp [begT,h6]
   have hy:=yes hb
   have hi:=item hb
   simp -dsimp [h,h0,h0',h6,wr wk,wr wf,hi,hy,hrow]
   skip
  obtain ⟨m,em⟩:∃ m:Nat,(k:Int) - 1=m:=⟨k - 1,by omega⟩
  have em':k - 1=m:=by omega
  have wm:R (m:Int):=⟨by omega,by omega⟩
  have q1:=b112 t m (by omega)
  have q2:=b112 t k h
  have q3:=b66 (cT t k)
  simp -dsimp [h,h0,h0',h6,wr wk,wr wf,em,wr wm]
  refine call_p q1 (by simp) (by simp) ?_
  by_cases h1:clsT t m=1
  ·have hb:begT t k f=true:=by simp [begT,em',h1]
   have hy:=yes hb
   have hi:=item hb
   simp -dsimp [h,h0,h0',h6,h1,wr wk,wr wf,hi,hy,hrow]
   skip
  simp -dsimp [h,h1,hget]
  refine call_p q3 (by simp [cT]) (by simp) ?_
  by_cases h2:extN (cT t k)=true
  ·have hb:begT t k f=false:=by simp [begT,em',h0,h1,h2,h6]
   have hy:=no hb
   simp -dsimp [h,h2,wr wk,hy,ef]
   skip
  have h2':extN (cT t k)=false:=by simpa using h2
  simp -dsimp [h,h2']
  refine call_p q2 (by simp) (by simp) ?_
  by_cases h3:clsT t k=9
  ·simp -dsimp [h,h3,em,wr wm]
   refine call_p q1 (by simp) (by simp) ?_
   by_cases h4:clsT t m=10
   ·have hb:begT t k f=false:=by simp [begT,em',h0,h1,h2',h3,h4,h6]
    have hy:=no hb
    simp -dsimp [h,h4,wr wk,hy,ef]
    skip
   ·have hb:begT t k f=true:=by simp [begT,em',h1,h2',h3,h4]
    have hy:=yes hb
    have hi:=item hb
    simp -dsimp [h,h4,wr wk,hi,hy,hrow]
    skip
  ·have hb:begT t k f=true:=by simp [begT,em',h1,h2',h3]
   have hy:=yes hb
   have hi:=item hb
   simp -dsimp [h,h3,wr wk,hi,hy,hrow]
   skip
 ·have:k=t.length:=by omega
  subst this
  simp -dsimp [h]
end
end Go.Abs.A30
