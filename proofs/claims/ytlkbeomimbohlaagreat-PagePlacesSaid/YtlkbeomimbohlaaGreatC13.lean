/- A part of the proof: an abstract reading of the model, contracts of functions. -/
import Derived.Test.YtlkbeomimbohlaaGreatC12
set_option linter.unusedVariables false
set_option linter.unusedSimpArgs false
namespace Go.Abs.A30
open Go Go.Abs Go.Proofs
set_option maxRecDepth 100000
set_option linter.unusedVariables false
set_option linter.unusedSimpArgs false
attribute [local simp ↓] awp_skip awp_seq awp_cond awp_block awp_exit awp_ret awp_reg awp_draw awp_ghost awp_loop awp_rfun awpR_nil awpR_cons awpX_nil awpX_0 awpX_1 awpX_2 awpI_eq awpI_t awpI_f awpStep_eq
attribute [local simp] condL_true condL_false condL_dec evDel evV evN evS evA initFr Ghost.app Fr.var Fr.blk Fr.ff FF.val Abs.look Fr.app Fr.erase Fr.noSlot AV.noSlot AV.noSlotL Blk.noSlot Fr.spoken AV.fz AV.fzL Blk.fz binV binI shI binS unV fillA FF.parts FF.vals headO intO boundO lenV scalarEq leavesEq AV.aggc AV.cells FF.read FF.rows AV.one PV.one chunk freshB newS pickV retK evRs evRl evR resOf mkTup mkAgg allP cloOf okP_nil okX_p okX okP addN Del.noSlot Del.owners Rnd reify_p normM insM Fr.back Fr.backV Fr.setPs normV insV
attribute [local simp] renF Fr.trim Blk.trim AV.rn AV.rnL Blk.rn AV.among AV.amongL Blk.among okF retM fixS BIG initFF
attribute [local simp] FF.reify FF.reifyL PV.flat
section
theorem sum_le (m:Nat):∀ (l:List Nat),(∀ x∈l,x≤m)→l.sum≤m*l.length
 | [],_=>by simp
 | x :: l,h=>by
  have h1:=sum_le m l fun y hy=>h y (by simp [hy])
  have h2:=h x (by simp)
  simp only [List.sum_cons,List.length_cons,Nat.mul_succ];omega
theorem pointsN_le (con:List (List (Int×Int×Bool))) (an:List (Int×Int×Int)) (h1:con.length≤1000) (h2:∀ x∈con,x.length≤1000) (h3:an.length≤1000):pointsN con an≤1001001:=by
 have:=sum_le 1000 (con.map List.length) (by simpa using h2)
 unfold pointsN
 simp only [List.length_map] at this
 have h4:1000*con.length≤1000*1000:=Nat.mul_le_mul_left _ h1
 omega
def mvRow (c:Int×Int):List PV:=[.int .i64 c.1,.int .i64 c.2]
theorem b192 (d0:Dr) (h0:d0.ok) (con:List (List (Int×Int×Bool))) (an:List (Int×Int×Int)) (hh:Int) (reg:Int) (h1:con.length≤1000) (h2:∀ x∈con,x.length≤1000) (h3:an.length≤1000) :
  ∃ x:(Int×List (Int×Int))×Dr,(x.2.ok∧x.1.2.length≤1002001)∧BestF Tryz.prog 192 [((BIG,0),.box [.p (.sl 1 (d0.l.map intRow)),.p (.int .i64 d0.a)])] [.agg [.p (.sl 1 (con.map conRow)),.p (.sl 3 (an.map i3Row)),.p (.int .i64 hh),.top,.top,.top,.top,.top],.p (.int .i64 reg),.ptr (BIG,0) 2 0 0] [(BIG,0)]
   (.p (.agg [.int .i64 reg,.int .i64 x.1.1,.sl 2 (x.1.2.map mvRow)])) [((BIG,0),.box [.p (.sl 1 (x.2.l.map intRow)),.p (.int .i64 x.2.a)])]:=by
 refine bestEF mixed fn192 ok192 (by simp) (by simp) ?_
 simp -dsimp [ac192]
 obtain ⟨v1,d1,hd1,v1l,p⟩:=b71n d0 h0 30 (1000000,0) (by decide) (by decide)
 refine call_m p (by simp) (by simp) (by simp) ?_
 have w1:R ((v1:Int) - 10):=⟨by omega,by omega⟩
 simp -dsimp [wr w1]
 have hw:WkL [.agg [.p (.sl 1 (con.map conRow)),.p (.sl 3 (an.map i3Row)),.p (.int .i64 hh),.top,.top,.top,.top,.top]] [.agg [.p (.sl 1 (con.map conRow)),.p (.sl 3 (an.map i3Row)),.top,.top,.top,.top,.top,.top]]:=
  .cons (.agg (.cons (.refl _) (.cons (.refl _) (.cons (.top _) (.cons (.top _) (.cons (.top _) (.cons (.top _) (.cons (.top _) (.cons (.top _) .nil))))))))) .nil
 refine call_m (BestF.args (b159t con an h1 h2 h3) hw) (by simp) (by simp) (by simp) ?_
 have hn:(pointsN con an:Int)≤1002001:=by
  have:=pointsN_le con an h1 h2 h3
  omega
 obtain ⟨n,en⟩:∃ n,pointsN con an=n:=⟨_,rfl⟩
 rw [en] at hn ⊢
 simp -dsimp
 refine loopE n (fun k (y:List (Int×Int)×Dr)=>⟨[(2,.ptr (1000000,0) 2 0 0),(3,.ptr (3,0) 8 0 0),(6,.ptr (6,0) 3 0 0),(7,.ptr (7,0) 3 0 0),(8,.p (.int .i64 n)),(9,.p (.int .i64 k))],[((3,0),.box [.p (.sl 1 (con.map conRow)),.p (.sl 3 (an.map i3Row)),.p (.int .i64 hh),.top,.top,.top,.top,.top]),((6,0),.box [.p (.int .i64 0),.p (.int .i64 0),.p .nsl]),((7,0),.box [.p (.int .i64 reg),.p (.int .i64 (v1 - 10)),.ref (45,k) 2 0 k]),((45,k),.sl 26 2 (y.1.map mvRow)),((1000000,0),.box [.p (.sl 1 (y.2.l.map intRow)),.p (.int .i64 y.2.a)])]⟩) (fun k y=>y.2.ok∧y.1.length=k) ([],d1) (fun k y hk hQ=>?_) ⟨hd1,rfl⟩ (by simp)
 obtain ⟨y,d2⟩:=y
 obtain ⟨hd2,hy⟩:=hQ
 dsimp only at hd2 hy
 by_cases h:k<n
 ·have w:R ((k:Int)+1):=⟨by omega,by omega⟩
  simp -dsimp [h,↓ awpC_of xc192b]
  obtain ⟨v2,d3,hd3,v2l,p⟩:=b71n d2 hd2 21 (1000000,0) (by decide) (by decide)
  refine call_m p (by simp) (by simp) (by simp) ?_
  have w2:R ((v2:Int) - 10):=⟨by omega,by omega⟩
  simp -dsimp [wr w2,↓ awpC_of xc192b]
  obtain ⟨v3,d4,hd4,v3l,p⟩:=b71n d3 hd3 21 (1000000,0) (by decide) (by decide)
  refine call_m p (by simp) (by simp) (by simp) ?_
  have w3:R ((v3:Int) - 10):=⟨by omega,by omega⟩
  simp -dsimp [wr w3,↓ awpC_of xc192b]
  refine awpC_in (seqG1 (α:=Int×Int) (fun z=>⟨[(2,.ptr (1000000,0) 2 0 0),(3,.ptr (3,0) 8 0 0),(6,.ptr (6,0) 3 0 0),(7,.ptr (7,0) 3 0 0),(8,.p (.int .i64 n)),(9,.p (.int .i64 k)),(10,.ptr (10,0) 2 0 0)],[((3,0),.box [.p (.sl 1 (con.map conRow)),.p (.sl 3 (an.map i3Row)),.p (.int .i64 hh),.top,.top,.top,.top,.top]),((6,0),.box [.p (.int .i64 0),.p (.int .i64 0),.p .nsl]),((7,0),.box [.p (.int .i64 reg),.p (.int .i64 (v1 - 10)),.ref (45,k) 2 0 k]),((10,0),.box [.p (.int .i64 z.1),.p (.int .i64 z.2)]),((45,k),.sl 26 2 (y.map mvRow)),((1000000,0),.box [.p (.sl 1 (d4.l.map intRow)),.p (.int .i64 d4.a)])]⟩) (fun z=>True) ?_ ?_)
  ·have w4:R ((n:Int) - 1):=⟨by omega,by omega⟩
   by_cases q:(k:Int)=n - 1
   ·by_cases q2:hh=0
    ·simp -dsimp [wr w4,q,q2]
    ·simp -dsimp [wr w4,q,q2]
   ·simp -dsimp [wr w4,q]
  ·intro z _
   have m1:y.length+1≤maxLen:=by unfold maxLen;omega
   have m2:(y.length+1)*16≤140737488355328:=by omega
   subst hy
   simp -dsimp [wr w,List.range,List.range.loop,m1,m2,h]
   exact ⟨y++[z],d4,⟨hd4,by simp⟩,by simp [mvRow],rfl,rfl⟩
 ·have:k=n:=by omega
  subst this
  have ht:List.take k (y.map mvRow)=y.map mvRow:=List.take_of_length_le (by simp;omega)
  simp -dsimp [h,ht,hy,retEF]
  exact ⟨_,y,⟨rfl,rfl⟩,d2,⟨rfl,rfl⟩,hd2,by omega⟩
theorem b192s (d0:Dr) (h0:d0.ok) (con:List (List (Int×Int×Bool))) (an:List (Int×Int×Int)) (hh:Int) (reg:Int) (h1:con.length≤1000) (h2:∀ x∈con,x.length≤1000) (h3:an.length≤1000) (s:Slot) (a3 a4 a5 a6 a7:AV) :
  ∃ (by':Int) (mv:List (Int×Int)) (d:Dr),(d.ok∧mv.length≤1002001)∧BestF Tryz.prog 192 [(s,.box [.p (.sl 1 (d0.l.map intRow)),.p (.int .i64 d0.a)])] [.agg [.p (.sl 1 (con.map conRow)),.p (.sl 3 (an.map i3Row)),.p (.int .i64 hh),a3,a4,a5,a6,a7],.p (.int .i64 reg),.ptr s 2 0 0] [s]
   (.p (.agg [.int .i64 reg,.int .i64 by',.sl 2 (mv.map mvRow)])) [(s,.box [.p (.sl 1 (d.l.map intRow)),.p (.int .i64 d.a)])]:=by
 obtain ⟨⟨⟨b,m⟩,d⟩,hd,h⟩:=b192 d0 h0 con an hh reg h1 h2 h3
 refine ⟨b,m,d,hd,BestF.args (BestF.one h s rfl rfl) ?_⟩
 exact .cons (.agg (.cons (.refl _) (.cons (.refl _) (.cons (.refl _) (.cons (.top _) (.cons (.top _) (.cons (.top _) (.cons (.top _) (.cons (.top _) .nil))))))))) (.cons (.refl _) (.cons (.refl _) .nil))
end
section
set_option maxHeartbeats 2000000
attribute [local simp ↓] oneI oneDT oneTk oneD
structure Gl where
 con:List (List (Int×Int×Bool))
 an:List (Int×Int×Int)
 h1:Int
 h2:Int
 h3:Int
 w:Int
 del:List (Int×Int×List (Int×Int))
 prog:List (Int×Int)
def dlRow (x:Int×Int×List (Int×Int)):List PV:=[.int .i64 x.1,.int .i64 x.2.1,.sl 2 (x.2.2.map mvRow)]
def ptRow (x:Int×Int×Bool):List PV:=[.int .i64 x.1,.int .i64 x.2.1,.bool x.2.2]
def glRow (x:Gl):List PV:=[.sl 1 (x.con.map conRow),.sl 3 (x.an.map i3Row),.int .i64 x.h1,.int .i64 x.h2,.int .i64 x.h3,.int .i64 x.w,.sl 3 (x.del.map dlRow),.sl 2 (x.prog.map mvRow)]
def DelOk (l:List (Int×Int×List (Int×Int))):Prop:=∀ y∈l,y.2.2.length≤1002001
def Gl.ok (x:Gl):Prop:=x.con.length≤3∧(∀ y∈x.con,y.length≤5)∧x.an.length≤3∧x.del.length≤2∧DelOk x.del∧x.prog.length≤60
def fr96 (r:Nat) (vs:List (Nat×AV)) (c0 c1:AV) (h1 h2 h3 w:Int) (c6:AV) (d:Dr) (M:List (Slot×Blk)):Fr:=⟨[(1,.p (.int .i64 r)),(4,.ptr (4,0) 8 0 0),(5,.ptr (20,0) 2 0 0),(6,.ptr (6,0) 8 0 0)]++vs,[((4,0),.box [.p .nsl,.p .nsl,.p (.int .i64 0),.p (.int .i64 0),.p (.int .i64 0),.p (.int .i64 0),.p .nsl,.p .nsl]),((6,0),.box [c0,c1,.p (.int .i64 h1),.p (.int .i64 h2),.p (.int .i64 h3),.p (.int .i64 w),c6,.p (.sl 2 [])]),((20,0),.box [.p (.sl 1 (d.l.map intRow)),.p (.int .i64 d.a)])]++M⟩
attribute [local simp] fr96
theorem b157 (l:List Int) (hl:∀ x∈l,R x) (hl2:l.length≤140737488355328) (r:Nat) (hr:r≤1000) :
  ∃ x:Gl,(x.ok∧x.prog=[])∧Best Tryz.prog 157 [.sl 1 (l.map intRow),.int .i64 r] (.p (.agg (glRow x))):=by
 obtain ⟨v,⟨x,rfl,hx⟩,h⟩:=bestE (Q:=fun v=>∃ x:Gl,v=.agg (glRow x)∧x.ok∧x.prog=[]) mixed fn157 ok157 (args:=[.sl 1 (l.map intRow),.int .i64 r]) (by simp) (by
  simp -dsimp [ac157,↓ awpC_of xc157a]
  obtain ⟨w,d1,hd1,wl,p⟩:=b71n ⟨l,0⟩ ⟨hl,hl2⟩ 64 (20,0) (by decide) (by decide)
  refine call_m p (by simp) (by simp) (by simp) ?_
  simp -dsimp [↓ awpC_of xc157a]
  refine awpC_in ?_
  simp -dsimp [xc157a,↓ awpC_of xc157b]
  obtain ⟨n,d2,hd2,nl,p⟩:=b71n d1 hd1 3 (20,0) (by decide) (by decide)
  refine call_m p (by simp) (by simp) (by simp) ?_
  simp -dsimp [↓ awpC_of xc157b]
  refine loopE n (fun k (y:List (List (Int×Int×Bool))×Dr)=>fr96 r [(7,.p (.int .i64 n)),(8,.p (.int .i64 k))] (.ref (65,k) 1 0 k) (.ref (90,0) 3 0 0) 0 0 0 w (.ref (127,0) 3 0 0) y.2 [((65,k),.sl 260 1 (y.1.map conRow)),((90,0),.sl 219 3 []),((127,0),.sl 264 3 [])]) (fun k y=>y.2.ok∧y.1.length=k∧∀ x∈y.1,x.length≤5) ([],d2) (fun k y hk hQ=>?_) ⟨hd2,rfl,by simp⟩ (by simp)
  obtain ⟨con,d⟩:=y
  obtain ⟨hd,hc,hc5⟩:=hQ
  dsimp only at hd hc hc5
  by_cases h:k<n
  ·have wk:R ((k:Int)+1):=⟨by omega,by omega⟩
   simp -dsimp [h]
   obtain ⟨v1,d3,hd3,v1l,p⟩:=b71n d hd 3 (20,0) (by decide) (by decide)
   refine call_m p (by simp) (by simp) (by simp) ?_
   have q:R ((3:Int)+v1):=⟨by omega,by omega⟩
   simp -dsimp [wr q]
   obtain ⟨v2,d4,hd4,v2l,p⟩:=b71n d3 hd3 40 (20,0) (by decide) (by decide)
   refine call_m p (by simp) (by simp) (by simp) ?_
   have q2:R ((v2:Int) - 10):=⟨by omega,by omega⟩
   simp -dsimp [wr q2]
   obtain ⟨v3,d5,hd5,v3l,p⟩:=b71n d4 hd4 40 (20,0) (by decide) (by decide)
   refine call_m p (by simp) (by simp) (by simp) ?_
   have q3:R ((v3:Int) - 10):=⟨by omega,by omega⟩
   simp -dsimp [wr q3]
   obtain ⟨m,hm⟩:∃ m:Nat,(3:Int)+v1=m:=⟨3+v1,by omega⟩
   have hm5:m≤5:=by omega
   rw [hm]
   refine loopE m (fun j (y:List (Int×Int×Bool)×Dr)=>fr96 r [(7,.p (.int .i64 n)),(8,.p (.int .i64 k)),(9,.ref (60,j) 3 0 j),(10,.p (.int .i64 m)),(11,.p (.int .i64 (v2 - 10))),(12,.p (.int .i64 (v3 - 10))),(13,.p (.int .i64 j))] (.ref (65,k) 1 0 k) (.ref (90,0) 3 0 0) 0 0 0 w (.ref (127,0) 3 0 0) y.2 [((60,j),.sl 262 3 (y.1.map ptRow)),((65,k),.sl 260 1 (con.map conRow)),((90,0),.sl 219 3 []),((127,0),.sl 264 3 [])]) (fun j y=>y.2.ok∧y.1.length=j) ([],d5) (fun j y hj hQ=>?_) ⟨hd5,rfl⟩ (by simp)
   obtain ⟨y,d6⟩:=y
   obtain ⟨hd6,hy⟩:=hQ
   dsimp only at hd6 hy
   by_cases hjm:j<m
   ·have wj:R ((j:Int)+1):=⟨by omega,by omega⟩
    simp -dsimp [hjm]
    obtain ⟨u1,d7,hd7,u1l,p⟩:=b71n d6 hd6 50 (20,0) (by decide) (by decide)
    refine call_m p (by simp) (by simp) (by simp) ?_
    have e1:R ((v2:Int) - 10+u1):=⟨by omega,by omega⟩
    simp -dsimp [wr e1]
    obtain ⟨u2,d8,hd8,u2l,p⟩:=b71n d7 hd7 50 (20,0) (by decide) (by decide)
    refine call_m p (by simp) (by simp) (by simp) ?_
    have e2:R ((v3:Int) - 10+u2):=⟨by omega,by omega⟩
    simp -dsimp [wr e2]
    obtain ⟨u3,d9,hd9,u3l,p⟩:=b71n d8 hd8 3 (20,0) (by decide) (by decide)
    refine call_m p (by simp) (by simp) (by simp) ?_
    have m1:y.length+1≤maxLen:=by unfold maxLen;omega
    have m2:(y.length+1)*24≤140737488355328:=by omega
    subst hy
    simp -dsimp [wr wj,List.range,List.range.loop,m1,m2,hjm]
    refine ⟨y++[((v2:Int) - 10+u1,(v3:Int) - 10+u2,decide (0<u3))],d9,⟨hd9,by simp⟩,?_⟩
    simp [ptRow]
   ·have:j=m:=by omega
    subst this
    have ht:List.take j (y.map ptRow)=y.map ptRow:=List.take_of_length_le (by simp;omega)
    have m1:con.length+1≤maxLen:=by unfold maxLen;omega
    have m2:(con.length+1)*24≤140737488355328:=by omega
    subst hc
    simp -dsimp [hy,ht,wr wk,List.range,List.range.loop,m1,m2,h]
    refine ⟨con++[y],d6,⟨hd6,by simp,fun z hz=>?_⟩,?_⟩
    ·rcases List.mem_append.1 hz with h1 | h1
     ·exact hc5 z h1
     ·rw [List.mem_singleton.1 h1];omega
    ·simp [conRow,ptRow];try rfl
  ·have:k=n:=by omega
   subst this
   have ht:List.take k (con.map conRow)=con.map conRow:=List.take_of_length_le (by simp;omega)
   simp -dsimp [h,ht,hc,↓ awpC_of xc157b]
   refine awpC_in ?_
   simp -dsimp [xc157b,↓ awpC_of xc157c]
   have hc3:con.length≤3:=by omega
   obtain ⟨u0,d1,hd1,u0l,p⟩:=b71n d hd 2 (20,0) (by decide) (by decide)
   refine call_m p (by simp) (by simp) (by simp) ?_
   have e0:R ((1:Int)+u0):=⟨by omega,by omega⟩
   simp -dsimp [wr e0,↓ awpC_of xc157c]
   obtain ⟨n,d2,hd2,nl,p⟩:=b71n d1 hd1 3 (20,0) (by decide) (by decide)
   refine call_m p (by simp) (by simp) (by simp) ?_
   simp -dsimp [↓ awpC_of xc157c]
   refine loopE n (fun k (y:List (Int×Int×Int)×Dr)=>fr96 r [(7,.p (.int .i64 n)),(15,.p (.int .i64 (1+u0))),(16,.p (.int .i64 k))] (.p (.sl 1 (con.map conRow))) (.ref (90,k) 3 0 k) 0 0 0 w (.ref (127,0) 3 0 0) y.2 [((90,k),.sl 219 3 (y.1.map i3Row)),((127,0),.sl 264 3 [])]) (fun k y=>y.2.ok∧y.1.length=k) ([],d2) (fun k y hk hQ=>?_) ⟨hd2,rfl⟩ (by simp)
   obtain ⟨an,d3⟩:=y
   obtain ⟨hd3,ha⟩:=hQ
   dsimp only at hd3 ha
   by_cases h:k<n
   ·have wk:R ((k:Int)+1):=⟨by omega,by omega⟩
    have e1:R ((1:Int)+u0+k):=⟨by omega,by omega⟩
    simp -dsimp [h,wr e1]
    obtain ⟨u1,d4,hd4,u1l,p⟩:=b71n d3 hd3 60 (20,0) (by decide) (by decide)
    refine call_m p (by simp) (by simp) (by simp) ?_
    have e2:R ((u1:Int) - 10):=⟨by omega,by omega⟩
    simp -dsimp [wr e2,wr e1]
    obtain ⟨u2,d5,hd5,u2l,p⟩:=b71n d4 hd4 60 (20,0) (by decide) (by decide)
    refine call_m p (by simp) (by simp) (by simp) ?_
    have e3:R ((u2:Int) - 10):=⟨by omega,by omega⟩
    have m1:an.length+1≤maxLen:=by unfold maxLen;omega
    have m2:(an.length+1)*24≤140737488355328:=by omega
    subst ha
    simp -dsimp [wr e3,wr e2,wr e1,wr wk,List.range,List.range.loop,m1,m2,h]
    refine ⟨an++[((1:Int)+u0+an.length,(u1:Int) - 10,(u2:Int) - 10)],d5,⟨hd5,by simp⟩,?_⟩
    simp [i3Row]
   ·have:k=n:=by omega
    subst this
    have ht:List.take k (an.map i3Row)=an.map i3Row:=List.take_of_length_le (by simp;omega)
    simp -dsimp [h,ht,ha,↓ awpC_of xc157c]
    have ha3:an.length≤3:=by omega
    refine awpC_in (seqG1 (α:=(Int×Int×Int)×Dr) (fun y=>fr96 r [] (.p (.sl 1 (con.map conRow))) (.p (.sl 3 (an.map i3Row))) y.1.1 y.1.2.1 y.1.2.2 w (.ref (127,0) 3 0 0) y.2 [((127,0),.sl 264 3 [])]) (fun y=>y.2.ok) ?_ ?_)
    ·simp -dsimp
     obtain ⟨z0,d4,hd4,z0l,p⟩:=b71n d3 hd3 3 (20,0) (by decide) (by decide)
     refine call_m p (by simp) (by simp) (by simp) ?_
     simp -dsimp
     by_cases hz:z0=0
     ·simp -dsimp [hz]
      obtain ⟨z1,d5,hd5,z1l,p⟩:=b71n d4 hd4 3 (20,0) (by decide) (by decide)
      refine call_m p (by simp) (by simp) (by simp) ?_
      have e1:R ((1:Int)+z1):=⟨by omega,by omega⟩
      simp -dsimp [wr e1]
      obtain ⟨z2,d6,hd6,z2l,p⟩:=b71n d5 hd5 60 (20,0) (by decide) (by decide)
      refine call_m p (by simp) (by simp) (by simp) ?_
      have e2:R ((z2:Int) - 10):=⟨by omega,by omega⟩
      simp -dsimp [wr e2]
      obtain ⟨z3,d7,hd7,z3l,p⟩:=b71n d6 hd6 60 (20,0) (by decide) (by decide)
      refine call_m p (by simp) (by simp) (by simp) ?_
      have e3:R ((z3:Int) - 10):=⟨by omega,by omega⟩
      simp -dsimp [wr e3]
      exact ⟨1+z1,z2 - 10,z3 - 10,d7,hd7,by simp⟩
     ·simp -dsimp [hz]
      exact ⟨0,0,0,d4,hd4,by simp⟩
    ·rintro ⟨⟨g1,g2,g3⟩,d4⟩ hd4
     dsimp only at hd4 ⊢
     simp -dsimp
     refine loopE r (fun k (y:List (Int×Int×List (Int×Int))×Dr)=>fr96 r [(17,.p (.int .i64 k))] (.p (.sl 1 (con.map conRow))) (.p (.sl 3 (an.map i3Row))) g1 g2 g3 w (.ref (127,y.1.length) 3 0 y.1.length) y.2 [((127,y.1.length),.sl 264 3 (y.1.map dlRow))]) (fun k y=>y.2.ok∧y.1.length≤2∧DelOk y.1) ([],d4) (fun k y hk hQ=>?_) ⟨hd4,by simp,by simp [DelOk]⟩ (by simp)
     obtain ⟨dl,d5⟩:=y
     obtain ⟨hd5,hdl,hdv⟩:=hQ
     dsimp only at hd5 hdl hdv
     by_cases h:k<r∧dl.length<2
     ·obtain ⟨ha,hb⟩:=h
      have hb':(dl.length:Int)<2:=by omega
      have wk:R ((k:Int)+1):=⟨by omega,by omega⟩
      simp -dsimp [xc157d,ha,hb']
      obtain ⟨z0,d6,hd6,z0l,p⟩:=b71n d5 hd5 2 (20,0) (by decide) (by decide)
      refine call_m p (by simp) (by simp) (by simp) ?_
      simp -dsimp
      by_cases hz:z0=1
      ·simp -dsimp [hz]
       obtain ⟨b1,mv,d7,⟨hd7,hmv⟩,p⟩:=b192s d6 hd6 con an g1 k (by omega) (fun x hx=>by have:=hc5 x hx;omega) (by omega) (20,0) (.p (.int .i64 g2)) (.p (.int .i64 g3)) (.p (.int .i64 w)) (.ref (127,dl.length) 3 0 dl.length) (.p (.sl 2 []))
       refine call_m p (by simp) (by simp) (by simp) ?_
       have m1:dl.length+1≤maxLen:=by unfold maxLen;omega
       have m2:(dl.length+1)*40≤140737488355328:=by omega
       simp -dsimp [wr wk,List.range,List.range.loop,m1,m2,ha]
       refine ⟨dl++[((k:Int),b1,mv)],d7,⟨hd7,by simp;omega,fun (x:Int×Int×List (Int×Int)) hx=>?_⟩,?_⟩
       ·rcases List.mem_append.1 hx with q | q
        ·exact hdv x q
        ·rw [List.mem_singleton.1 q];exact hmv
       simp [dlRow]
      ·have hz':¬(z0:Int)=1:=by omega
       simp -dsimp [hz',wr wk,ha]
       refine ⟨dl,d6,⟨hd6,hdl,hdv⟩,?_⟩
       simp
     ·have ht:List.take dl.length (dl.map dlRow)=dl.map dlRow:=List.take_of_length_le (by simp)
      have hq:¬(k<r)∨(k<r∧¬dl.length<2):=by omega
      rcases hq with hq | ⟨hq,hq2⟩
      ·simp -dsimp [xc157d,hq,ht,retE]
       refine ⟨⟨con,an,g1,g2,g3,w,dl,[]⟩,by simp [glRow],⟨hc3,hc5,ha3,hdl,hdv,by simp⟩,rfl⟩
      ·have hq2':¬(dl.length:Int)<2:=by omega
       simp -dsimp [xc157d,hq,hq2',ht,retE]
       refine ⟨⟨con,an,g1,g2,g3,w,dl,[]⟩,by simp [glRow],⟨hc3,hc5,ha3,hdl,hdv,by simp⟩,rfl⟩)
 exact ⟨x,hx,h⟩
end
end Go.Abs.A30
namespace Go.Abs.A30
open Go Go.Abs Go.Proofs
set_option maxRecDepth 100000
set_option maxHeartbeats 4000000
set_option linter.unusedVariables false
def xc118b:AC:=by
 apply fun (y:AC) (_:@Eq AC (anS 8 [] [] (anF Tryz.prog 118 mu1 [1000000,1000001,1000002,1000003,1000004,1000005] 63 0 [0])) y)=>y
 conv=>lhs;reduce;dsimp
def xc118:AC:=(fun (z0:AC)=>by
 apply fun (y:AC) (_:@Eq AC (anS 5 [⟨8,[],[],some z0⟩] [] (anF Tryz.prog 118 mu1 [1000000,1000001,1000002,1000003,1000004,1000005] 63 0 [0])) y)=>y
 conv=>lhs;reduce;dsimp) xc118b
def ac118:AC:=(fun (z0:AC)=>by
 apply fun (y:AC) (_:@Eq AC (anD [⟨5,[],[],some z0⟩,⟨11,[.canV 3 (3,1),.freeze (3,1)],[],none⟩] (anF Tryz.prog 118 mu1 [1000000,1000001,1000002,1000003,1000004,1000005] 63 0 [0])) y)=>y
 conv=>lhs;reduce;dsimp) xc118
theorem fn118:factOf Tryz.prog 118=some (ac118.strip,[.tmp 2],54):=by kernel_rfl
theorem ok118:ac118.okAll=true:=by kernel_rfl
def xc117c:AC:=by
 apply fun (y:AC) (_:@Eq AC (anS 15 [⟨16,[],[.ownC (11,0) 3 (55,0) 215 2],none⟩,⟨23,[.canC (11,0) 3 (11,1),.freeze (11,1)],[],none⟩] [] (anF Tryz.prog 117 mu1 [1000000,1000001,1000002,1000003,1000004,1000005] 63 0 [0])) y)=>y
 conv=>lhs;reduce;dsimp
def xc117b:AC:=(fun (z0:AC)=>by
 apply fun (y:AC) (_:@Eq AC (anS 13 [⟨15,[],[],some z0⟩] [] (anF Tryz.prog 117 mu1 [1000000,1000001,1000002,1000003,1000004,1000005] 63 0 [0])) y)=>y
 conv=>lhs;reduce;dsimp) xc117c
def xc117a:AC:=(fun (z0:AC)=>by
 apply fun (y:AC) (_:@Eq AC (anS 4 [⟨13,[],[],some z0⟩] [] (anF Tryz.prog 117 mu1 [1000000,1000001,1000002,1000003,1000004,1000005] 63 0 [0])) y)=>y
 conv=>lhs;reduce;dsimp) xc117b
def ac117:AC:=(fun (z0:AC)=>by
 apply fun (y:AC) (_:@Eq AC (anD [⟨4,[],[],some z0⟩,⟨26,[.canV 7 (7,1),.freeze (7,1)],[],none⟩] (anF Tryz.prog 117 mu1 [1000000,1000001,1000002,1000003,1000004,1000005] 63 0 [0])) y)=>y
 conv=>lhs;reduce;dsimp) xc117a
theorem fn117:factOf Tryz.prog 117=some (ac117.strip,[.tmp 6],65):=by kernel_rfl
theorem ok117:ac117.okAll=true:=by kernel_rfl
end Go.Abs.A30
namespace Go.Abs.A30
open Go Go.Abs Go.Proofs
set_option maxRecDepth 100000
set_option linter.unusedVariables false
set_option linter.unusedSimpArgs false
attribute [local simp ↓] awp_skip awp_seq awp_cond awp_block awp_exit awp_ret awp_reg awp_draw awp_ghost awp_loop awp_rfun awpR_nil awpR_cons awpX_nil awpX_0 awpX_1 awpX_2 awpI_eq awpI_t awpI_f awpStep_eq
attribute [local simp] condL_true condL_false condL_dec evDel evV evN evS evA initFr Ghost.app Fr.var Fr.blk Fr.ff FF.val Abs.look Fr.app Fr.erase Fr.noSlot AV.noSlot AV.noSlotL Blk.noSlot Fr.spoken AV.fz AV.fzL Blk.fz binV binI shI binS unV fillA FF.parts FF.vals headO intO boundO lenV scalarEq leavesEq AV.aggc AV.cells FF.read FF.rows AV.one PV.one chunk freshB newS pickV retK evRs evRl evR resOf mkTup mkAgg allP cloOf okP_nil okX_p okX okP addN Del.noSlot Del.owners Rnd reify_p normM insM Fr.back Fr.backV Fr.setPs normV insV
attribute [local simp] renF Fr.trim Blk.trim AV.rn AV.rnL Blk.rn AV.among AV.amongL Blk.among okF retM fixS BIG initFF
attribute [local simp] FF.reify FF.reifyL PV.flat
section
set_option maxHeartbeats 2000000
theorem pool_get {k:Nat} (hk:k<20):∃ b:UInt8,(⟨#[64,65,66,96,97,104,105,106,128,144,152,153,154,184,185,192,200,32,48,33]⟩:ByteArray)[k]?=some b:=
 ⟨_,getElem?_pos _ k hk⟩
theorem wu8 (b:UInt8):IntKind.i64.wrap (b.toNat:Int)=b.toNat:=wr ⟨by omega,by have:=b.toNat_lt;omega⟩
def PairsOk:List (Int×Int×Int)→Prop
 | []=>True
 | x :: l=>(0≤x.1∧x.1≤255∧0≤x.2.1∧x.2.1≤255∧-25≤x.2.2∧x.2.2≤14)∧(∀ y∈l,x.1<y.1)∧PairsOk l
theorem PairsOk.snoc {l:List (Int×Int×Int)} {x:Int×Int×Int} (h:PairsOk l) (h1:0≤x.1∧x.1≤255∧0≤x.2.1∧x.2.1≤255∧-25≤x.2.2∧x.2.2≤14) (h2:∀ y∈l,y.1<x.1):PairsOk (l++[x]):=by
 induction l with
 | nil=>exact ⟨h1,by simp,trivial⟩
 | cons y l ih=>
  refine ⟨h.1,fun z hz=>?_,ih h.2.2 fun z hz=>h2 z (by simp [hz])⟩
  rcases List.mem_append.1 hz with g | g
  ·exact h.2.1 z g
  ·rw [List.mem_singleton.1 g];exact h2 y (by simp)
theorem PairsOk.last {l:List (Int×Int×Int)} {x:Int×Int×Int} (h:PairsOk (l++[x])):∀ y∈l++[x],y.1≤x.1:=by
 induction l with
 | nil=>intro y hy;simp at hy;rw [hy];exact Int.le_refl _
 | cons z l ih=>
  intro y hy
  rcases List.mem_cons.1 hy with rfl | hy
  ·exact Int.le_of_lt (h.2.1 x (by simp))
  ·exact ih h.2.2 y hy
theorem b118' (d0:Dr) (h0:d0.ok):∃ x:List (Int×Int×Int)×Dr,(x.2.ok∧x.1.length≤4∧PairsOk x.1) ∧
  BestF Tryz.prog 118 [((BIG,0),.box [.p (.sl 1 (d0.l.map intRow)),.p (.int .i64 d0.a)])] [.ptr (BIG,0) 2 0 0] [(BIG,0)] (.p (.sl 3 (x.1.map i3Row))) [((BIG,0),.box [.p (.sl 1 (x.2.l.map intRow)),.p (.int .i64 x.2.a)])]:=by
 refine bestEF mixed fn118 ok118 (by simp) (by simp) ?_
 simp -dsimp [ac118]
 obtain ⟨n,d1,hd1,nl,p⟩:=b71n d0 h0 5 (1000000,0) (by decide) (by decide)
 refine call_m p (by simp) (by simp) (by simp) ?_
 simp -dsimp
 refine loopE 20 (fun k (y:List (Int×Int×Int)×Dr)=>⟨[(0,.ptr (1000000,0) 2 0 0),(3,.ref (52,y.1.length) 3 0 y.1.length),(4,.p (.int .i64 n)),(5,.p (.int .i64 k))],[((52,y.1.length),.sl 131 3 (y.1.map i3Row)),((1000000,0),.box [.p (.sl 1 (y.2.l.map intRow)),.p (.int .i64 y.2.a)])]⟩) (fun k y=>y.2.ok∧y.1.length≤n∧PairsOk y.1) ([],d1) (fun k y hk hQ=>?_) ⟨hd1,by simp,trivial⟩ (by simp)
 obtain ⟨y,d⟩:=y
 obtain ⟨hd,hy,hp⟩:=hQ
 dsimp only at hd hy hp
 by_cases h:k<20∧y.length<n
 ·obtain ⟨ha,hb⟩:=h
  have ha':(k:Int)<20:=by omega
  have wk:R ((k:Int)+1):=⟨by omega,by omega⟩
  obtain ⟨b,eb⟩:=pool_get ha
  have hb255:=b.toNat_lt
  simp -dsimp [xc118,ha',hb,eb,wu8,↓ awpC_of xc118b]
  refine awpC_in (seqG1 (fun (z:Bool×Dr)=>⟨[(0,.ptr (1000000,0) 2 0 0),(3,.ref (52,y.length) 3 0 y.length),(4,.p (.int .i64 n)),(5,.p (.int .i64 k)),(6,.p (.int .i64 b.toNat)),(40,.p (.bool z.1))],[((52,y.length),.sl 131 3 (y.map i3Row)),((1000000,0),.box [.p (.sl 1 (z.2.l.map intRow)),.p (.int .i64 z.2.a)])]⟩) (fun z=>z.2.ok∧(z.1=true→∀ x∈y,x.1<(b.toNat:Int))) ?_ ?_)
  ·simp -dsimp
   obtain ⟨q,d1,hd1,ql,p⟩:=b71n d hd 3 (1000000,0) (by decide) (by decide)
   refine call_m p (by simp) (by simp) (by simp) ?_
   rcases List.eq_nil_or_concat y with e0 | ⟨y',z,e0⟩
   ·subst e0
    by_cases hq:q=0
    ·simp -dsimp [hq]
     exact ⟨d1,hd1,rfl,rfl⟩
    ·simp -dsimp [hq]
     exact ⟨d1,hd1,rfl,rfl⟩
   ·rw [List.concat_eq_append] at e0
    subst e0
    have hl:=hp.last
    simp only [List.length_append,List.length_cons,List.length_nil] at hy
    have wy:R ((y'.length:Int)):=⟨by omega,by omega⟩
    have hl1:(y'.length:Int)<y'.length+1:=by omega
    have hn0:¬((y'.length:Int)+1=0):=by omega
    by_cases hq:q=0
    ·by_cases hz:z.1<(b.toNat:Int)
     ·simp -dsimp [hq,wr wy,hz,i3Row,hn0,hl1]
      refine ⟨d1,⟨hd1,fun a b c hx=>?_⟩,rfl,rfl⟩
      have:=hl (a,b,c) (by simpa using hx)
      dsimp only at this
      omega
     ·simp -dsimp [hq,wr wy,hz,i3Row,hn0,hl1]
      exact ⟨d1,hd1,rfl,rfl⟩
    ·simp -dsimp [hq,hn0,hl1]
     exact ⟨d1,hd1,rfl,rfl⟩
  ·rintro ⟨q,d1⟩ ⟨hd1,hq⟩
   dsimp only at hd1 hq ⊢
   cases q with
   | false=>
    simp -dsimp [wr wk]
    exact ⟨ha,y,d1,⟨hd1,hy,hp⟩,rfl,⟨rfl,rfl⟩,rfl,rfl⟩
   | true=>
    simp -dsimp
    obtain ⟨u,d2,hd2,ul,p⟩:=b71n d1 hd1 20 (1000000,0) (by decide) (by decide)
    obtain ⟨c,ec⟩:=pool_get (show u<20 by omega)
    have hc255:=c.toNat_lt
    refine call_m p (by simp) (by simp) (by simp) ?_
    simp -dsimp [ec,wu8]
    obtain ⟨u2,d3,hd3,u2l,p⟩:=b71n d2 hd2 40 (1000000,0) (by decide) (by decide)
    refine call_m p (by simp) (by simp) (by simp) ?_
    have e1:R ((u2:Int) - 25):=⟨by omega,by omega⟩
    have m1:y.length+1≤maxLen:=by unfold maxLen;omega
    have m2:(y.length+1)*24≤140737488355328:=by omega
    simp -dsimp [ec,wu8,wr e1,wr wk,List.range,List.range.loop,m1,m2]
    refine ⟨ha,y++[((b.toNat:Int),(c.toNat:Int),(u2:Int) - 25)],d3,⟨hd3,by simp;omega,hp.snoc (by dsimp only;omega) (hq rfl)⟩,?_⟩
    simp [i3Row]
 ·have ht:List.take y.length (y.map i3Row)=y.map i3Row:=List.take_of_length_le (by simp)
  have hq:¬(k<20)∨(k<20∧¬y.length<n):=by omega
  rcases hq with hq | ⟨hq,hq2⟩
  ·have hq':¬(k:Int)<20:=by omega
   simp -dsimp [xc118,hq',ht,retEF]
   exact ⟨y,rfl,d,⟨rfl,rfl⟩,hd,by omega,hp⟩
  ·have hq':(k:Int)<20:=by omega
   simp -dsimp [xc118,hq',hq2,ht,retEF]
   exact ⟨y,rfl,d,⟨rfl,rfl⟩,hd,by omega,hp⟩
theorem b118 (d0:Dr) (h0:d0.ok) (s:Slot):∃ (x:List (Int×Int×Int)) (d:Dr),d.ok∧(x.length≤4∧PairsOk x) ∧
  BestF Tryz.prog 118 [(s,.box [.p (.sl 1 (d0.l.map intRow)),.p (.int .i64 d0.a)])] [.ptr s 2 0 0] [s] (.p (.sl 3 (x.map i3Row))) [(s,.box [.p (.sl 1 (d.l.map intRow)),.p (.int .i64 d.a)])]:=by
 obtain ⟨⟨x,d⟩,⟨h1,h2⟩,h3⟩:=b118' d0 h0
 exact ⟨x,d,h1,h2,BestF.one h3 s rfl rfl⟩
end
section
set_option maxHeartbeats 2000000
structure Ch where
 code:Int
 glyph:Int
 width:Int
 wide:List (Int×Int)
def chRow (x:Ch):List PV:=[.int .i64 x.code,.int .i64 x.glyph,.int .i64 x.width,.sl 2 (x.wide.map mvRow)]
def Ch.ok (many regions:Int) (x:Ch):Prop:=0≤x.code∧x.code≤255∧0≤x.glyph∧x.glyph<many∧8≤x.width∧x.width≤57∧(∀ y∈x.wide,0≤y.1∧y.1<regions∧-15≤y.2∧y.2≤24)∧x.wide.Pairwise (fun a b=>a.1<b.1)
def ChsOk (many regions:Int) (l:List Ch):Prop:=(∀ x∈l,x.ok many regions)∧l.Pairwise (fun a b=>a.code<b.code)
theorem b117' (d0:Dr) (h0:d0.ok) (many regions:Nat) (hm:1≤many) (hm2:many≤1000) (hr:regions≤1000):∃ x:List Ch×Dr,(x.2.ok∧x.1.length≤256∧ChsOk many regions x.1) ∧
  BestF Tryz.prog 117 [((BIG,0),.box [.p (.sl 1 (d0.l.map intRow)),.p (.int .i64 d0.a)])] [.ptr (BIG,0) 2 0 0,.p (.int .i64 many),.p (.int .i64 regions)] [(BIG,0)] (.p (.sl 4 (x.1.map chRow))) [((BIG,0),.box [.p (.sl 1 (x.2.l.map intRow)),.p (.int .i64 x.2.a)])]:=by
 refine bestEF mixed fn117 ok117 (by simp) (by simp) ?_
 simp -dsimp [ac117]
 refine loopE 256 (fun k (y:(Nat×List Ch)×Dr)=>⟨[(0,.ptr (1000000,0) 2 0 0),(1,.p (.int .i64 many)),(2,.p (.int .i64 regions)),(7,.ref (63,y.1.1) 4 0 y.1.2.length),(8,.p (.int .i64 k))],[((63,y.1.1),.sl 56 4 (y.1.2.map chRow)),((1000000,0),.box [.p (.sl 1 (y.2.l.map intRow)),.p (.int .i64 y.2.a)])]⟩) (fun k y=>y.2.ok∧y.1.2.length≤k∧ChsOk many regions y.1.2∧∀ x∈y.1.2,x.code<k) ((0,[]),d0) (fun k y hk hQ=>?_) ⟨h0,by simp,⟨by simp,.nil⟩,by simp⟩ (by simp)
 obtain ⟨⟨cn,y⟩,d⟩:=y
 obtain ⟨hd,hy,hc,hl⟩:=hQ
 dsimp only at hd hy hc hl
 by_cases h:k<256
 ·have wk:R ((k:Int)+1):=⟨by omega,by omega⟩
  have ha':(k:Int)<256:=by omega
  simp -dsimp [xc117a,ha']
  refine loopE 20 (fun j (z:Bool)=>⟨[(0,.ptr (1000000,0) 2 0 0),(1,.p (.int .i64 many)),(2,.p (.int .i64 regions)),(7,.ref (63,cn) 4 0 y.length),(8,.p (.int .i64 k)),(9,.p (.bool z)),(10,.p (.int .i64 j))],[((63,cn),.sl 56 4 (y.map chRow)),((1000000,0),.box [.p (.sl 1 (d.l.map intRow)),.p (.int .i64 d.a)])]⟩) (fun _ _=>True) false (fun j z hj _=>?_) trivial (by simp)
  by_cases hj2:j<20
  ·obtain ⟨b,eb⟩:=pool_get hj2
   have hb255:=b.toNat_lt
   have hj':(j:Int)<20:=by omega
   have wj:R ((j:Int)+1):=⟨by omega,by omega⟩
   cases z with
   | true=>simp -dsimp [hj',wr wj,hj2]
   | false=>simp -dsimp [hj',eb,wu8,wr wj,hj2]
  ·have hj':¬(j:Int)<20:=by omega
   simp -dsimp [hj',↓ awpC_of xc117b]
   refine awpC_in ?_
   cases z with
   | false=>
    simp -dsimp [xc117b,wr wk]
    exact ⟨h,cn,y,d,⟨hd,by omega,hc,fun x hx=>by have:=hl x hx;omega⟩,⟨rfl,rfl⟩,⟨rfl,rfl⟩,rfl,rfl⟩
   | true=>
    simp -dsimp [xc117b,↓ awpC_of xc117c]
    refine awpC_in ?_
    simp -dsimp [xc117c]
    obtain ⟨gl,d1,hd1,gll,p⟩:=b71n d hd many (1000000,0) (by omega) (by omega)
    refine call_m p (by simp) (by simp) (by simp) ?_
    simp -dsimp
    obtain ⟨wd,d2,hd2,wdl,p⟩:=b71n d1 hd1 50 (1000000,0) (by decide) (by decide)
    refine call_m p (by simp) (by simp) (by simp) ?_
    have e1:R ((8:Int)+wd):=⟨by omega,by omega⟩
    simp -dsimp [wr e1]
    refine loopE regions (fun i (z:List (Int×Int)×Dr)=>⟨[(0,.ptr (1000000,0) 2 0 0),(1,.p (.int .i64 many)),(2,.p (.int .i64 regions)),(7,.ref (63,cn) 4 0 y.length),(8,.p (.int .i64 k)),(11,.ptr (11,0) 4 0 0),(12,.p (.int .i64 i))],[((11,0),.box [.p (.int .i64 k),.p (.int .i64 gl),.p (.int .i64 (8+wd)),.ref (55,z.1.length) 2 0 z.1.length]),((55,z.1.length),.sl 215 2 (z.1.map mvRow)),((63,cn),.sl 56 4 (y.map chRow)),((1000000,0),.box [.p (.sl 1 (z.2.l.map intRow)),.p (.int .i64 z.2.a)])]⟩) (fun i z=>z.2.ok∧z.1.length≤i∧(∀ x∈z.1,0≤x.1∧x.1<i∧-15≤x.2∧x.2≤24)∧z.1.Pairwise (fun a b=>a.1<b.1)) ([],d2) (fun i z hi hQ=>?_) ⟨hd2,by simp,by simp,.nil⟩ (by simp)
    obtain ⟨z,d3⟩:=z
    obtain ⟨hd3,hz,hz1,hz2⟩:=hQ
    dsimp only at hd3 hz hz1 hz2
    by_cases hir:i<regions
    ·have wi:R ((i:Int)+1):=⟨by omega,by omega⟩
     simp -dsimp [hir]
     obtain ⟨u,d4,hd4,ul,p⟩:=b71n d3 hd3 4 (1000000,0) (by decide) (by decide)
     refine call_m p (by simp) (by simp) (by simp) ?_
     simp -dsimp
     by_cases hu:u=1
     ·simp -dsimp [hu]
      obtain ⟨v,d5,hd5,vl,p⟩:=b71n d4 hd4 40 (1000000,0) (by decide) (by decide)
      refine call_m p (by simp) (by simp) (by simp) ?_
      have e2:R ((v:Int) - 15):=⟨by omega,by omega⟩
      have m1:z.length+1≤maxLen:=by unfold maxLen;omega
      have m2:(z.length+1)*16≤140737488355328:=by omega
      simp -dsimp [wr e2,wr wi,List.range,List.range.loop,m1,m2,hir]
      refine ⟨z++[((i:Int),(v:Int) - 15)],d5,⟨hd5,by simp;omega,fun x1 x2 hx=>?_,?_⟩,?_⟩
      ·rcases List.mem_append.1 hx with g | g
       ·have:=hz1 (x1,x2) g;dsimp only at this;omega
       ·have:=List.mem_singleton.1 g;simp only [Prod.mk.injEq] at this;omega
      ·rw [List.pairwise_append]
       refine ⟨hz2,by simp,fun a ha b hb=>?_⟩
       rw [List.mem_singleton.1 hb]
       exact (hz1 a ha).2.1
      ·simp [mvRow]
     ·have hu':¬(u:Int)=1:=by omega
      simp -dsimp [hu',wr wi,hir]
      refine ⟨z,d4,⟨hd4,by omega,fun x1 x2 hx=>by have:=hz1 (x1,x2) hx;dsimp only at this;omega,hz2⟩,?_⟩
      simp
    ·have:i=regions:=by omega
     subst this
     have ht:List.take z.length (z.map mvRow)=z.map mvRow:=List.take_of_length_le (by simp)
     simp -dsimp [hir,ht]
     obtain ⟨u,d4,hd4,ul,p⟩:=b71n d3 hd3 12 (1000000,0) (by decide) (by decide)
     refine call_m p (by simp) (by simp) (by simp) ?_
     simp -dsimp
     by_cases hu:(u:Int)<11
     ·have hu2:¬(11:Int)≤u:=by omega
      have m1:y.length+1≤maxLen:=by unfold maxLen;omega
      have m2:(y.length+1)*48≤140737488355328:=by omega
      simp -dsimp [hu,hu2,wr wk,List.range,List.range.loop,m1,m2]
      refine ⟨fun a b _ q1 q2 _=>by subst q1 q2;right;simp,h,cn+1,y++[⟨k,gl,8+wd,z⟩],d4,⟨hd4,by simp;omega,⟨fun x hx=>?_,?_⟩,fun x hx=>?_⟩,?_⟩
      ·rcases List.mem_append.1 hx with g | g
       ·exact hc.1 x g
       ·rw [List.mem_singleton.1 g]
        exact ⟨by dsimp only;omega,by dsimp only;omega,by dsimp only;omega,by dsimp only;omega,by dsimp only;omega,by dsimp only;omega,hz1,hz2⟩
      ·rw [List.pairwise_append]
       refine ⟨hc.2,by simp,fun a ha b hb=>?_⟩
       rw [List.mem_singleton.1 hb]
       exact hl a ha
      ·rcases List.mem_append.1 hx with g | g
       ·have:=hl x g;omega
       ·rw [List.mem_singleton.1 g];dsimp only;omega
      ·simp [chRow]
     ·have hu2:(11:Int)≤u:=by omega
      simp -dsimp [hu,hu2,wr wk]
      exact ⟨h,cn,y,d4,⟨hd4,by omega,hc,fun x hx=>by have:=hl x hx;omega⟩,⟨rfl,rfl⟩,⟨rfl,rfl⟩,rfl,rfl⟩
 ·have:k=256:=by omega
  subst this
  have ht:List.take y.length (y.map chRow)=y.map chRow:=List.take_of_length_le (by simp)
  simp -dsimp [xc117a,ht,retEF]
  exact ⟨y,rfl,d,⟨rfl,rfl⟩,hd,hy,hc⟩
theorem b117 (d0:Dr) (h0:d0.ok) (many regions:Nat) (hm:1≤many) (hm2:many≤1000) (hr:regions≤1000) (s:Slot):∃ (x:List Ch) (d:Dr),d.ok∧(x.length≤256∧ChsOk many regions x) ∧
  BestF Tryz.prog 117 [(s,.box [.p (.sl 1 (d0.l.map intRow)),.p (.int .i64 d0.a)])] [.ptr s 2 0 0,.p (.int .i64 many),.p (.int .i64 regions)] [s] (.p (.sl 4 (x.map chRow))) [(s,.box [.p (.sl 1 (d.l.map intRow)),.p (.int .i64 d.a)])]:=by
 obtain ⟨⟨x,d⟩,⟨h1,h2⟩,h3⟩:=b117' d0 h0 many regions hm hm2 hr
 exact ⟨x,d,h1,h2,BestF.one h3 s rfl rfl⟩
end
end Go.Abs.A30
namespace Go.Abs.A30
open Go Go.Abs Go.Proofs
set_option maxRecDepth 100000
set_option maxHeartbeats 4000000
set_option linter.unusedVariables false
def ac246:AC:=by
 apply fun (y:AC) (_:@Eq AC (anF Tryz.prog 246 mu1 [] 0 0 []) y)=>y
 conv=>lhs;reduce;dsimp
theorem fn246:factOf Tryz.prog 246=some (ac246.strip,[.tmp 2],23):=by kernel_rfl
theorem ok246:ac246.okAll=true:=by kernel_rfl
def ac265:AC:=by
 apply fun (y:AC) (_:@Eq AC (anF Tryz.prog 265 mu1 [] 0 0 []) y)=>y
 conv=>lhs;reduce;dsimp
theorem fn265:factOf Tryz.prog 265=some (ac265.strip,[.tmp 2],17):=by kernel_rfl
theorem ok265:ac265.okAll=true:=by kernel_rfl
def xc245:AC:=by
 apply fun (y:AC) (_:@Eq AC (anS 1 [] [] (anF Tryz.prog 245 mu1 [999980,999981,999982,999983,999990,999991,999992,999993,1000000,1000001,1000002,1000003,1000004,1000005] 16128 255 [0])) y)=>y
 conv=>lhs;reduce;dsimp
def ac245:AC:=(fun (z0:AC)=>by
 apply fun (y:AC) (_:@Eq AC (anD [⟨1,[.canC (1000000,0) 0 (999980,1),.canC (1000000,0) 3 (999981,1)],[],some z0⟩] (anF Tryz.prog 245 mu1 [999980,999981,999982,999983,999990,999991,999992,999993,1000000,1000001,1000002,1000003,1000004,1000005] 16128 255 [0])) y)=>y
 conv=>lhs;reduce;dsimp) xc245
theorem fn245:factOf Tryz.prog 245=some (ac245.strip,[],31):=by kernel_rfl
theorem ok245:ac245.okAll=true:=by kernel_rfl
def ac247:AC:=by
 apply fun (y:AC) (_:@Eq AC (anD [⟨1,[],[.canC (1000000,0) 3 (999981,1),.canC (1000000,0) 0 (999980,1)],none⟩,⟨4,[.canC (1000000,0) 0 (999990,1),.canC (1000000,0) 3 (999991,1)],[],none⟩,⟨5,[],[.canC (1000000,0) 3 (999981,1),.canC (1000000,0) 0 (999980,1)],none⟩] (anF Tryz.prog 247 mu1 [999980,999981,999982,999983,999990,999991,999992,999993,1000000,1000001,1000002,1000003,1000004,1000005] 16128 255 [0])) y)=>y
 conv=>lhs;reduce;dsimp
theorem fn247:factOf Tryz.prog 247=some (ac247.strip,[],20):=by kernel_rfl
theorem ok247:ac247.okAll=true:=by kernel_rfl
def ac221:AC:=by
 apply fun (y:AC) (_:@Eq AC (anD [⟨3,[.canC (1000000,0) 0 (999990,1),.canC (1000000,0) 3 (999991,1)],[],none⟩] (anF Tryz.prog 221 mu1 [999980,999981,999982,999983,999990,999991,999992,999993,1000000,1000001,1000002,1000003,1000004,1000005] 16128 255 [0])) y)=>y
 conv=>lhs;reduce;dsimp
theorem fn221:factOf Tryz.prog 221=some (ac221.strip,[],29):=by kernel_rfl
theorem ok221:ac221.okAll=true:=by kernel_rfl
def xc244r:AC:=by
 apply fun (y:AC) (_:@Eq AC (anS 3 [] [.canC (1000000,0) 3 (999981,1),.canC (1000000,0) 0 (999980,1)] (anF Tryz.prog 244 mu1 [999980,999981,999982,999983,999990,999991,999992,999993,1000000,1000001,1000002,1000003,1000004,1000005] 16128 255 [0])) y)=>y
 conv=>lhs;reduce;dsimp
def xc244g:AC:=by
 apply fun (y:AC) (_:@Eq AC (anS 17 [] [] (anF Tryz.prog 244 mu1 [999980,999981,999982,999983,999990,999991,999992,999993,1000000,1000001,1000002,1000003,1000004,1000005] 16128 255 [0])) y)=>y
 conv=>lhs;reduce;dsimp
def xc244f:AC:=(fun (z0:AC)=>by
 apply fun (y:AC) (_:@Eq AC (anS 11 [⟨14,[.canC (1000000,0) 0 (999990,1),.canC (1000000,0) 3 (999991,1)],[],none⟩,⟨15,[.canC (1000000,0) 0 (999990,1),.canC (1000000,0) 3 (999991,1)],[],none⟩,⟨16,[.canC (1000000,0) 0 (999990,1),.canC (1000000,0) 3 (999991,1)],[],none⟩,⟨17,[.canC (1000000,0) 0 (999980,1),.canC (1000000,0) 3 (999981,0)],[],some z0⟩] [] (anF Tryz.prog 244 mu1 [999980,999981,999982,999983,999990,999991,999992,999993,1000000,1000001,1000002,1000003,1000004,1000005] 16128 255 [0])) y)=>y
 conv=>lhs;reduce;dsimp) xc244g
def xc244e:AC:=(fun (z0:AC)=>by
 apply fun (y:AC) (_:@Eq AC (anS 10 [⟨11,[.canC (1000000,0) 0 (999990,1),.canC (1000000,0) 3 (999991,1)],[],some z0⟩] [] (anF Tryz.prog 244 mu1 [999980,999981,999982,999983,999990,999991,999992,999993,1000000,1000001,1000002,1000003,1000004,1000005] 16128 255 [0])) y)=>y
 conv=>lhs;reduce;dsimp) xc244f
def xc244d:AC:=(fun (z0:AC)=>by
 apply fun (y:AC) (_:@Eq AC (anS 8 [⟨10,[.canC (1000000,0) 0 (999990,1),.canC (1000000,0) 3 (999991,1)],[],some z0⟩] [] (anF Tryz.prog 244 mu1 [999980,999981,999982,999983,999990,999991,999992,999993,1000000,1000001,1000002,1000003,1000004,1000005] 16128 255 [0])) y)=>y
 conv=>lhs;reduce;dsimp) xc244e
def ac244:AC:=(fun (z0:AC)=>fun (z1:AC)=>by
 apply fun (y:AC) (_:@Eq AC (anD [⟨3,[],[],some z0⟩,⟨7,[],[.canC (1000000,0) 3 (999981,1),.canC (1000000,0) 0 (999980,1)],none⟩,⟨8,[],[],some z1⟩] (anF Tryz.prog 244 mu1 [999980,999981,999982,999983,999990,999991,999992,999993,1000000,1000001,1000002,1000003,1000004,1000005] 16128 255 [0])) y)=>y
 conv=>lhs;reduce;dsimp) xc244r xc244d
theorem fn244:factOf Tryz.prog 244=some (ac244.strip,[],98):=by kernel_rfl
theorem ok244:ac244.okAll=true:=by kernel_rfl
def xc220e:AC:=by
 apply fun (y:AC) (_:@Eq AC (anS 29 [] [] (anF Tryz.prog 220 mu1 [999980,999981,999982,999983,999990,999991,999992,999993,1000000,1000001,1000002,1000003,1000004,1000005] 16128 255 [0])) y)=>y
 conv=>lhs;reduce;dsimp
def xc220g:AC:=(fun (z0:AC)=>by
 apply fun (y:AC) (_:@Eq AC (anS 19 [⟨29,[],[.canC (1000000,0) 3 (999991,1),.canC (1000000,0) 0 (999990,1)],some z0⟩] [] (anF Tryz.prog 220 mu1 [999980,999981,999982,999983,999990,999991,999992,999993,1000000,1000001,1000002,1000003,1000004,1000005] 16128 255 [0])) y)=>y
 conv=>lhs;reduce;dsimp) xc220e
def xc220d:AC:=(fun (z0:AC)=>by
 apply fun (y:AC) (_:@Eq AC (anS 18 [⟨19,[],[],some z0⟩] [] (anF Tryz.prog 220 mu1 [999980,999981,999982,999983,999990,999991,999992,999993,1000000,1000001,1000002,1000003,1000004,1000005] 16128 255 [0])) y)=>y
 conv=>lhs;reduce;dsimp) xc220g
def xc220c:AC:=(fun (z0:AC)=>by
 apply fun (y:AC) (_:@Eq AC (anS 8 [⟨10,[],[.canC (1000000,0) 3 (999991,1),.canC (1000000,0) 0 (999990,1)],none⟩,⟨12,[],[.canC (1000000,0) 3 (999991,1),.canC (1000000,0) 0 (999990,1)],none⟩,⟨15,[],[.canC (1000000,0) 3 (999981,1),.canC (1000000,0) 0 (999980,1)],none⟩,⟨18,[],[],some z0⟩] [] (anF Tryz.prog 220 mu1 [999980,999981,999982,999983,999990,999991,999992,999993,1000000,1000001,1000002,1000003,1000004,1000005] 16128 255 [0])) y)=>y
 conv=>lhs;reduce;dsimp) xc220d
def xc220f:AC:=(fun (z0:AC)=>by
 apply fun (y:AC) (_:@Eq AC (anS 6 [⟨8,[],[],some z0⟩] [] (anF Tryz.prog 220 mu1 [999980,999981,999982,999983,999990,999991,999992,999993,1000000,1000001,1000002,1000003,1000004,1000005] 16128 255 [0])) y)=>y
 conv=>lhs;reduce;dsimp) xc220c
def xc220b:AC:=(fun (z0:AC)=>by
 apply fun (y:AC) (_:@Eq AC (anS 5 [⟨6,[],[],some z0⟩] [] (anF Tryz.prog 220 mu1 [999980,999981,999982,999983,999990,999991,999992,999993,1000000,1000001,1000002,1000003,1000004,1000005] 16128 255 [0])) y)=>y
 conv=>lhs;reduce;dsimp) xc220f
def ac220:AC:=(fun (z0:AC)=>by
 apply fun (y:AC) (_:@Eq AC (anD [⟨5,[],[],some z0⟩] (anF Tryz.prog 220 mu1 [999980,999981,999982,999983,999990,999991,999992,999993,1000000,1000001,1000002,1000003,1000004,1000005] 16128 255 [0])) y)=>y
 conv=>lhs;reduce;dsimp) xc220b
theorem fn220:factOf Tryz.prog 220=some (ac220.strip,[],117):=by kernel_rfl
theorem ok220:ac220.okAll=true:=by kernel_rfl
end Go.Abs.A30
namespace Go.Abs.A30
open Go Go.Abs Go.Proofs
set_option maxRecDepth 100000
set_option linter.unusedVariables false
set_option linter.unusedSimpArgs false
attribute [local simp ↓] awp_skip awp_seq awp_cond awp_block awp_exit awp_ret awp_reg awp_draw awp_ghost awp_loop awp_rfun awpR_nil awpR_cons awpX_nil awpX_0 awpX_1 awpX_2 awpI_eq awpI_t awpI_f awpStep_eq
attribute [local simp] condL_true condL_false condL_dec evDel evV evN evS evA initFr Ghost.app Fr.var Fr.blk Fr.ff FF.val Abs.look Fr.app Fr.erase Fr.noSlot AV.noSlot AV.noSlotL Blk.noSlot Fr.spoken AV.fz AV.fzL Blk.fz binV binI shI binS unV fillA FF.parts FF.vals headO intO boundO lenV scalarEq leavesEq AV.aggc AV.cells FF.read FF.rows AV.one PV.one chunk freshB newS pickV retK evRs evRl evR resOf mkTup mkAgg allP cloOf okP_nil okX_p okX okP addN Del.noSlot Del.owners Rnd reify_p normM insM Fr.back Fr.backV Fr.setPs normV insV
attribute [local simp] renF Fr.trim Blk.trim AV.rn AV.rnL Blk.rn AV.among AV.amongL Blk.among okF retM fixS BIG initFF
attribute [local simp] FF.reify FF.reifyL PV.flat
section
def takesF (n:Int):Nat:=if n=4∨n=5∨n=6∨n=7∨n=9∨n=10∨n=11∨n=20 then 2 else if n=2∨n=3∨n=8∨n=12∨n=17∨n=18∨n=19∨n=22∨n=23 then 1 else 0
def givesF (n:Int):Nat:=if n=3∨n=4 then 2 else if n=2∨n=17∨n=18∨n=20∨n=22∨n=23∨n=24∨n=25∨n=26 then 0 else 1
theorem takesF_le (n:Int):takesF n≤2:=by unfold takesF;split;omega;split<;>omega
theorem givesF_le (n:Int):givesF n≤2:=by unfold givesF;split;omega;split<;>omega
theorem b246 (n:Int):Best Tryz.prog 246 [.int .i64 n] (.p (.int .i64 (takesF n))):=by
 refine best mixed fn246 ok246 (by simp) ?_
 by_cases h:2≤n∧n≤23
 ·obtain ⟨h1,h2⟩:=h
  have:n=2∨n=3∨n=4∨n=5∨n=6∨n=7∨n=8∨n=9∨n=10∨n=11∨n=12∨n=13∨n=14∨n=15∨n=16∨n=17∨n=18∨n=19∨n=20∨n=21∨n=22∨n=23:=by omega
  rcases this with rfl | rfl | rfl | rfl | rfl | rfl | rfl | rfl | rfl | rfl | rfl | rfl | rfl | rfl | rfl | rfl | rfl | rfl | rfl | rfl | rfl | rfl
  all_goals simp -dsimp [ac246,takesF]
 ·have g:∀ m:Int,2≤m→m≤23→n≠m:=fun m h1 h2 e=>h (by omega)
  simp -dsimp [ac246,takesF,g]
theorem b265 (n:Int):Best Tryz.prog 265 [.int .i64 n] (.p (.int .i64 (givesF n))):=by
 refine best mixed fn265 ok265 (by simp) ?_
 by_cases h:2≤n∧n≤26
 ·obtain ⟨h1,h2⟩:=h
  have:n=2∨n=3∨n=4∨n=5∨n=6∨n=7∨n=8∨n=9∨n=10∨n=11∨n=12∨n=13∨n=14∨n=15∨n=16∨n=17∨n=18∨n=19∨n=20∨n=21∨n=22∨n=23∨n=24∨n=25∨n=26:=by omega
  rcases this with rfl | rfl | rfl | rfl | rfl | rfl | rfl | rfl | rfl | rfl | rfl | rfl | rfl | rfl | rfl | rfl | rfl | rfl | rfl | rfl | rfl | rfl | rfl | rfl | rfl
  all_goals simp -dsimp [ac265,givesF]
 ·have g:∀ m:Int,2≤m→m≤26→n≠m:=fun m h1 h2 e=>h (by omega)
  simp -dsimp [ac265,givesF,g]
end
section
structure Mk where
 p:List (Int×Int)
 h:Int
 most:Int
 op:List Int
def mkM (s:Slot) (n:Nat) (x:Mk):List (Slot×Blk):=[((n,1),.sl 329 2 (x.p.map mvRow)),((n+1,1),.sl 3 1 (x.op.map intRow)),(s,.box [.ref (n,1) 2 0 x.p.length,.p (.int .i64 x.h),.p (.int .i64 x.most),.ref (n+1,1) 1 0 x.op.length])]
attribute [local simp] mkM
def Mk.bd (x:Mk) (B Q:Nat):Prop:=-(B:Int)≤x.h∧x.h≤B∧(∀ o∈x.op,-(B:Int)≤o∧o≤B)∧x.p.length≤Q∧x.op.length≤Q∧B≤100000∧Q≤10000000
theorem mkRen {f:FuncId} {x y:Mk} {l:List AV} (h:BestF Tryz.prog f (mkM (BIG,0) 999990 x) (.ptr (BIG,0) 4 0 0 :: l) [(BIG,0)] (.p (.tup [])) (mkM (BIG,0) 999980 y)) (s:Slot) (n m:Nat) (hn:n≠m) (hn2:n+1≠m) (hn3:m+1≠n) (hs:s.1≠n) (hs2:s.1≠m) (hs3:s.1≠n+1) (hs4:s.1≠m+1) (hl:∀ ρ,AV.rnFL ρ l=l) :
  BestF Tryz.prog f (mkM s n x) (.ptr s 4 0 0 :: l) [s] (.p (.tup [])) (mkM s m y):=by
 have g:=h.ren (fun t=>if t=(BIG,0) then s else if t.1=999990 then (n,t.2) else if t.1=999991 then (n+1,t.2) else if t.1=999980 then (m,t.2) else (m+1,t.2)) (fun t=>if t=s then (BIG,0) else if t.1=n then (999990,t.2) else if t.1=n+1 then (999991,t.2) else if t.1=m then (999980,t.2) else (999981,t.2))
  (by simp [mkM];grind) (by simp [mkM];grind) (by simp) (by simp) (by simp [mkM])
 simpa [mkM,rnM,Blk.rnF,AV.rnFL,AV.rnF,hl] using g
theorem b245' (x:Mk) (a b:Int) (hp:x.p.length≤10000000) (hh:-1000000≤x.h∧x.h≤1000000):BestF Tryz.prog 245 (mkM (BIG,0) 999990 x) [.ptr (BIG,0) 4 0 0,.p (.int .i64 a),.p (.int .i64 b)] [(BIG,0)] (.p (.tup [])) (mkM (BIG,0) 999980 ⟨x.p++[(a,b)],x.h - takesF a+givesF a,x.most,x.op⟩):=by
 refine bestF mixed fn245 ok245 (by simp) (by simp) ?_
 have m1:x.p.length+1≤maxLen:=by unfold maxLen;omega
 have m2:(x.p.length+1)*16≤140737488355328:=by omega
 have ht:List.take x.op.length (x.op.map intRow)=x.op.map intRow:=List.take_of_length_le (by simp)
 have t1:=takesF_le a
 have t2:=givesF_le a
 have w1:R (x.h - takesF a):=⟨by omega,by omega⟩
 have w2:R (x.h - takesF a+givesF a):=⟨by omega,by omega⟩
 have ht2:List.take (x.p.length+1) (x.p.map mvRow++[[PV.int .i64 a,.int .i64 b]])=x.p.map mvRow++[[PV.int .i64 a,.int .i64 b]]:=List.take_of_length_le (by simp)
 simp -dsimp [ac245,xc245,List.range,List.range.loop,m1,m2,ht,ht2]
 refine call_p (b246 a) (by simp) (by simp) ?_
 simp -dsimp [wr w1]
 refine call_p (b265 a) (by simp) (by simp) ?_
 simp -dsimp [wr w1,wr w2,retF,mvRow]
theorem b245 (x:Mk) (a b:Int) (hp:x.p.length≤10000000) (hh:-1000000≤x.h∧x.h≤1000000) (s:Slot) (n m:Nat) (hn:n≠m) (hn2:n+1≠m) (hn3:m+1≠n) (hs:s.1≠n) (hs2:s.1≠m) (hs3:s.1≠n+1) (hs4:s.1≠m+1) :
  BestF Tryz.prog 245 (mkM s n x) [.ptr s 4 0 0,.p (.int .i64 a),.p (.int .i64 b)] [s] (.p (.tup [])) (mkM s m ⟨x.p++[(a,b)],x.h - takesF a+givesF a,x.most,x.op⟩):=
 mkRen (b245' x a b hp hh) s n m hn hn2 hn3 hs hs2 hs3 hs4 (fun _=>rfl)
theorem b247' (x:Mk) (t:Int) (hp:x.p.length≤5000000) (hh:-1000000≤x.h∧x.h≤1000000) (ht:-1000000≤t∧t≤1000000):∃ y:List (Int×Int),y.length≤x.p.length+(x.h - t).natAbs ∧
  BestF Tryz.prog 247 (mkM (BIG,0) 999990 x) [.ptr (BIG,0) 4 0 0,.p (.int .i64 t)] [(BIG,0)] (.p (.tup [])) (mkM (BIG,0) 999980 ⟨y,t,x.most,x.op⟩):=by
 refine bestEF mixed fn247 ok247 (by simp) (by simp) ?_
 have hto:List.take x.op.length (x.op.map intRow)=x.op.map intRow:=List.take_of_length_le (by simp)
 simp -dsimp [ac247]
 refine loopM (fun y:List (Int×Int)×Int=>(y.2 - t).toNat) (fun y=>⟨[(0,.ptr (1000000,0) 4 0 0),(1,.p (.int .i64 t))],mkM (1000000,0) 999990 ⟨y.1,y.2,x.most,x.op⟩⟩) (fun y=>(if x.h<t then y=(x.p,x.h) else t≤y.2∧y.2≤x.h∧y.1.length=x.p.length+(x.h - y.2).toNat)) (x.p,x.h) (fun y hQ=>?_) ?_ (by simp)
 rotate_left
 ·split
  ·rfl
  ·exact ⟨by omega,by omega,by simp⟩
 obtain ⟨y,v⟩:=y
 have hty:List.take y.length (y.map mvRow)=y.map mvRow:=List.take_of_length_le (by simp)
 dsimp only at hQ
 by_cases hv:t<v
 ·have hq:x.h<t→False:=fun h=>by rw [if_pos h] at hQ;simp only [Prod.mk.injEq] at hQ;omega
  rw [if_neg hq] at hQ
  have p:=b245 ⟨y,v,x.most,x.op⟩ 2 0 (by dsimp only;omega) (by dsimp only;omega) (1000000,0) 999980 999990 (by decide) (by decide) (by decide) (by decide) (by decide) (by decide) (by decide)
  rw [show takesF 2=1 from rfl,show givesF 2=0 from rfl,show v - ((1:Nat):Int)+((0:Nat):Int)=v - 1 by omega] at p
  simp -dsimp [hv,hto,hty]
  refine call_m p (by simp) (by simp) (by simp) ?_
  simp -dsimp
  refine ⟨y++[(2,0)],v - 1,by omega,?_,by simp⟩
  rw [if_neg hq]
  exact ⟨by omega,by omega,by simp;omega⟩
 ·simp -dsimp [hv,hto,hty]
  have hy:y.length≤x.p.length+(x.h - t).natAbs:=by
   by_cases h:x.h<t
   ·rw [if_pos h] at hQ;simp only [Prod.mk.injEq] at hQ;rw [hQ.1];omega
   ·rw [if_neg h] at hQ;omega
  have hvt:v≤t∧-1000000≤v∧y.length+(t - v).natAbs≤x.p.length+(x.h - t).natAbs:=by
   by_cases h:x.h<t
   ·rw [if_pos h] at hQ;simp only [Prod.mk.injEq] at hQ;rw [hQ.1,hQ.2];omega
   ·rw [if_neg h] at hQ;omega
  refine loopM (fun z:List (Int×Int)×Int=>(t - z.2).toNat) (fun y=>⟨[(0,.ptr (1000000,0) 4 0 0),(1,.p (.int .i64 t))],mkM (1000000,0) 999990 ⟨y.1,y.2,x.most,x.op⟩⟩) (fun z=>v≤z.2∧z.2≤t∧z.1.length+(t - z.2).natAbs≤x.p.length+(x.h - t).natAbs) (y,v) (fun z hQ=>?_) ⟨by omega,hvt.1,hvt.2.2⟩ (by simp)
  obtain ⟨z,u⟩:=z
  have htz:List.take z.length (z.map mvRow)=z.map mvRow:=List.take_of_length_le (by simp)
  dsimp only at hQ
  by_cases hu:u<t
  ·have p:=b245 ⟨z,u,x.most,x.op⟩ 1 1 (by dsimp only;omega) (by dsimp only;omega) (1000000,0) 999980 999990 (by decide) (by decide) (by decide) (by decide) (by decide) (by decide) (by decide)
   rw [show takesF 1=0 from rfl,show givesF 1=1 from rfl,show u - ((0:Nat):Int)+((1:Nat):Int)=u+1 by omega] at p
   simp -dsimp [hu,hto,htz]
   refine call_m p (by simp) (by simp) (by simp) ?_
   simp -dsimp
   exact ⟨z++[(1,1)],u+1,by omega,⟨by omega,by omega,by simp;omega⟩,by simp⟩
  ·have:u=t:=by omega
   subst this
   simp -dsimp [hu,hto,htz,retEF]
   exact ⟨z,⟨rfl,rfl⟩,by omega⟩
theorem b247 (x:Mk) (t:Int) (hp:x.p.length≤5000000) (hh:-1000000≤x.h∧x.h≤1000000) (ht:-1000000≤t∧t≤1000000) (s:Slot) (n m:Nat) (hn:n≠m) (hn2:n+1≠m) (hn3:m+1≠n) (hs:s.1≠n) (hs2:s.1≠m) (hs3:s.1≠n+1) (hs4:s.1≠m+1):∃ y:List (Int×Int),y.length≤x.p.length+(x.h - t).natAbs ∧
  BestF Tryz.prog 247 (mkM s n x) [.ptr s 4 0 0,.p (.int .i64 t)] [s] (.p (.tup [])) (mkM s m ⟨y,t,x.most,x.op⟩):=by
 obtain ⟨y,h1,h2⟩:=b247' x t hp hh ht
 exact ⟨y,h1,mkRen h2 s n m hn hn2 hn3 hs hs2 hs3 hs4 (fun _=>rfl)⟩
end
section
attribute [local simp] mkM
theorem b221' (x:Mk) (ops:List Int) (o:Int) (ho:x.op=ops++[o]) (hp:x.p.length≤1000000) (hh:-1000000≤x.h∧x.h≤1000000) (ht:-1000000≤o∧o≤1000000) (hl:ops.length≤1000000):∃ y:List (Int×Int),y.length≤x.p.length+(x.h - o).natAbs+1 ∧
  BestF Tryz.prog 221 (mkM (BIG,0) 999990 x) [.ptr (BIG,0) 4 0 0] [(BIG,0)] (.p (.tup [])) (mkM (BIG,0) 999980 ⟨y,o,x.most,ops⟩):=by
 refine bestEF mixed fn221 ok221 (by simp) (by simp) ?_
 obtain ⟨p,h,most,op⟩:=x
 dsimp only at ho hp hh
 subst ho
 have w1:R (ops.length:Int):=⟨by omega,by omega⟩
 obtain ⟨y,hy,q⟩:=b247 ⟨p,h,most,ops++[o]⟩ o (by dsimp only;omega) hh ht (1000000,0) 999990 999980 (by decide) (by decide) (by decide) (by decide) (by decide) (by decide) (by decide)
 have hl1:(ops.length:Int)<ops.length+1:=by omega
 have ht1:List.take ops.length (ops.map intRow++[[PV.int .i64 o]])=ops.map intRow:=by simp
 have hty:List.take y.length (y.map mvRow)=y.map mvRow:=List.take_of_length_le (by simp)
 simp -dsimp [ac221,wr w1,hl1,intRow]
 refine call_m q (by simp [intRow]) (by simp) (by simp) ?_
 have hl2:(ops.length:Int)≤ops.length+1:=by omega
 simp -dsimp [wr w1,hl1,hl2,intRow,ht1,hty]
 dsimp only at hy
 have q2:=b245 ⟨y,o,most,ops⟩ 25 0 (by dsimp only;omega) (by dsimp only;omega) (1000000,0) 999990 999980 (by decide) (by decide) (by decide) (by decide) (by decide) (by decide) (by decide)
 rw [show takesF 25=0 from rfl,show givesF 25=0 from rfl,show o - ((0:Nat):Int)+((0:Nat):Int)=o by omega] at q2
 refine call_m q2 (by simp) (by simp) (by simp) ?_
 simp -dsimp [retEF]
 exact ⟨y++[(25,0)],by simp [mvRow],by simp;omega⟩
theorem Mk.bd.mono {x:Mk} {B Q B' Q':Nat} (h:x.bd B Q) (h1:B≤B') (h2:Q≤Q') (h3:B'≤100000) (h4:Q'≤10000000):x.bd B' Q':=
 ⟨by have:=h.1;omega,by have:=h.2.1;omega,fun o ho=>by have:=h.2.2.1 o ho;omega,by have:=h.2.2.2.1;omega,by have:=h.2.2.2.2.1;omega,h3,h4⟩
theorem b244' (x:Mk) (B Q:Nat) (hx:x.bd B Q) (hB:B≤1000) (hQ:Q≤100000) (op:Int) (k:Nat) (hk:k≤1000000):∃ y:Mk,y.bd (B+2) (Q+2*B+10) ∧
  BestF Tryz.prog 244 (mkM (BIG,0) 999990 x) [.ptr (BIG,0) 4 0 0,.p (.int .i64 op),.p (.int .i64 k)] [(BIG,0)] (.p (.tup [])) (mkM (BIG,0) 999980 y):=by
 refine bestEF mixed fn244 ok244 (by simp) (by simp) ?_
 obtain ⟨p,h,most,ops⟩:=x
 obtain ⟨b1,b2,b3,b4,b5,b6,b7⟩:=hx
 dsimp only at b1 b2 b3 b4 b5
 have hto:List.take ops.length (ops.map intRow)=ops.map intRow:=List.take_of_length_le (by simp)
 have htp:List.take p.length (p.map mvRow)=p.map mvRow:=List.take_of_length_le (by simp)
 by_cases c1:op=25∨op=24∨2<ops.length
 ·rcases List.eq_nil_or_concat ops with e0 | ⟨ops',o,e0⟩
  ·subst e0
   have c2:op=25∨(op≠25∧op=24):=by simp at c1;omega
   rcases c2 with c2 | ⟨c2,c3⟩
   ·simp -dsimp [ac244,xc244r,c2,htp,retEF]
    exact ⟨⟨p,h,most,[]⟩,by simp,by dsimp only;omega,by dsimp only;omega,by simp,by dsimp only;omega,by simp,by omega,by omega⟩
   ·simp -dsimp [ac244,xc244r,c2,c3,htp,retEF]
    exact ⟨⟨p,h,most,[]⟩,by simp,by dsimp only;omega,by dsimp only;omega,by simp,by dsimp only;omega,by simp,by omega,by omega⟩
  ·rw [List.concat_eq_append] at e0
   subst e0
   have bo:=b3 o (by simp)
   simp only [List.length_append,List.length_cons,List.length_nil] at c1 b5
   have hpos:(0:Int)<(ops'.length:Int)+1:=by omega
   obtain ⟨y,hy,q⟩:=b221' ⟨p,h,most,ops'++[o]⟩ ops' o rfl (by dsimp only;omega) (by dsimp only;omega) (by omega) (by omega)
   dsimp only at hy
   have hty:List.take y.length (y.map mvRow)=y.map mvRow:=List.take_of_length_le (by simp)
   have hto:List.take ops'.length (ops'.map intRow)=ops'.map intRow:=List.take_of_length_le (by simp)
   have fin:Mk.bd ⟨y,o,most,ops'⟩ (B+2) (Q+2*B+10):=⟨by dsimp only;omega,by dsimp only;omega,fun z hz=>by have:=b3 z (by simp [show z∈ops' from hz]);omega,by dsimp only;omega,by dsimp only;omega,by omega,by omega⟩
   have c2:op=25∨(op≠25∧op=24)∨(op≠25∧op≠24∧2<(ops'.length:Int)+1):=by omega
   rcases c2 with c2 | ⟨c2,c3⟩ | ⟨c2,c3,c4⟩
   ·simp -dsimp [ac244,xc244r,c2,hpos]
    refine call_m q (by simp [intRow]) (by simp) (by simp) ?_
    simp -dsimp [hty,hto,retEF]
    exact ⟨⟨y,o,most,ops'⟩,by simp,fin⟩
   ·simp -dsimp [ac244,xc244r,c2,c3,hpos]
    refine call_m q (by simp [intRow]) (by simp) (by simp) ?_
    simp -dsimp [hty,hto,retEF]
    exact ⟨⟨y,o,most,ops'⟩,by simp,fin⟩
   ·simp -dsimp [ac244,xc244r,c2,c3,c4,hpos]
    refine call_m q (by simp [intRow]) (by simp) (by simp) ?_
    simp -dsimp [hty,hto,retEF]
    exact ⟨⟨y,o,most,ops'⟩,by simp,fin⟩
 ·obtain ⟨c2,c3,c4⟩:op≠25∧op≠24∧¬(2<(ops.length:Int)):=by omega
  by_cases c5:op=26
  ·have t1:(k:Int).tmod 4=((k % 4:Nat):Int):=by rw [Int.tmod_eq_emod_of_nonneg (by omega)];omega
   obtain ⟨r,er⟩:∃ r:Nat,k % 4=r:=⟨_,rfl⟩
   rw [er] at t1
   have w1:R ((1:Int)+r):=⟨by omega,by omega⟩
   have q:=b245' ⟨p,h,most,ops⟩ 26 (1+r) (by dsimp only;omega) (by dsimp only;omega)
   rw [show takesF 26=0 from rfl,show givesF 26=0 from rfl,show h - ((0:Nat):Int)+((0:Nat):Int)=h by omega] at q
   simp -dsimp [ac244,xc244r,c5,c4,t1,wr w1]
   refine call_m q (by simp) (by simp) (by simp) ?_
   have m1:ops.length+1≤maxLen:=by unfold maxLen;omega
   have m2:(ops.length+1)*8≤140737488355328:=by omega
   have hto2:List.take (ops.length+1) (ops.map intRow++[[PV.int .i64 h]])=ops.map intRow++[[PV.int .i64 h]]:=List.take_of_length_le (by simp)
   have htp2:List.take (p.length+1) (p.map mvRow++[mvRow (26,1+(r:Int))])=p.map mvRow++[mvRow (26,1+(r:Int))]:=List.take_of_length_le (by simp)
   simp -dsimp [m1,m2,List.range,List.range.loop,hto2,htp2,retEF]
   refine ⟨⟨p++[(26,1+(r:Int))],h,most,ops++[h]⟩,by simp [intRow],by dsimp only;omega,by dsimp only;omega,fun z hz=>?_,by simp;omega,by simp;omega,by omega,by omega⟩
   rcases List.mem_append.1 hz with g | g
   ·have:=b3 z g;omega
   ·rw [List.mem_singleton.1 g];omega
  ·simp -dsimp [ac244,c2,c3,c4,c5,↓ awpC_of xc244d]
   refine awpC_in (seqG3 (α:=List (Int×Int)×Int) (fun y=>⟨[(0,.ptr (1000000,0) 4 0 0),(2,.p (.int .i64 k))],mkM (1000000,0) 999990 ⟨y.1,y.2,most,ops⟩⟩) (fun y=>y.1.length≤Q+1∧-((B:Int)+1)≤y.2∧y.2≤B+1) ?_ ?_)
   ·by_cases d1:h=0∨(k:Int).tmod 3=0
    ·have w3:R ((k:Int) / 3):=⟨by omega,by omega⟩
     obtain ⟨r,er⟩:∃ r:Nat,k / 3 % 2=r:=⟨_,rfl⟩
     have t1:((k:Int) / 3).tmod 2=r:=by
      rw [Int.tmod_eq_emod_of_nonneg (by omega)];omega
     have q:=b245' ⟨p,h,most,ops⟩ 1 r (by dsimp only;omega) (by dsimp only;omega)
     rw [show takesF 1=0 from rfl,show givesF 1=1 from rfl,show h - ((0:Nat):Int)+((1:Nat):Int)=h+1 by omega] at q
     have htp2:List.take (p.length+1) (p.map mvRow++[mvRow (1,(r:Int))])=p.map mvRow++[mvRow (1,(r:Int))]:=List.take_of_length_le (by simp)
     have d2:h=0∨(h≠0∧(k:Int).tmod 3=0):=by omega
     rcases d2 with d2 | ⟨d2,d3⟩
     ·subst d2
      simp -dsimp [t1,wr w3]
      refine call_m q (by simp) (by simp) (by simp) ?_
      simp -dsimp [htp2,hto]
      exact ⟨p++[(1,(r:Int))],1,⟨by simp;omega,by omega,by omega⟩,by simp⟩
     ·simp -dsimp [d2,d3,t1,wr w3]
      refine call_m q (by simp) (by simp) (by simp) ?_
      simp -dsimp [htp2,hto]
      exact ⟨p++[(1,(r:Int))],h+1,⟨by simp;omega,by omega,by omega⟩,by simp⟩
    ·have d2:h≠0:=fun e=>d1 (.inl e)
     have d3:¬(k:Int).tmod 3=0:=fun e=>d1 (.inr e)
     simp -dsimp [d2,d3,hto,htp]
     exact ⟨p,h,⟨by omega,by omega,by omega⟩,by simp⟩
   ·rintro ⟨p1,g⟩ ⟨q1,q2,q3⟩
    dsimp only at q1 q2 q3 ⊢
    simp -dsimp [xc244e,↓ awpC_of xc244f]
    have q:=b245' ⟨p1,g,most,ops⟩ 23 0 (by dsimp only;omega) (by dsimp only;omega)
    rw [show takesF 23=1 from rfl,show givesF 23=0 from rfl,show g - ((1:Nat):Int)+((0:Nat):Int)=g - 1 by omega] at q
    refine call_m q (by simp) (by simp) (by simp) ?_
    have htp3:List.take (p1.length+1) (p1.map mvRow++[mvRow (23,0)])=p1.map mvRow++[mvRow (23,0)]:=List.take_of_length_le (by simp)
    simp -dsimp [htp3,hto,↓ awpC_of xc244f]
    refine awpC_in (seqG3 (α:=List (Int×Int)) (fun y=>⟨[(0,.ptr (1000000,0) 4 0 0)],[((999980,1),.sl 329 2 (y.map mvRow)),((999981,0),.sl 3 1 (ops.map intRow)),((1000000,0),.box [.ref (999980,1) 2 0 y.length,.p (.int .i64 (g - 1)),.p (.int .i64 most),.ref (999981,0) 1 0 ops.length])]⟩) (fun y=>y.length≤Q+6) ?_ ?_)
    ·by_cases d1:(1:Int)<(k:Int).tmod 5
     ·simp -dsimp [d1]
      have q:=b245' ⟨p1++[(23,0)],g - 1,most,ops⟩ 13 0 (by simp;omega) (by dsimp only;omega)
      rw [show takesF 13=0 from rfl,show givesF 13=1 from rfl,show g - 1 - ((0:Nat):Int)+((1:Nat):Int)=g by omega] at q
      refine call_m q (by simp) (by simp) (by simp) ?_
      have e1:List.take (p1.length+1+1) (p1.map mvRow++[mvRow (23,0),mvRow (13,0)])=p1.map mvRow++[mvRow (23,0),mvRow (13,0)]:=List.take_of_length_le (by simp)
      have t8:(k:Int).tmod 8=((k % 8:Nat):Int):=by rw [Int.tmod_eq_emod_of_nonneg (by omega)];omega
      obtain ⟨r8,er8⟩:∃ r:Nat,k % 8=r:=⟨_,rfl⟩
      rw [er8] at t8
      simp -dsimp [e1,hto,t8]
      have q:=b245' ⟨p1++[(23,0)]++[(13,0)],g,most,ops⟩ 22 r8 (by simp;omega) (by dsimp only;omega)
      rw [show takesF 22=1 from rfl,show givesF 22=0 from rfl,show g - ((1:Nat):Int)+((0:Nat):Int)=g - 1 by omega] at q
      refine call_m q (by simp) (by simp) (by simp) ?_
      have e2:List.take (p1.length+1+1+1) (p1.map mvRow++[mvRow (23,0),mvRow (13,0),mvRow (22,(r8:Int))])=p1.map mvRow++[mvRow (23,0),mvRow (13,0),mvRow (22,(r8:Int))]:=List.take_of_length_le (by simp)
      simp -dsimp [e2,hto]
      obtain ⟨y,hy,q⟩:=b247' ⟨p1++[(23,0)]++[(13,0)]++[(22,(r8:Int))],g - 1,most,ops⟩ (g - 1) (by simp;omega) (by dsimp only;omega) (by omega)
      simp only [List.length_append,List.length_cons,List.length_nil] at hy
      refine call_m q (by simp) (by simp) (by simp) ?_
      have hty:List.take y.length (y.map mvRow)=y.map mvRow:=List.take_of_length_le (by simp)
      simp -dsimp [hty,hto]
      have q:=b245' ⟨y,g - 1,most,ops⟩ 24 0 (by dsimp only;omega) (by dsimp only;omega)
      rw [show takesF 24=0 from rfl,show givesF 24=0 from rfl,show g - 1 - ((0:Nat):Int)+((0:Nat):Int)=g - 1 by omega] at q
      refine call_m q (by simp) (by simp) (by simp) ?_
      have hty2:List.take (y.length+1) (y.map mvRow++[mvRow (24,0)])=y.map mvRow++[mvRow (24,0)]:=List.take_of_length_le (by simp)
      simp -dsimp [hty2,hto]
      exact ⟨y++[(24,0)],by simp;omega,by simp⟩
     ·have htp4:List.take (p1.length+1) (p1.map mvRow++[mvRow (23,0)])=p1.map mvRow++[mvRow (23,0)]:=List.take_of_length_le (by simp)
      simp -dsimp [d1,hto,htp4]
      exact ⟨p1++[(23,0)],by simp;omega,by simp⟩
    ·intro y hy
     have m1:ops.length+1≤maxLen:=by unfold maxLen;omega
     have m2:(ops.length+1)*8≤140737488355328:=by omega
     simp -dsimp [xc244g,m1,m2,List.range,List.range.loop,retEF]
     refine ⟨⟨y,g - 1,most,ops++[g - 1]⟩,by simp [intRow],by dsimp only;omega,by dsimp only;omega,fun z hz=>?_,by dsimp only;omega,by simp;omega,by omega,by omega⟩
     rcases List.mem_append.1 hz with g1 | g1
     ·have:=b3 z g1;omega
     ·rw [List.mem_singleton.1 g1];omega
end
end Go.Abs.A30
