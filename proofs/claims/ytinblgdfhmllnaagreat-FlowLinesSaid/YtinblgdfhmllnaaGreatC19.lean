/- A part of the proof: an abstract reading of the model, contracts of functions. -/
import Derived.Test.YtinblgdfhmllnaaGreatC18
import Derived.Test.YtinblgdfhmllnaaGreatProg
set_option linter.unusedVariables false
set_option linter.unusedSimpArgs false
namespace Go.Abs.A29
open Go Go.Abs Go.Proofs
set_option maxRecDepth 100000
set_option linter.unusedVariables false
set_option linter.unusedSimpArgs false
attribute [local simp ↓] awp_skip awp_seq awp_cond awp_block awp_exit awp_ret awp_reg awp_draw awp_ghost awp_loop awp_rfun awpR_nil awpR_cons awpX_nil awpX_0 awpX_1 awpX_2 awpI_eq awpI_t awpI_f awpStep_eq
attribute [local simp] condL_true condL_false condL_dec evDel evV evN evS evA initFr Ghost.app Fr.var Fr.blk Fr.ff FF.val Abs.look Fr.app Fr.erase Fr.noSlot AV.noSlot AV.noSlotL Blk.noSlot Fr.spoken AV.fz AV.fzL Blk.fz binV binI shI binS unV fillA FF.parts FF.vals headO intO boundO lenV scalarEq leavesEq AV.aggc AV.cells FF.read FF.rows AV.one PV.one chunk freshB newS pickV retK evRs evRl evR resOf mkTup mkAgg allP cloOf okP_nil okX_p okX okP addN Del.noSlot Del.owners Rnd reify_p normM insM Fr.back Fr.backV Fr.setPs normV insV
attribute [local simp] renF Fr.trim Blk.trim AV.rn AV.rnL Blk.rn AV.among AV.amongL Blk.among okF retM fixS BIG initFF
attribute [local simp] FF.reify FF.reifyL PV.flat
attribute [local simp] ym yn yl yk yb yc yf yj yh qp qe qi qo qg qa qk qz qm ql qt qf qj qn qb qc qs qr qq qd
section
set_option maxHeartbeats 8000000
attribute [local simp] mcM mcBox mc9 mc8 kpM
attribute [local simp ↓] oneM takeM
theorem b167c:Best Tryz.prog 167 [.agg [.int .i64 (-20480),.int .i64 (-20480),.int .i64 20480,.int .i64 20480]] (.p (.bool true)):=by
 refine best mixed fn167 ok167 (by simp) ?_
 simp -dsimp [ac167]
 refine call_p (b186 (-20480) 20480) (by simp) (by simp) ?_
 simp -dsimp [smallB]
 refine call_p (b186 (-20480) 20480) (by simp) (by simp) ?_
 simp -dsimp [smallB]
theorem run2 {p:List (Int×Int)} {axes points fr:Nat} (h:RunS p axes points fr) (m:Mc) (to:Nat) (hm:m.ok2 axes points) (ht:to≤p.length):∃ m':Mc,m'.ok2 axes points ∧
 BestF Tryz.prog 169 (mcM (33,0) (999990,1) (999992,1) (999993,1) m) [.ptr (33,0) 25 0 0,.p (.sl 2 (p.map mvRow)),.p (.int .i64 fr),.p (.int .i64 to)] [(33,0),(999992,1),(999993,1)] (.p (.tup [])) (mcM (33,0) (999980,1) (999992,1) (999993,1) m'):=by
 obtain ⟨m',h1,h2⟩:=h m to hm ht
 refine ⟨m',h1,?_⟩
 have g:=h2.ren (fun t=>if t=(BIG,0) then (33,0) else if t=(BIG+2,0) then (999992,1) else if t=(BIG+3,0) then (999993,1) else t)
  (fun t=>if t=(33,0) then (BIG,0) else if t=(999992,1) then (BIG+2,0) else if t=(999993,1) then (BIG+3,0) else t) (by simp) (by simp) (by simp) (by simp) (by simp)
 simpa [rnM,Blk.rnF,AV.rnFL,AV.rnF] using g
def cX (k:Nat):List (Int×Int):=List.replicate k (-20480,20480)
def cA (k:Nat):List (Int×Int):=List.replicate k (-64,64)
def cB (k:Nat):List Unit:=List.replicate k ()
@[simp] theorem cX_len {k:Nat}:(cX k).length=k:=by simp [cX]
@[simp] theorem cA_len {k:Nat}:(cA k).length=k:=by simp [cA]
@[simp] theorem cB_len {k:Nat}:(cB k).length=k:=by simp [cB]
def m0 (axes k:Nat):Mc:=⟨(4,32),cA axes,[],fun _=>(0,0),cX k,cX k,0,0,0⟩
def bxRow (x:Unit):List PV:=[.int .i64 (-20480),.int .i64 (-20480),.int .i64 20480,.int .i64 20480]
theorem repSO {n:Nat} {x:Int×Int} (h:SO x):∀ z∈List.replicate n x,SO z:=fun z hz=>by rw [(List.mem_replicate.1 hz).2];exact h
theorem so1:SO ((4:Int),(32:Int)):=⟨by decide,by decide,by decide⟩
theorem so2:SO ((-64:Int),(64:Int)):=⟨by decide,by decide,by decide⟩
theorem so3:SO ((0:Int),(0:Int)):=⟨by decide,by decide,by decide⟩
theorem so4:SO ((-20480:Int),(20480:Int)):=⟨by decide,by decide,by decide⟩
theorem m0ok (axes k:Nat) (ha:axes≤1000) (hk:k≤1000):Mc.ok2 (m0 axes k) axes k:=
 ⟨⟨so1,⟨by simp [m0],by unfold m0 cA;exact repSO so2⟩,by simp [m0],fun _=>so3,⟨by simp [m0],by unfold m0 cX;exact repSO so4⟩,⟨by simp [m0],by unfold m0 cX;exact repSO so4⟩,by simp [m0],ha,hk⟩,fun _=>by simp [m0]⟩
theorem repS {n:Nat}:(cX n).map mvRow++[mvRow (-20480,20480)]=(cX (n+1)).map mvRow:=by unfold cX;rw [List.replicate_succ'];simp
theorem b135 (p:List (Int×Int)) (hp:p.length≤1000) (axes points:Nat):∃ a b e:Int,Best Tryz.prog 135 [.sl 2 (p.map mvRow),.sl 4 ((cB points).map bxRow),.agg [.int .i64 4,.int .i64 32],.sl 2 ((cA axes).map mvRow)] (.p (.tup [.agg [.int .i64 a,.int .i64 b],.int .i64 e])):=by
 obtain ⟨v,⟨a,b,e,rfl⟩,h⟩:=bestE (Q:=fun v=>∃ a b e:Int,v=.tup [.agg [.int .i64 a,.int .i64 b],.int .i64 e]) mixed fn135 ok135 (args:=[.sl 2 (p.map mvRow),.sl 4 ((cB points).map bxRow),.agg [.int .i64 4,.int .i64 32],.sl 2 ((cA axes).map mvRow)]) (by simp) (by
  have q:=b166 (cA axes) axes
  rw [show (cA axes).map pRow=(cA axes).map mvRow from rfl] at q
  simp -dsimp [ac135,↓ awpC_of xc135b]
  refine call_p (b165 4 32) (by simp) (by simp) ?_
  simp -dsimp [↓ awpC_of xc135b]
  refine call_p q (by simp) (by simp) ?_
  by_cases h1:RG (cA axes) axes
  ·by_cases h2:(40:Int)<points
   ·simp -dsimp [h1,h2,retE]
   ·simp -dsimp [h1,h2,↓ awpC_of xc135b]
    refine awpC_in ?_
    simp -dsimp [xc135b,↓ awpC_of xc135c]
    have hk0:points≤40:=by omega
    refine loopC points (fun k=>⟨[(0,.p (.sl 2 (p.map mvRow))),(1,.p (.sl 4 ((cB points).map bxRow))),(3,.p (.sl 2 ((cA axes).map mvRow))),(8,.ptr (8,0) 2 0 0),(10,.ptr (33,0) 25 0 0),(11,.p (.int .i64 k))],
     [((8,0),.box [.p (.int .i64 0),.p (.int .i64 0)]),((33,0),mcBox (999990,1) (999992,1) (999993,1) (m0 axes k)),((999990,1),.sl 130 2 []),((999992,1),.sl 130 2 ((cX k).map mvRow)),((999993,1),.sl 130 2 ((cX k).map mvRow))]⟩) (fun _=>True) (fun k hk _=>?_) trivial (by simp [m0,cX])
    by_cases h:k<points
    ·have wk:R ((k:Int)+1):=⟨by omega,by omega⟩
     have m1:k+1≤maxLen:=by unfold maxLen;omega
     have e1:(k+1)*16≤140737488355328:=by omega
     have hr:List.map mvRow (cX k)++[[.int .i64 (-20480),.int .i64 20480]]=List.map mvRow (cX (k+1)):=repS
     have ht:List.take (k+1) (List.map mvRow (cX (k+1)))=List.map mvRow (cX (k+1)):=List.take_of_length_le (by simp)
     simp -dsimp [h,bxRow,m0]
     refine call_p b167c (by simp) (by simp) ?_
     simp -dsimp [h,bxRow,m0,m1,e1,hr,ht,wr wk,List.range,List.range.loop,-List.all_eq_true]
     done
    ·have:k=points:=by omega
     subst this
     simp -dsimp [h,m0,↓ awpC_of xc135c]
     refine awpC_in ?_
     have hm:=m0ok axes k
     obtain ⟨v,hv,q2⟩:=b168 p hp axes k
     simp -dsimp [xc135c]
     refine call_p q2 (by simp) (by simp) ?_
     by_cases hz:v=0
     ·obtain ⟨l1,l2,l3,l4⟩:=hv hz
      obtain ⟨m',g1,g2⟩:=run2 (runS p hp axes k l4 0 (by omega)) (m0 axes k) p.length (m0ok axes k (by omega) (by omega)) (by omega)
      simp -dsimp [hz]
      refine call_m g2 (by simp [m0]) (by simp) (by simp) ?_
      by_cases hf:m'.failed=0
      ·simp -dsimp [hf,retE]
      ·simp -dsimp [hf,retE]
     ·simp -dsimp [hz,retE]
  ·simp -dsimp [h1,retE])
 exact ⟨a,b,e,h⟩
end
section
set_option maxHeartbeats 8000000
theorem repB {n:Nat}:(cB n).map bxRow++[bxRow ()]=(cB (n+1)).map bxRow:=by unfold cB;rw [List.replicate_succ'];simp
theorem repA {n:Nat}:(cA n).map mvRow++[mvRow (-64,64)]=(cA (n+1)).map mvRow:=by unfold cA;rw [List.replicate_succ'];simp
theorem b97 (l:List Int) (hl:l.length≤20) (axes points:Nat) (ha:axes≤1000) (hp:points≤2000000):∃ x:List (Int×Int),x.length≤60 ∧
  Best Tryz.prog 97 [.sl 1 (l.map intRow),.int .i64 axes,.int .i64 points] (.p (.sl 2 (x.map mvRow))):=by
 obtain ⟨v,⟨x,rfl,hx⟩,h⟩:=bestE (Q:=fun v=>∃ x:List (Int×Int),v=.sl 2 (x.map mvRow)∧x.length≤60) mixed fn97 ok97 (args:=[.sl 1 (l.map intRow),.int .i64 axes,.int .i64 points]) (by simp) (by
  obtain ⟨x,hx,q⟩:=b134 l hl axes points ha hp
  simp -dsimp [ac97]
  refine call_p q (by simp) (by simp) ?_
  simp -dsimp
  refine loopC points (fun k=>⟨[(1,.p (.int .i64 axes)),(2,.p (.int .i64 points)),(7,.p (.sl 2 (x.map mvRow))),(8,.ref (26,0) 4 0 k),(9,.p (.int .i64 k))],[((26,0),.sl 185 4 ((cB k).map bxRow))]⟩) (fun _=>True) (fun k hk _=>?_) trivial (by simp [cB])
  by_cases h:k<points
  ·have wk:R ((k:Int)+1):=⟨by omega,by omega⟩
   have m1:k+1≤maxLen:=by unfold maxLen;omega
   have e1:(k+1)*32≤140737488355328:=by omega
   have hr:List.map bxRow (cB k)++[[.int .i64 (-20480),.int .i64 (-20480),.int .i64 20480,.int .i64 20480]]=List.map bxRow (cB (k+1)):=repB
   have ht:List.take (k+1) (List.map bxRow (cB (k+1)))=List.map bxRow (cB (k+1)):=List.take_of_length_le (by simp)
   simp -dsimp [h,m1,e1,hr,ht,wr wk,List.range,List.range.loop,-List.all_eq_true]
  ·have:k=points:=by omega
   subst this
   simp -dsimp [h]
   refine loopC axes (fun j=>⟨[(1,.p (.int .i64 axes)),(7,.p (.sl 2 (x.map mvRow))),(8,.ref (26,0) 4 0 k),(10,.ref (35,0) 2 0 j),(11,.p (.int .i64 j))],[((26,0),.sl 185 4 ((cB k).map bxRow)),((35,0),.sl 130 2 ((cA j).map mvRow))]⟩) (fun _=>True) (fun j hj _=>?_) trivial (by simp [cA])
   by_cases h:j<axes
   ·have wk:R ((j:Int)+1):=⟨by omega,by omega⟩
    have m1:j+1≤maxLen:=by unfold maxLen;omega
    have e1:(j+1)*16≤140737488355328:=by omega
    have hr:List.map mvRow (cA j)++[[.int .i64 (-64),.int .i64 64]]=List.map mvRow (cA (j+1)):=repA
    have ht:List.take (j+1) (List.map mvRow (cA (j+1)))=List.map mvRow (cA (j+1)):=List.take_of_length_le (by simp)
    simp -dsimp [h,m1,e1,hr,ht,wr wk,List.range,List.range.loop,-List.all_eq_true]
   ·have:j=axes:=by omega
    subst this
    have ht1:List.take k ((cB k).map bxRow)=(cB k).map bxRow:=List.take_of_length_le (by simp)
    have ht2:List.take j ((cA j).map mvRow)=(cA j).map mvRow:=List.take_of_length_le (by simp)
    obtain ⟨a,b,e,r⟩:=b135 x (by omega) j k
    simp -dsimp [h]
    refine call_f r (by simp [ht1,ht2]) (by simp [PV.flatL]) (by simp) ?_
    by_cases he:e=0
    ·simp -dsimp [he,retE]
     exact ⟨x,rfl,hx⟩
    ·simp -dsimp [he,retE]
     try exact ⟨[],rfl,by simp⟩)
 exact ⟨x,hx,h⟩
end
section
set_option maxHeartbeats 8000000
theorem partR {l:List (List Int)} {k:Nat} (hl:∀ x∈l,∀ n∈x,R n):∀ n∈partL l k,R n:=by
 intro n hn
 unfold partL at hn
 have hn:=List.mem_of_mem_take hn
 rw [List.getD_eq_getElem?_getD] at hn
 by_cases h:k<l.length
 ·rw [List.getElem?_eq_getElem h] at hn
  exact hl _ (by simp) n hn
 ·rw [List.getElem?_eq_none (by omega)] at hn
  simp at hn
theorem partLen {l:List (List Int)} {k:Nat}:(partL l k).length≤60:=by unfold partL;rw [List.length_take];omega
theorem b55 (l:List (List Int)) (hl:∀ x∈l,∀ n∈x,R n) (hl2:l.length≤140737488355328) (many axes regions:Nat) (hm:many≤1000) (ha:axes≤1000) (hr:regions≤1000):∃ x:List Gl,x.length=many ∧
  Best Tryz.prog 55 [.sl 1 (l.map llRow),.int .i64 many,.int .i64 axes,.int .i64 regions] (.p (.sl 8 (x.map glRow))):=by
 obtain ⟨v,⟨x,rfl,hx⟩,h⟩:=bestE (Q:=fun v=>∃ x:List Gl,v=.sl 8 (x.map glRow)∧x.length=many) mixed fn55 ok55 (args:=[.sl 1 (l.map llRow),.int .i64 many,.int .i64 axes,.int .i64 regions]) (by simp) (by
  simp -dsimp [ac55,↓ awpC_of xc55b]
  refine loopE many (fun k (g:List Gl)=>⟨[(0,.p (.sl 1 (l.map llRow))),(1,.p (.int .i64 many)),(2,.p (.int .i64 axes)),(3,.p (.int .i64 regions)),(9,.ref (44,0) 8 0 k),(10,.p (.int .i64 k))],[((44,0),.sl 144 8 (g.map glRow))]⟩) (fun k g=>g.length=k) [] (fun k g hk hg=>?_) rfl (by simp)
  by_cases h:k<many
  ·have wk:R ((k:Int)+1):=⟨by omega,by omega⟩
   have w3:R ((k:Int)+3):=⟨by omega,by omega⟩
   have m1:k+1≤maxLen:=by unfold maxLen;omega
   have e1:(k+1)*128≤140737488355328:=by omega
   have q49:=b49 l (3+k)
   have e3:((3+k:Nat):Int)=3+(k:Int):=by omega
   rw [e3] at q49
   have w3':R (3+(k:Int)):=⟨by omega,by omega⟩
   obtain ⟨y,ey⟩:∃ y,partL l (3+k)=y:=⟨_,rfl⟩
   have hy:∀ n∈y,R n:=ey ▸ partR hl
   have hy2:y.length≤60:=ey ▸ partLen
   rw [ey] at q49
   obtain ⟨x,⟨x1,x2⟩,q96⟩:=b96 y hy (by omega) regions hr
   have hall:∀ z:Gl,((g.map glRow++[glRow z]).all fun r=>r.all PV.one)=true:=fun z=>by
    rw [List.all_eq_true];intro r hr
    rcases List.mem_append.1 hr with g1 | g1
    ·obtain ⟨u,_,rfl⟩:=List.mem_map.1 g1;rfl
    ·simp at g1;subst g1;rfl
   simp -dsimp [h,wr w3',↓ awpC_of xc55b]
   refine call_p q49 (by simp) (by simp) ?_
   simp -dsimp [↓ awpC_of xc55b]
   refine call_p q96 (by simp) (by simp) ?_
   have fin:∀ z:Gl,awp Tryz.prog xc55b (fun e F'=>True) ⟨[],[]⟩∨True:=fun _=>.inr trivial
   by_cases hc:(k:Int).tmod 3=1
   ·obtain ⟨a,ea⟩:∃ a:Nat,min (y.length:Int) 5=a:=⟨min y.length 5,by omega⟩
    obtain ⟨b,eb⟩:∃ b:Nat,min (y.length:Int) 11=b:=⟨min y.length 11,by omega⟩
    have hab:a≤b:=by omega
    have hby:b≤y.length:=by omega
    obtain ⟨u,hu,q97⟩:=b97 ((y.take b).drop a) (by simp;omega) axes (pointsN x.con x.an) ha (by have:=pointsN_le x.con x.an (by have:=x1.1;omega) (fun z hz=>by have:=x1.2.1 z hz;omega) (by have:=x1.2.2;omega);omega)
    have q98:=b98 x.con x.an (.int .i64 x.h1) (.int .i64 x.h2) (.int .i64 x.h3) (.int .i64 x.w) (.sl 3 (x.del.map dlRow)) (.sl 2 (x.prog.map mvRow)) (by have:=x1.1;omega) (fun z hz=>by have:=x1.2.1 z hz;omega) (by have:=x1.2.2;omega)
    simp -dsimp [hc,glRow,ea,eb,hab,hby,↓ awpC_of xc55b]
    refine call_p q98 (by simp) (by simp) ?_
    simp -dsimp [↓ awpC_of xc55b]
    refine call_p q97 (by simp [List.map_drop,List.map_take]) (by simp) ?_
    simp -dsimp [↓ awpC_of xc55b]
    refine awpC_in ?_
    have hall':=hall { x with prog:=u }
    have ht:List.take (k+1) (g.map glRow++[glRow { x with prog:=u }])=g.map glRow++[glRow { x with prog:=u }]:=List.take_of_length_le (by simp;omega)
    simp only [glRow] at hall' ht
    simp -dsimp [xc55b,hg,m1,e1,wr wk,h,List.range,List.range.loop,hall',ht,-List.all_eq_true,-List.all_append]
    exact ⟨g++[{ x with prog:=u }],by simp [hg],by simp [glRow]⟩
   ·simp -dsimp [hc,glRow,↓ awpC_of xc55b]
    refine awpC_in ?_
    have hall':=hall x
    have ht:List.take (k+1) (g.map glRow++[glRow x])=g.map glRow++[glRow x]:=List.take_of_length_le (by simp;omega)
    simp only [glRow] at hall' ht
    simp -dsimp [xc55b,hg,m1,e1,wr wk,h,List.range,List.range.loop,hall',ht,-List.all_eq_true,-List.all_append]
    exact ⟨g++[x],by simp [hg],by simp [glRow]⟩
  ·have:k=many:=by omega
   subst this
   have ht:List.take k (g.map glRow)=g.map glRow:=List.take_of_length_le (by simp;omega)
   simp -dsimp [h,retE,hg,ht]
   exact ⟨g,rfl,hg⟩)
 exact ⟨x,hx,h⟩
end
section
def xc51b:AC:=by
 apply fun (y:AC) (_:@Eq AC (let e0:=[0,4,6,8,10,12];let e1:=[73,74,75,76,77];(qs (qr [(ym 59 9),(ym 60 5),(qi 61 (.build [.int .i64 0,.int .i64 0] [(0,1,.v 60),(1,1,.c (.int .i64 0))]) [1]),(qi 62 (.bslice 130 2 1 [.int .i64 0,.int .i64 0] [(0,2,.v 61)]) [2]),(qi 63 (.app 130 2 16 (.v 59) (.v 62)) [0,3]),(yf 64 4 6 [0,1,2,3,4]),(qo (.store 1 (.v 64) (.v 63)) [5,4,4,0,1,2,3,4])]) (qk [0,4,6,8] (qs (qr [(qp 10 (.mov (qz 0)))]) (qk [0,4,6,8,10] (qs (qs (qr [(qp 12 (.mov (qz 0)))]) (qk e0 (.block 2 (.loop (qk e0 (qs (qs (qr [(ym 65 12),(ym 66 8),(yb 67 .lss 65 66 [0,1])]) (qk [0,4,6,8,10,12,67] (qq (.v 67) .skip (.exit 2)))) (qk e0 (qs (.block 3 (qs (qd [(qa (qp 70 (qf 3 6)) e1 [76] [] [] 2),(qa (yk 71 70 [0]) e1 [76] [] [] 0),(qa (yc 72 .add 71 (qz 1) [1]) e1 [76] [] [] 2),(qe (ym 73 0) [70,71,72,74,75] [0,1,2] 2),(qe (ym 74 12) [70,71,72,73] [0,1,2,3] 2),(qe (qi 75 (.bin .add (qz 7) (.v 74)) [4]) [70,71,72,73] [0,1,2,3] 2),(qa (qi 76 (.call 58 [.v 73,.v 75]) [3,5]) [70,71,72] [] [76] [0,1,2] 1),(qe (yc 77 .rem 76 (qz 200) [6]) [70,71,72] [0,1,2] 2),(qe (yb 78 .add 72 77 [2,7]) [] [] 2),(qe (yf 79 3 6 [0,1,2,3,4,5,6,7,8]) [] [] 2),(qa (qo (.store 1 (.v 79) (.v 78)) [9,8,6,0,1,2,3,4,5,6,7,8]) [] [] [6] [] 1)]) (qk e0 (qs (qr [(ym 80 10),(ym 81 0),(ym 82 12),(qi 83 (.bin .add (qz 9) (.v 82)) [2]),(qi 84 (.call 58 [.v 81,.v 83]) [1,3]),(yc 85 .rem 84 (qz 65) [4]),(yb 86 .add 80 85 [0,5]),(qi 87 (.mm false (qz 64) (.v 86)) [6]),(yn 10 87 [7,4,0,1,2,3,4,5,6,7])]) (qk e0 (qr [(qp 88 (qf 4 6)),(yk 89 88 [0]),(qp 90 (qf 3 6)),(yk 91 90 [2]),(ym 92 10),(qi 93 (.build [.int .i64 0,.int .i64 0] [(0,1,.v 91),(1,1,.v 92)]) [3,4]),(qi 94 (.bslice 130 2 1 [.int .i64 0,.int .i64 0] [(0,2,.v 93)]) [5]),(qi 95 (.app 130 2 16 (.v 89) (.v 94)) [1,6]),(yf 96 4 6 [0,1,2,3,4,5,6,7]),(qo (.store 1 (.v 96) (.v 95)) [8,7,7,0,1,2,3,4,5,6,7])])))))) (qk e0 (.ghost (.canC (6,0) 4 (63,1)) (qr [(ym 68 12),(yc 69 .add 68 (qz 1) [0]),(yn 12 69 [1,0,1])]))))))))))) (qk [4,6] (qs (qr [(qp 97 (qt 5 6)),(qo (.store 5 (.v 4) (.v 97)) [0,0])]) (qk [4] .ret))))))))) y)=>y
 dsimp
def ac51:AC:=by
 apply fun (y:AC) (_:@Eq AC (let e0:=[0,4,5,6,7,8,9,10,11];let e1:=[37,38,39,40,41];(qk [0,1] (qs (qr [(qp 4 (.alloc [.str ⟨#[]⟩,.int .i64 0,.int .i64 0,.int .i64 0,.nsl]))]) (qk [0,1,4] (qs (qr [(ym 13 0),(qi 14 (.call 58 [.v 13,.c (.int .i64 0)]) [0]),(yc 15 .rem 14 (qz 41) [1]),(yc 16 .mul 15 (qz 25) [2]),(yc 17 .sub 16 (qz 500) [3]),(yn 5 17 [4,1,0,1,2,3,4])]) (qk [0,1,4,5] (qs (qr [(ym 18 1),(ym 19 5),(ym 20 5),(ym 21 5),(qi 22 (.build [.str ⟨#[]⟩,.int .i64 0,.int .i64 0,.int .i64 0,.nsl] [(0,1,.v 18),(1,1,.v 19),(2,1,.v 20),(3,1,.v 21)]) [0,1,2,3]),(qp 6 (.alloc [.str ⟨#[]⟩,.int .i64 0,.int .i64 0,.int .i64 0,.nsl])),(qo (.store 5 (.v 6) (.v 22)) [5,4,0,1,2,3,4,5])]) (qk [0,4,5,6] (qs (qr [(ym 23 0),(qi 24 (.call 58 [.v 23,.c (.int .i64 1)]) [0]),(yc 25 .rem 24 (qz 3) [1]),(yn 7 25 [2,1,0,1,2])]) (qk [0,4,5,6,7] (qs (qr [(ym 26 0),(qi 27 (.call 58 [.v 26,.c (.int .i64 2)]) [0]),(yc 28 .rem 27 (qz 3) [1]),(yn 8 28 [2,1,0,1,2])]) (qk [0,4,5,6,7,8] (qs (qr [(qp 9 (.mov (.c .nsl)))]) (.ghost (.own 9 63 130 2) (qk [0,4,5,6,7,8,9] (qs (qr [(qp 10 (.mov (qz 0)))]) (qk [0,4,5,6,7,8,9,10] (qs (qs (qr [(qp 11 (.mov (qz 0)))]) (qk e0 (.block 0 (.loop (qk e0 (qs (qs (qr [(ym 29 11),(ym 30 7),(yb 31 .lss 29 30 [0,1])]) (qk [0,4,5,6,7,8,9,10,11,31] (qq (.v 31) .skip (.exit 0)))) (qk e0 (qs (.block 1 (qs (qd [(qa (qp 34 (qf 1 6)) e1 [40] [] [] 2),(qa (yk 35 34 [0]) e1 [40] [] [] 0),(qa (yc 36 .sub 35 (qz 1) [1]) e1 [40] [] [] 2),(qe (ym 37 0) [34,35,36,38,39] [0,1,2] 2),(qe (ym 38 11) [34,35,36,37] [0,1,2,3] 2),(qe (qi 39 (.bin .add (qz 3) (.v 38)) [4]) [34,35,36,37] [0,1,2,3] 2),(qa (qi 40 (.call 58 [.v 37,.v 39]) [3,5]) [34,35,36] [] [40] [0,1,2] 1),(qe (yc 41 .rem 40 (qz 200) [6]) [34,35,36] [0,1,2] 2),(qe (yb 42 .sub 36 41 [2,7]) [] [] 2),(qe (yf 43 1 6 [0,1,2,3,4,5,6,7,8]) [] [] 2),(qa (qo (.store 1 (.v 43) (.v 42)) [9,8,6,0,1,2,3,4,5,6,7,8]) [] [] [6] [] 1)]) (qk e0 (qs (qr [(ym 44 10),(ym 45 0),(ym 46 11),(qi 47 (.bin .add (qz 5) (.v 46)) [2]),(qi 48 (.call 58 [.v 45,.v 47]) [1,3]),(yc 49 .rem 48 (qz 65) [4]),(yb 50 .sub 44 49 [0,5]),(qi 51 (.mm true (qz (-64)) (.v 50)) [6]),(yn 10 51 [7,4,0,1,2,3,4,5,6,7])]) (qk e0 (qr [(qp 52 (qf 1 6)),(yk 53 52 [0]),(ym 54 10),(qi 55 (.build [.int .i64 0,.int .i64 0] [(0,1,.v 53),(1,1,.v 54)]) [1,2]),(qi 56 (.bslice 130 2 1 [.int .i64 0,.int .i64 0] [(0,2,.v 55)]) [3]),(ym 57 9),(qi 58 (.app 130 2 16 (.v 56) (.v 57)) [4,5]),(yn 9 58 [6,6,0,1,2,3,4,5,6])])))))) (qk e0 (.ghost (.canV 9 (63,0)) (qr [(ym 32 11),(yc 33 .add 32 (qz 1) [0]),(yn 11 33 [1,0,1])]))))))))))) (qk [0,4,5,6,8,9] xc51b))))))))))))))))))) y)=>y
 dsimp
theorem fn51:factOf Tryz.prog 51=some (ac51.strip,[.cell 4 true 5],98):=by kernel_rfl
theorem ok51:ac51.okAll=true:=by kernel_rfl
end
section
set_option maxHeartbeats 8000000
attribute [local simp ↓] oneM takeM
structure Axv where
 nm:ByteArray
 a:Int
 b:Int
 c:Int
 m:List (Int×Int)
def axRow (x:Axv):List PV:=[.str x.nm,.int .i64 x.a,.int .i64 x.b,.int .i64 x.c,.sl 2 (x.m.map mvRow)]
theorem tm3 (n:Int):n.tmod 3<3:=Int.tmod_lt_of_pos _ (by decide)
theorem b51 (l:List Int) (nm:ByteArray):∃ x:Axv,Best Tryz.prog 51 [.sl 1 (l.map intRow),.str nm] (.p (.agg (axRow x))):=by
 obtain ⟨v,⟨x,rfl⟩,h⟩:=bestE (Q:=fun v=>∃ x:Axv,v=.agg (axRow x)) mixed fn51 ok51 (args:=[.sl 1 (l.map intRow),.str nm]) (by simp) (by
  simp -dsimp [ac51,↓ awpC_of xc51b]
  refine call_p (b58 l 0) (by simp) (by simp) ?_
  simp -dsimp [↓ awpC_of xc51b]
  refine call_p (b58 l 1) (by simp) (by simp) ?_
  simp -dsimp [↓ awpC_of xc51b]
  refine call_p (b58 l 2) (by simp) (by simp) ?_
  obtain ⟨d,ed⟩:∃ d,IntKind.i64.wrap (IntKind.i64.wrap ((numS l 0:Int).tmod 41*25) - 500)=d:=⟨_,rfl⟩
  obtain ⟨lo,elo⟩:∃ d,(numS l 1:Int).tmod 3=d:=⟨_,rfl⟩
  obtain ⟨hi,ehi⟩:∃ d,(numS l 2:Int).tmod 3=d:=⟨_,rfl⟩
  have l1:=tm3 (numS l 1)
  have l2:=tm3 (numS l 2)
  rw [elo] at l1
  rw [ehi] at l2
  simp -dsimp [ed,elo,ehi,↓ awpC_of xc51b]
  have hd0:IntKind.i64.wrap 0=0:=rfl
  refine loopE lo.toNat (fun k (z:Int×Int×List (Int×Int))=>⟨[(0,.p (.sl 1 (l.map intRow))),(4,.ptr (4,0) 5 0 0),(5,.p (.int .i64 d)),(6,.ptr (6,0) 5 0 0),(7,.p (.int .i64 lo)),(8,.p (.int .i64 hi)),(9,.ref (63,0) 2 0 k),(10,.p (.int .i64 z.2.1)),(11,.p (.int .i64 k))],
   [((4,0),.box [.p (.str ⟨#[]⟩),.p (.int .i64 0),.p (.int .i64 0),.p (.int .i64 0),.p .nsl]),((6,0),.box [.p (.str nm),.p (.int .i64 z.1),.p (.int .i64 d),.p (.int .i64 d),.p .nsl]),((63,0),.sl 130 2 (z.2.2.map mvRow))]⟩) (fun k z=>z.2.2.length=k) (d,0,[]) (fun k z hk hz=>?_) rfl (by simp)
  obtain ⟨mn,y,lf⟩:=z
  dsimp only at hz
  by_cases h:(k:Int)<lo
  ·have wk:R ((k:Int)+1):=⟨by omega,by omega⟩
   have w3:R (3+(k:Int)):=⟨by omega,by omega⟩
   have w5:R (5+(k:Int)):=⟨by omega,by omega⟩
   have m1:1+k≤maxLen:=by unfold maxLen;omega
   have e1:(1+k)*16≤140737488355328:=by omega
   have q3:=b58 l (3+k)
   have q5:=b58 l (5+k)
   rw [show ((3+k:Nat):Int)=3+(k:Int) from by omega] at q3
   rw [show ((5+k:Nat):Int)=5+(k:Int) from by omega] at q5
   have ht0:List.take k (lf.map mvRow)=lf.map mvRow:=List.take_of_length_le (by simp;omega)
   simp -dsimp [h,wr w3]
   refine call_p q3 (by simp) (by simp) ?_
   simp -dsimp [wr w5]
   refine call_p q5 (by simp) (by simp) ?_
   obtain ⟨mn',emn⟩:∃ d,IntKind.i64.wrap (IntKind.i64.wrap (mn - 1) - (numS l (3+k):Int).tmod 200)=d:=⟨_,rfl⟩
   obtain ⟨y',ey⟩:∃ d,max (-64) (IntKind.i64.wrap (y - (numS l (5+k):Int).tmod 65))=d:=⟨_,rfl⟩
   have ht:List.take (1+k) ([.int .i64 mn',.int .i64 y'] :: lf.map mvRow)=[.int .i64 mn',.int .i64 y'] :: lf.map mvRow:=List.take_of_length_le (by simp;omega)
   simp -dsimp [emn,ey,hz,ht0,m1,e1,wr wk,List.range,List.range.loop,ht,-List.all_eq_true]
   exact ⟨h,mn',y',(mn',y') :: lf,by simp;omega,⟨by omega,rfl⟩,rfl,by simp [mvRow]⟩
  ·simp -dsimp [h,↓ awpC_of xc51b]
   refine awpC_in ?_
   have hk3:k≤3:=by omega
   have m1:k+1≤maxLen:=by unfold maxLen;omega
   have e1:(k+1)*16≤140737488355328:=by omega
   simp -dsimp [xc51b,hz,m1,e1,List.range,List.range.loop,-List.all_eq_true]
   refine loopE hi.toNat (fun j (z:Int×Int×List (Int×Int))=>⟨[(0,.p (.sl 1 (l.map intRow))),(4,.ptr (4,0) 5 0 0),(6,.ptr (6,0) 5 0 0),(8,.p (.int .i64 hi)),(10,.p (.int .i64 z.2.1)),(12,.p (.int .i64 j))],
    [((4,0),.box [.p (.str ⟨#[]⟩),.p (.int .i64 0),.p (.int .i64 0),.p (.int .i64 0),.p .nsl]),((6,0),.box [.p (.str nm),.p (.int .i64 mn),.p (.int .i64 d),.p (.int .i64 z.1),.ref (63,1) 2 0 (k+1+j)]),((63,1),.sl 130 2 (z.2.2.map mvRow))]⟩) (fun j z=>z.2.2.length=k+1+j) (d,0,lf++[(d,0)]) (fun j z hj hz2=>?_) (by simp [hz]) (by simp [mvRow])
   obtain ⟨mx,y2,lf2⟩:=z
   dsimp only at hz2
   by_cases h2:(j:Int)<hi
   ·have wk:R ((j:Int)+1):=⟨by omega,by omega⟩
    have w3:R (7+(j:Int)):=⟨by omega,by omega⟩
    have w5:R (9+(j:Int)):=⟨by omega,by omega⟩
    have m1:k+1+j+1≤maxLen:=by unfold maxLen;omega
    have e1:(k+1+j+1)*16≤140737488355328:=by omega
    have q3:=b58 l (7+j)
    have q5:=b58 l (9+j)
    rw [show ((7+j:Nat):Int)=7+(j:Int) from by omega] at q3
    rw [show ((9+j:Nat):Int)=9+(j:Int) from by omega] at q5
    simp -dsimp [h2,wr w3]
    refine call_p q3 (by simp) (by simp) ?_
    simp -dsimp [wr w5]
    refine call_p q5 (by simp) (by simp) ?_
    obtain ⟨mx',emn⟩:∃ d,IntKind.i64.wrap (IntKind.i64.wrap (mx+1)+(numS l (7+j):Int).tmod 200)=d:=⟨_,rfl⟩
    obtain ⟨y',ey⟩:∃ d,min 64 (IntKind.i64.wrap (y2+(numS l (9+j):Int).tmod 65))=d:=⟨_,rfl⟩
    have ht:List.take (k+1+j+1) (lf2.map mvRow++[[.int .i64 mx',.int .i64 y']])=lf2.map mvRow++[[.int .i64 mx',.int .i64 y']]:=List.take_of_length_le (by simp;omega)
    simp -dsimp [emn,ey,hz2,m1,e1,wr wk,List.range,List.range.loop,ht,-List.all_eq_true]
    exact ⟨h2,mx',y',lf2++[(mx',y')],by simp;omega,rfl,⟨rfl,by omega⟩,by simp [mvRow]⟩
   ·have ht2:List.take (k+1+j) (lf2.map mvRow)=lf2.map mvRow:=List.take_of_length_le (by simp;omega)
    simp -dsimp [h2,retE,hz2,ht2]
    exact ⟨⟨nm,mn,d,mx,lf2⟩,rfl⟩)
 exact ⟨x,h⟩
end
section
def xc20d:AC:=by
 apply fun (y:AC) (_:@Eq AC (let e0:=[0,2,3,5,9,10,11];let e1:=[125,126,127,128,129];let e2:=[0,2,3,5,9,10,11,12,13];(qs (qs (qr [(qp 11 (.mov (qz 0)))]) (qk e0 (.block 2 (.loop (qk e0 (qs (qs (qr [(ym 98 11),(ym 99 10),(yb 100 .lss 98 99 [0,1])]) (qk [0,2,3,5,9,10,11,100] (qq (.v 100) .skip (.exit 2)))) (qk e0 (qs (.block 3 (qs (qr [(ym 103 0),(ym 104 11),(qi 105 (.bin .add (qz 11) (.v 104)) [1]),(qi 106 (.call 49 [.v 103,.v 105]) [0,2]),(ym 107 11),(ym 108 10),(ym 109 9),(qi 110 (.call 56 [.v 106,.v 107,.v 108,.v 109]) [3,4,5,6,3]),(qp 12 (.alloc [.nsl])),(qo (.store 1 (.v 12) (.v 110)) [8,7,7,0,1,2,3,4,5,6,7,8])]) (qk [0,2,3,5,9,10,11,12] (qs (qr [(qp 111 (.bslice 3 1 9 [.int .i64 0,.int .i64 0,.int .i64 0,.int .i64 0,.int .i64 0,.int .i64 0,.int .i64 0,.int .i64 0,.int .i64 0] [(0,1,.c (.int .i64 0)),(1,1,.c (.int .i64 0)),(2,1,.c (.int .i64 1)),(3,1,.c (.int .i64 2)),(4,1,.c (.int .i64 3)),(5,1,.c (.int .i64 4)),(6,1,.c (.int .i64 5)),(7,1,.c (.int .i64 6)),(8,1,.c (.int .i64 9))])),(ym 112 3),(qi 113 (.call 50 [.v 112,.c (.int .i64 9)]) [1]),(yj 114 1 111 113 [0,2]),(yk 115 114 [3]),(yn 13 115 [4,2,0,1,2,3,4])]) (qk e2 (qs (qr [(qp 116 (qf 9 5)),(yk 117 116 [0]),(qp 118 (qt 1 12)),(qi 119 (.bslice 107 1 1 [.nsl] [(0,1,.v 118)]) [2]),(qi 120 (.app 107 1 24 (.v 117) (.v 119)) [1,3]),(yf 121 9 5 [0,1,2,3,4]),(qo (.store 1 (.v 121) (.v 120)) [5,4,4,0,1,2,3,4])]) (qk e2 (qd [(qa (qp 122 (qf 0 5)) e1 [127,129] [] [] 2),(qa (yf 123 7 122 [0]) e1 [127,129] [] [] 2),(qa (yk 124 123 [1]) e1 [127,129] [] [] 0),(qa (ym 125 13) [122,123,124,126,127] [127] [] [0,1,2] 2),(qe (qp 126 (qt 1 12)) [122,123,124,125] [0,1,2,3] 2),(qa (qi 127 (.call 57 [.v 126]) [4]) [122,123,124,125] [] [127] [0,1,2,3] 1),(qe (qi 128 (.build [.int .i64 0,.nsl] [(0,1,.v 125),(1,1,.v 127)]) [3,5]) [122,123,124] [0,1,2] 2),(qa (qi 129 (.bslice 111 2 1 [.int .i64 0,.nsl] [(0,2,.v 128)]) [6]) [122,123,124] [] [129] [0,1,2] 1),(qa (qi 130 (.app 111 2 32 (.v 124) (.v 129)) [2,7,5]) [] [] [15,18,21,25,30,40,42,48,52,53,54,60,63,64,72,78,83,87,94,97,106,110,111,113,119,120,127,129,130,999970,999971,999972,999973,999980,999981,999982,999983,999990,999991,999992,999993,1000000,1000001,1000002,1000003,1000004,1000005,1000006,1000007] [] 1),(qe (yf 131 0 5 [0,1,2,3,4,5,6,7,8]) [] [] 2),(qe (yf 132 7 131 [9,0,1,2,3,4,5,6,7,8]) [] [] 2),(qa (qo (.store 1 (.v 132) (.v 130)) [10,8,8,0,1,2,3,4,5,6,7,8]) [] [] [5] [] 1)])))))))) (qk e0 (.ghost (.canC (5,0) 7 (999981,1)) (.ghost (.canC (5,0) 9 (999980,1)) (qr [(ym 101 11),(yc 102 .add 101 (qz 1) [0]),(yn 11 102 [1,0,1])])))))))))))) (qk [2,5] (qs (qr [(qp 133 (qt 11 5)),(qo (.store 11 (.v 2) (.v 133)) [0,0])]) (qk [2] .ret))))) y)=>y
 dsimp
def xc20c:AC:=by
 apply fun (y:AC) (_:@Eq AC (let e0:=[0,2,3,5,6,8,9];(qs (qr [(ym 71 3),(qi 72 (.call 50 [.v 71,.c (.int .i64 7)]) [0]),(qi 73 (.bin .add (qz 2) (.v 72)) [1]),(yn 9 73 [2,1,0,1,2])]) (qk e0 (qs (qr [(ym 74 9),(yf 75 0 5 [0]),(yf 76 4 75 [1,0]),(qo (.store 1 (.v 76) (.v 74)) [2,0,0])]) (qk e0 (qs (qr [(ym 77 0),(qi 78 (.call 49 [.v 77,.c (.int .i64 1)]) [0]),(qi 79 (.build [.nsl,.int .i64 0] [(0,1,.v 78)]) [1]),(qi 80 (.box (.v 79)) [2]),(ym 81 9),(ym 82 8),(qi 83 (.call 53 [.v 80,.v 81,.v 82]) [3,4,5,1]),(yf 84 0 5 [0,1,2,3,4,5,6]),(yf 85 5 84 [7,0,1,2,3,4,5,6]),(qo (.store 1 (.v 85) (.v 83)) [8,6,6,0,1,2,3,4,5,6])]) (qk e0 (qs (qr [(ym 86 3),(qi 87 (.call 54 [.v 86]) [0]),(yf 88 0 5 [0,1]),(yf 89 6 88 [2,0,1]),(qo (.store 1 (.v 89) (.v 87)) [3,1,1,0,1])]) (qk e0 (qs (qr [(ym 90 0),(ym 91 9),(ym 92 6),(ym 93 8),(qi 94 (.call 55 [.v 90,.v 91,.v 92,.v 93]) [0,1,2,3]),(yf 95 10 5 [0,1,2,3,4]),(qo (.store 1 (.v 95) (.v 94)) [5,4,4,0,1,2,3,4])]) (qk [0,2,3,5,9] (qs (qr [(ym 96 3),(qi 97 (.call 50 [.v 96,.c (.int .i64 4)]) [0]),(yn 10 97 [1,1,0,1])]) (qk [0,2,3,5,9,10] (.ghost (.ownC (5,0) 7 (999981,1) 111 2) (.ghost (.ownC (5,0) 9 (999980,1) 107 1) xc20d))))))))))))))) y)=>y
 dsimp
def xc20e:AC:=by
 apply fun (y:AC) (_:@Eq AC (qs (qr [(qp 67 (qf 0 5)),(yf 68 3 67 [0]),(yk 69 68 [1]),(yh 70 69 [2]),(yn 8 70 [3,0,1,2,3])]) (qk [0,2,3,5,6,8] xc20c)) y)=>y
 dsimp
def xc20b:AC:=by
 apply fun (y:AC) (_:@Eq AC (qs (qs (qr [(ym 57 6),(yc 58 .gtr 57 (qz 0) [0])]) (qk [0,2,3,5,6,58] (qq (.v 58) (qr [(ym 59 0),(qi 60 (.call 49 [.v 59,.c (.int .i64 2)]) [0]),(ym 61 6),(ym 62 3),(qi 63 (.call 50 [.v 62,.c (.int .i64 3)]) [3,1]),(qi 64 (.call 52 [.v 60,.v 61,.v 63]) [1,2,4,4]),(yf 65 0 5 [0,1,2,3,4,5]),(yf 66 3 65 [6,0,1,2,3,4,5]),(qo (.store 1 (.v 66) (.v 64)) [7,5,5,0,1,2,3,4,5])]) .skip))) (qk [0,2,3,5,6] (.ghost (.zslC (5,0) 3 1) xc20e))) y)=>y
 dsimp
def ac20:AC:=by
 apply fun (y:AC) (_:@Eq AC (let e0:=[39,40,41,42,43,44,45,46,47,48,49,50,51,52,53];let e1:=[0,1,2,3,4,5,6,7,8,9,10,11];let e2:=[36,37,38,39,40,41,42,43,48,49,50,51];let e3:=[36,37,38,39,40,41,42,43,44,45,46,47];let e4:=[36,37,38,41,44,45,48,49,50,51];let e5:=[0,1,2];let e6:=[36,37,38,44,45,48,49,50,51];let e7:=[0,2,3,5,6,7];let e8:=[40,42,48,52,53];let e9:=[36,37,38,48,49,50,51];let e10:=[40,42,48];(qk [0] (qs (qr [(qp 2 (.alloc [.str ⟨#[]⟩,.int .i64 0,.nsl,.nsl,.int .i64 0,.nsl,.nsl,.nsl,.str ⟨#[]⟩,.nsl,.nsl]))]) (qk [0,2] (qs (qr [(ym 14 0),(qi 15 (.call 49 [.v 14,.c (.int .i64 0)]) [0]),(qi 16 (.build [.nsl,.int .i64 0] [(0,1,.v 15)]) [1]),(qi 17 (.box (.v 16)) [2]),(yn 3 17 [3,1,0,1,2,3])]) (qk [0,2,3] (qs (qr [(qp 18 (.bslice 9 1 3 [.str ⟨#[]⟩,.str ⟨#[]⟩,.str ⟨#[]⟩] [(0,1,.c (.str ⟨#[115,97,110,115]⟩)),(1,1,.c (.str ⟨#[115,101,114,105,102]⟩)),(2,1,.c (.str ⟨#[97,49]⟩))])),(yn 4 18 [0,0])]) (qk [0,2,3,4] (qs (qd [(qa (ym 19 4) [5,20,21,24,25,26] [5,17,21,25] [] [] 2),(qa (ym 20 3) [5,19,24] [5] [] [0] 2),(qa (qi 21 (.call 50 [.v 20,.c (.int .i64 3)]) [1]) [5,19,24] [5] [17,21] [0] 0),(qa (yj 22 1 19 21 [0,2]) [5,24,25,26] [5,17,25] [] [] 2),(qa (yk 23 22 [3]) [5,24,25,26] [5,17,25] [] [] 0),(qa (ym 24 3) [5,19,20,21,22,23] [5,17,21] [] [0,1,2,3,4] 2),(qa (qi 25 (.call 50 [.v 24,.c (.int .i64 5)]) [5,2]) [5,19,22,23] [5] [17,25] [0,3,4] 0),(qa (qi 26 (.bin .add (qz 1) (.v 25)) [6]) [5,19,22,23] [5] [] [0,3,4] 2),(qa (qi 27 (.build [.str ⟨#[]⟩,.int .i64 0,.nsl,.nsl,.int .i64 0,.nsl,.nsl,.nsl,.str ⟨#[]⟩] [(0,1,.v 23),(1,1,.v 26)]) [4,7]) [5] [5] [] [] 2),(qa (qi 28 (.build [.str ⟨#[]⟩,.int .i64 0,.nsl,.nsl,.int .i64 0,.nsl,.nsl,.nsl,.str ⟨#[]⟩,.nsl,.nsl] [(0,9,.v 27)]) [8]) [5] [5] [] [] 2),(qa (qp 5 (.alloc [.str ⟨#[]⟩,.int .i64 0,.nsl,.nsl,.int .i64 0,.nsl,.nsl,.nsl,.str ⟨#[]⟩,.nsl,.nsl])) [19,20,21,22,23,24,25,26,27,28] [17,21,25] [5] [0,1,2,3,4,5,6,7,8,9] 0),(qa (qo (.store 11 (.v 5) (.v 28)) [10,9,6,0,1,2,3,4,5,6,7,8,9,10]) [] [] [5] [] 1)]) (qk [0,2,3,5] (qs (qr [(ym 29 3),(qi 30 (.call 50 [.v 29,.c (.int .i64 3)]) [0]),(yn 6 30 [1,1,0,1])]) (qk [0,2,3,5,6] (.ghost (.ownC (5,0) 2 (999982,1) 99 5) (qs (qs (qr [(qp 7 (.mov (qz 0)))]) (qk e7 (.block 0 (.loop (qk e7 (qs (qs (qr [(ym 31 7),(ym 32 6),(yb 33 .lss 31 32 [0,1])]) (qk [0,2,3,5,6,7,33] (qq (.v 33) .skip (.exit 0)))) (qk e7 (qs (.block 1 (qd [(qa (qp 36 (qf 0 5)) e0 e8 [] [] 2),(qa (yf 37 2 36 [0]) e0 e8 [] [] 2),(qa (yk 38 37 [1]) e0 e8 [] [] 0),(qa (ym 39 0) e4 [48] [] e5 2),(qa (qi 40 (.call 49 [.v 39,.c (.int .i64 2)]) [3]) e4 [48] [40] e5 0),(qa (ym 41 0) [36,37,38,39,40,44,45,48,49,50,51] [40,48] [] [0,1,2,3,4] 2),(qa (qi 42 (.call 49 [.v 41,.c (.int .i64 2)]) [5,4]) e6 [48] [42] e5 0),(qa (yh 43 42 [6]) e6 [48] [] e5 2),(qa (ym 44 7) e2 e10 [] [0,1,2,3,4,5,6,7] 2),(qa (qi 45 (.bin .mul (qz 7) (.v 44)) [8]) e2 e10 [] [0,1,2,3,4,5,6,7] 2),(qa (qi 46 (.mm false (.v 43) (.v 45)) [7,9]) e9 [48] [] e5 2),(qa (qi 47 (.slcV 1 (.v 40) (some (.v 46)) none) [4,10]) e9 [48] [] e5 2),(qa (qp 48 (.bslice 9 1 2 [.str ⟨#[]⟩,.str ⟨#[]⟩] [(0,1,.c (.str ⟨#[119,103,104,116]⟩)),(1,1,.c (.str ⟨#[119,100,116,104]⟩))])) [36,37,38,39,40,41,42,43,44,45,46,47,49] [40,42] [48] e1 0),(qa (ym 49 7) [36,37,38,39,40,41,42,43,44,45,46,47,48] e10 [] [0,1,2,3,4,5,6,7,8,9,10,11,12] 2),(qa (yj 50 1 48 49 [12,13]) e3 [40,42] [] e1 2),(qa (yk 51 50 [14]) e3 [40,42] [] e1 0),(qa (qi 52 (.call 51 [.v 47,.v 51]) [11,15,6]) [36,37,38] [] [52] e5 1),(qa (qi 53 (.bslice 99 5 1 [.str ⟨#[]⟩,.int .i64 0,.int .i64 0,.int .i64 0,.nsl] [(0,5,.v 52)]) [16]) [36,37,38] [] [53] e5 1),(qa (qi 54 (.app 99 5 64 (.v 38) (.v 53)) [2,17,16]) [] [] [15,18,21,25,30,40,42,48,52,53,54,60,63,64,72,78,83,87,94,97,106,110,111,113,119,120,127,129,130,999970,999971,999972,999973,999980,999981,999982,999983,999990,999991,999992,999993,1000000,1000001,1000002,1000003,1000004,1000005,1000006,1000007] [] 1),(qe (yf 55 0 5 [0,1,2,3,4,5,6,7,8,9,10,11,12,13,14,15,16,17,18]) [] [] 2),(qe (yf 56 2 55 [19,0,1,2,3,4,5,6,7,8,9,10,11,12,13,14,15,16,17,18]) [] [] 2),(qa (qo (.store 1 (.v 56) (.v 54)) [20,18,18,0,1,2,3,4,5,6,7,8,9,10,11,12,13,14,15,16,17,18]) [] [] [5] [] 1)])) (qk e7 (.ghost (.canC (5,0) 2 (999982,1)) (qr [(ym 34 7),(yc 35 .add 34 (qz 1) [0]),(yn 7 35 [1,0,1])]))))))))))) (qk [0,2,3,5,6] (.ghost (.freeze (999982,1)) xc20b)))))))))))))))) y)=>y
 dsimp
theorem fn20:factOf Tryz.prog 20=some (ac20.strip,[.cell 2 true 11],134):=by kernel_rfl
theorem ok20:ac20.okAll=true:=by kernel_rfl
end
section
set_option maxHeartbeats 8000000
attribute [local simp ↓] oneM takeM
structure Cor where
 nm:ByteArray
 ver:Int
 ax:List Axv
 rg:List (List T3)
 gl:Int
 ch:List Ch
 pr:List (Int×Int×Int)
 hd:List (Int×List Int)
def hdRow (x:Int×List Int):List PV:=[.int .i64 x.1,.sl 1 (x.2.map intRow)]
def corRow (c:Cor):List PV:=[.str c.nm,.int .i64 c.ver,.sl 5 (c.ax.map axRow),.sl 1 (c.rg.map regRow),.int .i64 c.gl,.sl 4 (c.ch.map chRow),.sl 3 (c.pr.map i3Row),.sl 2 (c.hd.map hdRow),.str ⟨#[]⟩]
def lkRow (x:List Ru):List PV:=[.sl 5 (x.map ruRow)]
def Cor.ok (c:Cor):Prop:=c.ax.length≤2∧(c.rg.length≤2∧∀ r∈c.rg,r.length≤2)∧(c.ch.length≤256∧ChsOk c.gl c.rg.length c.ch)∧c.pr.length≤4∧PairsOk c.pr∧c.hd.length≤3
def box20 (c:Cor) (a h l:AV) (ch pr gs:AV):Blk:=.box [.p (.str c.nm),.p (.int .i64 c.ver),a,.p (.sl 1 (c.rg.map regRow)),.p (.int .i64 c.gl),ch,pr,h,.p (.str ⟨#[]⟩),l,gs]
def z20:Blk:=.box [.p (.str ⟨#[]⟩),.p (.int .i64 0),.p .nsl,.p .nsl,.p (.int .i64 0),.p .nsl,.p .nsl,.p .nsl,.p (.str ⟨#[]⟩),.p .nsl,.p .nsl]
def d20 (d:Dr):Blk:=.box [.p (.sl 1 (d.l.map intRow)),.p (.int .i64 d.a)]
def K20:AE→Fr→Prop:=retE [.cell 2 true 11] (fun v=>∃ (c:Cor) (ls:List (List Ru)) (gs:List Gl),v=.agg (corRow c++[.sl 1 (ls.map lkRow),.sl 8 (gs.map glRow)])∧c.ok)
attribute [local simp] box20 z20 d20
theorem b20d (l:List (List Int)) (hl:∀ x∈l,∀ n∈x,R n) (c:Cor) (hc:c.ok) (hd:c.hd=[]) (gs:List Gl) (d:Dr) (hdr:d.ok) (g:Nat) (hg:1≤g) (hg2:g≤1000) (hcg:c.gl=g) (m:Nat) (hm:m≤3) :
  awp Tryz.prog xc20d K20 ⟨[(0,.p (.sl 1 (l.map llRow))),(2,.ptr (2,0) 11 0 0),(3,.ptr (17,0) 2 0 0),(5,.ptr (5,0) 11 0 0),(9,.p (.int .i64 g)),(10,.p (.int .i64 m))],
   [((2,0),z20),((5,0),box20 c (.p (.sl 5 (c.ax.map axRow))) (.ref (999981,1) 2 0 0) (.ref (999980,1) 1 0 0) (.p (.sl 4 (c.ch.map chRow))) (.p (.sl 3 (c.pr.map i3Row))) (.p (.sl 8 (gs.map glRow)))),((17,0),d20 d),((999980,1),.sl 107 1 []),((999981,1),.sl 111 2 [])]⟩:=by
 simp -dsimp [xc20d]
 refine loopE m (fun k (y:(List (Int×List Int)×List (List Ru))×Dr)=>⟨[(0,.p (.sl 1 (l.map llRow))),(2,.ptr (2,0) 11 0 0),(3,.ptr (17,0) 2 0 0),(5,.ptr (5,0) 11 0 0),(9,.p (.int .i64 g)),(10,.p (.int .i64 m)),(11,.p (.int .i64 k))],
  [((2,0),z20),((5,0),box20 c (.p (.sl 5 (c.ax.map axRow))) (.ref (999981,1) 2 0 k) (.ref (999980,1) 1 0 k) (.p (.sl 4 (c.ch.map chRow))) (.p (.sl 3 (c.pr.map i3Row))) (.p (.sl 8 (gs.map glRow)))),((17,0),d20 y.2),((999980,1),.sl 107 1 (y.1.2.map lkRow)),((999981,1),.sl 111 2 (y.1.1.map hdRow))]⟩) (fun k y=>y.1.1.length=k∧y.1.2.length=k∧y.2.ok) (([],[]),d) (fun k y hk hy=>?_) ⟨rfl,rfl,hdr⟩ (by simp)
 obtain ⟨⟨hs,ls⟩,d⟩:=y
 obtain ⟨h1,h2,h3⟩:=hy
 dsimp only at h1 h2 h3
 by_cases h:k<m
 ·have wk:R ((k:Int)+1):=⟨by omega,by omega⟩
  have w11:R (11+(k:Int)):=⟨by omega,by omega⟩
  have m1:k+1≤maxLen:=by unfold maxLen;omega
  have e1:(k+1)*24≤140737488355328:=by omega
  have e2:(k+1)*32≤140737488355328:=by omega
  have q49:=b49 l (11+k)
  rw [show ((11+k:Nat):Int)=11+(k:Int) from by omega] at q49
  obtain ⟨y,ey⟩:∃ y,partL l (11+k)=y:=⟨_,rfl⟩
  have hy:∀ n∈y,R n:=ey ▸ partR hl
  have hyl:y.length≤60:=ey ▸ partLen
  rw [ey] at q49
  obtain ⟨x,⟨x1,x2⟩,q56⟩:=b56 y hy (by omega) k m g (by omega) (by omega) hg hg2
  obtain ⟨f,d',hd',vf,p⟩:=b50n d h3 9 (17,0) (by decide) (by decide)
  have hf9:(f:Int)<9:=vf
  obtain ⟨ft,hft⟩:∃ ft:Int,([[PV.int .i64 0],[PV.int .i64 0],[PV.int .i64 1],[PV.int .i64 2],[PV.int .i64 3],[PV.int .i64 4],[PV.int .i64 5],[PV.int .i64 6],[PV.int .i64 9]]:List (List PV))[f]?=some [PV.int .i64 ft]:=by
   have:f=0∨f=1∨f=2∨f=3∨f=4∨f=5∨f=6∨f=7∨f=8:=by omega
   rcases this with rfl | rfl | rfl | rfl | rfl | rfl | rfl | rfl | rfl
   all_goals exact ⟨_,rfl⟩
  obtain ⟨fs,q57⟩:=b57 x (by omega) (fun r hr z hz=>by have:=x2 r hr z hz;omega)
  have ha1:((ls.map lkRow).all fun r=>r.all PV.one)=true:=by
   rw [List.all_eq_true];intro r hr;obtain ⟨u,_,rfl⟩:=List.mem_map.1 hr;rfl
  have ha2:((hs.map hdRow).all fun r=>r.all PV.one)=true:=by
   rw [List.all_eq_true];intro r hr;obtain ⟨u,_,rfl⟩:=List.mem_map.1 hr;rfl
  have ht1:List.take (k+1) (ls.map lkRow++[lkRow x])=ls.map lkRow++[lkRow x]:=List.take_of_length_le (by simp;omega)
  have ht2:List.take (k+1) (hs.map hdRow++[hdRow (ft,fs)])=hs.map hdRow++[hdRow (ft,fs)]:=List.take_of_length_le (by simp;omega)
  simp -dsimp [h,wr w11]
  refine call_p q49 (by simp) (by simp) ?_
  simp -dsimp
  refine call_p q56 (by simp) (by simp) ?_
  simp -dsimp [List.range,List.range.loop]
  refine call_m p (by simp) (by simp) (by simp) ?_
  simp only [lkRow] at ha1 ht1
  simp only [hdRow] at ha2 ht2
  simp -dsimp [hf9,hft,h1,h2,m1,e1,lkRow,ha1,List.range,List.range.loop,-List.all_eq_true]
  refine call_p q57 (by simp) (by simp) ?_
  simp -dsimp [h1,h2,m1,e2,hdRow,ha2,ht1,ht2,wr wk,h,List.range,List.range.loop,-List.all_eq_true]
  exact ⟨hs++[(ft,fs)],ls++[x],d',⟨by simp [h1],by simp [h2],hd'⟩,⟨rfl,rfl⟩,by simp [lkRow],by simp [hdRow]⟩
 ·have:k=m:=by omega
  subst this
  have ht1:List.take k (ls.map lkRow)=ls.map lkRow:=List.take_of_length_le (by simp;omega)
  have ht2:List.take k (hs.map hdRow)=hs.map hdRow:=List.take_of_length_le (by simp;omega)
  simp -dsimp [h,K20,retE,h1,h2,ht1,ht2]
  obtain ⟨c1,c2,c3,c4,c5,c6⟩:=hc
  exact ⟨{ c with hd:=hs },⟨ls,gs,by simp [corRow]⟩,c1,c2,c3,c4,c5,by dsimp only;omega⟩
def b20box (nm:ByteArray) (ver:Int) (xs:List Axv) (rg:AV):Blk:=.box [.p (.str nm),.p (.int .i64 ver),.p (.sl 5 (xs.map axRow)),rg,.p (.int .i64 0),.p .nsl,.p .nsl,.p .nsl,.p (.str ⟨#[]⟩),.p .nsl,.p .nsl]
attribute [local simp] b20box
theorem b20c (l:List (List Int)) (hl:∀ x∈l,∀ n∈x,R n) (hl2:l.length≤140737488355328) (nm:ByteArray) (ver:Int) (xs:List Axv) (hxs:xs.length≤2) (rg:List (List T3)) (hrg:rg.length≤2∧∀ r∈rg,r.length≤2) (d:Dr) (hdr:d.ok) (n:Nat) (hn:n≤2) :
  awp Tryz.prog xc20c K20 ⟨[(0,.p (.sl 1 (l.map llRow))),(2,.ptr (2,0) 11 0 0),(3,.ptr (17,0) 2 0 0),(5,.ptr (5,0) 11 0 0),(6,.p (.int .i64 n)),(8,.p (.int .i64 rg.length))],
   [((2,0),z20),((5,0),b20box nm ver xs (.p (.sl 1 (rg.map regRow)))),((17,0),d20 d)]⟩:=by
 obtain ⟨v,d1,hd1,v1,p1⟩:=b50n d hdr 7 (17,0) (by decide) (by decide)
 have w2:R (2+(v:Int)):=⟨by omega,by omega⟩
 have q1:=b49 l 1
 obtain ⟨y1,ey1⟩:∃ y,partL l 1=y:=⟨_,rfl⟩
 have hy1:∀ n∈y1,R n:=ey1 ▸ partR hl
 have hl1:y1.length≤60:=ey1 ▸ partLen
 rw [ey1] at q1
 have e2:(2:Int)+v=((2+v:Nat):Int):=by omega
 have hg1:1≤2+v:=by omega
 have hg2:2+v≤1000:=by omega
 generalize 2+v=g at *
 obtain ⟨ch,d2,hd2,⟨c1,c2⟩,p2⟩:=b53 ⟨y1,0⟩ ⟨hy1,by dsimp only;omega⟩ g rg.length hg1 hg2 (by omega) (80,0)
 obtain ⟨pr,d3,hd3,⟨r1,r2⟩,p3⟩:=b54 d1 hd1 (17,0)
 obtain ⟨gs,gl,q55⟩:=b55 l hl hl2 g n rg.length hg2 (by omega) (by omega)
 obtain ⟨m,d4,hd4,v4,p4⟩:=b50n d3 hd3 4 (17,0) (by decide) (by decide)
 simp -dsimp [xc20c,↓ awpC_of xc20d]
 refine call_m p1 (by simp) (by simp) (by simp) ?_
 have w2':R (g:Int):=⟨by omega,by omega⟩
 simp -dsimp [e2,wr w2',↓ awpC_of xc20d]
 refine call_p q1 (by simp) (by simp) ?_
 simp -dsimp [↓ awpC_of xc20d]
 refine call_m p2 (by simp) (by simp) (by simp) ?_
 simp -dsimp [↓ awpC_of xc20d]
 refine call_m p3 (by simp) (by simp) (by simp) ?_
 simp -dsimp [↓ awpC_of xc20d]
 refine call_p q55 (by simp) (by simp) ?_
 simp -dsimp [↓ awpC_of xc20d]
 refine call_m p4 (by simp) (by simp) (by simp) ?_
 simp -dsimp [↓ awpC_of xc20d]
 exact awpC_in (b20d l hl ⟨nm,ver,xs,rg,g,ch,pr,[]⟩ ⟨hxs,hrg,⟨c1,c2⟩,r1,r2,by simp⟩ rfl gs d4 hd4 g hg1 hg2 rfl m (by omega))
theorem b20e (l:List (List Int)) (hl:∀ x∈l,∀ n∈x,R n) (hl2:l.length≤140737488355328) (nm:ByteArray) (ver:Int) (xs:List Axv) (hxs:xs.length≤2) (rg:List (List T3)) (hrg:rg.length≤2∧∀ r∈rg,r.length≤2) (d:Dr) (hdr:d.ok) (n:Nat) (hn:n≤2) :
  awp Tryz.prog xc20e K20 ⟨[(0,.p (.sl 1 (l.map llRow))),(2,.ptr (2,0) 11 0 0),(3,.ptr (17,0) 2 0 0),(5,.ptr (5,0) 11 0 0),(6,.p (.int .i64 n))],
   [((2,0),z20),((5,0),b20box nm ver xs (.p (.sl 1 (rg.map regRow)))),((17,0),d20 d)]⟩:=by
 simp -dsimp [xc20e,↓ awpC_of xc20c]
 exact awpC_in (b20c l hl hl2 nm ver xs hxs rg hrg d hdr n hn)
theorem b20b (l:List (List Int)) (hl:∀ x∈l,∀ n∈x,R n) (hl2:l.length≤140737488355328) (nm:ByteArray) (ver:Int) (xs:List Axv) (hxs:xs.length≤2) (d:Dr) (hdr:d.ok) (n:Nat) (hn:n≤2) :
  awp Tryz.prog xc20b K20 ⟨[(0,.p (.sl 1 (l.map llRow))),(2,.ptr (2,0) 11 0 0),(3,.ptr (17,0) 2 0 0),(5,.ptr (5,0) 11 0 0),(6,.p (.int .i64 n))],
   [((2,0),z20),((5,0),b20box nm ver xs (.p .nsl)),((17,0),d20 d)]⟩:=by
 have q2:=b49 l 2
 obtain ⟨m,d1,hd1,v1,p1⟩:=b50n d hdr 3 (17,0) (by decide) (by decide)
 have q52:=b52 (partL l 2) n m (by omega) (by omega)
 by_cases h:0<n
 ·simp -dsimp [xc20b,h,↓ awpC_of xc20e]
  refine call_p q2 (by simp) (by simp) ?_
  simp -dsimp [↓ awpC_of xc20e]
  refine call_m p1 (by simp) (by simp) (by simp) ?_
  simp -dsimp [↓ awpC_of xc20e]
  refine call_p q52 (by simp) (by simp) ?_
  simp -dsimp [↓ awpC_of xc20e]
  exact awpC_in (b20e l hl hl2 nm ver xs hxs (regsL (partL l 2) n m) ⟨by rw [regsL_len];omega,fun r hr=>by obtain ⟨k,_,rfl⟩:=List.mem_map.1 hr;simp only [regS,madeReg_len];omega⟩ d1 hd1 n hn)
 ·simp -dsimp [xc20b,h,↓ awpC_of xc20e]
  exact awpC_in (b20e l hl hl2 nm ver xs hxs [] (by simp) d hdr n hn)
theorem b20 (l:List (List Int)) (hl:∀ x∈l,∀ n∈x,R n) (hl2:l.length≤140737488355328):∃ (c:Cor) (ls:List (List Ru)) (gs:List Gl),c.ok∧Best Tryz.prog 20 [.sl 1 (l.map llRow)] (.p (.agg (corRow c++[.sl 1 (ls.map lkRow),.sl 8 (gs.map glRow)]))):=by
 obtain ⟨v,⟨c,ls,gs,rfl,hc⟩,h⟩:=bestE (Q:=fun v=>∃ (c:Cor) (ls:List (List Ru)) (gs:List Gl),v=.agg (corRow c++[.sl 1 (ls.map lkRow),.sl 8 (gs.map glRow)])∧c.ok) mixed fn20 ok20 (args:=[.sl 1 (l.map llRow)]) (by simp) (by
  change awp Tryz.prog ac20 K20 _
  have q0:=b49 l 0
  have q2:=b49 l 2
  obtain ⟨y0,ey0⟩:∃ y,partL l 0=y:=⟨_,rfl⟩
  obtain ⟨y2,ey2⟩:∃ y,partL l 2=y:=⟨_,rfl⟩
  have hy0:∀ n∈y0,R n:=ey0 ▸ partR hl
  have hy2:∀ n∈y2,R n:=ey2 ▸ partR hl
  have hl0:y0.length≤60:=ey0 ▸ partLen
  have hl22:y2.length≤60:=ey2 ▸ partLen
  rw [ey0] at q0
  rw [ey2] at q2
  simp -dsimp [ac20,↓ awpC_of xc20b]
  refine call_p q0 (by simp) (by simp) ?_
  obtain ⟨n1,d1,hd1,v1,p1⟩:=b50n ⟨y0,0⟩ ⟨hy0,by dsimp only;omega⟩ 3 (17,0) (by decide) (by decide)
  simp -dsimp [↓ awpC_of xc20b,List.range,List.range.loop]
  refine call_m p1 (by simp) (by simp) (by simp) ?_
  have hn1:n1=0∨n1=1∨n1=2:=by omega
  obtain ⟨nm,enm⟩:∃ nm:ByteArray,(if n1=0 then ⟨#[115,97,110,115]⟩ else if n1=1 then ⟨#[115,101,114,105,102]⟩ else ⟨#[97,49]⟩:ByteArray)=nm:=⟨_,rfl⟩
  have hnm:([[PV.str ⟨#[115,97,110,115]⟩],[PV.str ⟨#[115,101,114,105,102]⟩],[PV.str ⟨#[97,49]⟩]]:List (List PV))[n1]?=some [PV.str nm]:=by
   rcases hn1 with rfl | rfl | rfl<;>(rw [←enm];rfl)
  obtain ⟨n2,d2,hd2,v2,p2⟩:=b50n d1 hd1 5 (17,0) (by decide) (by decide)
  have h3:(n1:Int)<3:=v1
  have w2:R (1+(n2:Int)):=⟨by omega,by omega⟩
  simp -dsimp [↓ awpC_of xc20b,List.range,List.range.loop,h3,hnm]
  refine call_m p2 (by simp) (by simp) (by simp) ?_
  obtain ⟨n3,d3,hd3,v3,p3⟩:=b50n d2 hd2 3 (17,0) (by decide) (by decide)
  simp -dsimp [↓ awpC_of xc20b,wr w2]
  refine call_m p3 (by simp) (by simp) (by simp) ?_
  simp -dsimp [↓ awpC_of xc20b]
  refine loopE n3 (fun k (xs:List Axv)=>⟨[(0,.p (.sl 1 (l.map llRow))),(2,.ptr (2,0) 11 0 0),(3,.ptr (17,0) 2 0 0),(5,.ptr (5,0) 11 0 0),(6,.p (.int .i64 n3)),(7,.p (.int .i64 k))],
   [((2,0),z20),((5,0),.box [.p (.str nm),.p (.int .i64 (1+n2)),.ref (999982,1) 5 0 k,.p .nsl,.p (.int .i64 0),.p .nsl,.p .nsl,.p .nsl,.p (.str ⟨#[]⟩),.p .nsl,.p .nsl]),((17,0),d20 d3),((999982,1),.sl 99 5 (xs.map axRow))]⟩) (fun k xs=>xs.length=k) [] (fun k xs hk has=>?_) rfl (by simp)
  by_cases h:k<n3
  ·have wk:R ((k:Int)+1):=⟨by omega,by omega⟩
   have w7:R (7*(k:Int)):=⟨by omega,by omega⟩
   have hk2:k<2:=by omega
   have hk2':(k:Int)<2:=by omega
   have m1:k+1≤maxLen:=by unfold maxLen;omega
   have e1:(k+1)*64≤140737488355328:=by omega
   obtain ⟨a,ea⟩:∃ a:Nat,min (y2.length:Int) (7*(k:Int))=a:=⟨min y2.length (7*k),by omega⟩
   have hay:a≤y2.length:=by omega
   obtain ⟨nk,hnk⟩:∃ nk:ByteArray,([[PV.str ⟨#[119,103,104,116]⟩],[PV.str ⟨#[119,100,116,104]⟩]]:List (List PV))[k]?=some [PV.str nk]:=by
    have:k=0∨k=1:=by omega
    rcases this with rfl | rfl
    ·exact ⟨_,rfl⟩
    ·exact ⟨_,rfl⟩
   obtain ⟨x,q51⟩:=b51 (y2.drop a) nk
   have hall:((xs.map axRow).all fun r=>r.all PV.one)=true:=by
    rw [List.all_eq_true];intro r hr;obtain ⟨u,_,rfl⟩:=List.mem_map.1 hr;rfl
   have ht:List.take (k+1) (xs.map axRow++[axRow x])=xs.map axRow++[axRow x]:=List.take_of_length_le (by simp;omega)
   have hty:List.take y2.length (y2.map intRow)=y2.map intRow:=List.take_of_length_le (by simp)
   simp -dsimp [h]
   refine call_p q2 (by simp) (by simp) ?_
   simp -dsimp
   refine call_p q2 (by simp) (by simp) ?_
   simp -dsimp [wr w7,ea,hay,hk2',hnk,List.range,List.range.loop]
   refine call_p q51 (by simp [List.map_drop,hty]) (by simp) ?_
   simp only [axRow] at hall ht
   simp -dsimp [axRow,has,m1,e1,wr wk,h,hall,ht,List.range,List.range.loop,-List.all_eq_true]
   exact ⟨xs++[x],by simp [has],by simp [axRow]⟩
  ·have:k=n3:=by omega
   subst this
   have hle:k≤xs.length:=by omega
   have ht:List.take k (xs.map axRow)=xs.map axRow:=List.take_of_length_le (by simp;omega)
   simp -dsimp [h,hle,ht,↓ awpC_of xc20b]
   exact awpC_in (b20b l hl hl2 nm (1+n2) xs (by omega) d3 hd3 k (by omega)))
 exact ⟨c,ls,gs,hc,h⟩
end
end Go.Abs.A29
