/- A part of the proof: an abstract reading of the model, contracts of functions. -/
import Derived.Test.YtlkbeomimbohlaaGreatC15
set_option linter.unusedVariables false
set_option linter.unusedSimpArgs false
namespace Go.Abs.A30
open Go Go.Abs Go.Proofs
set_option maxRecDepth 100000
set_option linter.unusedVariables false
set_option linter.unusedSimpArgs false
attribute [local simp ↓] awp_skip awp_seq awp_cond awp_block awp_exit awp_ret awp_reg awp_draw awp_ghost awp_loop awp_rfun awpR_nil awpR_cons awpX_nil awpX_0 awpX_1 awpX_2 awpI_eq awpI_t awpI_f awpStep_eq
attribute [local simp] condL_true condL_false condL_dec evDel evV evN evS evA initFr Ghost.app Fr.var Fr.blk Fr.ff FF.val Abs.look Fr.app Fr.erase Fr.noSlot AV.noSlot AV.noSlotL Blk.noSlot Fr.spoken AV.fz AV.fzL Blk.fz binV binI shI binS unV fillA FF.parts FF.vals headO intO boundO lenV scalarEq leavesEq AV.aggc AV.cells FF.read FF.rows AV.one PV.one chunk freshB newS pickV retK evRs evRl evR resOf mkTup mkAgg allP cloOf okP_nil okX_p okX okP addN Del.noSlot Del.owners Rnd reify_p normM insM Fr.back Fr.backV Fr.setPs normV insV
attribute [local simp] renF Fr.trim Blk.trim AV.rn AV.rnL Blk.rn AV.among AV.amongL Blk.among okF retM fixS BIG initFF
attribute [local simp] FF.reify FF.reifyL PV.flat
section
set_option maxHeartbeats 8000000
attribute [local simp] mcM mcBox mc9 mc8 kpM
attribute [local simp ↓] oneM takeM
theorem b224c:Best Tryz.prog 224 [.agg [.int .i64 (-20480),.int .i64 (-20480),.int .i64 20480,.int .i64 20480]] (.p (.bool true)):=by
 refine best mixed fn224 ok224 (by simp) ?_
 simp -dsimp [ac224]
 refine call_p (b248 (-20480) 20480) (by simp) (by simp) ?_
 simp -dsimp [smallB]
 refine call_p (b248 (-20480) 20480) (by simp) (by simp) ?_
 simp -dsimp [smallB]
theorem run2 {p:List (Int×Int)} {axes points fr:Nat} (h:RunS p axes points fr) (m:Mc) (to:Nat) (hm:m.ok2 axes points) (ht:to≤p.length):∃ m':Mc,m'.ok2 axes points ∧
 BestF Tryz.prog 226 (mcM (33,0) (999990,1) (999992,1) (999993,1) m) [.ptr (33,0) 25 0 0,.p (.sl 2 (p.map mvRow)),.p (.int .i64 fr),.p (.int .i64 to)] [(33,0),(999992,1),(999993,1)] (.p (.tup [])) (mcM (33,0) (999980,1) (999992,1) (999993,1) m'):=by
 obtain ⟨m',h1,h2⟩:=h m to hm ht
 refine ⟨m',h1,?_⟩
 have g:=h2.ren (fun t=>if t=(BIG,0) then (33,0) else if t=(BIG+2,0) then (999992,1) else if t=(BIG+3,0) then (999993,1) else t)
  (fun t=>if t=(33,0) then (BIG,0) else if t=(999992,1) then (BIG+2,0) else if t=(999993,1) then (BIG+3,0) else t) (by simp) (by simp) (by simp) (by simp) (by simp)
 simpa [rnM,Blk.rnF,AV.rnFL,AV.rnF] using g
def cX (k:Nat):List (Int×Int):=List.replicate k (-20480,20480)
def cA (k:Nat):List (Int×Int):=List.replicate k (-64,64)
def cB (k:Nat):List Unit:=List.replicate k ()
@[simp] theorem cX_len {k:Nat}:(cX k).length=k:=by simp [cX]
@[simp] theorem cA_len {k:Nat}:(cA k).length=k:=by simp [cA]
@[simp] theorem cB_len {k:Nat}:(cB k).length=k:=by simp [cB]
def m0 (axes k:Nat):Mc:=⟨(4,32),cA axes,[],fun _=>(0,0),cX k,cX k,0,0,0⟩
def bxRow (x:Unit):List PV:=[.int .i64 (-20480),.int .i64 (-20480),.int .i64 20480,.int .i64 20480]
theorem repSO {n:Nat} {x:Int×Int} (h:SO x):∀ z∈List.replicate n x,SO z:=fun z hz=>by rw [(List.mem_replicate.1 hz).2];exact h
theorem so1:SO ((4:Int),(32:Int)):=⟨by decide,by decide,by decide⟩
theorem so2:SO ((-64:Int),(64:Int)):=⟨by decide,by decide,by decide⟩
theorem so3:SO ((0:Int),(0:Int)):=⟨by decide,by decide,by decide⟩
theorem so4:SO ((-20480:Int),(20480:Int)):=⟨by decide,by decide,by decide⟩
theorem m0ok (axes k:Nat) (ha:axes≤1000) (hk:k≤1000):Mc.ok2 (m0 axes k) axes k:=
 ⟨⟨so1,⟨by simp [m0],by unfold m0 cA;exact repSO so2⟩,by simp [m0],fun _=>so3,⟨by simp [m0],by unfold m0 cX;exact repSO so4⟩,⟨by simp [m0],by unfold m0 cX;exact repSO so4⟩,by simp [m0],ha,hk⟩,fun _=>by simp [m0]⟩
theorem repS {n:Nat}:(cX n).map mvRow++[mvRow (-20480,20480)]=(cX (n+1)).map mvRow:=by unfold cX;rw [List.replicate_succ'];simp
theorem b194 (p:List (Int×Int)) (hp:p.length≤1000) (axes points:Nat):∃ a b e:Int,Best Tryz.prog 194 [.sl 2 (p.map mvRow),.sl 4 ((cB points).map bxRow),.agg [.int .i64 4,.int .i64 32],.sl 2 ((cA axes).map mvRow)] (.p (.tup [.agg [.int .i64 a,.int .i64 b],.int .i64 e])):=by
 obtain ⟨v,⟨a,b,e,rfl⟩,h⟩:=bestE (Q:=fun v=>∃ a b e:Int,v=.tup [.agg [.int .i64 a,.int .i64 b],.int .i64 e]) mixed fn194 ok194 (args:=[.sl 2 (p.map mvRow),.sl 4 ((cB points).map bxRow),.agg [.int .i64 4,.int .i64 32],.sl 2 ((cA axes).map mvRow)]) (by simp) (by
  have q:=b223 (cA axes) axes
  rw [show (cA axes).map pRow=(cA axes).map mvRow from rfl] at q
  simp -dsimp [ac194,↓ awpC_of xc194b]
  refine call_p (b222 4 32) (by simp) (by simp) ?_
  simp -dsimp [↓ awpC_of xc194b]
  refine call_p q (by simp) (by simp) ?_
  by_cases h1:RG (cA axes) axes
  ·by_cases h2:(40:Int)<points
   ·simp -dsimp [h1,h2,retE]
   ·simp -dsimp [h1,h2,↓ awpC_of xc194b]
    refine awpC_in ?_
    simp -dsimp [xc194b,↓ awpC_of xc194c]
    have hk0:points≤40:=by omega
    refine loopC points (fun k=>⟨[(0,.p (.sl 2 (p.map mvRow))),(1,.p (.sl 4 ((cB points).map bxRow))),(3,.p (.sl 2 ((cA axes).map mvRow))),(8,.ptr (8,0) 2 0 0),(10,.ptr (33,0) 25 0 0),(11,.p (.int .i64 k))],
     [((8,0),.box [.p (.int .i64 0),.p (.int .i64 0)]),((33,0),mcBox (999990,1) (999992,1) (999993,1) (m0 axes k)),((999990,1),.sl 26 2 []),((999992,1),.sl 26 2 ((cX k).map mvRow)),((999993,1),.sl 26 2 ((cX k).map mvRow))]⟩) (fun _=>True) (fun k hk _=>?_) trivial (by simp [m0,cX])
    by_cases h:k<points
    ·have wk:R ((k:Int)+1):=⟨by omega,by omega⟩
     have m1:k+1≤maxLen:=by unfold maxLen;omega
     have e1:(k+1)*16≤140737488355328:=by omega
     have hr:List.map mvRow (cX k)++[[.int .i64 (-20480),.int .i64 20480]]=List.map mvRow (cX (k+1)):=repS
     have ht:List.take (k+1) (List.map mvRow (cX (k+1)))=List.map mvRow (cX (k+1)):=List.take_of_length_le (by simp)
     simp -dsimp [h,bxRow,m0]
     refine call_p b224c (by simp) (by simp) ?_
     simp -dsimp [h,bxRow,m0,m1,e1,hr,ht,wr wk,List.range,List.range.loop,-List.all_eq_true]
     done
    ·have:k=points:=by omega
     subst this
     simp -dsimp [h,m0,↓ awpC_of xc194c]
     refine awpC_in ?_
     have hm:=m0ok axes k
     obtain ⟨v,hv,q2⟩:=b225 p hp axes k
     simp -dsimp [xc194c]
     refine call_p q2 (by simp) (by simp) ?_
     by_cases hz:v=0
     ·obtain ⟨l1,l2,l3,l4⟩:=hv hz
      obtain ⟨m',g1,g2⟩:=run2 (runS p hp axes k l4 0 (by omega)) (m0 axes k) p.length (m0ok axes k (by omega) (by omega)) (by omega)
      simp -dsimp [hz]
      refine call_m g2 (by simp [m0]) (by simp) (by simp) ?_
      by_cases hf:m'.failed=0
      ·simp -dsimp [hf,retE]
      ·simp -dsimp [hf,retE]
     ·simp -dsimp [hz,retE]
  ·simp -dsimp [h1,retE])
 exact ⟨a,b,e,h⟩
end
section
set_option maxHeartbeats 8000000
theorem repB {n:Nat}:(cB n).map bxRow++[bxRow ()]=(cB (n+1)).map bxRow:=by unfold cB;rw [List.replicate_succ'];simp
theorem repA {n:Nat}:(cA n).map mvRow++[mvRow (-64,64)]=(cA (n+1)).map mvRow:=by unfold cA;rw [List.replicate_succ'];simp
theorem b158 (l:List Int) (hl:l.length≤20) (axes points:Nat) (ha:axes≤1000) (hp:points≤2000000):∃ x:List (Int×Int),x.length≤60 ∧
  Best Tryz.prog 158 [.sl 1 (l.map intRow),.int .i64 axes,.int .i64 points] (.p (.sl 2 (x.map mvRow))):=by
 obtain ⟨v,⟨x,rfl,hx⟩,h⟩:=bestE (Q:=fun v=>∃ x:List (Int×Int),v=.sl 2 (x.map mvRow)∧x.length≤60) mixed fn158 ok158 (args:=[.sl 1 (l.map intRow),.int .i64 axes,.int .i64 points]) (by simp) (by
  obtain ⟨x,hx,q⟩:=b193 l hl axes points ha hp
  simp -dsimp [ac158]
  refine call_p q (by simp) (by simp) ?_
  simp -dsimp
  refine loopC points (fun k=>⟨[(1,.p (.int .i64 axes)),(2,.p (.int .i64 points)),(7,.p (.sl 2 (x.map mvRow))),(8,.ref (26,0) 4 0 k),(9,.p (.int .i64 k))],[((26,0),.sl 267 4 ((cB k).map bxRow))]⟩) (fun _=>True) (fun k hk _=>?_) trivial (by simp [cB])
  by_cases h:k<points
  ·have wk:R ((k:Int)+1):=⟨by omega,by omega⟩
   have m1:k+1≤maxLen:=by unfold maxLen;omega
   have e1:(k+1)*32≤140737488355328:=by omega
   have hr:List.map bxRow (cB k)++[[.int .i64 (-20480),.int .i64 (-20480),.int .i64 20480,.int .i64 20480]]=List.map bxRow (cB (k+1)):=repB
   have ht:List.take (k+1) (List.map bxRow (cB (k+1)))=List.map bxRow (cB (k+1)):=List.take_of_length_le (by simp)
   simp -dsimp [h,m1,e1,hr,ht,wr wk,List.range,List.range.loop,-List.all_eq_true]
  ·have:k=points:=by omega
   subst this
   simp -dsimp [h]
   refine loopC axes (fun j=>⟨[(1,.p (.int .i64 axes)),(7,.p (.sl 2 (x.map mvRow))),(8,.ref (26,0) 4 0 k),(10,.ref (35,0) 2 0 j),(11,.p (.int .i64 j))],[((26,0),.sl 267 4 ((cB k).map bxRow)),((35,0),.sl 26 2 ((cA j).map mvRow))]⟩) (fun _=>True) (fun j hj _=>?_) trivial (by simp [cA])
   by_cases h:j<axes
   ·have wk:R ((j:Int)+1):=⟨by omega,by omega⟩
    have m1:j+1≤maxLen:=by unfold maxLen;omega
    have e1:(j+1)*16≤140737488355328:=by omega
    have hr:List.map mvRow (cA j)++[[.int .i64 (-64),.int .i64 64]]=List.map mvRow (cA (j+1)):=repA
    have ht:List.take (j+1) (List.map mvRow (cA (j+1)))=List.map mvRow (cA (j+1)):=List.take_of_length_le (by simp)
    simp -dsimp [h,m1,e1,hr,ht,wr wk,List.range,List.range.loop,-List.all_eq_true]
   ·have:j=axes:=by omega
    subst this
    have ht1:List.take k ((cB k).map bxRow)=(cB k).map bxRow:=List.take_of_length_le (by simp)
    have ht2:List.take j ((cA j).map mvRow)=(cA j).map mvRow:=List.take_of_length_le (by simp)
    obtain ⟨a,b,e,r⟩:=b194 x (by omega) j k
    simp -dsimp [h]
    refine call_f r (by simp [ht1,ht2]) (by simp [PV.flatL]) (by simp) ?_
    by_cases he:e=0
    ·simp -dsimp [he,retE]
     exact ⟨x,rfl,hx⟩
    ·simp -dsimp [he,retE]
     try exact ⟨[],rfl,by simp⟩)
 exact ⟨x,hx,h⟩
end
section
set_option maxHeartbeats 8000000
theorem partR {l:List (List Int)} {k:Nat} (hl:∀ x∈l,∀ n∈x,R n):∀ n∈partL l k,R n:=by
 intro n hn
 unfold partL at hn
 have hn:=List.mem_of_mem_take hn
 rw [List.getD_eq_getElem?_getD] at hn
 by_cases h:k<l.length
 ·rw [List.getElem?_eq_getElem h] at hn
  exact hl _ (by simp) n hn
 ·rw [List.getElem?_eq_none (by omega)] at hn
  simp at hn
theorem partLen {l:List (List Int)} {k:Nat}:(partL l k).length≤60:=by unfold partL;rw [List.length_take];omega
theorem b119 (l:List (List Int)) (hl:∀ x∈l,∀ n∈x,R n) (hl2:l.length≤140737488355328) (many axes regions:Nat) (hm:many≤1000) (ha:axes≤1000) (hr:regions≤1000):∃ x:List Gl,(x.length=many∧∀ z∈x,z.ok) ∧
  Best Tryz.prog 119 [.sl 1 (l.map llRow),.int .i64 many,.int .i64 axes,.int .i64 regions] (.p (.sl 8 (x.map glRow))):=by
 obtain ⟨v,⟨x,rfl,hx⟩,h⟩:=bestE (Q:=fun v=>∃ x:List Gl,v=.sl 8 (x.map glRow)∧x.length=many∧∀ z∈x,z.ok) mixed fn119 ok119 (args:=[.sl 1 (l.map llRow),.int .i64 many,.int .i64 axes,.int .i64 regions]) (by simp) (by
  simp -dsimp [ac119,↓ awpC_of xc119b]
  refine loopE many (fun k (g:List Gl)=>⟨[(0,.p (.sl 1 (l.map llRow))),(1,.p (.int .i64 many)),(2,.p (.int .i64 axes)),(3,.p (.int .i64 regions)),(9,.ref (44,0) 8 0 k),(10,.p (.int .i64 k))],[((44,0),.sl 223 8 (g.map glRow))]⟩) (fun k g=>g.length=k∧∀ z∈g,z.ok) [] (fun k g hk hgg=>?_) ⟨rfl,by simp⟩ (by simp)
  obtain ⟨hg,hgo⟩:=hgg
  by_cases h:k<many
  ·have wk:R ((k:Int)+1):=⟨by omega,by omega⟩
   have w3:R ((k:Int)+3):=⟨by omega,by omega⟩
   have m1:k+1≤maxLen:=by unfold maxLen;omega
   have e1:(k+1)*128≤140737488355328:=by omega
   have q49:=b114 l (3+k)
   have e3:((3+k:Nat):Int)=3+(k:Int):=by omega
   rw [e3] at q49
   have w3':R (3+(k:Int)):=⟨by omega,by omega⟩
   obtain ⟨y,ey⟩:∃ y,partL l (3+k)=y:=⟨_,rfl⟩
   have hy:∀ n∈y,R n:=ey ▸ partR hl
   have hy2:y.length≤60:=ey ▸ partLen
   rw [ey] at q49
   obtain ⟨x,⟨x1,x2⟩,q96⟩:=b157 y hy (by omega) regions hr
   have hall:∀ z:Gl,((g.map glRow++[glRow z]).all fun r=>r.all PV.one)=true:=fun z=>by
    rw [List.all_eq_true];intro r hr
    rcases List.mem_append.1 hr with g1 | g1
    ·obtain ⟨u,_,rfl⟩:=List.mem_map.1 g1;rfl
    ·simp at g1;subst g1;rfl
   simp -dsimp [h,wr w3',↓ awpC_of xc119b]
   refine call_p q49 (by simp) (by simp) ?_
   simp -dsimp [↓ awpC_of xc119b]
   refine call_p q96 (by simp) (by simp) ?_
   have fin:∀ z:Gl,awp Tryz.prog xc119b (fun e F'=>True) ⟨[],[]⟩∨True:=fun _=>.inr trivial
   by_cases hc:(k:Int).tmod 3=1
   ·obtain ⟨a,ea⟩:∃ a:Nat,min (y.length:Int) 5=a:=⟨min y.length 5,by omega⟩
    obtain ⟨b,eb⟩:∃ b:Nat,min (y.length:Int) 11=b:=⟨min y.length 11,by omega⟩
    have hab:a≤b:=by omega
    have hby:b≤y.length:=by omega
    obtain ⟨u,hu,q97⟩:=b158 ((y.take b).drop a) (by simp;omega) axes (pointsN x.con x.an) ha (by have:=pointsN_le x.con x.an (by have:=x1.1;omega) (fun z hz=>by have:=x1.2.1 z hz;omega) (by have:=x1.2.2.1;omega);omega)
    have q98:=b159 x.con x.an (.int .i64 x.h1) (.int .i64 x.h2) (.int .i64 x.h3) (.int .i64 x.w) (.sl 3 (x.del.map dlRow)) (.sl 2 (x.prog.map mvRow)) (by have:=x1.1;omega) (fun z hz=>by have:=x1.2.1 z hz;omega) (by have:=x1.2.2.1;omega)
    simp -dsimp [hc,glRow,ea,eb,hab,hby,↓ awpC_of xc119b]
    refine call_p q98 (by simp) (by simp) ?_
    simp -dsimp [↓ awpC_of xc119b]
    refine call_p q97 (by simp [List.map_drop,List.map_take]) (by simp) ?_
    simp -dsimp [↓ awpC_of xc119b]
    refine awpC_in ?_
    have hall':=hall { x with prog:=u }
    have ht:List.take (k+1) (g.map glRow++[glRow { x with prog:=u }])=g.map glRow++[glRow { x with prog:=u }]:=List.take_of_length_le (by simp;omega)
    simp only [glRow] at hall' ht
    simp -dsimp [xc119b,hg,m1,e1,wr wk,h,List.range,List.range.loop,hall',ht,-List.all_eq_true,-List.all_append]
    refine ⟨g++[{ x with prog:=u }],⟨by simp [hg],fun z hz=>?_⟩,by simp [glRow]⟩
    rcases List.mem_append.1 hz with q | q
    ·exact hgo z q
    ·rw [List.mem_singleton.1 q];exact ⟨x1.1,x1.2.1,x1.2.2.1,x1.2.2.2.1,x1.2.2.2.2.1,hu⟩
   ·simp -dsimp [hc,glRow,↓ awpC_of xc119b]
    refine awpC_in ?_
    have hall':=hall x
    have ht:List.take (k+1) (g.map glRow++[glRow x])=g.map glRow++[glRow x]:=List.take_of_length_le (by simp;omega)
    simp only [glRow] at hall' ht
    simp -dsimp [xc119b,hg,m1,e1,wr wk,h,List.range,List.range.loop,hall',ht,-List.all_eq_true,-List.all_append]
    refine ⟨g++[x],⟨by simp [hg],fun z hz=>?_⟩,by simp [glRow]⟩
    rcases List.mem_append.1 hz with q | q
    ·exact hgo z q
    ·rw [List.mem_singleton.1 q];exact x1
  ·have:k=many:=by omega
   subst this
   have ht:List.take k (g.map glRow)=g.map glRow:=List.take_of_length_le (by simp;omega)
   simp -dsimp [h,retE,hg,ht]
   exact ⟨g,rfl,hg,hgo⟩)
 exact ⟨x,hx,h⟩
end
end Go.Abs.A30
namespace Go.Abs.A30
open Go Go.Abs Go.Proofs
set_option maxRecDepth 100000
set_option maxHeartbeats 4000000
set_option linter.unusedVariables false
def xc115b:AC:=by
 apply fun (y:AC) (_:@Eq AC (anS 15 [⟨24,[],[.canC (6,0) 4 (63,1)],none⟩] [] (anF Tryz.prog 115 mu1 [] 0 0 [])) y)=>y
 conv=>lhs;reduce;dsimp
def ac115:AC:=(fun (z0:AC)=>by
 apply fun (y:AC) (_:@Eq AC (anD [⟨14,[],[.canV 9 (63,0)],none⟩,⟨15,[],[],some z0⟩] (anF Tryz.prog 115 mu1 [] 0 0 [])) y)=>y
 conv=>lhs;reduce;dsimp) xc115b
theorem fn115:factOf Tryz.prog 115=some (ac115.strip,[.cell 4 true 5],98):=by kernel_rfl
theorem ok115:ac115.okAll=true:=by kernel_rfl
end Go.Abs.A30
namespace Go.Abs.A30
open Go Go.Abs Go.Proofs
set_option maxRecDepth 100000
set_option linter.unusedVariables false
set_option linter.unusedSimpArgs false
attribute [local simp ↓] awp_skip awp_seq awp_cond awp_block awp_exit awp_ret awp_reg awp_draw awp_ghost awp_loop awp_rfun awpR_nil awpR_cons awpX_nil awpX_0 awpX_1 awpX_2 awpI_eq awpI_t awpI_f awpStep_eq
attribute [local simp] condL_true condL_false condL_dec evDel evV evN evS evA initFr Ghost.app Fr.var Fr.blk Fr.ff FF.val Abs.look Fr.app Fr.erase Fr.noSlot AV.noSlot AV.noSlotL Blk.noSlot Fr.spoken AV.fz AV.fzL Blk.fz binV binI shI binS unV fillA FF.parts FF.vals headO intO boundO lenV scalarEq leavesEq AV.aggc AV.cells FF.read FF.rows AV.one PV.one chunk freshB newS pickV retK evRs evRl evR resOf mkTup mkAgg allP cloOf okP_nil okX_p okX okP addN Del.noSlot Del.owners Rnd reify_p normM insM Fr.back Fr.backV Fr.setPs normV insV
attribute [local simp] renF Fr.trim Blk.trim AV.rn AV.rnL Blk.rn AV.among AV.amongL Blk.among okF retM fixS BIG initFF
attribute [local simp] FF.reify FF.reifyL PV.flat
section
set_option maxHeartbeats 8000000
attribute [local simp ↓] oneM takeM
structure Axv where
 nm:ByteArray
 a:Int
 b:Int
 c:Int
 m:List (Int×Int)
def axRow (x:Axv):List PV:=[.str x.nm,.int .i64 x.a,.int .i64 x.b,.int .i64 x.c,.sl 2 (x.m.map mvRow)]
theorem tm3 (n:Int):n.tmod 3<3:=Int.tmod_lt_of_pos _ (by decide)
theorem b115 (l:List Int) (nm:ByteArray):∃ x:Axv,Best Tryz.prog 115 [.sl 1 (l.map intRow),.str nm] (.p (.agg (axRow x))):=by
 obtain ⟨v,⟨x,rfl⟩,h⟩:=bestE (Q:=fun v=>∃ x:Axv,v=.agg (axRow x)) mixed fn115 ok115 (args:=[.sl 1 (l.map intRow),.str nm]) (by simp) (by
  simp -dsimp [ac115,↓ awpC_of xc115b]
  refine call_p (b155 l 0) (by simp) (by simp) ?_
  simp -dsimp [↓ awpC_of xc115b]
  refine call_p (b155 l 1) (by simp) (by simp) ?_
  simp -dsimp [↓ awpC_of xc115b]
  refine call_p (b155 l 2) (by simp) (by simp) ?_
  obtain ⟨d,ed⟩:∃ d,IntKind.i64.wrap (IntKind.i64.wrap ((numS l 0:Int).tmod 41*25) - 500)=d:=⟨_,rfl⟩
  obtain ⟨lo,elo⟩:∃ d,(numS l 1:Int).tmod 3=d:=⟨_,rfl⟩
  obtain ⟨hi,ehi⟩:∃ d,(numS l 2:Int).tmod 3=d:=⟨_,rfl⟩
  have l1:=tm3 (numS l 1)
  have l2:=tm3 (numS l 2)
  rw [elo] at l1
  rw [ehi] at l2
  simp -dsimp [ed,elo,ehi,↓ awpC_of xc115b]
  have hd0:IntKind.i64.wrap 0=0:=rfl
  refine loopE lo.toNat (fun k (z:Int×Int×List (Int×Int))=>⟨[(0,.p (.sl 1 (l.map intRow))),(4,.ptr (4,0) 5 0 0),(5,.p (.int .i64 d)),(6,.ptr (6,0) 5 0 0),(7,.p (.int .i64 lo)),(8,.p (.int .i64 hi)),(9,.ref (63,0) 2 0 k),(10,.p (.int .i64 z.2.1)),(11,.p (.int .i64 k))],
   [((4,0),.box [.p (.str ⟨#[]⟩),.p (.int .i64 0),.p (.int .i64 0),.p (.int .i64 0),.p .nsl]),((6,0),.box [.p (.str nm),.p (.int .i64 z.1),.p (.int .i64 d),.p (.int .i64 d),.p .nsl]),((63,0),.sl 26 2 (z.2.2.map mvRow))]⟩) (fun k z=>z.2.2.length=k) (d,0,[]) (fun k z hk hz=>?_) rfl (by simp)
  obtain ⟨mn,y,lf⟩:=z
  dsimp only at hz
  by_cases h:(k:Int)<lo
  ·have wk:R ((k:Int)+1):=⟨by omega,by omega⟩
   have w3:R (3+(k:Int)):=⟨by omega,by omega⟩
   have w5:R (5+(k:Int)):=⟨by omega,by omega⟩
   have m1:1+k≤maxLen:=by unfold maxLen;omega
   have e1:(1+k)*16≤140737488355328:=by omega
   have q3:=b155 l (3+k)
   have q5:=b155 l (5+k)
   rw [show ((3+k:Nat):Int)=3+(k:Int) from by omega] at q3
   rw [show ((5+k:Nat):Int)=5+(k:Int) from by omega] at q5
   have ht0:List.take k (lf.map mvRow)=lf.map mvRow:=List.take_of_length_le (by simp;omega)
   simp -dsimp [h,wr w3]
   refine call_p q3 (by simp) (by simp) ?_
   simp -dsimp [wr w5]
   refine call_p q5 (by simp) (by simp) ?_
   obtain ⟨mn',emn⟩:∃ d,IntKind.i64.wrap (IntKind.i64.wrap (mn - 1) - (numS l (3+k):Int).tmod 200)=d:=⟨_,rfl⟩
   obtain ⟨y',ey⟩:∃ d,max (-64) (IntKind.i64.wrap (y - (numS l (5+k):Int).tmod 65))=d:=⟨_,rfl⟩
   have ht:List.take (1+k) ([.int .i64 mn',.int .i64 y'] :: lf.map mvRow)=[.int .i64 mn',.int .i64 y'] :: lf.map mvRow:=List.take_of_length_le (by simp;omega)
   simp -dsimp [emn,ey,hz,ht0,m1,e1,wr wk,List.range,List.range.loop,ht,-List.all_eq_true]
   exact ⟨h,mn',y',(mn',y') :: lf,by simp;omega,⟨by omega,rfl⟩,rfl,by simp [mvRow]⟩
  ·simp -dsimp [h,↓ awpC_of xc115b]
   refine awpC_in ?_
   have hk3:k≤3:=by omega
   have m1:k+1≤maxLen:=by unfold maxLen;omega
   have e1:(k+1)*16≤140737488355328:=by omega
   simp -dsimp [xc115b,hz,m1,e1,List.range,List.range.loop,-List.all_eq_true]
   refine loopE hi.toNat (fun j (z:Int×Int×List (Int×Int))=>⟨[(0,.p (.sl 1 (l.map intRow))),(4,.ptr (4,0) 5 0 0),(6,.ptr (6,0) 5 0 0),(8,.p (.int .i64 hi)),(10,.p (.int .i64 z.2.1)),(12,.p (.int .i64 j))],
    [((4,0),.box [.p (.str ⟨#[]⟩),.p (.int .i64 0),.p (.int .i64 0),.p (.int .i64 0),.p .nsl]),((6,0),.box [.p (.str nm),.p (.int .i64 mn),.p (.int .i64 d),.p (.int .i64 z.1),.ref (63,1) 2 0 (k+1+j)]),((63,1),.sl 26 2 (z.2.2.map mvRow))]⟩) (fun j z=>z.2.2.length=k+1+j) (d,0,lf++[(d,0)]) (fun j z hj hz2=>?_) (by simp [hz]) (by simp [mvRow])
   obtain ⟨mx,y2,lf2⟩:=z
   dsimp only at hz2
   by_cases h2:(j:Int)<hi
   ·have wk:R ((j:Int)+1):=⟨by omega,by omega⟩
    have w3:R (7+(j:Int)):=⟨by omega,by omega⟩
    have w5:R (9+(j:Int)):=⟨by omega,by omega⟩
    have m1:k+1+j+1≤maxLen:=by unfold maxLen;omega
    have e1:(k+1+j+1)*16≤140737488355328:=by omega
    have q3:=b155 l (7+j)
    have q5:=b155 l (9+j)
    rw [show ((7+j:Nat):Int)=7+(j:Int) from by omega] at q3
    rw [show ((9+j:Nat):Int)=9+(j:Int) from by omega] at q5
    simp -dsimp [h2,wr w3]
    refine call_p q3 (by simp) (by simp) ?_
    simp -dsimp [wr w5]
    refine call_p q5 (by simp) (by simp) ?_
    obtain ⟨mx',emn⟩:∃ d,IntKind.i64.wrap (IntKind.i64.wrap (mx+1)+(numS l (7+j):Int).tmod 200)=d:=⟨_,rfl⟩
    obtain ⟨y',ey⟩:∃ d,min 64 (IntKind.i64.wrap (y2+(numS l (9+j):Int).tmod 65))=d:=⟨_,rfl⟩
    have ht:List.take (k+1+j+1) (lf2.map mvRow++[[.int .i64 mx',.int .i64 y']])=lf2.map mvRow++[[.int .i64 mx',.int .i64 y']]:=List.take_of_length_le (by simp;omega)
    simp -dsimp [emn,ey,hz2,m1,e1,wr wk,List.range,List.range.loop,ht,-List.all_eq_true]
    exact ⟨h2,mx',y',lf2++[(mx',y')],by simp;omega,rfl,⟨rfl,by omega⟩,by simp [mvRow]⟩
   ·have ht2:List.take (k+1+j) (lf2.map mvRow)=lf2.map mvRow:=List.take_of_length_le (by simp;omega)
    simp -dsimp [h2,retE,hz2,ht2]
    exact ⟨⟨nm,mn,d,mx,lf2⟩,rfl⟩)
 exact ⟨x,h⟩
end
end Go.Abs.A30
namespace Go.Abs.A30
open Go Go.Abs Go.Proofs
set_option maxRecDepth 100000
set_option maxHeartbeats 4000000
set_option linter.unusedVariables false
def xc69d:AC:=by
 apply fun (y:AC) (_:@Eq AC (anS 20 [⟨28,[],[.canC (5,0) 7 (999981,1),.canC (5,0) 9 (999980,1)],none⟩] [] (anF Tryz.prog 69 mu1 [999970,999971,999972,999973,999980,999981,999982,999983,999990,999991,999992,999993,1000000,1000001,1000002,1000003,1000004,1000005,1000006,1000007] 0 1048575 [])) y)=>y
 conv=>lhs;reduce;dsimp
def xc69c:AC:=(fun (z0:AC)=>by
 apply fun (y:AC) (_:@Eq AC (anS 14 [⟨20,[],[.ownC (5,0) 7 (999981,1) 187 2,.ownC (5,0) 9 (999980,1) 183 1],some z0⟩] [] (anF Tryz.prog 69 mu1 [999970,999971,999972,999973,999980,999981,999982,999983,999990,999991,999992,999993,1000000,1000001,1000002,1000003,1000004,1000005,1000006,1000007] 0 1048575 [])) y)=>y
 conv=>lhs;reduce;dsimp) xc69d
def xc69e:AC:=(fun (z0:AC)=>by
 apply fun (y:AC) (_:@Eq AC (anS 13 [⟨14,[],[],some z0⟩] [] (anF Tryz.prog 69 mu1 [999970,999971,999972,999973,999980,999981,999982,999983,999990,999991,999992,999993,1000000,1000001,1000002,1000003,1000004,1000005,1000006,1000007] 0 1048575 [])) y)=>y
 conv=>lhs;reduce;dsimp) xc69c
def xc69b:AC:=(fun (z0:AC)=>by
 apply fun (y:AC) (_:@Eq AC (anS 11 [⟨13,[],[.zslC (5,0) 3 1],some z0⟩] [] (anF Tryz.prog 69 mu1 [999970,999971,999972,999973,999980,999981,999982,999983,999990,999991,999992,999993,1000000,1000001,1000002,1000003,1000004,1000005,1000006,1000007] 0 1048575 [])) y)=>y
 conv=>lhs;reduce;dsimp) xc69e
def ac69:AC:=(fun (z0:AC)=>by
 apply fun (y:AC) (_:@Eq AC (anD [⟨5,[],[.ownC (5,0) 2 (999982,1) 175 5],none⟩,⟨10,[],[.canC (5,0) 2 (999982,1)],none⟩,⟨11,[],[.freeze (999982,1)],some z0⟩] (anF Tryz.prog 69 mu1 [999970,999971,999972,999973,999980,999981,999982,999983,999990,999991,999992,999993,1000000,1000001,1000002,1000003,1000004,1000005,1000006,1000007] 0 1048575 [])) y)=>y
 conv=>lhs;reduce;dsimp) xc69b
theorem fn69:factOf Tryz.prog 69=some (ac69.strip,[.cell 2 true 11],134):=by kernel_rfl
theorem ok69:ac69.okAll=true:=by kernel_rfl
end Go.Abs.A30
namespace Go.Abs.A30
open Go Go.Abs Go.Proofs
set_option maxRecDepth 100000
set_option linter.unusedVariables false
set_option linter.unusedSimpArgs false
attribute [local simp ↓] awp_skip awp_seq awp_cond awp_block awp_exit awp_ret awp_reg awp_draw awp_ghost awp_loop awp_rfun awpR_nil awpR_cons awpX_nil awpX_0 awpX_1 awpX_2 awpI_eq awpI_t awpI_f awpStep_eq
attribute [local simp] condL_true condL_false condL_dec evDel evV evN evS evA initFr Ghost.app Fr.var Fr.blk Fr.ff FF.val Abs.look Fr.app Fr.erase Fr.noSlot AV.noSlot AV.noSlotL Blk.noSlot Fr.spoken AV.fz AV.fzL Blk.fz binV binI shI binS unV fillA FF.parts FF.vals headO intO boundO lenV scalarEq leavesEq AV.aggc AV.cells FF.read FF.rows AV.one PV.one chunk freshB newS pickV retK evRs evRl evR resOf mkTup mkAgg allP cloOf okP_nil okX_p okX okP addN Del.noSlot Del.owners Rnd reify_p normM insM Fr.back Fr.backV Fr.setPs normV insV
attribute [local simp] renF Fr.trim Blk.trim AV.rn AV.rnL Blk.rn AV.among AV.amongL Blk.among okF retM fixS BIG initFF
attribute [local simp] FF.reify FF.reifyL PV.flat
section
set_option maxHeartbeats 8000000
attribute [local simp ↓] oneM takeM
structure Cor0 where
 nm:ByteArray
 ver:Int
 ax:List Axv
 rg:List (List T3)
 gl:Int
 ch:List Ch
 pr:List (Int×Int×Int)
 hd:List (Int×List Int)
def hdRow (x:Int×List Int):List PV:=[.int .i64 x.1,.sl 1 (x.2.map intRow)]
def corRow0 (c:Cor0):List PV:=[.str c.nm,.int .i64 c.ver,.sl 5 (c.ax.map axRow),.sl 1 (c.rg.map regRow),.int .i64 c.gl,.sl 4 (c.ch.map chRow),.sl 3 (c.pr.map i3Row),.sl 2 (c.hd.map hdRow),.str ⟨#[]⟩]
def lkRow (x:List Ru):List PV:=[.sl 5 (x.map ruRow)]
def Cor0.ok (c:Cor0):Prop:=c.ax.length≤2∧(c.rg.length≤2∧∀ r∈c.rg,r.length≤2)∧(c.ch.length≤256∧ChsOk c.gl c.rg.length c.ch)∧c.pr.length≤4∧PairsOk c.pr∧c.hd.length≤3
def FOk (ls:List (List Ru)) (gs:List Gl):Prop:=(ls.length≤3∧∀ l∈ls,l.length≤4∧∀ r∈l,r.fine)∧gs.length≤1000∧∀ z∈gs,z.ok
def box20 (c:Cor0) (a h l:AV) (ch pr gs:AV):Blk:=.box [.p (.str c.nm),.p (.int .i64 c.ver),a,.p (.sl 1 (c.rg.map regRow)),.p (.int .i64 c.gl),ch,pr,h,.p (.str ⟨#[]⟩),l,gs]
def z20:Blk:=.box [.p (.str ⟨#[]⟩),.p (.int .i64 0),.p .nsl,.p .nsl,.p (.int .i64 0),.p .nsl,.p .nsl,.p .nsl,.p (.str ⟨#[]⟩),.p .nsl,.p .nsl]
def d20 (d:Dr):Blk:=.box [.p (.sl 1 (d.l.map intRow)),.p (.int .i64 d.a)]
def K20:AE→Fr→Prop:=retE [.cell 2 true 11] (fun v=>∃ (c:Cor0) (ls:List (List Ru)) (gs:List Gl),v=.agg (corRow0 c++[.sl 1 (ls.map lkRow),.sl 8 (gs.map glRow)])∧c.ok∧FOk ls gs)
attribute [local simp] box20 z20 d20
theorem b69d (l:List (List Int)) (hl:∀ x∈l,∀ n∈x,R n) (c:Cor0) (hc:c.ok) (hd:c.hd=[]) (gs:List Gl) (hgs:gs.length≤1000∧∀ z∈gs,z.ok) (d:Dr) (hdr:d.ok) (g:Nat) (hg:1≤g) (hg2:g≤1000) (hcg:c.gl=g) (m:Nat) (hm:m≤3) :
  awp Tryz.prog xc69d K20 ⟨[(0,.p (.sl 1 (l.map llRow))),(2,.ptr (2,0) 11 0 0),(3,.ptr (17,0) 2 0 0),(5,.ptr (5,0) 11 0 0),(9,.p (.int .i64 g)),(10,.p (.int .i64 m))],
   [((2,0),z20),((5,0),box20 c (.p (.sl 5 (c.ax.map axRow))) (.ref (999981,1) 2 0 0) (.ref (999980,1) 1 0 0) (.p (.sl 4 (c.ch.map chRow))) (.p (.sl 3 (c.pr.map i3Row))) (.p (.sl 8 (gs.map glRow)))),((17,0),d20 d),((999980,1),.sl 183 1 []),((999981,1),.sl 187 2 [])]⟩:=by
 simp -dsimp [xc69d]
 refine loopE m (fun k (y:(List (Int×List Int)×List (List Ru))×Dr)=>⟨[(0,.p (.sl 1 (l.map llRow))),(2,.ptr (2,0) 11 0 0),(3,.ptr (17,0) 2 0 0),(5,.ptr (5,0) 11 0 0),(9,.p (.int .i64 g)),(10,.p (.int .i64 m)),(11,.p (.int .i64 k))],
  [((2,0),z20),((5,0),box20 c (.p (.sl 5 (c.ax.map axRow))) (.ref (999981,1) 2 0 k) (.ref (999980,1) 1 0 k) (.p (.sl 4 (c.ch.map chRow))) (.p (.sl 3 (c.pr.map i3Row))) (.p (.sl 8 (gs.map glRow)))),((17,0),d20 y.2),((999980,1),.sl 183 1 (y.1.2.map lkRow)),((999981,1),.sl 187 2 (y.1.1.map hdRow))]⟩) (fun k y=>y.1.1.length=k∧y.1.2.length=k∧y.2.ok∧∀ l∈y.1.2,l.length≤4∧∀ r∈l,r.fine) (([],[]),d) (fun k y hk hy=>?_) ⟨rfl,rfl,hdr,by simp⟩ (by simp)
 obtain ⟨⟨hs,ls⟩,d⟩:=y
 obtain ⟨h1,h2,h3,h4⟩:=hy
 dsimp only at h1 h2 h3 h4
 by_cases h:k<m
 ·have wk:R ((k:Int)+1):=⟨by omega,by omega⟩
  have w11:R (11+(k:Int)):=⟨by omega,by omega⟩
  have m1:k+1≤maxLen:=by unfold maxLen;omega
  have e1:(k+1)*24≤140737488355328:=by omega
  have e2:(k+1)*32≤140737488355328:=by omega
  have q49:=b114 l (11+k)
  rw [show ((11+k:Nat):Int)=11+(k:Int) from by omega] at q49
  obtain ⟨y,ey⟩:∃ y,partL l (11+k)=y:=⟨_,rfl⟩
  have hy:∀ n∈y,R n:=ey ▸ partR hl
  have hyl:y.length≤60:=ey ▸ partLen
  rw [ey] at q49
  obtain ⟨x,⟨x1,x2⟩,q56⟩:=b120 y hy (by omega) k m g (by omega) (by omega) hg hg2
  obtain ⟨f,d',hd',vf,p⟩:=b71n d h3 9 (17,0) (by decide) (by decide)
  have hf9:(f:Int)<9:=vf
  obtain ⟨ft,hft⟩:∃ ft:Int,([[PV.int .i64 0],[PV.int .i64 0],[PV.int .i64 1],[PV.int .i64 2],[PV.int .i64 3],[PV.int .i64 4],[PV.int .i64 5],[PV.int .i64 6],[PV.int .i64 9]]:List (List PV))[f]?=some [PV.int .i64 ft]:=by
   have:f=0∨f=1∨f=2∨f=3∨f=4∨f=5∨f=6∨f=7∨f=8:=by omega
   rcases this with rfl | rfl | rfl | rfl | rfl | rfl | rfl | rfl | rfl
   all_goals exact ⟨_,rfl⟩
  obtain ⟨fs,q57⟩:=b121 x (by omega) (fun r hr z hz=>by have:=(x2 r hr).2.1.2 z hz;omega)
  have ha1:((ls.map lkRow).all fun r=>r.all PV.one)=true:=by
   rw [List.all_eq_true];intro r hr;obtain ⟨u,_,rfl⟩:=List.mem_map.1 hr;rfl
  have ha2:((hs.map hdRow).all fun r=>r.all PV.one)=true:=by
   rw [List.all_eq_true];intro r hr;obtain ⟨u,_,rfl⟩:=List.mem_map.1 hr;rfl
  have ht1:List.take (k+1) (ls.map lkRow++[lkRow x])=ls.map lkRow++[lkRow x]:=List.take_of_length_le (by simp;omega)
  have ht2:List.take (k+1) (hs.map hdRow++[hdRow (ft,fs)])=hs.map hdRow++[hdRow (ft,fs)]:=List.take_of_length_le (by simp;omega)
  simp -dsimp [h,wr w11]
  refine call_p q49 (by simp) (by simp) ?_
  simp -dsimp
  refine call_p q56 (by simp) (by simp) ?_
  simp -dsimp [List.range,List.range.loop]
  refine call_m p (by simp) (by simp) (by simp) ?_
  simp only [lkRow] at ha1 ht1
  simp only [hdRow] at ha2 ht2
  simp -dsimp [hf9,hft,h1,h2,m1,e1,lkRow,ha1,List.range,List.range.loop,-List.all_eq_true]
  refine call_p q57 (by simp) (by simp) ?_
  simp -dsimp [h1,h2,m1,e2,hdRow,ha2,ht1,ht2,wr wk,h,List.range,List.range.loop,-List.all_eq_true]
  refine ⟨hs++[(ft,fs)],ls++[x],d',⟨by simp [h1],by simp [h2],hd',fun z hz=>?_⟩,⟨rfl,rfl⟩,by simp [lkRow],by simp [hdRow]⟩
  rcases List.mem_append.1 hz with q | q
  ·exact h4 z q
  ·rw [List.mem_singleton.1 q];exact ⟨x1,x2⟩
 ·have:k=m:=by omega
  subst this
  have ht1:List.take k (ls.map lkRow)=ls.map lkRow:=List.take_of_length_le (by simp;omega)
  have ht2:List.take k (hs.map hdRow)=hs.map hdRow:=List.take_of_length_le (by simp;omega)
  simp -dsimp [h,K20,retE,h1,h2,ht1,ht2]
  obtain ⟨c1,c2,c3,c4,c5,c6⟩:=hc
  exact ⟨{ c with hd:=hs },ls,gs,by simp [corRow0],⟨c1,c2,c3,c4,c5,by dsimp only;omega⟩,⟨by omega,h4⟩,hgs⟩
def b69box (nm:ByteArray) (ver:Int) (xs:List Axv) (rg:AV):Blk:=.box [.p (.str nm),.p (.int .i64 ver),.p (.sl 5 (xs.map axRow)),rg,.p (.int .i64 0),.p .nsl,.p .nsl,.p .nsl,.p (.str ⟨#[]⟩),.p .nsl,.p .nsl]
attribute [local simp] b69box
theorem b69c (l:List (List Int)) (hl:∀ x∈l,∀ n∈x,R n) (hl2:l.length≤140737488355328) (nm:ByteArray) (ver:Int) (xs:List Axv) (hxs:xs.length≤2) (rg:List (List T3)) (hrg:rg.length≤2∧∀ r∈rg,r.length≤2) (d:Dr) (hdr:d.ok) (n:Nat) (hn:n≤2) :
  awp Tryz.prog xc69c K20 ⟨[(0,.p (.sl 1 (l.map llRow))),(2,.ptr (2,0) 11 0 0),(3,.ptr (17,0) 2 0 0),(5,.ptr (5,0) 11 0 0),(6,.p (.int .i64 n)),(8,.p (.int .i64 rg.length))],
   [((2,0),z20),((5,0),b69box nm ver xs (.p (.sl 1 (rg.map regRow)))),((17,0),d20 d)]⟩:=by
 obtain ⟨v,d1,hd1,v1,p1⟩:=b71n d hdr 7 (17,0) (by decide) (by decide)
 have w2:R (2+(v:Int)):=⟨by omega,by omega⟩
 have q1:=b114 l 1
 obtain ⟨y1,ey1⟩:∃ y,partL l 1=y:=⟨_,rfl⟩
 have hy1:∀ n∈y1,R n:=ey1 ▸ partR hl
 have hl1:y1.length≤60:=ey1 ▸ partLen
 rw [ey1] at q1
 have e2:(2:Int)+v=((2+v:Nat):Int):=by omega
 have hg1:1≤2+v:=by omega
 have hg2:2+v≤1000:=by omega
 generalize 2+v=g at *
 obtain ⟨ch,d2,hd2,⟨c1,c2⟩,p2⟩:=b117 ⟨y1,0⟩ ⟨hy1,by dsimp only;omega⟩ g rg.length hg1 hg2 (by omega) (80,0)
 obtain ⟨pr,d3,hd3,⟨r1,r2⟩,p3⟩:=b118 d1 hd1 (17,0)
 obtain ⟨gs,⟨gl,gok⟩,q55⟩:=b119 l hl hl2 g n rg.length hg2 (by omega) (by omega)
 obtain ⟨m,d4,hd4,v4,p4⟩:=b71n d3 hd3 4 (17,0) (by decide) (by decide)
 simp -dsimp [xc69c,↓ awpC_of xc69d]
 refine call_m p1 (by simp) (by simp) (by simp) ?_
 have w2':R (g:Int):=⟨by omega,by omega⟩
 simp -dsimp [e2,wr w2',↓ awpC_of xc69d]
 refine call_p q1 (by simp) (by simp) ?_
 simp -dsimp [↓ awpC_of xc69d]
 refine call_m p2 (by simp) (by simp) (by simp) ?_
 simp -dsimp [↓ awpC_of xc69d]
 refine call_m p3 (by simp) (by simp) (by simp) ?_
 simp -dsimp [↓ awpC_of xc69d]
 refine call_p q55 (by simp) (by simp) ?_
 simp -dsimp [↓ awpC_of xc69d]
 refine call_m p4 (by simp) (by simp) (by simp) ?_
 simp -dsimp [↓ awpC_of xc69d]
 exact awpC_in (b69d l hl ⟨nm,ver,xs,rg,g,ch,pr,[]⟩ ⟨hxs,hrg,⟨c1,c2⟩,r1,r2,by simp⟩ rfl gs ⟨by omega,gok⟩ d4 hd4 g hg1 hg2 rfl m (by omega))
theorem b69e (l:List (List Int)) (hl:∀ x∈l,∀ n∈x,R n) (hl2:l.length≤140737488355328) (nm:ByteArray) (ver:Int) (xs:List Axv) (hxs:xs.length≤2) (rg:List (List T3)) (hrg:rg.length≤2∧∀ r∈rg,r.length≤2) (d:Dr) (hdr:d.ok) (n:Nat) (hn:n≤2) :
  awp Tryz.prog xc69e K20 ⟨[(0,.p (.sl 1 (l.map llRow))),(2,.ptr (2,0) 11 0 0),(3,.ptr (17,0) 2 0 0),(5,.ptr (5,0) 11 0 0),(6,.p (.int .i64 n))],
   [((2,0),z20),((5,0),b69box nm ver xs (.p (.sl 1 (rg.map regRow)))),((17,0),d20 d)]⟩:=by
 simp -dsimp [xc69e,↓ awpC_of xc69c]
 exact awpC_in (b69c l hl hl2 nm ver xs hxs rg hrg d hdr n hn)
theorem b69b (l:List (List Int)) (hl:∀ x∈l,∀ n∈x,R n) (hl2:l.length≤140737488355328) (nm:ByteArray) (ver:Int) (xs:List Axv) (hxs:xs.length≤2) (d:Dr) (hdr:d.ok) (n:Nat) (hn:n≤2) :
  awp Tryz.prog xc69b K20 ⟨[(0,.p (.sl 1 (l.map llRow))),(2,.ptr (2,0) 11 0 0),(3,.ptr (17,0) 2 0 0),(5,.ptr (5,0) 11 0 0),(6,.p (.int .i64 n))],
   [((2,0),z20),((5,0),b69box nm ver xs (.p .nsl)),((17,0),d20 d)]⟩:=by
 have q2:=b114 l 2
 obtain ⟨m,d1,hd1,v1,p1⟩:=b71n d hdr 3 (17,0) (by decide) (by decide)
 have q52:=b116 (partL l 2) n m (by omega) (by omega)
 by_cases h:0<n
 ·simp -dsimp [xc69b,h,↓ awpC_of xc69e]
  refine call_p q2 (by simp) (by simp) ?_
  simp -dsimp [↓ awpC_of xc69e]
  refine call_m p1 (by simp) (by simp) (by simp) ?_
  simp -dsimp [↓ awpC_of xc69e]
  refine call_p q52 (by simp) (by simp) ?_
  simp -dsimp [↓ awpC_of xc69e]
  exact awpC_in (b69e l hl hl2 nm ver xs hxs (regsL (partL l 2) n m) ⟨by rw [regsL_len];omega,fun r hr=>by obtain ⟨k,_,rfl⟩:=List.mem_map.1 hr;simp only [regS,madeReg_len];omega⟩ d1 hd1 n hn)
 ·simp -dsimp [xc69b,h,↓ awpC_of xc69e]
  exact awpC_in (b69e l hl hl2 nm ver xs hxs [] (by simp) d hdr n hn)
theorem b69 (l:List (List Int)) (hl:∀ x∈l,∀ n∈x,R n) (hl2:l.length≤140737488355328):∃ (c:Cor0) (ls:List (List Ru)) (gs:List Gl),(c.ok∧FOk ls gs)∧Best Tryz.prog 69 [.sl 1 (l.map llRow)] (.p (.agg (corRow0 c++[.sl 1 (ls.map lkRow),.sl 8 (gs.map glRow)]))):=by
 obtain ⟨v,⟨c,ls,gs,rfl,hc⟩,h⟩:=bestE (Q:=fun v=>∃ (c:Cor0) (ls:List (List Ru)) (gs:List Gl),v=.agg (corRow0 c++[.sl 1 (ls.map lkRow),.sl 8 (gs.map glRow)])∧c.ok∧FOk ls gs) mixed fn69 ok69 (args:=[.sl 1 (l.map llRow)]) (by simp) (by
  change awp Tryz.prog ac69 K20 _
  have q0:=b114 l 0
  have q2:=b114 l 2
  obtain ⟨y0,ey0⟩:∃ y,partL l 0=y:=⟨_,rfl⟩
  obtain ⟨y2,ey2⟩:∃ y,partL l 2=y:=⟨_,rfl⟩
  have hy0:∀ n∈y0,R n:=ey0 ▸ partR hl
  have hy2:∀ n∈y2,R n:=ey2 ▸ partR hl
  have hl0:y0.length≤60:=ey0 ▸ partLen
  have hl22:y2.length≤60:=ey2 ▸ partLen
  rw [ey0] at q0
  rw [ey2] at q2
  simp -dsimp [ac69,↓ awpC_of xc69b]
  refine call_p q0 (by simp) (by simp) ?_
  obtain ⟨n1,d1,hd1,v1,p1⟩:=b71n ⟨y0,0⟩ ⟨hy0,by dsimp only;omega⟩ 3 (17,0) (by decide) (by decide)
  simp -dsimp [↓ awpC_of xc69b,List.range,List.range.loop]
  refine call_m p1 (by simp) (by simp) (by simp) ?_
  have hn1:n1=0∨n1=1∨n1=2:=by omega
  obtain ⟨nm,enm⟩:∃ nm:ByteArray,(if n1=0 then ⟨#[115,97,110,115]⟩ else if n1=1 then ⟨#[115,101,114,105,102]⟩ else ⟨#[97,49]⟩:ByteArray)=nm:=⟨_,rfl⟩
  have hnm:([[PV.str ⟨#[115,97,110,115]⟩],[PV.str ⟨#[115,101,114,105,102]⟩],[PV.str ⟨#[97,49]⟩]]:List (List PV))[n1]?=some [PV.str nm]:=by
   rcases hn1 with rfl | rfl | rfl<;>(rw [←enm];rfl)
  obtain ⟨n2,d2,hd2,v2,p2⟩:=b71n d1 hd1 5 (17,0) (by decide) (by decide)
  have h3:(n1:Int)<3:=v1
  have w2:R (1+(n2:Int)):=⟨by omega,by omega⟩
  simp -dsimp [↓ awpC_of xc69b,List.range,List.range.loop,h3,hnm]
  refine call_m p2 (by simp) (by simp) (by simp) ?_
  obtain ⟨n3,d3,hd3,v3,p3⟩:=b71n d2 hd2 3 (17,0) (by decide) (by decide)
  simp -dsimp [↓ awpC_of xc69b,wr w2]
  refine call_m p3 (by simp) (by simp) (by simp) ?_
  simp -dsimp [↓ awpC_of xc69b]
  refine loopE n3 (fun k (xs:List Axv)=>⟨[(0,.p (.sl 1 (l.map llRow))),(2,.ptr (2,0) 11 0 0),(3,.ptr (17,0) 2 0 0),(5,.ptr (5,0) 11 0 0),(6,.p (.int .i64 n3)),(7,.p (.int .i64 k))],
   [((2,0),z20),((5,0),.box [.p (.str nm),.p (.int .i64 (1+n2)),.ref (999982,1) 5 0 k,.p .nsl,.p (.int .i64 0),.p .nsl,.p .nsl,.p .nsl,.p (.str ⟨#[]⟩),.p .nsl,.p .nsl]),((17,0),d20 d3),((999982,1),.sl 175 5 (xs.map axRow))]⟩) (fun k xs=>xs.length=k) [] (fun k xs hk has=>?_) rfl (by simp)
  by_cases h:k<n3
  ·have wk:R ((k:Int)+1):=⟨by omega,by omega⟩
   have w7:R (7*(k:Int)):=⟨by omega,by omega⟩
   have hk2:k<2:=by omega
   have hk2':(k:Int)<2:=by omega
   have m1:k+1≤maxLen:=by unfold maxLen;omega
   have e1:(k+1)*64≤140737488355328:=by omega
   obtain ⟨a,ea⟩:∃ a:Nat,min (y2.length:Int) (7*(k:Int))=a:=⟨min y2.length (7*k),by omega⟩
   have hay:a≤y2.length:=by omega
   obtain ⟨nk,hnk⟩:∃ nk:ByteArray,([[PV.str ⟨#[119,103,104,116]⟩],[PV.str ⟨#[119,100,116,104]⟩]]:List (List PV))[k]?=some [PV.str nk]:=by
    have:k=0∨k=1:=by omega
    rcases this with rfl | rfl
    ·exact ⟨_,rfl⟩
    ·exact ⟨_,rfl⟩
   obtain ⟨x,q51⟩:=b115 (y2.drop a) nk
   have hall:((xs.map axRow).all fun r=>r.all PV.one)=true:=by
    rw [List.all_eq_true];intro r hr;obtain ⟨u,_,rfl⟩:=List.mem_map.1 hr;rfl
   have ht:List.take (k+1) (xs.map axRow++[axRow x])=xs.map axRow++[axRow x]:=List.take_of_length_le (by simp;omega)
   have hty:List.take y2.length (y2.map intRow)=y2.map intRow:=List.take_of_length_le (by simp)
   simp -dsimp [h]
   refine call_p q2 (by simp) (by simp) ?_
   simp -dsimp
   refine call_p q2 (by simp) (by simp) ?_
   simp -dsimp [wr w7,ea,hay,hk2',hnk,List.range,List.range.loop]
   refine call_p q51 (by simp [List.map_drop,hty]) (by simp) ?_
   simp only [axRow] at hall ht
   simp -dsimp [axRow,has,m1,e1,wr wk,h,hall,ht,List.range,List.range.loop,-List.all_eq_true]
   exact ⟨xs++[x],by simp [has],by simp [axRow]⟩
  ·have:k=n3:=by omega
   subst this
   have hle:k≤xs.length:=by omega
   have ht:List.take k (xs.map axRow)=xs.map axRow:=List.take_of_length_le (by simp;omega)
   simp -dsimp [h,hle,ht,↓ awpC_of xc69b]
   exact awpC_in (b69b l hl hl2 nm (1+n2) xs (by omega) d3 hd3 k (by omega)))
 exact ⟨c,ls,gs,hc,h⟩
end
section
structure Cor where
 nm:ByteArray
 ver:Int
 ax:List Axv
 rg:List (List T3)
 gl:Int
 ch:List Ch
 pr:List (Int×Int×Int)
 hd:List (Int×List Int)
 rt:ByteArray
def corRow (c:Cor):List PV:=[.str c.nm,.int .i64 c.ver,.sl 5 (c.ax.map axRow),.sl 1 (c.rg.map regRow),.int .i64 c.gl,.sl 4 (c.ch.map chRow),.sl 3 (c.pr.map i3Row),.sl 2 (c.hd.map hdRow),.str c.rt]
def Cor.ok (c:Cor):Prop:=c.ax.length≤2∧(c.rg.length≤2∧∀ r∈c.rg,r.length≤2)∧(c.ch.length≤256∧ChsOk c.gl c.rg.length c.ch)∧c.pr.length≤4∧PairsOk c.pr∧c.hd.length≤3
def Cor0.cor (c:Cor0):Cor:=⟨c.nm,c.ver,c.ax,c.rg,c.gl,c.ch,c.pr,c.hd,⟨#[]⟩⟩
theorem Cor0.row (c:Cor0):corRow c.cor=corRow0 c:=rfl
theorem Cor0.ok' {c:Cor0} (h:c.ok):c.cor.ok:=h
end
end Go.Abs.A30
namespace Go.Abs.A30
open Go Go.Abs Go.Proofs
set_option maxRecDepth 100000
set_option maxHeartbeats 4000000
set_option linter.unusedVariables false
def ac260:AC:=by
 apply fun (y:AC) (_:@Eq AC (anF Tryz.prog 260 mu1 [] 0 0 []) y)=>y
 conv=>lhs;reduce;dsimp
theorem fn260:factOf Tryz.prog 260=some (ac260.strip,[.tmp 2],14):=by kernel_rfl
theorem ok260:ac260.okAll=true:=by kernel_rfl
def ac232:AC:=by
 apply fun (y:AC) (_:@Eq AC (anF Tryz.prog 232 mu1 [] 0 0 []) y)=>y
 conv=>lhs;reduce;dsimp
theorem fn232:factOf Tryz.prog 232=some (ac232.strip,[.tmp 2],25):=by kernel_rfl
theorem ok232:ac232.okAll=true:=by kernel_rfl
def ac258:AC:=by
 apply fun (y:AC) (_:@Eq AC (anF Tryz.prog 258 mu1 [] 0 0 []) y)=>y
 conv=>lhs;reduce;dsimp
theorem fn258:factOf Tryz.prog 258=some (ac258.strip,[.tmp 2],22):=by kernel_rfl
theorem ok258:ac258.okAll=true:=by kernel_rfl
def ac256:AC:=by
 apply fun (y:AC) (_:@Eq AC (anF Tryz.prog 256 mu1 [] 0 0 []) y)=>y
 conv=>lhs;reduce;dsimp
theorem fn256:factOf Tryz.prog 256=some (ac256.strip,[.tmp 2],16):=by kernel_rfl
theorem ok256:ac256.okAll=true:=by kernel_rfl
def ac228:AC:=by
 apply fun (y:AC) (_:@Eq AC (anF Tryz.prog 228 mu1 [] 0 0 []) y)=>y
 conv=>lhs;reduce;dsimp
theorem fn228:factOf Tryz.prog 228=some (ac228.strip,[.tmp 2],35):=by kernel_rfl
theorem ok228:ac228.okAll=true:=by kernel_rfl
def ac255:AC:=by
 apply fun (y:AC) (_:@Eq AC (anF Tryz.prog 255 mu1 [] 0 0 []) y)=>y
 conv=>lhs;reduce;dsimp
theorem fn255:factOf Tryz.prog 255=some (ac255.strip,[.tmp 4],14):=by kernel_rfl
theorem ok255:ac255.okAll=true:=by kernel_rfl
def ac257:AC:=by
 apply fun (y:AC) (_:@Eq AC (anF Tryz.prog 257 mu1 [] 0 0 []) y)=>y
 conv=>lhs;reduce;dsimp
theorem fn257:factOf Tryz.prog 257=some (ac257.strip,[.tmp 2],22):=by kernel_rfl
theorem ok257:ac257.okAll=true:=by kernel_rfl
def ac259:AC:=by
 apply fun (y:AC) (_:@Eq AC (anF Tryz.prog 259 mu1 [] 0 0 []) y)=>y
 conv=>lhs;reduce;dsimp
theorem fn259:factOf Tryz.prog 259=some (ac259.strip,[.tmp 2],5):=by kernel_rfl
theorem ok259:ac259.okAll=true:=by kernel_rfl
end Go.Abs.A30
namespace Go.Abs.A30
open Go Go.Abs Go.Proofs
set_option maxRecDepth 100000
set_option linter.unusedVariables false
set_option linter.unusedSimpArgs false
attribute [local simp ↓] awp_skip awp_seq awp_cond awp_block awp_exit awp_ret awp_reg awp_draw awp_ghost awp_loop awp_rfun awpR_nil awpR_cons awpX_nil awpX_0 awpX_1 awpX_2 awpI_eq awpI_t awpI_f awpStep_eq
attribute [local simp] condL_true condL_false condL_dec evDel evV evN evS evA initFr Ghost.app Fr.var Fr.blk Fr.ff FF.val Abs.look Fr.app Fr.erase Fr.noSlot AV.noSlot AV.noSlotL Blk.noSlot Fr.spoken AV.fz AV.fzL Blk.fz binV binI shI binS unV fillA FF.parts FF.vals headO intO boundO lenV scalarEq leavesEq AV.aggc AV.cells FF.read FF.rows AV.one PV.one chunk freshB newS pickV retK evRs evRl evR resOf mkTup mkAgg allP cloOf okP_nil okX_p okX okP addN Del.noSlot Del.owners Rnd reify_p normM insM Fr.back Fr.backV Fr.setPs normV insV
attribute [local simp] renF Fr.trim Blk.trim AV.rn AV.rnL Blk.rn AV.among AV.amongL Blk.among okF retM fixS BIG initFF
attribute [local simp] FF.reify FF.reifyL PV.flat
section
attribute [local simp ↓] awp_scope awp_label
set_option maxHeartbeats 400000
attribute [local simp] evC
theorem wu64 {n:Int} (h:0≤n∧n<18446744073709551616):IntKind.u64.wrap n=n:=by
 simp [IntKind.wrap,IntKind.bits,IntKind.signed]
 omega
theorem wu64E (n:Int):∃ c:Nat,IntKind.u64.wrap n=c∧c<18446744073709551616:=
 ⟨(IntKind.u64.wrap n).toNat,by simp [IntKind.wrap,IntKind.bits,IntKind.signed];omega,by simp [IntKind.wrap,IntKind.bits,IntKind.signed];omega⟩
theorem b260 (n:Int):∃ c:Nat,c<18446744073709551616∧Best Tryz.prog 260 [.int .i64 n] (.p (.int .u64 c)):=by
 by_cases h:0≤n
 ·obtain ⟨c,ec,hc⟩:=wu64E (2*IntKind.u64.wrap n)
  exact ⟨c,hc,best mixed fn260 ok260 (by simp) (by simp -dsimp [ac260,h,ec])⟩
 ·obtain ⟨c,ec,hc⟩:=wu64E (IntKind.u64.wrap (2*IntKind.u64.wrap (IntKind.i64.wrap (-(IntKind.i64.wrap (n+1)))))+1)
  exact ⟨c,hc,best mixed fn260 ok260 (by simp) (by simp -dsimp [ac260,h,ec])⟩
theorem strB1 (x:Int):(strB [x]).size=1:=rfl
theorem catS (a b:ByteArray):(a++b).size=a.size+b.size:=by simp
theorem b232 (n:Int):∃ s:ByteArray,s.size≤11∧Best Tryz.prog 232 [.int .i64 n] (.p (.str s)):=by
 obtain ⟨c0,hc,q⟩:=b260 n
 obtain ⟨v,⟨s,rfl,hs⟩,hb⟩:=bestE (Q:=fun v=>∃ s:ByteArray,v=.str s∧s.size≤11) mixed fn232 ok232 (args:=[.int .i64 n]) (by simp) (by
  simp -dsimp [ac232]
  refine call_p q (by simp) (by simp) ?_
  simp -dsimp
  refine loopE 10 (fun k (z:Nat×ByteArray)=>⟨[(3,.p (.int .u64 z.1)),(4,.p (.str z.2))],[]⟩) (fun k z=>z.2.size=k∧z.1<18446744073709551616∧z.1*128 ^ k<18446744073709551616) (c0,⟨#[]⟩) (fun k z hk hz=>?_) ⟨rfl,by omega,by simp;omega⟩ (by simp)
  obtain ⟨c,out⟩:=z
  obtain ⟨z1,z2,z3⟩:=hz
  dsimp only at z1 z2 z3 ⊢
  have t1:(c:Int).tmod 128=((c % 128:Nat):Int):=rfl
  have t2:(c:Int).tdiv 128=((c / 128:Nat):Int):=rfl
  have t1':(c:Int) % 128=((c % 128:Nat):Int):=by omega
  have t2':(c:Int) / 128=((c / 128:Nat):Int):=by omega
  by_cases h:128≤c
  ·have hk2:k<10:=by
    rcases Nat.lt_or_ge k 10 with q | q
    ·exact q
    ·have:k=10:=by omega
     subst this
     omega
   have hz3:c / 128*128 ^ (k+1)<18446744073709551616:=by
    have h1:=Nat.mul_le_mul_right (128 ^ k) (Nat.div_mul_le_self c 128)
    rw [Nat.pow_succ,Nat.mul_comm (128 ^ k) 128,←Nat.mul_assoc]
    omega
   have h':(128:Int)≤c:=by omega
   have w1:=wu64 (n:=((c % 128:Nat):Int)) ⟨by omega,by omega⟩
   have w2:=wu64 (n:=((c % 128:Nat):Int)+128) ⟨by omega,by omega⟩
   have w3:=wu64 (n:=((c / 128:Nat):Int)) ⟨by omega,by omega⟩
   obtain ⟨m,em⟩:∃ m:Nat,c % 128=m:=⟨_,rfl⟩
   obtain ⟨c',ec'⟩:∃ m:Nat,c / 128=m:=⟨_,rfl⟩
   rw [em] at t1 t1' w1 w2
   rw [ec'] at t2 t2' w3 hz3
   obtain ⟨u,eu⟩:∃ u,IntKind.u8.wrap ((m:Int)+128)=u:=⟨_,rfl⟩
   have hsz:out.size+(strB [u]).size≤9223372036854775807:=by rw [strB1];omega
   have hs1:(out++strB [u]).size=k+1:=by rw [catS,strB1];omega
   obtain ⟨o2,eo2⟩:∃ o,out++strB [u]=o:=⟨_,rfl⟩
   rw [eo2] at hs1
   simp -dsimp [h,h',t1,t2,w1,w2,w3,eu,bytesO,hsz,eo2,List.range,List.range.loop]
   exact ⟨hk2,c',⟨hs1,by omega,hz3⟩,rfl⟩
  ·have h':¬(128:Int)≤c:=by omega
   obtain ⟨u,eu⟩:∃ u,IntKind.u8.wrap (c:Int)=u:=⟨_,rfl⟩
   have hsz:out.size+(strB [u]).size≤9223372036854775807:=by rw [strB1];omega
   have hs1:(out++strB [u]).size≤11:=by rw [catS,strB1];omega
   simp -dsimp [h,h',eu,bytesO,hsz,retE,List.range,List.range.loop]
   rw [catS] at hs1
   exact hs1)
 exact ⟨s,hs,hb⟩
theorem b258 (l:List Int) (hl:l.length≤100000000000):∃ s:ByteArray,s.size≤11*(l.length+1)∧Best Tryz.prog 258 [.sl 1 (l.map intRow)] (.p (.str s)):=by
 obtain ⟨s0,hs0,q0⟩:=b232 (l.length:Int)
 obtain ⟨v,⟨s,rfl,hs⟩,hb⟩:=bestE (Q:=fun v=>∃ s:ByteArray,v=.str s∧s.size≤11*(l.length+1)) mixed fn258 ok258 (args:=[.sl 1 (l.map intRow)]) (by simp) (by
  simp -dsimp [ac258]
  refine call_p q0 (by simp) (by simp) ?_
  simp -dsimp
  refine loopE l.length (fun k (z:ByteArray)=>⟨[(0,.p (.sl 1 (l.map intRow))),(3,.p (.str z)),(4,.p (.int .i64 k))],[]⟩) (fun k z=>z.size≤11*(k+1)) s0 (fun k z hk hz=>?_) (by omega) (by simp)
  by_cases hkl:k<l.length
  ·obtain ⟨x,ex⟩:∃ x,l[k]=x:=⟨_,rfl⟩
   obtain ⟨s1,hs1,q1⟩:=b232 x
   have wk:R ((k:Int)+1):=⟨by omega,by omega⟩
   have hsz:z.size+s1.size≤9223372036854775807:=by omega
   have hs2:(z++s1).size≤11*(k+1+1):=by rw [catS];omega
   obtain ⟨o2,eo2⟩:∃ o,z++s1=o:=⟨_,rfl⟩
   rw [eo2] at hs2
   simp -dsimp [hkl,ex,intRow]
   refine call_p q1 (by simp) (by simp) ?_
   simp -dsimp [hsz,eo2,wr wk,hkl]
   exact hs2
  ·have:k=l.length:=by omega
   subst this
   simp -dsimp [hkl,retE]
   exact hz)
 exact ⟨s,hs,hb⟩
theorem b256 (n:Int):∃ s:ByteArray,s.size=4∧Best Tryz.prog 256 [.int .i64 n] (.p (.str s)):=by
 obtain ⟨v,⟨s,rfl,hs⟩,hb⟩:=bestE (Q:=fun v=>∃ s:ByteArray,v=.str s∧s.size=4) mixed fn256 ok256 (args:=[.int .i64 n]) (by simp) (by
  simp -dsimp [ac256,List.range,List.range.loop,bytesO,retE]
  rfl)
 exact ⟨s,hs,hb⟩
theorem b228 (t:ByteArray) (ht:t.size≤9223372036854775806):∃ s:ByteArray,s.size=8∧Best Tryz.prog 228 [.str t] (.p (.str s)):=by
 obtain ⟨v,⟨s,rfl,hs⟩,hb⟩:=bestE (Q:=fun v=>∃ s:ByteArray,v=.str s∧s.size=8) mixed fn228 ok228 (args:=[.str t]) (by simp) (by
  simp -dsimp [ac228]
  refine loopE t.size (fun k (z:Int×Int)=>⟨[(0,.p (.str t)),(3,.p (.int .i64 z.1)),(4,.p (.int .i64 z.2)),(5,.p (.int .i64 k))],[]⟩) (fun k z=>(0≤z.1∧z.1<2147483647)∧0≤z.2∧z.2<2147483629) (7,11) (fun k z hk hz=>?_) ⟨by decide,by decide⟩ (by simp)
  obtain ⟨x,y⟩:=z
  obtain ⟨⟨x1,x2⟩,y1,y2⟩:=hz
  dsimp only at x1 x2 y1 y2 ⊢
  by_cases h:k<t.size
  ·have wk:R ((k:Int)+1):=⟨by omega,by omega⟩
   obtain ⟨d,ed⟩:∃ d:Nat,(t[k]'(by omega)).toNat=d:=⟨_,rfl⟩
   have hd:d<256:=by rw [←ed];exact (t[k]'(by omega)).toNat_lt
   have r0:R (d:Int):=⟨by omega,by omega⟩
   have r1:R (x*1000003):=⟨by omega,by omega⟩
   have r2:R (x*1000003+d):=⟨by omega,by omega⟩
   have r3:R (x*1000003+d+1):=⟨by omega,by omega⟩
   have r4:R (y*69069):=⟨by omega,by omega⟩
   have r5:R (y*69069+d):=⟨by omega,by omega⟩
   have r6:R (y*69069+d+1):=⟨by omega,by omega⟩
   have m1:(x*1000003+d+1).tmod 2147483647=(x*1000003+d+1) % 2147483647:=Int.tmod_eq_emod_of_nonneg (by omega)
   have m2:(y*69069+d+1).tmod 2147483629=(y*69069+d+1) % 2147483629:=Int.tmod_eq_emod_of_nonneg (by omega)
   simp -dsimp [h,ed,wr wk,wr r0,wr r1,wr r2,wr r3,wr r4,wr r5,wr r6,m1,m2]
   omega
  ·have:k=t.size:=by omega
   subst this
   obtain ⟨a,ha,qa⟩:=b256 x
   obtain ⟨b,hb,qb⟩:=b256 y
   have hsz:a.size+b.size≤9223372036854775807:=by omega
   have hs:(a++b).size=8:=by rw [catS];omega
   simp -dsimp [h]
   refine call_p qa (by simp) (by simp) ?_
   simp -dsimp
   refine call_p qb (by simp) (by simp) ?_
   simp -dsimp [hsz,retE]
   rw [catS] at hs
   exact hs)
 exact ⟨s,hs,hb⟩
theorem b255 (a b:ByteArray) (ha:a.size≤1000000000000000) (hb:b.size≤1000000000000000):∃ s:ByteArray,s.size=8∧Best Tryz.prog 255 [.str a,.str b] (.p (.str s)):=by
 obtain ⟨s1,h1,q1⟩:=b256 (a.size:Int)
 have z1:(⟨#[1]⟩:ByteArray).size=1:=rfl
 have e1:(⟨#[1]⟩++s1:ByteArray).size=5:=by rw [catS,z1,h1]
 have e2:(⟨#[1]⟩++s1++a:ByteArray).size=5+a.size:=by rw [catS,e1]
 have e3:(⟨#[1]⟩++s1++a++b:ByteArray).size=5+a.size+b.size:=by rw [catS,e2]
 obtain ⟨s2,h2,q2⟩:=b228 (⟨#[1]⟩++s1++a++b) (by rw [e3];omega)
 refine ⟨s2,h2,best mixed fn255 ok255 (by simp) ?_⟩
 have l1:1+s1.size≤9223372036854775807:=by omega
 have l2:1+s1.size+a.size≤9223372036854775807:=by omega
 have l3:1+s1.size+a.size+b.size≤9223372036854775807:=by omega
 have wa:R (a.size:Int):=⟨by omega,by omega⟩
 simp -dsimp [ac255]
 refine call_p q1 (by simp) (by simp) ?_
 simp -dsimp [z1,l1,l2,l3]
 refine call_p q2 (by simp) (by simp) ?_
 simp -dsimp
theorem b257 (l:List (List Int)) (hl:l.length≤1000) (h:∀ x∈l,x.length≤1000):∃ s:ByteArray,s.size≤20000*(l.length+1)∧Best Tryz.prog 257 [.sl 1 (l.map llRow)] (.p (.str s)):=by
 obtain ⟨s0,hs0,q0⟩:=b232 (l.length:Int)
 obtain ⟨v,⟨s,rfl,hs⟩,hb⟩:=bestE (Q:=fun v=>∃ s:ByteArray,v=.str s∧s.size≤20000*(l.length+1)) mixed fn257 ok257 (args:=[.sl 1 (l.map llRow)]) (by simp) (by
  simp -dsimp [ac257]
  refine call_p q0 (by simp) (by simp) ?_
  simp -dsimp
  refine loopE l.length (fun k (z:ByteArray)=>⟨[(0,.p (.sl 1 (l.map llRow))),(3,.p (.str z)),(4,.p (.int .i64 k))],[]⟩) (fun k z=>z.size≤20000*(k+1)) s0 (fun k z hk hz=>?_) (by omega) (by simp)
  by_cases hkl:k<l.length
  ·obtain ⟨x,ex⟩:∃ x,l[k]=x:=⟨_,rfl⟩
   have hx:=h x (by rw [←ex];simp)
   obtain ⟨s1,hs1,q1⟩:=b258 x (by omega)
   have wk:R ((k:Int)+1):=⟨by omega,by omega⟩
   have hsz:z.size+s1.size≤9223372036854775807:=by omega
   have hs2:(z++s1).size≤20000*(k+1+1):=by rw [catS];omega
   obtain ⟨o2,eo2⟩:∃ o,z++s1=o:=⟨_,rfl⟩
   rw [eo2] at hs2
   simp -dsimp [hkl,ex,llRow]
   refine call_p q1 (by simp) (by simp) ?_
   simp -dsimp [hsz,eo2,wr wk,hkl]
   exact hs2
  ·have:k=l.length:=by omega
   subst this
   simp -dsimp [hkl,retE]
   exact hz)
 exact ⟨s,hs,hb⟩
end
end Go.Abs.A30
namespace Go.Abs.A30
open Go Go.Abs Go.Proofs
set_option maxRecDepth 100000
set_option maxHeartbeats 4000000
set_option linter.unusedVariables false
def ac227:AC:=by
 apply fun (y:AC) (_:@Eq AC (anF Tryz.prog 227 mu1 [] 0 0 []) y)=>y
 conv=>lhs;reduce;dsimp
theorem fn227:factOf Tryz.prog 227=some (ac227.strip,[.tmp 2],26):=by kernel_rfl
theorem ok227:ac227.okAll=true:=by kernel_rfl
def ac196:AC:=by
 apply fun (y:AC) (_:@Eq AC (anF Tryz.prog 196 mu1 [] 0 0 []) y)=>y
 conv=>lhs;reduce;dsimp
theorem fn196:factOf Tryz.prog 196=some (ac196.strip,[.tmp 4],13):=by kernel_rfl
theorem ok196:ac196.okAll=true:=by kernel_rfl
def ac161:AC:=by
 apply fun (y:AC) (_:@Eq AC (anF Tryz.prog 161 mu1 [] 0 0 []) y)=>y
 conv=>lhs;reduce;dsimp
theorem fn161:factOf Tryz.prog 161=some (ac161.strip,[.tmp 2],18):=by kernel_rfl
theorem ok161:ac161.okAll=true:=by kernel_rfl
def ac199:AC:=by
 apply fun (y:AC) (_:@Eq AC (anF Tryz.prog 199 mu1 [] 0 0 []) y)=>y
 conv=>lhs;reduce;dsimp
theorem fn199:factOf Tryz.prog 199=some (ac199.strip,[.tmp 4],19):=by kernel_rfl
theorem ok199:ac199.okAll=true:=by kernel_rfl
def ac195:AC:=by
 apply fun (y:AC) (_:@Eq AC (anD [⟨11,[.canV 4 (4,1),.freeze (4,1)],[],none⟩] (anF Tryz.prog 195 mu1 [] 0 0 [])) y)=>y
 conv=>lhs;reduce;dsimp
theorem fn195:factOf Tryz.prog 195=some (ac195.strip,[.tmp 2],43):=by kernel_rfl
theorem ok195:ac195.okAll=true:=by kernel_rfl
end Go.Abs.A30
namespace Go.Abs.A30
open Go Go.Abs Go.Proofs
set_option maxRecDepth 100000
set_option linter.unusedVariables false
set_option linter.unusedSimpArgs false
attribute [local simp ↓] awp_skip awp_seq awp_cond awp_block awp_exit awp_ret awp_reg awp_draw awp_ghost awp_loop awp_rfun awpR_nil awpR_cons awpX_nil awpX_0 awpX_1 awpX_2 awpI_eq awpI_t awpI_f awpStep_eq
attribute [local simp] condL_true condL_false condL_dec evDel evV evN evS evA initFr Ghost.app Fr.var Fr.blk Fr.ff FF.val Abs.look Fr.app Fr.erase Fr.noSlot AV.noSlot AV.noSlotL Blk.noSlot Fr.spoken AV.fz AV.fzL Blk.fz binV binI shI binS unV fillA FF.parts FF.vals headO intO boundO lenV scalarEq leavesEq AV.aggc AV.cells FF.read FF.rows AV.one PV.one chunk freshB newS pickV retK evRs evRl evR resOf mkTup mkAgg allP cloOf okP_nil okX_p okX okP addN Del.noSlot Del.owners Rnd reify_p normM insM Fr.back Fr.backV Fr.setPs normV insV
attribute [local simp] renF Fr.trim Blk.trim AV.rn AV.rnL Blk.rn AV.among AV.amongL Blk.among okF retM fixS BIG initFF
attribute [local simp] FF.reify FF.reifyL PV.flat
section
attribute [local simp ↓] awp_scope awp_label
set_option maxHeartbeats 400000
attribute [local simp] evC
def sRow (s:ByteArray):List PV:=[.str s]
def ssRow (l:List ByteArray):List PV:=[.sl 1 (l.map sRow)]
theorem oneS (l:List ByteArray):((l.map sRow).all fun r=>r.all PV.one)=true:=by
 rw [List.all_eq_true];intro r hr;obtain ⟨u,_,rfl⟩:=List.mem_map.1 hr;rfl
theorem oneSS (l:List (List ByteArray)):((l.map ssRow).all fun r=>r.all PV.one)=true:=by
 rw [List.all_eq_true];intro r hr;obtain ⟨u,_,rfl⟩:=List.mem_map.1 hr;rfl
attribute [local simp ↓] oneS oneSS
theorem b227 (l:List ByteArray) (hl:l.length≤5000) (h8:∀ x∈l,x.size≤8):∃ r:List ByteArray,(r.length=l.length / 2∧∀ x∈r,x.size≤8)∧Best Tryz.prog 227 [.sl 1 (l.map sRow)] (.p (.sl 1 (r.map sRow))):=by
 obtain ⟨v,⟨s,rfl,hs⟩,hb⟩:=bestE (Q:=fun v=>∃ r:List ByteArray,v=.sl 1 (r.map sRow)∧(r.length=l.length / 2∧∀ x∈r,x.size≤8)) mixed fn227 ok227 (args:=[.sl 1 (l.map sRow)]) (by simp) (by
  simp -dsimp [ac227]
  obtain ⟨m,em⟩:∃ m,l.length / 2=m:=⟨_,rfl⟩
  rw [em]
  refine loopE m (fun k (z:(Nat×Nat)×List ByteArray)=>⟨[(0,.p (.sl 1 (l.map sRow))),(3,.ref (24,z.1.1) 1 0 z.2.length),(4,.p (.int .i64 z.1.2))],[((24,z.1.1),.sl 9 1 (z.2.map sRow))]⟩) (fun k z=>z.1.2=2*k∧z.2.length=k∧∀ x∈z.2,x.size≤8) ((0,0),[]) (fun k z hk hz=>?_) ⟨rfl,rfl,by simp⟩ (by simp)
  obtain ⟨⟨c,a⟩,z⟩:=z
  obtain ⟨ha,hz1,hz2⟩:=hz
  dsimp only at ha hz1 hz2
  have w0:R ((a:Int)+1):=⟨by omega,by omega⟩
  have wb:∀ b:Nat,(a:Int)+1=b→R (b:Int):=fun b e=>e ▸ w0
  obtain ⟨b,eb⟩:∃ b:Nat,(a:Int)+1=b:=⟨a+1,by omega⟩
  by_cases hkl:k<m
  ·have g1:(b:Int)<l.length:=by omega
   have g2:(a:Int)<l.length:=by omega
   have n0:a<l.length:=by omega
   have n1:b<l.length:=by omega
   obtain ⟨x,ex⟩:∃ x,l[a]=x:=⟨_,rfl⟩
   obtain ⟨y,ey⟩:∃ x,l[b]=x:=⟨_,rfl⟩
   have hx:=h8 x (by rw [←ex];simp)
   have hy:=h8 y (by rw [←ey];simp)
   obtain ⟨s1,hs1,q1⟩:=b255 x y (by omega) (by omega)
   have wk:R ((a:Int)+2):=⟨by omega,by omega⟩
   have m1:z.length+1≤maxLen:=by unfold maxLen;omega
   have m2:(z.length+1)*16≤140737488355328:=by omega
   simp -dsimp [wr (wb b eb),eb,g1,g2,n0,n1,ex,ey,sRow]
   refine call_p q1 (by simp) (by simp) ?_
   simp -dsimp [wr wk,m1,m2,List.range,List.range.loop]
   refine ⟨hkl,c+1,a+2,z++[s1],⟨by omega,by simp [hz1],fun x hx=>?_⟩,⟨⟨rfl,by simp⟩,by omega⟩,rfl,by simp [sRow]⟩
   rcases List.mem_append.1 hx with g | g
   ·exact hz2 x g
   ·rw [List.mem_singleton.1 g];omega
  ·have g1:¬(b:Int)<l.length:=by omega
   have ht:List.take z.length (z.map sRow)=z.map sRow:=List.take_of_length_le (by simp)
   simp -dsimp [wr (wb b eb),eb,g1,ht,retE]
   exact ⟨z,rfl,by omega,hz2⟩)
 exact ⟨s,hs,hb⟩
theorem b195 (l:List ByteArray) (hl:l.length≤4000) (h8:∀ x∈l,x.size≤8):∃ (L:List (List ByteArray)) (a:ByteArray),(L.length≤12∧a.size≤8)∧Best Tryz.prog 195 [.sl 1 (l.map sRow)] (.p (.sl 1 ((L++[[a]]).map ssRow))):=by
 obtain ⟨v,⟨L,a,rfl,hs⟩,hb⟩:=bestE (Q:=fun v=>∃ (L:List (List ByteArray)) (a:ByteArray),v=.sl 1 ((L++[[a]]).map ssRow)∧(L.length≤12∧a.size≤8)) mixed fn195 ok195 (args:=[.sl 1 (l.map sRow)]) (by simp) (by
  simp -dsimp [ac195]
  refine loopE 12 (fun k (m:Nat)=>⟨[(0,.p (.sl 1 (l.map sRow))),(3,.p (.int .i64 m))],[]⟩) (fun k m=>m=2 ^ k) 1 (fun k m hk hm=>?_) rfl (by simp)
  have h10:2 ^ k≤2 ^ 12:=Nat.pow_le_pow_right (by decide) hk
  rw [show (2:Nat) ^ 12=4096 from rfl] at h10
  by_cases h:m<l.length
  ·have h1:(m:Int)<l.length:=by omega
   have hk2:k<12:=by
    rcases Nat.lt_or_ge k 12 with q | q
    ·exact q
    ·have:k=12:=by omega
     subst this
     omega
   have wm:R (2*(m:Int)):=⟨by omega,by omega⟩
   simp -dsimp [h1,h,wr wm]
   refine ⟨hk2,?_⟩
   rw [hm,Int.pow_succ];push_cast;omega
  ·have h1:¬(m:Int)<l.length:=by omega
   have m1:l.length≤maxLen:=by unfold maxLen;omega
   have m2:l.length*16≤140737488355328:=by omega
   simp -dsimp [h,h1,m1,m2,List.range,List.range.loop]
   refine loopE m (fun j (z:Nat×List ByteArray)=>⟨[(3,.p (.int .i64 m)),(4,.ref (12,z.1) 1 0 z.2.length)],[((12,z.1),.sl 9 1 (z.2.map sRow))]⟩) (fun j z=>z.2.length=l.length+j∧z.2.length≤m∧∀ x∈z.2,x.size≤8) (1,l) (fun j z hj hz=>?_) ⟨rfl,by dsimp only;omega,h8⟩ (by simp)
   obtain ⟨c,z⟩:=z
   obtain ⟨z1,z2,z3⟩:=hz
   dsimp only at z1 z2 z3
   by_cases hzm:z.length<m
   ·have g1:(z.length:Int)<m:=by omega
    have m3:z.length+1≤maxLen:=by unfold maxLen;omega
    have m4:(z.length+1)*16≤140737488355328:=by omega
    simp -dsimp [g1,hzm,m3,m4,List.range,List.range.loop]
    refine ⟨by omega,c+1,z++[⟨#[]⟩],⟨by simp;omega,by simp;omega,fun x hx=>?_⟩,⟨rfl,by simp⟩,rfl,by simp [sRow]⟩
    rcases List.mem_append.1 hx with g | g
    ·exact z3 x g
    ·rw [List.mem_singleton.1 g];exact Nat.zero_le _
   ·have g1:¬(z.length:Int)<m:=by omega
    have ht:List.take z.length (z.map sRow)=z.map sRow:=List.take_of_length_le (by simp)
    simp -dsimp [g1,hzm,ht,List.range,List.range.loop]
    refine loopE k (fun j (y:Nat×List (List ByteArray))=>⟨[(5,.ref (23,y.1) 1 0 y.2.length)],[((23,y.1),.sl 137 1 (y.2.map ssRow))]⟩) (fun j y=>y.2.length=j+1∧∃ e,y.2[j]?=some e∧e.length=2 ^ (k - j)∧∀ x∈e,x.size≤8) (0,[z]) (fun j y hj hy=>?_) ⟨rfl,z,rfl,by rw [Nat.sub_zero,←hm];omega,z3⟩ (by simp [ssRow])
    obtain ⟨c,y⟩:=y
    obtain ⟨y1,e,y2,y3,y4⟩:=hy
    dsimp only at y1 y2
    obtain ⟨_,ey⟩:=List.getElem?_eq_some_iff.1 y2
    have w1:R ((y.length:Int) - 1):=⟨by omega,by omega⟩
    have ej:(y.length:Int) - 1=j:=by omega
    have wj:R (j:Int):=⟨by omega,by omega⟩
    have n0:j<y.length:=by omega
    have n1:(j:Int)<y.length:=by omega
    by_cases h2:1<e.length
    ·have hjk:j<k:=by
      rcases Nat.lt_or_ge j k with q | q
      ·exact q
      ·have:k - j=0:=by omega
       rw [this] at y3
       omega
     have h2':(1:Int)<e.length:=by omega
     have hp:2 ^ (k - j)≤2 ^ k:=Nat.pow_le_pow_right (by decide) (by omega)
     obtain ⟨r,⟨hr1,hr2⟩,q1⟩:=b227 e (by omega) y4
     have m3:y.length+1≤maxLen:=by unfold maxLen;omega
     have m4:(y.length+1)*24≤140737488355328:=by omega
     simp -dsimp [wr wj,ej,n0,n1,ey,ssRow,h2',h2]
     refine call_p q1 (by simp) (by simp) ?_
     simp -dsimp [m3,m4,List.range,List.range.loop]
     refine ⟨hjk,c+1,y++[r],⟨by simp [y1],r,by simp [List.getElem?_append,y1],?_,hr2⟩,⟨rfl,by simp⟩,rfl,by simp [ssRow]⟩
     have:k - j=(k - (j+1))+1:=by omega
     rw [hr1,y3,this,Nat.pow_succ];omega
    ·have h2':¬(1:Int)<e.length:=by omega
     have hpos:0<2 ^ (k - j):=Nat.pow_pos (by decide)
     have ht:List.take y.length (y.map ssRow)=y.map ssRow:=List.take_of_length_le (by simp)
     simp -dsimp [wr wj,ej,n0,n1,ey,ssRow,h2',h2,ht,retE]
     obtain ⟨Y,u,rfl⟩:∃ Y u,y=Y++[u]:=⟨y.dropLast,y.getLast (by intro q;simp [q] at y1),(List.dropLast_concat_getLast _).symm⟩
     have hY:Y.length=j:=by simpa using y1
     have eu:e=u:=by rw [←ey];simp [←hY]
     subst eu
     obtain ⟨a,rfl⟩:=List.length_eq_one_iff.1 (show e.length=1 by omega)
     exact ⟨Y,a,by simp [ssRow],by omega,y4 a (by simp)⟩)
 exact ⟨L,a,hs,hb⟩
theorem b196 (k:Nat) (a:ByteArray) (ha:a.size≤1000):∃ s:ByteArray,s.size=8∧Best Tryz.prog 196 [.int .i64 k,.str a] (.p (.str s)):=by
 have z1:∀ u:Int,(⟨#[2]⟩++strB [u]:ByteArray).size=2:=fun u=>by rw [catS,strB1];rfl
 obtain ⟨u,eu⟩:∃ u,IntKind.u8.wrap (k:Int)=u:=⟨_,rfl⟩
 obtain ⟨s2,h2,q2⟩:=b228 (⟨#[2]⟩++strB [u]++a) (by rw [catS,z1];omega)
 refine ⟨s2,h2,best mixed fn196 ok196 (by simp) ?_⟩
 have z2:(⟨#[2]⟩:ByteArray).size=1:=rfl
 have l3:2+a.size≤9223372036854775807:=by omega
 have l4:1+1+a.size≤9223372036854775807:=by omega
 simp -dsimp [ac196,eu,bytesO,z1,z2,strB1,l3,l4,List.range,List.range.loop]
 refine call_p q2 (by simp) (by simp) ?_
 simp -dsimp
theorem b161 (l:List ByteArray) (hl:l.length≤4000) (h8:∀ x∈l,x.size≤8):∃ s:ByteArray,s.size=8∧Best Tryz.prog 161 [.sl 1 (l.map sRow)] (.p (.str s)):=by
 obtain ⟨L,a,⟨hL,ha⟩,q⟩:=b195 l hl h8
 obtain ⟨s,hs,q1⟩:=b196 L.length a (by omega)
 refine ⟨s,hs,best mixed fn161 ok161 (by simp) ?_⟩
 have wL:R (L.length:Int):=⟨by omega,by omega⟩
 simp -dsimp [ac161]
 refine call_p q (by simp) (by simp) ?_
 have e1:(L.length:Int)+1 - 1=L.length:=by omega
 simp -dsimp [e1,wr wL,ssRow,sRow]
 refine call_p q1 (by simp) (by simp) ?_
 simp -dsimp
theorem b199 (k n r:Int) (b:ByteArray) (hb:b.size≤1000000000000):∃ s:ByteArray,s.size=8∧Best Tryz.prog 199 [.agg [.int .i64 k,.int .i64 n,.int .i64 r],.str b] (.p (.str s)):=by
 obtain ⟨s1,h1,q1⟩:=b232 k
 obtain ⟨s2,h2,q2⟩:=b232 n
 obtain ⟨s3,h3,q3⟩:=b232 r
 have l1:s1.size+s2.size≤9223372036854775807:=by omega
 have l2:s1.size+s2.size+s3.size≤9223372036854775807:=by omega
 have l3:s1.size+s2.size+s3.size+b.size≤9223372036854775807:=by omega
 obtain ⟨s,hs,q⟩:=b228 (s1++s2++s3++b) (by rw [catS,catS,catS];omega)
 refine ⟨s,hs,best mixed fn199 ok199 (by simp) ?_⟩
 simp -dsimp [ac199]
 refine call_p q1 (by simp) (by simp) ?_
 simp -dsimp
 refine call_p q2 (by simp) (by simp) ?_
 simp -dsimp [l1]
 refine call_p q3 (by simp) (by simp) ?_
 simp -dsimp [l1,l2,l3]
 refine call_p q (by simp) (by simp) ?_
 simp -dsimp
end
end Go.Abs.A30
