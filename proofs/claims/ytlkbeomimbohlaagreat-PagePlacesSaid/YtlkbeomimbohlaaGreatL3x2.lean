/- A part of the proof: an abstract reading of the model, contracts of functions. -/
import Derived.Test.YtlkbeomimbohlaaGreatL3x1
set_option linter.unusedVariables false
set_option linter.unusedSimpArgs false
namespace Go.Abs.A30
open Go Go.Abs Go.Proofs
set_option maxRecDepth 100000
set_option linter.unusedVariables false
set_option linter.unusedSimpArgs false
attribute [local simp ↓] awp_skip awp_seq awp_cond awp_block awp_exit awp_ret awp_reg awp_draw awp_ghost awp_loop awp_rfun awpR_nil awpR_cons awpX_nil awpX_0 awpX_1 awpX_2 awpI_eq awpI_t awpI_f awpStep_eq
attribute [local simp] condL_true condL_false condL_dec evDel evV evN evS evA initFr Ghost.app Fr.var Fr.blk Fr.ff FF.val Abs.look Fr.app Fr.erase Fr.noSlot AV.noSlot AV.noSlotL Blk.noSlot Fr.spoken AV.fz AV.fzL Blk.fz binV binI shI binS unV fillA FF.parts FF.vals headO intO boundO lenV scalarEq leavesEq AV.aggc AV.cells FF.read FF.rows AV.one PV.one chunk freshB newS pickV retK evRs evRl evR resOf mkTup mkAgg allP cloOf okP_nil okX_p okX okP addN Del.noSlot Del.owners Rnd reify_p normM insM Fr.back Fr.backV Fr.setPs normV insV
attribute [local simp] renF Fr.trim Blk.trim AV.rn AV.rnL Blk.rn AV.among AV.amongL Blk.among okF retM fixS BIG initFF
attribute [local simp] FF.reify FF.reifyL PV.flat
section
abbrev Bt:=Best Tryz.prog
theorem gn {α:Sort _} (a:α):∃ x,a=x:=⟨a,rfl⟩
theorem rO {n:Int} (h:-9223372036854775808≤n∧n≤9223372036854775807):R n:=h
theorem cP {P:Program} {G:FF} {d:Nat} {f:FuncId} {vs:List AV} {ok:Del→Bool} {K:Del→Prop} {ps:List PV} {v:PV} (h:Best P f ps (.p v)) (hK:K ⟨.p v,[],[]⟩) (ha:allP vs=some ps:=by simp) (hok:ok ⟨.p v,[],[]⟩=true:=by simp):callL P ok K G {} d f vs:=call_p h ha hok hK
theorem b273 {a b:Int} (hb:R b):Bt 273 [.int .i64 a,.int .i64 b] (.p (.int .i64 (gcdI a b))):=by
 refine best mixed fn273 ok273 (by simp) ?_;simp -dsimp [ac273];refine loopL_rule (fun m F=>∃ x y,m=y.toNat∧R y∧gcdI x y=gcdI a b∧(Ghost.keep [0,1]).app F=some ⟨[(0,.p (.int .i64 x)),(1,.p (.int .i64 y))],[]⟩) ?_ ⟨a,b,rfl,hb,rfl,by simp⟩
 rintro m F ⟨x,y,rfl,hy,hg,hF⟩
 rw [awp_ghost,hF]
 by_cases h:0<y
 ·have h0:y≠0:=by omega
  have hb:=tmod_bd (n:=x) (d:=y) (by omega);have hr:R (x.tmod y):=⟨by have:=hy.2;omega,by have:=hy.2;omega⟩;simp -dsimp [h,h0,Rnd,okP_nil,okX_p,okX,okP,addN,Fr.erase,Fr.noSlot,Del.owners];refine ⟨_,?_,y,_,rfl,hr,(gcdI_pos h).symm.trans hg,rfl,rfl⟩;omega
 ·simp -dsimp [h,Rnd,←hg,gcdI_neg h]
theorem b262 {n d:Int} (hn:R n) (hd:R d):Bt 262 [.agg [.int .i64 n,.int .i64 d]] (.p (.bool (decide (RS n d)))):=by
 refine best mixed fn262 ok262 (by simp) ?_
 by_cases h1:1≤d
 ·by_cases h2:d≤262144
  ·by_cases h3:0≤n
   ·by_cases h4:n≤d
    ·simp -dsimp [ac262,h1,h2,h3,h4];refine call_p (b273 (a:=n) hd) rfl (by simp) ?_;have:RS n d↔gcdI n d=1:=⟨fun h=>h.2.2.2.2,fun h=>⟨h1,h2,h3,h4,h⟩⟩
     by_cases h5:gcdI n d=1<;>simp -dsimp [h5,this]
    ·have:=RSn (n:=n) (d:=d) (by omega);simp -dsimp [ac262,h1,h2,h3,h4,this]
   ·have:=RSn (n:=n) (d:=d) (by omega);simp -dsimp [ac262,h1,h2,h3,this]
  ·have:=RSn (n:=n) (d:=d) (by omega);simp -dsimp [ac262,h1,h2,this]
 ·have:=RSn (n:=n) (d:=d) (by omega);simp -dsimp [ac262,h1,this]
theorem b235 {a n d:Int} (hn:R n) (hd:R d):Bt 235 [.int .i64 a,.agg [.int .i64 n,.int .i64 d]] (.p (.tup [.int .i64 (partS a n d).1,.bool (partS a n d).2])):=by
 refine best mixed fn235 ok235 (by simp) ?_;simp -dsimp [ac235];refine call_p (b233 a) rfl (by simp) ?_;have e:(decide (-1048576≤a) && decide (a≤1048576))=decide (SM a):=by rw [←Bool.decide_and];rfl
 rw [e]
 by_cases h1:SM a
 ·simp -dsimp [h1];refine call_p (b262 hn hd) rfl (by simp) ?_
  by_cases h2:RS n d
  ·have hb:=mulb h1 h2.2.2.1 (by have:=h2.2.1;have:=h2.2.2.2.1;omega);have w1:R (64*a):=⟨by have:=h1.1;omega,by have:=h1.2;omega⟩;have w2:R (64*a*n):=rO (by omega);simp -dsimp [h2,wr w1,wr w2];refine call_p (b203 w2 (by omega) hd) rfl (by simp) ?_;have d1:¬d<1:=by have:=h2.1;omega
   have d2:1≤d:=h2.1;simp -dsimp [partS,h1,h2,d1,d2]
  ·simp -dsimp [partS,h1,h2]
 ·simp -dsimp [partS,h1]
theorem b263 {a b c d:Int} (ha:R a) (hb:R b) (hc:R c) (hd:R d):Bt 263 [.agg [.int .i64 a,.int .i64 b],.agg [.int .i64 c,.int .i64 d]] (.p (.tup [.agg [.int .i64 (timesS a b c d).1.1,.int .i64 (timesS a b c d).1.2],.bool (timesS a b c d).2])):=by
 refine best mixed fn263 ok263 (by simp) ?_;simp -dsimp [ac263];refine call_p (b262 ha hb) rfl (by simp) ?_
 by_cases h1:RS a b
 ·simp -dsimp [h1];refine call_p (b262 hc hd) rfl (by simp) ?_
  by_cases h2:RS c d
  ·obtain ⟨p1,p2,p3,p4,p5⟩:=timesB h1 h2;have w1:R (a*c):=rO (by omega);have w2:R (b*d):=rO (by omega);simp -dsimp [h2,wr w1,wr w2];refine call_p (b273 w2) rfl (by simp) ?_;have e:timesS a b c d=if 262144<b*d / gcdI (a*c) (b*d) then ((0,0),false) else ((a*c / gcdI (a*c) (b*d),b*d / gcdI (a*c) (b*d)),true):=by
    unfold timesS;rw [if_pos ⟨h1,h2⟩]
   generalize gcdI (a*c) (b*d)=g at p5 e;have g0:g≠0:=by omega
   have t1:(a*c).tdiv g=a*c / g:=Int.tdiv_eq_ediv_of_nonneg p1;have t2:(b*d).tdiv g=b*d / g:=Int.tdiv_eq_ediv_of_nonneg (by omega);have w3:=R_ediv w1 p5;have w4:=R_ediv w2 p5
   by_cases h3:262144<b*d / g
   ·simp -dsimp [g0,t1,t2,wr w3,wr w4,h3,e]
   ·simp -dsimp [g0,t1,t2,wr w3,wr w4,h3,e]
  ·simp -dsimp [timesS,h1,h2]
 ·simp -dsimp [timesS,h1]
theorem b233' (n:Int):Bt 233 [.int .i64 n] (.p (.bool (decide (SM n)))):=by
 have e:(decide (-1048576≤n) && decide (n≤1048576))=decide (SM n):=by rw [←Bool.decide_and];rfl
 rw [←e];exact b233 n
end
section
theorem b261 (x:T3):Bt 261 [.agg (tRow x)] (.p (.bool (decide (TE x)))):=by
 obtain ⟨f,p,t⟩:=x;refine best mixed fn261 ok261 (by simp) ?_
 by_cases h1:-64≤f
 rotate_left
 ·have:=TEn (x:=⟨f,p,t⟩) (by dsimp only;omega);simp -dsimp [ac261,tRow,h1,this]
 by_cases h2:f≤p
 rotate_left
 ·have:=TEn (x:=⟨f,p,t⟩) (by dsimp only;omega);simp -dsimp [ac261,tRow,h1,h2,this]
 by_cases h3:p≤t
 rotate_left
 ·have:=TEn (x:=⟨f,p,t⟩) (by dsimp only;omega);simp -dsimp [ac261,tRow,h1,h2,h3,this]
 by_cases h4:t≤64
 rotate_left
 ·have:=TEn (x:=⟨f,p,t⟩) (by dsimp only;omega);simp -dsimp [ac261,tRow,h1,h2,h3,h4,this]
 by_cases h5:p=0
 ·have:=TEy (x:=⟨f,p,t⟩) (by dsimp only;omega);subst h5;simp -dsimp [ac261,tRow,h1,h2,h3,h4,this]
 by_cases h6:0≤f
 ·have:=TEy (x:=⟨f,p,t⟩) (by dsimp only;omega);simp -dsimp [ac261,tRow,h1,h2,h3,h4,h5,h6,this]
 by_cases h7:t≤0
 ·have:=TEy (x:=⟨f,p,t⟩) (by dsimp only;omega);simp -dsimp [ac261,tRow,h1,h2,h3,h4,h5,h6,h7,this]
 ·have:=TEn (x:=⟨f,p,t⟩) (by dsimp only;omega);simp -dsimp [ac261,tRow,h1,h2,h3,h4,h5,h6,h7,this]
theorem b234 (r:List T3) (n:Int):Bt 234 [.agg [.sl 3 (r.map tRow)],.int .i64 n] (.p (.bool (decide (RI r n)))):=by
 refine best mixed fn234 ok234 (by simp) ?_
 by_cases h1:n<0
 ·have:¬RI r n:=fun h=>by have:=h.1;omega
  simp -dsimp [ac234,h1,this]
 by_cases h2:3<n
 ·have:¬RI r n:=fun h=>by have:=h.2.1;omega
  simp -dsimp [ac234,h1,h2,this]
 by_cases h3:(r.length:Int)=n
 rotate_left
 ·have:¬RI r n:=fun h=>h3 h.2.2.1
  simp -dsimp [ac234,h1,h2,h3,this]
 subst h3;have h1':¬((r.length:Int)<0):=by omega
 simp -dsimp [ac234,h1',h2];refine loopC r.length (fun k=>⟨[(1,.p (.int .i64 r.length)),(2,.ptr (2,0) 1 0 0),(5,.p (.int .i64 k))],[((2,0),.box [.p (.sl 3 (r.map tRow))])]⟩) (fun k=>∀ y∈r.take k,TE y) (fun k hk hall=>?_) (by simp) (by simp)
 by_cases h:k<r.length
 ·obtain ⟨x,ex⟩:=gn r[k];have hx:r[k]?=some x:=by simp [h,ex]
  have w:R ((k:Int)+1):=rO (by omega);have hfx:=b261 x;have no:¬TE x→¬RI r r.length:=fun h2 h4=>h2 (h4.2.2.2 x (List.mem_of_getElem? hx))
  have go:TE x→∀ y∈r.take (k+1),TE y:=fun h2=>take_succ_all (p:=TE) hx hall h2
  by_cases hT:TE x
  ·rw [decide_eq_true hT] at hfx;have go':=go hT
   obtain ⟨f,p,t⟩:=x;simp -dsimp [h,ex,tRow] at hfx ⊢;refine call_p hfx rfl (by simp) ?_;simp -dsimp [wr w];exact ⟨h,go'⟩
  ·rw [decide_eq_false hT] at hfx;have no':=no hT
   obtain ⟨f,p,t⟩:=x;simp -dsimp [h,ex,tRow] at hfx ⊢;refine call_p hfx rfl (by simp) ?_;simp -dsimp [no']
 ·have:k=r.length:=by omega
  subst this;rw [List.take_length] at hall;have:RI r r.length:=⟨by omega,by omega,rfl,hall⟩
  simp -dsimp [this]
attribute [local simp ↓] awpY_skip awpY_seq awpY_cond awpY_block awpY_loop awpY_exit awpY_ret awpY_reg awpY_draw awpY_ghost awpY_yt awpY_yf stepY_eq
attribute [local simp] FF.reify coreY Fr.pure AV.pur
end
section
theorem b264 {x:T3} {n:Int} (hT:TE x) (hn:CO n):Bt 264 [.agg (tRow x),.int .i64 n] (.p (.agg [.int .i64 (strS x n).1,.int .i64 (strS x n).2])):=by
 refine best mixed fn264 ok264 (by simp) ?_;obtain ⟨f,p,t⟩:=x;have hT':=hT;have hn':=hn;unfold TE at hT';unfold CO at hn';dsimp only at hT'
 by_cases h1:p=0
 ·have h1d:(p=0)=True:=by simp [h1]
  have hr:rawS ⟨f,p,t⟩ n=(1,1):=by unfold rawS;simp only [];rw [if_pos (.inl h1)]
  obtain ⟨q1,q2,q3,q4,q5,q6⟩:=strE hT hn hr;have wb:R (1):=rO (by omega);have wa:R (1):=rO (by omega);simp -dsimp [ac264,tRow,h1d,wr wb,wr wa];refine call_p (b273 (a:=1) wb) rfl (by simp) ?_;generalize gcdI (1) (1)=g at q5 q6;have g0:g≠0:=by omega
  have t1:Int.tdiv (1) g=(1) / g:=Int.tdiv_eq_ediv_of_nonneg q1;have t2:Int.tdiv (1) g=(1) / g:=Int.tdiv_eq_ediv_of_nonneg (by omega);have w3:=R_ediv wa q5;have w4:=R_ediv wb q5;simp -dsimp [g0,t1,t2,wr w3,wr w4,q6,wr0]
 by_cases h2:n=p
 ·have h2d:(n=p)=True:=by simp [h2]
  have hr:rawS ⟨f,p,t⟩ n=(1,1):=by unfold rawS;simp only [];rw [if_pos (.inr h2)]
  obtain ⟨q1,q2,q3,q4,q5,q6⟩:=strE hT hn hr;have wb:R (1):=rO (by omega);have wa:R (1):=rO (by omega);simp -dsimp [ac264,tRow,h1,h2d,wr wb,wr wa];refine call_p (b273 (a:=1) wb) rfl (by simp) ?_;generalize gcdI (1) (1)=g at q5 q6;have g0:g≠0:=by omega
  have t1:Int.tdiv (1) g=(1) / g:=Int.tdiv_eq_ediv_of_nonneg q1;have t2:Int.tdiv (1) g=(1) / g:=Int.tdiv_eq_ediv_of_nonneg (by omega);have w3:=R_ediv wa q5;have w4:=R_ediv wb q5;simp -dsimp [g0,t1,t2,wr w3,wr w4,q6,wr0]
 have hn1:¬(p=0∨n=p):=by omega
 by_cases h3:n≤f
 ·
  have hr:rawS ⟨f,p,t⟩ n=(0,1):=by unfold rawS;simp only [];rw [if_neg hn1,if_pos (.inl h3)]
  obtain ⟨q1,q2,q3,q4,q5,q6⟩:=strE hT hn hr;have wb:R (1):=rO (by omega);have wa:R (0):=rO (by omega);simp -dsimp [ac264,tRow,h1,h2,h3,wr wb,wr wa];refine call_p (b273 (a:=0) wb) rfl (by simp) ?_;generalize gcdI (0) (1)=g at q5 q6;have g0:g≠0:=by omega
  have t1:Int.tdiv (0) g=(0) / g:=Int.tdiv_eq_ediv_of_nonneg q1;have t2:Int.tdiv (1) g=(1) / g:=Int.tdiv_eq_ediv_of_nonneg (by omega);have w3:=R_ediv wa q5;have w4:=R_ediv wb q5;simp -dsimp [g0,t1,t2,wr w3,wr w4,q6,wr0]
 by_cases h4:t≤n
 ·
  have hr:rawS ⟨f,p,t⟩ n=(0,1):=by unfold rawS;simp only [];rw [if_neg hn1,if_pos (.inr h4)]
  obtain ⟨q1,q2,q3,q4,q5,q6⟩:=strE hT hn hr;have wb:R (1):=rO (by omega);have wa:R (0):=rO (by omega);simp -dsimp [ac264,tRow,h1,h2,h3,h4,wr wb,wr wa];refine call_p (b273 (a:=0) wb) rfl (by simp) ?_;generalize gcdI (0) (1)=g at q5 q6;have g0:g≠0:=by omega
  have t1:Int.tdiv (0) g=(0) / g:=Int.tdiv_eq_ediv_of_nonneg q1;have t2:Int.tdiv (1) g=(1) / g:=Int.tdiv_eq_ediv_of_nonneg (by omega);have w3:=R_ediv wa q5;have w4:=R_ediv wb q5;simp -dsimp [g0,t1,t2,wr w3,wr w4,q6,wr0]
 have hn2:¬(n≤f∨n ≥ t):=by omega
 by_cases h5:n<p
 ·
  have hr:rawS ⟨f,p,t⟩ n=(n - f,p - f):=by unfold rawS;simp only [];rw [if_neg hn1,if_neg hn2,if_pos h5]
  obtain ⟨q1,q2,q3,q4,q5,q6⟩:=strE hT hn hr;have wb:R (p - f):=rO (by omega);have wa:R (n - f):=rO (by omega);simp -dsimp [ac264,tRow,h1,h2,h3,h4,h5,wr wb,wr wa];refine call_p (b273 (a:=n - f) wb) rfl (by simp) ?_;generalize gcdI (n - f) (p - f)=g at q5 q6;have g0:g≠0:=by omega
  have t1:Int.tdiv (n - f) g=(n - f) / g:=Int.tdiv_eq_ediv_of_nonneg q1;have t2:Int.tdiv (p - f) g=(p - f) / g:=Int.tdiv_eq_ediv_of_nonneg (by omega);have w3:=R_ediv wa q5;have w4:=R_ediv wb q5;simp -dsimp [g0,t1,t2,wr w3,wr w4,q6,wr0]
 have hr:rawS ⟨f,p,t⟩ n=(t - n,t - p):=by unfold rawS;simp only [];rw [if_neg hn1,if_neg hn2,if_neg h5]
 obtain ⟨q1,q2,q3,q4,q5,q6⟩:=strE hT hn hr;have wb:R (t - p):=rO (by omega);have wa:R (t - n):=rO (by omega);simp -dsimp [ac264,tRow,h1,h2,h3,h4,h5,wr wb,wr wa];refine call_p (b273 (a:=t - n) wb) rfl (by simp) ?_;generalize gcdI (t - n) (t - p)=g at q5 q6;have g0:g≠0:=by omega
 have t1:Int.tdiv (t - n) g=(t - n) / g:=Int.tdiv_eq_ediv_of_nonneg q1;have t2:Int.tdiv (t - p) g=(t - p) / g:=Int.tdiv_eq_ediv_of_nonneg (by omega);have w3:=R_ediv wa q5;have w4:=R_ediv wb q5;simp -dsimp [g0,t1,t2,wr w3,wr w4,q6,wr0]
theorem zip_get {α β:Type} {a:List α} {b:List β} {k:Nat} {x:α} {y:β} (h1:a[k]?=some x) (h2:b[k]?=some y):(a.zip b)[k]?=some (x,y):=by
 simp [List.zip,List.getElem?_zipWith,h1,h2]
theorem b236 (r:List T3) (a:List Int) (ha:a.length≤9223372036854775807):Bt 236 [.agg [.sl 3 (r.map tRow)],.sl 1 (a.map intRow)] (.p (.agg [.int .i64 (scaS r a).1,.int .i64 (scaS r a).2])):=by
 refine best mixed fn236 ok236 (by simp) ?_;simp -dsimp [ac236];refine call_p (b234 r a.length) rfl (by simp) ?_;simp -dsimp;refine call_p (b54 a ha) rfl (by simp) ?_
 by_cases h1:RI r a.length
 rotate_left
 ·have:scaS r a=(0,1):=if_neg fun h=>h1 h.1
  simp -dsimp [h1,this]
 by_cases h2:CL a
 rotate_left
 ·have:scaS r a=(0,1):=if_neg fun h=>h2 h.2
  simp -dsimp [h1,h2,this]
 simp -dsimp [h1,h2];have hlen:r.length=a.length:=by have:=h1.2.2.1;omega
 refine loopC a.length (fun k=>⟨[(1,.p (.sl 1 (a.map intRow))),(2,.ptr (2,0) 1 0 0),(4,.ptr (4,0) 2 0 0),(7,.ptr (7,0) 2 0 0),(8,.p (.int .i64 k))],[((2,0),.box [.p (.sl 3 (r.map tRow))]),((4,0),.box [.p (.int .i64 0),.p (.int .i64 0)]),((7,0),.box [.p (.int .i64 (scaF r a k).1),.p (.int .i64 (scaF r a k).2)])]⟩) (fun _=>True) (fun k hk _=>?_) trivial (by simp [scaF])
 by_cases h:k<a.length
 ·have h':k<r.length:=by omega
  obtain ⟨x,ex⟩:=gn r[k];obtain ⟨n,en⟩:=gn a[k];have w:R ((k:Int)+1):=rO (by omega);have hxy:(r.zip a)[k]?=some (x,n):=zip_get (by rw [List.getElem?_eq_getElem h',ex]) (by rw [List.getElem?_eq_getElem h,en]);have hT:TE x:=h1.2.2.2 _ (List.of_mem_zip (List.mem_of_getElem? hxy)).1;have hN:CO n:=h2.2 _ (List.of_mem_zip (List.mem_of_getElem? hxy)).2;have hs:=scaF_succ hxy;unfold mulS at hs;dsimp only at hs;have hc:=b264 (x:=x) (n:=n) hT hN
  have hcr:=strR hT hN;have hsr:=scaF_R r a k;generalize scaF r a k=s at *;generalize scaF r a (k+1)=s' at *;generalize strS x n=u at *;obtain ⟨x1,x2,x3⟩:=x
  simp -dsimp [tRow] at hc;simp -dsimp [h,h',ex,en,tRow,intRow];refine call_p hc rfl (by simp) ?_;simp -dsimp;refine call_p (b263 hsr.1 hsr.2 hcr.1 hcr.2) rfl (by simp) ?_;simp -dsimp [wr w,h,hs]
 ·have:k=a.length:=by omega
  subst this;have e:(r.zip a).length=a.length:=by simp [hlen]
  have:scaS r a=scaF r a a.length:=by
   unfold scaS scaF;rw [if_pos ⟨h1,h2⟩,←e,List.take_length]
  simp -dsimp [this]
theorem b201 {base:Int} {l:List (Int×Int)} {rs:List (List T3)} {a:List Int} (hb:R base) (hl:l.length≤9223372036854775807) (ha:a.length≤9223372036854775807) (hrs:∀ r∈rs,r.length≤9223372036854775807):Bt 201 [.int .i64 base,.sl 2 (l.map pRow),.sl 1 (rs.map regRow),.sl 1 (a.map intRow)] (.p (.tup [.int .i64 (sumS base l rs a).1,.bool (sumS base l rs a).2])):=by
 refine best mixed fn201 ok201 (by simp) ?_;simp -dsimp [ac201];refine call_p (b233' base) rfl (by simp) ?_;simp -dsimp;refine call_p (b54 a ha) rfl (by simp) ?_
 by_cases h1:SM base
 rotate_left
 ·have:=sumN (l:=l) (rs:=rs) (a:=a) (fun h=>h1 h.1);simp -dsimp [h1,this]
 by_cases h2:CL a
 rotate_left
 ·have:=sumN (base:=base) (l:=l) (rs:=rs) (fun h=>h2 h.2.1);simp -dsimp [h1,h2,this]
 by_cases h3:(8:Int)<l.length
 ·have:=sumN (base:=base) (rs:=rs) (a:=a) (l:=l) (fun h=>by have:=h.2.2;omega);simp -dsimp [h1,h2,h3,this]
 have w0:R (64*base):=⟨by have:=h1.1;omega,by have:=h1.2;omega⟩;simp -dsimp [h1,h2,h3,wr w0];refine loopC l.length (fun k=>⟨[(1,.p (.sl 2 (l.map pRow))),(2,.p (.sl 1 (rs.map regRow))),(3,.p (.sl 1 (a.map intRow))),(12,.p (.int .i64 ((sumL rs a (64*base) (l.take k)).getD 0))),(13,.p (.int .i64 k))],[]⟩) (fun k=>∃ s,sumL rs a (64*base) (l.take k)=some s∧-17592186044417*(k+1)≤s∧s≤17592186044417*(k+1)) (fun k hk hQ=>?_) ⟨64*base,by simp [sumL],by have:=h1.1;omega,by have:=h1.2;omega⟩ (by simp [sumL]);obtain ⟨s,hs,hs1,hs2⟩:=hQ
 by_cases h:k<l.length
 ·obtain ⟨⟨g,y⟩,ex⟩:=gn l[k];have hx:l[k]?=some (g,y):=by rw [List.getElem?_eq_getElem h,ex]
  have w:R ((k:Int)+1):=rO (by omega);have hsu:=sumL_succ hx hs;have no:growS rs a (g,y)=none→sumS base l rs a=(0,false):=fun hg=>by
   unfold sumS;rw [if_pos ⟨h1,h2,by omega⟩,sumL_fail hx hs hg]
  by_cases q1:g<0
  ·have:=no (if_neg fun h=>by have:=h.1;dsimp only at this;omega);simp -dsimp [h,ex,pRow,hs,q1,this]
  by_cases q2:(rs.length:Int)≤g
  ·have:=no (if_neg fun h=>by have:=h.2.1;dsimp only at this;omega);simp -dsimp [h,ex,pRow,hs,q1,q2,this]
  obtain ⟨m,rfl⟩:=Int.eq_ofNat_of_zero_le (by omega:0≤g);have hm:m<rs.length:=by omega
  obtain ⟨r,er⟩:=gn rs[m];have hmem:r∈rs:=by rw [←er];simp
  have hgd:rs.getD m []=r:=by simp [List.getD,hm,er]
  have hgr:growS rs a (m,y)=if RI r a.length∧(partS y (scaS r a).1 (scaS r a).2).2=true then some (partS y (scaS r a).1 (scaS r a).2).1 else none:=by
   unfold growS;have c1:(0:Int)≤(m:Int):=by omega
   have c2:(m:Int)<rs.length:=by omega
   simp only [Int.toNat_natCast,hgd,c1,c2,true_and]
  have hpb:=partB y (scaS r a).1 (scaS r a).2;have hpart:=b235 (a:=y) (scaS_R r a).1 (scaS_R r a).2;have hmem':=b236 r a ha;have q1':¬(m:Int)<0:=by omega
  have hri:=b234 r a.length;have nl:¬((rs.length:Int)≤m):=by omega
  have nl':¬(rs.length≤m):=by omega
  simp -dsimp [h,ex,pRow,hs,q1',nl',hm,er,regRow];refine call_p hri rfl (by simp) ?_;simp -dsimp [h,ex,pRow];refine call_p hmem' rfl (by simp) ?_;simp -dsimp;generalize scaS r a=u at *;refine call_p hpart rfl (by simp) ?_
  by_cases q3:RI r a.length
  rotate_left
  ·have:=no (by rw [hgr,if_neg fun h=>q3 h.1]);simp -dsimp [q3,this]
  generalize partS y u.1 u.2=z at *;obtain ⟨z1,z2⟩:=z
  cases z2 with
  | false=>
   have:=no (by rw [hgr,if_neg fun h=>by simp at h]);simp -dsimp [q3,this]
  | true=>
   rw [if_pos ⟨q3,rfl⟩] at hgr;rw [hgr] at hsu;dsimp only [Option.map_some] at hsu hpb;have wz:R (s+z1):=rO (by omega)
   simp -dsimp [q3,wr w,wr wz,hsu,h];omega
 ·have:k=l.length:=by omega
  subst this;have hs':=hs;rw [List.take_length] at hs';have:sumS base l rs a=(s,true):=by
   unfold sumS;rw [if_pos ⟨h1,h2,by omega⟩,hs']
  simp -dsimp [hs',this]
end
section
set_option maxHeartbeats 4000000
attribute [local simp] ba_size wb ba_at w1 w6
theorem b64 (t:List UInt8):Bt 64 [.str (ba t)] (.p (.clo (.func 111) [] [.ro [.str (ba t)]])):=by
 refine best mixed fn64 ok64 (by simp) ?_;simp -dsimp [ac64]
def spQ (L:List Nat) (k n:Nat):List (Nat×Nat):=(List.range k).map fun j=>(L.getD j 0,if j+1<k then L.getD (j+1) 0 else n)
def spRow (x:Nat×Nat):List PV:=[.int .i64 x.1,.int .i64 x.2]
@[simp] theorem spQ_len {L:List Nat} {k n:Nat}:(spQ L k n).length=k:=by simp [spQ]
theorem spQ_get {L:List Nat} {k n j:Nat} (h:j<k):(spQ L k n)[j]'(by simpa using h)=(L.getD j 0,if j+1<k then L.getD (j+1) 0 else n):=by simp [spQ]
theorem spQ_succ {L:List Nat} {k n:Nat}:(spQ L (k+1) n).set k (L.getD k 0,L.getD (k+1) 0)++[(L.getD (k+1) 0,n)]=spQ L (k+2) n:=by
 apply List.ext_getElem
 ·simp
 ·intro i h1 h2;simp at h1 h2;rw [List.getElem_append]
  by_cases hi:i<k+1
  ·rw [dif_pos (by simpa using hi),List.getElem_set,spQ_get h2]
   by_cases hk:k=i
   ·subst hk;simp
   ·rw [if_neg hk,spQ_get hi];rw [if_pos (by omega),if_pos (by omega)]
  ·rw [dif_neg (by simpa using hi),spQ_get h2];have:i=k+1:=by omega
   subst this;simp
def splT (t:List UInt8):List (Nat×Nat):=spQ (stT t t.length).1 (stT t t.length).1.length t.length
theorem oneSp (z:List (Nat×Nat)):((z.map spRow).all fun r=>r.all PV.one)=true:=by
 rw [List.all_eq_true];intro r hr;obtain ⟨x,_,rfl⟩:=List.mem_map.1 hr;rfl
attribute [local simp ↓] oneSp
theorem b23 (t:List UInt8) (hl:t.length≤1000000):Bt 23 [.str (ba t)] (.p (.sl 2 ((splT t).map spRow))):=by
 refine best mixed fn23 ok23 (by simp) ?_;simp -dsimp [ac23];refine cP (b64 t) ?_;simp -dsimp;obtain ⟨L,eL⟩:=gn ((stT t t.length).1);have hG:=g111 t hl;rw [eL] at hG;have hLn:L.length≤t.length:=eL ▸ stT_len t t.length
 refine rfunL_rule rfl rfl hG (fun k F=>F=⟨[(1,.ptr (1,0) 1 0 0),(3,.ptr (3,0) 1 0 0),(7,.p (.clo (.func 111) [] [.ro [.str (ba t)]]))],[((1,0),.box [.p (.str (ba t))]),((3,0),.box [.ref (999980,k+1) 2 0 k]),((999980,k+1),.sl 76 2 ((spQ L k t.length).map spRow))]⟩) ?_ ?_ (by simp [spQ])
 ·rintro k z F hz rfl
  have hk:k<L.length:=by have:=(List.getElem?_eq_some_iff.1 hz).1;simpa using this
  rw [List.getElem?_map,List.getElem?_eq_getElem hk] at hz;simp at hz;subst hz;have m1:k+1≤maxLen:=by unfold maxLen;omega
  have e1:(k+1)*16≤140737488355328:=by omega
  have hg:L.getD k 0=L[k]:=by simp [hk]
  refine ⟨rfl,?_⟩;cases k with
  | zero=>
   simp -dsimp [natRow,m1,e1,List.range,List.range.loop,-List.all_eq_true];simp [spQ,spRow,hk]
  | succ k=>
   have wk:R (k:Int):=rO (by omega);have hkk:(k:Int)<(k:Int)+1:=by omega
   have hk0:k<L.length:=by omega
   obtain ⟨a,ea⟩:=gn L[k];have e2:(spQ L (k+1) t.length)[k]'(by simp)=(a,t.length):=by rw [spQ_get (by omega),if_neg (by omega)];simp [hk0,ea]
   have hs:=spQ_succ (L:=L) (k:=k) (n:=t.length);have hg0:L.getD k 0=a:=by simp [hk0,ea]
   rw [hg,hg0] at hs;simp -dsimp [natRow,m1,e1,wr wk,hkk,e2,spRow,List.range,List.range.loop,-List.all_eq_true];rw [←hs,List.map_append,List.map_set];rfl
 ·rintro F rfl
  have ht:List.take L.length ((spQ L L.length t.length).map spRow)=(spQ L L.length t.length).map spRow:=List.take_of_length_le (by simp);simp -dsimp [ht,splT,eL]
def baseT (t:List UInt8) (a b:Nat):Nat:=((List.range b).find? fun i=>decide (a≤i) && !extN (cT t i)).getD a
theorem baseT_at {t:List UInt8} {a b i:Nat} (h1:a≤i) (h2:i<b) (h:extN (cT t i)=false) (hn:∀ j,a≤j→j<i→extN (cT t j)=true):baseT t a b=i:=by
 have:(List.range b).find? (fun i=>decide (a≤i) && !extN (cT t i))=some i:=by
  rw [List.find?_eq_some_iff_getElem];refine ⟨by simp [h1,h],i,by simpa using h2,by simp,fun j hj=>?_⟩
  by_cases haj:a≤j
  ·simp [hn j haj hj]
  ·simp [haj]
 unfold baseT;rw [this];rfl
theorem baseT_none {t:List UInt8} {a b:Nat} (hn:∀ j,a≤j→j<b→extN (cT t j)=true):baseT t a b=a:=by
 have:(List.range b).find? (fun i=>decide (a≤i) && !extN (cT t i))=none:=by
  rw [List.find?_eq_none];intro j hj;have hj:j<b:=by simpa using hj
  by_cases haj:a≤j
  ·simp [hn j haj hj]
  ·simp [haj]
 unfold baseT;rw [this];rfl
theorem baseT_le {t:List UInt8} {a b:Nat} (h:a<b):a≤baseT t a b∧baseT t a b<b:=by
 by_cases hx:∃ i,a≤i∧i<b∧extN (cT t i)=false
 ·obtain ⟨i,h1,h2⟩:=least (p:=fun i=>a≤i∧i<b∧extN (cT t i)=false) hx;rw [baseT_at h1.1 h1.2.1 h1.2.2 fun j h3 h4=>by
   cases e:extN (cT t j) with
   | true=>rfl
   | false=>exact absurd ⟨h3,by omega,e⟩ (h2 j h4)]
  exact ⟨h1.1,h1.2.1⟩
 ·rw [baseT_none fun j h1 h2=>by
   cases e:extN (cT t j) with
   | true=>rfl
   | false=>exact absurd ⟨j,h1,h2,e⟩ hx]
  exact ⟨Nat.le_refl _,h⟩
theorem b25 (t:List UInt8) (a b:Nat) (hab:a<b) (hb:b≤t.length) (hl:t.length≤1000000):Bt 25 [.str (ba t),.agg (spRow (a,b))] (.p (.int .i64 (baseT t a b))):=by
 refine best mixed fn25 ok25 (by simp [spRow]) ?_;have n1:¬(a:Int)<0:=by omega
 have n2:¬(b:Int)≤a:=by omega
 have n3:¬(t.length:Int)<b:=by omega
 simp -dsimp [ac25,spRow,n1,n2,n3];refine loopC (b - a) (fun k=>⟨[(0,.p (.str (ba t))),(3,.ptr (3,0) 2 0 0),(5,.p (.int .i64 ((a+k:Nat):Int)))],[((3,0),.box [.p (.int .i64 a),.p (.int .i64 b)])]⟩) (fun k=>∀ j,a≤j→j<a+k→extN (cT t j)=true) (fun k hk hall=>?_) (by intro j h1 h2;omega) (by simp);obtain ⟨q,eq⟩:=gn (a+k);rw [eq] at hall;dsimp only;rw [eq]
 by_cases h:q<b
 ·have h':(q:Int)<b:=by omega
  have hq:q<t.length:=by omega
  have wk:R ((q:Int)+1):=rO (by omega);simp -dsimp [h',h,hq];refine call_p (b66 (cT t q)) (by simp [cT]) (by simp) ?_;cases e:extN (cT t q) with
  | false=>
   have hr:=baseT_at (a:=a) (b:=b) (by omega) h e hall;simp -dsimp [hr]
   try omega
  | true=>
   simp -dsimp [wr wk];refine ⟨by omega,fun j h1 h2=>?_,by omega⟩
   by_cases hj:j=q
   ·rw [hj];exact e
   ·exact hall j h1 (by omega)
 ·have h':¬(q:Int)<b:=by omega
  have hr:=baseT_none (t:=t) (a:=a) (b:=b) fun j h1 h2=>hall j h1 (by omega)
  simp -dsimp [h',h,hr]
end
section
set_option maxHeartbeats 4000000
attribute [local simp] ba_size wb ba_at w1 w6
attribute [local simp ↓] oneSp
attribute [local simp ↓] oneI
def plP (t:List UInt8) (has:Bool) (cs:List Int) (i:Nat):Bool:=(cs.any fun c=>decide (clsT t i=c)) == has
def plT (t:List UInt8) (has:Bool) (cs:List Int) (a b:Nat):List Nat:=(List.range' a (b - a)).filter (plP t has cs)
theorem plT_succ {t:List UInt8} {has:Bool} {cs:List Int} {a k:Nat}:plT t has cs a (a+(k+1))=if plP t has cs (a+k) then plT t has cs a (a+k)++[a+k] else plT t has cs a (a+k):=by
 unfold plT;rw [show a+(k+1) - a=k+1 by omega,show a+k - a=k by omega,List.range'_concat,List.filter_append];simp only [Nat.one_mul]
 by_cases h:plP t has cs (a+k)=true
 ·simp [h]
 ·simp [h]
theorem plT_len {t:List UInt8} {has:Bool} {cs:List Int} {a b:Nat}:(plT t has cs a b).length≤b - a:=by
 have:=List.length_filter_le (plP t has cs) (List.range' a (b - a));simpa [plT] using this
theorem b149' (t:List UInt8) (a b:Nat) (has:Bool) (cs:List Int) (hab:a≤b) (hb:b≤t.length) (hl:t.length≤1000000) (hc:cs.length≤1000) :
  BestF Tryz.prog 149 [((BIG,0),.sl 3 1 (cs.map intRow))] [.p (.str (ba t)),.p (.agg (spRow (a,b))),.p (.bool has),.ref (BIG,0) 1 0 cs.length] [(BIG,0)] (.ref (999980,0) 1 0 (plT t has cs a b).length) [((999980,0),.sl 3 1 ((plT t has cs a b).map natRow)),((BIG,0),.sl 3 1 (cs.map intRow))]:=by
 refine bestF mixed fn149 ok149 (by simp [spRow]) (by simp) ?_;simp -dsimp [ac149,spRow,↓ awpC_of xc149b];refine loopC (b - a) (fun k=>⟨[(0,.p (.str (ba t))),(2,.p (.bool has)),(3,.ref (1000000,0) 1 0 cs.length),(5,.ptr (5,0) 2 0 0),(8,.ref (44,0) 1 0 (plT t has cs a (a+k)).length),(9,.p (.int .i64 ((a+k:Nat):Int)))],[((5,0),.box [.p (.int .i64 a),.p (.int .i64 b)]),((44,0),.sl 3 1 ((plT t has cs a (a+k)).map natRow)),((1000000,0),.sl 3 1 (cs.map intRow))]⟩) (fun _=>True) (fun k hk _=>?_) trivial (by simp [plT]);obtain ⟨q,eq⟩:=gn (a+k);have hs:=plT_succ (t:=t) (has:=has) (cs:=cs) (a:=a) (k:=k);have hpl:=plT_len (t:=t) (has:=has) (cs:=cs) (a:=a) (b:=a+k);have e1:a+(k+1)=q+1:=by omega
 rw [e1] at hs;dsimp only;rw [e1];rw [eq] at hs hpl ⊢
 by_cases h:q<b
 ·have h':(q:Int)<b:=by omega
  have hq:q<t.length:=by omega
  have wk:R ((q:Int)+1):=rO (by omega);simp -dsimp [h',h,↓ awpC_of xc149b];refine loopC cs.length (fun j=>⟨[(0,.p (.str (ba t))),(2,.p (.bool has)),(3,.ref (1000000,0) 1 0 cs.length),(5,.ptr (5,0) 2 0 0),(8,.ref (44,0) 1 0 (plT t has cs a q).length),(9,.p (.int .i64 (q:Int))),(10,.p (.bool ((cs.take j).any fun c=>decide (clsT t q=c)))),(21,.ref (1000000,0) 1 0 cs.length),(22,.p (.int .i64 cs.length)),(23,.p (.int .i64 j))],[((5,0),.box [.p (.int .i64 a),.p (.int .i64 b)]),((44,0),.sl 3 1 ((plT t has cs a q).map natRow)),((1000000,0),.sl 3 1 (cs.map intRow))]⟩) (fun _=>True) (fun j hj _=>?_) trivial (by simp)
  by_cases h2:j<cs.length
  ·obtain ⟨c,ec⟩:=gn cs[j];have wj:R ((j:Int)+1):=rO (by omega);have hn:(cs.take (j+1)).any (fun c=>decide (clsT t q=c))=((cs.take j).any (fun c=>decide (clsT t q=c)) || decide (clsT t q=c)):=by
    rw [List.take_add_one,List.getElem?_eq_getElem h2,ec];simp
   rw [hn];obtain ⟨f,ef⟩:=gn ((cs.take j).any (fun c=>decide (clsT t q=c)));rw [ef];cases f with
   | true=>simp -dsimp [h2,ec,intRow,wr wj]
   | false=>
    simp -dsimp [h2,ec,intRow,wr wj,hq];refine call_p (b24 (cT t q)) (by simp [cT]) (by simp) ?_;simp -dsimp [h2,wr wj,clsT];rfl
  ·have:j=cs.length:=by omega
   subst this;rw [List.take_length];simp -dsimp [h2,↓ awpC_of xc149b];refine awpC_in ?_;obtain ⟨f,ef⟩:=gn (cs.any (fun c=>decide (clsT t q=c)));rw [ef];obtain ⟨L,eL⟩:=gn (plT t has cs a q);rw [eL] at hs hpl ⊢;have m1:L.length+1≤maxLen:=by unfold maxLen;omega
   have e2:(L.length+1)*8≤140737488355328:=by omega
   have hp:plP t has cs q=(f == has):=by unfold plP;rw [ef]
   rw [hp] at hs;rw [hs];have ht:List.take (L.length+1) (L.map natRow++[[.int .i64 (q:Int)]])=L.map natRow++[[.int .i64 (q:Int)]]:=List.take_of_length_le (by simp)
   have hone:((L.map natRow).all fun r=>r.all PV.one)=true:=by
    rw [List.all_eq_true];intro r hr;obtain ⟨x,_,rfl⟩:=List.mem_map.1 hr;rfl
   have ht0:List.take L.length (L.map natRow)=L.map natRow:=List.take_of_length_le (by simp);cases f<;>cases has
   all_goals
    simp -dsimp [xc149b,wr wk,m1,e2,ht,ht0,hone,List.range,List.range.loop,-List.all_eq_true]
    first | omega | exact ⟨by omega,rfl⟩
 ·have h':¬(q:Int)<b:=by omega
  have:q=b:=by omega
  subst this;simp -dsimp [h',retF]
theorem b149 (t:List UInt8) (a b:Nat) (has:Bool) (cs:List Int) (hab:a≤b) (hb:b≤t.length) (hl:t.length≤1000000) (hc:cs.length≤1000) (s s':Slot) (hs:s≠s') :
  BestF Tryz.prog 149 [(s,.sl 3 1 (cs.map intRow))] [.p (.str (ba t)),.p (.agg (spRow (a,b))),.p (.bool has),.ref s 1 0 cs.length] [s] (.ref s' 1 0 (plT t has cs a b).length) [(s',.sl 3 1 ((plT t has cs a b).map natRow)),(s,.sl 3 1 (cs.map intRow))]:=by
 have g:=(b149' t a b has cs hab hb hl hc).ren (fun q=>if q=(BIG,0) then s else s') (fun q=>if q=s then (BIG,0) else (999980,0)) (by simp) (by simp;grind) (by simp) (by simp) (by simp);simpa [rnM,Blk.rnF,AV.rnFL,AV.rnF] using g
def ordT (t:List UInt8) (a b:Nat):List Nat:=plT t true [12] a b++plT t false [12,13,14] a b
theorem ordT_len {t:List UInt8} {a b:Nat}:(ordT t a b).length≤2*(b - a):=by
 have h1:=plT_len (t:=t) (has:=true) (cs:=[12]) (a:=a) (b:=b);have h2:=plT_len (t:=t) (has:=false) (cs:=[12,13,14]) (a:=a) (b:=b);simp [ordT];omega
theorem oneN (z:List Nat):((z.map natRow).all fun r=>r.all PV.one)=true:=by
 rw [List.all_eq_true];intro r hr;obtain ⟨x,_,rfl⟩:=List.mem_map.1 hr;rfl
attribute [local simp ↓] oneN
theorem b103 (t:List UInt8) (a b:Nat) (hab:a<b) (hb:b≤t.length) (hl:t.length≤1000000) :
  Bt 103 [.str (ba t),.agg (spRow (a,b))] (.own (fun s=>.ref s 1 0 (ordT t a b).length) (.sl 3 1 ((ordT t a b).map natRow))):=by
 refine best mixed fn103 ok103 (by simp [spRow]) ?_;have n1:¬(a:Int)<0:=by omega
 have n2:¬(b:Int)≤a:=by omega
 have n3:¬(t.length:Int)<b:=by omega
 have q1:=b149 t a b true [12] (by omega) hb hl (by simp) (24,0) (25,0) (by decide);have q2:=b149 t a b false [12,13,14] (by omega) hb hl (by simp) (28,0) (29,0) (by decide);simp -dsimp [ac103,spRow,n1,n2,n3,List.range,List.range.loop];refine call_m q1 (by simp [intRow]) (by simp) (by simp) ?_;have h1:=plT_len (t:=t) (has:=true) (cs:=[12]) (a:=a) (b:=b);have h2:=plT_len (t:=t) (has:=false) (cs:=[12,13,14]) (a:=a) (b:=b);have m1:(plT t true [12] a b).length+(plT t false [12,13,14] a b).length≤maxLen:=by unfold maxLen;omega
 have e1:((plT t true [12] a b).length+(plT t false [12,13,14] a b).length)*8≤140737488355328:=by omega
 have ht:List.take (plT t false [12,13,14] a b).length ((plT t false [12,13,14] a b).map natRow)=(plT t false [12,13,14] a b).map natRow:=List.take_of_length_le (by simp);simp -dsimp [List.range,List.range.loop];refine call_m q2 (by simp [intRow]) (by simp) (by simp) ?_;simp -dsimp [m1,e1,ht,List.range,List.range.loop,-List.all_eq_true,resOf,ordT];exact okV_ref 1 0 _
end
section
set_option maxHeartbeats 4000000
attribute [local simp] w1 w6
attribute [local simp ↓] oneN
theorem b219 (n:Int):Bt 219 [.int .i64 n] (.p (.bool false)):=by
 refine best mixed fn219 ok219 (by simp) ?_;simp -dsimp [ac219]
theorem b186 (m n:Int):Bt 186 [.int .i64 m,.int .i64 n] (.p (.bool (decide (m<n)))):=by
 refine best mixed fn186 ok186 (by simp) ?_;simp -dsimp [ac186];refine cP (b219 m) ?_;simp -dsimp
theorem swapL (A' B C:List Nat) (x y:Nat):(((A'++[y])++x :: (B++C)).set (A'.length+1) y).set A'.length x=A'++x :: (y :: B++C):=by
 simp [List.set_append]
def fr136 (n i j:Nat) (z:List Nat):Fr:=⟨[(0,.ref (1000000,0) 1 0 n),(1,.p (.int .i64 0)),(2,.p (.int .i64 n)),(6,.p (.int .i64 i)),(7,.p (.int .i64 j))],[((1000000,0),.sl 3 1 (z.map natRow))]⟩
attribute [local simp] fr136
theorem b180 (l:List Nat) (n:Nat) (hn:l.length=n) (hl:n≤1000):∃ l':List Nat,(l'.Perm l∧l'.Pairwise (·≤·)) ∧
  BestF Tryz.prog 180 [((BIG,0),.sl 3 1 (l.map natRow))] [.ref (BIG,0) 1 0 n,.p (.int .i64 0),.p (.int .i64 n)] [(BIG,0)] (.p (.tup [])) [((BIG,0),.sl 3 1 (l'.map natRow))]:=by
 refine bestEF mixed fn180 ok180 (by simp) (by simp) ?_;simp -dsimp [ac180,↓ awpC_of xc180b];refine loopE n (fun k (z:List Nat)=>⟨[(0,.ref (1000000,0) 1 0 n),(1,.p (.int .i64 0)),(2,.p (.int .i64 n)),(6,.p (.int .i64 ((k:Int)+1)))],[((1000000,0),.sl 3 1 (z.map natRow))]⟩) (fun k z=>z.Perm l∧(z.take (k+1)).Pairwise (·≤·)) l (fun k z hk hz=>?_) ⟨List.Perm.refl _,by
  match l with
  | []=>simp
  | [a]=>simp
  | a :: b :: l=>simp⟩ (by simp)
 obtain ⟨hp,hs⟩:=hz;have hzl:z.length=n:=by rw [hp.length_eq,hn]
 by_cases h:(k:Int)+1<n
 ·have hk1:k+1<z.length:=by omega
  have wk:R ((k:Int)+1+1):=rO (by omega);simp -dsimp [h,↓ awpC_of xc180b];refine loopE (k+1) (fun m (d:List Nat×Nat×List Nat)=>fr136 n (k+1) (k+1 - m) (d.1++d.2.1 :: (d.2.2++z.drop (k+2)))) (fun m d=>d.1.length=k+1 - m∧(d.1++d.2.1 :: (d.2.2++z.drop (k+2))).Perm l∧(d.1++d.2.2).Pairwise (·≤·)∧(∀ b∈d.2.2,d.2.1<b)∧d.2.2.length=m) (z.take (k+1),z[k+1],[]) (fun m d hm hd=>?_) ⟨by simp;omega,by simpa using hp,by simpa using hs,by simp,rfl⟩ (by simp);obtain ⟨A,x,B⟩:=d;obtain ⟨d1,d2,d3,d4,d5⟩:=hd;dsimp only at d1 d2 d3 d4 d5;have wi:R ((k:Int)+1):=rO (by omega)
  rcases List.eq_nil_or_concat A with rfl | ⟨A',y,rfl⟩
  ·have hj:k+1 - m=0:=by simpa using d1.symm
   have hm1:m=k+1:=by omega
   have hts:(x :: (B++z.drop (k+2))).take (k+2)=x :: B:=by
    rw [List.take_succ_cons,List.take_append_of_le_length (by omega),List.take_of_length_le (by omega)]
   simp -dsimp [hj,wr wk];refine ⟨by omega,x :: (B++z.drop (k+2)),⟨by simpa using d2,?_⟩,by simp [List.map_drop]⟩;rw [hts,List.pairwise_cons];exact ⟨fun b hb=>Nat.le_of_lt (d4 b hb),by simpa using d3⟩
  ·simp only [List.concat_eq_append] at d1 d2 d3 ⊢;obtain ⟨a,ea⟩:=gn A'.length
   have hj:k+1 - m=a+1:=by rw [←d1];simp [ea]
   obtain ⟨D,eD⟩:=gn (z.drop (k+2));rw [eD] at d2 ⊢;have hsw:=swapL A' B D x y
   rw [ea] at hsw;have hZ0:((A'++[y])++x :: (B++D))[a]?=some y:=by simp [List.getElem?_append,ea]
   have hZ1:((A'++[y])++x :: (B++D))[a+1]?=some x:=by simp [List.getElem?_append,ea]
   have hZp:=d2.length_eq;obtain ⟨Z,eZ⟩:=gn ((A'++[y])++x :: (B++D));rw [eZ] at hsw hZ0 hZ1 hZp d2 ⊢;have l1:a+1<Z.length:=(List.getElem?_eq_some_iff.1 hZ1).1
   have l0:a<Z.length:=by omega
   have g1:Z[a+1]=x:=(List.getElem?_eq_some_iff.1 hZ1).2;have g0:Z[a]=y:=(List.getElem?_eq_some_iff.1 hZ0).2;have l1n:a+1<n:=by omega
   have l0n:a<n:=by omega
   have wa:R (a:Int):=rO (by omega);have wa1:R ((a:Int)+1):=rO (by omega);have c1:(0:Int)<(a:Int)+1:=by omega
   have c2:(0:Int)≤(a:Int)+1:=by omega
   have c3:(a:Int)+1<n:=by omega
   have c4:((a:Int)+1).toNat=a+1:=by omega
   rw [hj];simp -dsimp [wr wa,wr wa1,c1,c2,c3,c4,l1,l0,l1n,l0n,g1,g0,natRow,↓ awpC_of xc180b];refine cP (b186 x y) ?_
   by_cases hxy:(x:Int)<y
   ·simp -dsimp [hxy,↓ awpC_of xc180b];refine awpC_in ?_;simp -dsimp [xc180b,wr wa,wr wa1,c1,c2,c3,c4,l1,l0,l1n,l0n,g1,g0,natRow];have hsp:(A'++x :: (y :: B++D)).Perm Z:=by
     rw [←eZ];have:=(List.Perm.swap y x (B++D)).append_left A';simpa using this
    refine ⟨by omega,A',x,y :: B,⟨by omega,hsp.trans d2,by simpa using d3,fun b hb=>?_,by simp [d5]⟩,by omega,?_⟩
    ·rcases List.mem_cons.1 hb with rfl | g
     ·omega
     ·exact d4 b g
    ·have:=congrArg (List.map natRow) hsw;rw [List.map_set,List.map_set] at this;simpa [natRow] using this
   ·simp -dsimp [hxy,wr wk];refine ⟨by omega,Z,⟨d2,?_⟩,rfl⟩;have hts:Z.take (k+2)=(A'++[y])++x :: B:=by
     rw [←eZ,show (A'++[y])++x :: (B++D)=((A'++[y])++x :: B)++D by simp,List.take_append_of_le_length (by simp;omega),List.take_of_length_le (by simp;omega)]
    rw [show k+1+1=k+2 from rfl,hts,List.pairwise_append,List.pairwise_cons];rw [List.pairwise_append] at d3;obtain ⟨p1,p2,p3⟩:=d3
    refine ⟨p1,⟨fun b hb=>Nat.le_of_lt (d4 b hb),p2⟩,fun u hu v hv=>?_⟩;have huy:u≤y:=by
     rcases List.mem_append.1 hu with g | g
     ·rw [List.pairwise_append] at p1;exact p1.2.2 u g y (by simp)
     ·simp at g;omega
    rcases List.mem_cons.1 hv with rfl | g
    ·omega
    ·exact p3 u hu v g
 ·simp -dsimp [h,retEF];exact ⟨z,rfl,hp,by rwa [List.take_of_length_le (by omega)] at hs⟩
theorem b151 (n:Nat) (h:n≤12):∃ v:Int,Bt 151 [.int .u64 n] (.p (.int .i64 v)):=by
 have key:∃ v:Int,Bt 190 [.int .u64 n] (.p (.int .i64 v)):=by
  obtain ⟨v,⟨x,rfl⟩,h⟩:=bestE (Q:=fun v=>∃ x:Int,v=.int .i64 x) mixed fn190 ok190 (args:=[.int .u64 n]) (by simp) (by
   have h1:¬(4294967296:Int)≤n:=by omega
   have h2:¬(65536:Int)≤n:=by omega
   have h3:¬(256:Int)≤n:=by omega
   have hw:IntKind.u8.wrap (n:Int)=n:=by
    have:n=0∨n=1∨n=2∨n=3∨n=4∨n=5∨n=6∨n=7∨n=8∨n=9∨n=10∨n=11∨n=12:=by omega
    rcases this with rfl | rfl | rfl | rfl | rfl | rfl | rfl | rfl | rfl | rfl | rfl | rfl | rfl<;>rfl
   obtain ⟨b,hb⟩:∃ b,(⟨#[0,1,2,2,3,3,3,3,4,4,4,4,4,4,4,4,5,5,5,5,5,5,5,5,5,5,5,5,5,5,5,5,6,6,6,6,6,6,6,6,6,6,6,6,6,6,6,6,6,6,6,6,6,6,6,6,6,6,6,6,6,6,6,6,7,7,7,7,7,7,7,7,7,7,7,7,7,7,7,7,7,7,7,7,7,7,7,7,7,7,7,7,7,7,7,7,7,7,7,7,7,7,7,7,7,7,7,7,7,7,7,7,7,7,7,7,7,7,7,7,7,7,7,7,7,7,7,7,8,8,8,8,8,8,8,8,8,8,8,8,8,8,8,8,8,8,8,8,8,8,8,8,8,8,8,8,8,8,8,8,8,8,8,8,8,8,8,8,8,8,8,8,8,8,8,8,8,8,8,8,8,8,8,8,8,8,8,8,8,8,8,8,8,8,8,8,8,8,8,8,8,8,8,8,8,8,8,8,8,8,8,8,8,8,8,8,8,8,8,8,8,8,8,8,8,8,8,8,8,8,8,8,8,8,8,8,8,8,8,8,8,8,8,8,8,8,8,8,8,8,8,8,8,8,8,8]⟩:ByteArray)[n]?=some b:=⟨_,getElem?_pos _ n (by show n<256;omega)⟩;simp -dsimp [ac190,h1,h2,h3,hw,hb,retE])
  exact ⟨x,h⟩
 obtain ⟨v,h⟩:=key;refine ⟨v,?_⟩;refine best mixed fn151 ok151 (by simp) ?_;simp -dsimp [ac151];refine cP h ?_;simp -dsimp
end
section
set_option maxHeartbeats 4000000
attribute [local simp] ba_size wb ba_at w1 w6
attribute [local simp ↓] oneN oneI oneSp
theorem b150 (l:List Nat) (n:Nat) (hn:l.length=n) (hl:n≤12) (v:Int):∃ l':List Nat,(l'.Perm l∧l'.Pairwise (·≤·)) ∧
  BestF Tryz.prog 150 [((BIG,0),.sl 3 1 (l.map natRow))] [.ref (BIG,0) 1 0 n,.p (.int .i64 0),.p (.int .i64 n),.p (.int .i64 v)] [(BIG,0)] (.p (.tup [])) [((BIG,0),.sl 3 1 (l'.map natRow))]:=by
 obtain ⟨l',h1,h2⟩:=b180 l n hn (by omega);refine ⟨l',h1,?_⟩;refine bestF mixed fn150 ok150 (by simp) (by simp) ?_;simp -dsimp [ac150,↓ awpC_of xc150b];refine loopE 0 (fun _ (_:Unit)=>⟨[(0,.ref (1000000,0) 1 0 n),(1,.p (.int .i64 0)),(2,.p (.int .i64 n)),(3,.p (.int .i64 v)),(8,.p (.bool true)),(9,.p (.bool true))],[((1000000,0),.sl 3 1 (l.map natRow))]⟩) (fun _ _=>True) () (fun k _ hk _=>?_) trivial (by simp);have w:R (n:Int):=rO (by omega);have h12:(n:Int)≤12:=by omega
 simp -dsimp [wr w,h12,hl,↓ awpC_of xc150b];refine call_m h2 (by simp) (by simp) (by simp) ?_;simp -dsimp [retF]
theorem b104' (l:List Nat) (n:Nat) (hn:l.length=n) (hl:n≤12):∃ l':List Nat,(l'.Perm l∧l'.Pairwise (·≤·)) ∧
  BestF Tryz.prog 104 [((BIG,0),.sl 3 1 (l.map natRow))] [.ref (BIG,0) 1 0 n] [(BIG,0)] (.p (.tup [])) [((BIG,0),.sl 3 1 (l'.map natRow))]:=by
 obtain ⟨v,q⟩:=b151 n hl;obtain ⟨l',h1,h2⟩:=b150 l n hn hl v;refine ⟨l',h1,?_⟩;refine bestF mixed fn104 ok104 (by simp) (by simp) ?_;have hw:IntKind.u64.wrap (n:Int)=n:=by
  have:n=0∨n=1∨n=2∨n=3∨n=4∨n=5∨n=6∨n=7∨n=8∨n=9∨n=10∨n=11∨n=12:=by omega
  rcases this with h | h | h | h | h | h | h | h | h | h | h | h | h<;>(rw [h];rfl)
 simp -dsimp [ac104,hw];refine cP q ?_;simp -dsimp;refine call_m h2 (by simp) (by simp) (by simp) ?_;simp -dsimp [retF]
theorem b104 (l:List Nat) (hl:l.length≤12) (s:Slot):∃ l':List Nat,(l'.Perm l∧l'.Pairwise (·≤·)) ∧
  BestF Tryz.prog 104 [(s,.sl 3 1 (l.map natRow))] [.ref s 1 0 l.length] [s] (.p (.tup [])) [(s,.sl 3 1 (l'.map natRow))]:=by
 obtain ⟨l',h1,h2⟩:=b104' l l.length rfl hl;refine ⟨l',h1,?_⟩;have g:=h2.ren (fun _=>s) (fun _=>(BIG,0)) (by simp) (by simp) (by simp) (by simp) (by simp);simpa [rnM,Blk.rnF,AV.rnFL,AV.rnF] using g
def visP (t:List UInt8) (i:Nat):Bool:=!(decide (clsT t i=13) || decide (clsT t i=14))
def visT (t:List UInt8) (a b:Nat):List Nat:=(List.range' a (b - a)).filter (visP t)
theorem vis_perm (t:List UInt8) (a b:Nat):(ordT t a b).Perm (visT t a b):=by
 have h:=List.filter_append_perm (fun i=>decide (clsT t i=12)) (visT t a b);unfold visT at h ⊢;rw [List.filter_filter,List.filter_filter] at h;refine List.Perm.trans (List.Perm.of_eq ?_) h;unfold ordT plT
 congr 1
 ·refine List.filter_congr fun i _=>?_
  unfold plP visP
  by_cases h:clsT t i=12
  ·simp [h]
  ·simp [h]
 ·refine List.filter_congr fun i _=>?_
  unfold plP visP
  by_cases h1:clsT t i=12
  ·simp [h1]
  ·by_cases h2:clsT t i=13
   ·simp [h2]
   ·simp [h1,h2]
theorem visT_sorted (t:List UInt8) (a b:Nat):(visT t a b).Pairwise (·≤·):=
 List.Pairwise.imp Nat.le_of_lt (List.Pairwise.filter _ List.pairwise_lt_range')
theorem vis_eq {t:List UInt8} {a b:Nat} {l:List Nat} (h1:l.Perm (ordT t a b)) (h2:l.Pairwise (·≤·)):l=visT t a b:=
 List.Perm.eq_of_pairwise (fun a b _ _ h1 h2=>Nat.le_antisymm h1 h2) h2 (visT_sorted t a b) (h1.trans (vis_perm t a b))
theorem visT_mem {t:List UInt8} {a b i:Nat} (h:i∈visT t a b):a≤i∧i<b:=by
 have:=(List.mem_filter.1 h).1;rw [List.mem_range'_1] at this;omega
theorem visT_len {t:List UInt8} {a b:Nat}:(visT t a b).length≤b - a:=by
 have:=List.length_filter_le (visP t) (List.range' a (b - a));simpa [visT] using this
def codesT (t:List UInt8) (a b:Nat):List Int:=(visT t a b).map (cT t)
theorem b55 (t:List UInt8) (a b:Nat) (hab:a<b) (hb:b≤t.length) (hl:t.length≤1000000) (h6:b - a≤6) :
  Bt 55 [.str (ba t),.agg (spRow (a,b))] (.p (.sl 1 ((codesT t a b).map intRow))):=by
 refine best mixed fn55 ok55 (by simp [spRow]) ?_;have hol:=ordT_len (t:=t) (a:=a) (b:=b);obtain ⟨l,⟨g1,g2⟩,q⟩:=b104 (ordT t a b) (by omega) (10,0);have hvis:=vis_eq g1 g2;subst hvis;have hlen:(visT t a b).length=(ordT t a b).length:=g1.length_eq;have ht:List.take (ordT t a b).length ((ordT t a b).map natRow)=(ordT t a b).map natRow:=List.take_of_length_le (by simp);have ht2:List.take (ordT t a b).length ((visT t a b).map natRow)=(visT t a b).map natRow:=List.take_of_length_le (by simp [hlen]);simp -dsimp [ac55,spRow];refine call_o (b103 t a b hab hb hl) (by simp [spRow]) (by simp) ?_;simp -dsimp [ht];refine call_m q (by simp) (by simp) (by simp) ?_;obtain ⟨V,eV⟩:=gn (visT t a b);have hm:∀ i∈V,i<t.length:=fun i hi=>by have:=visT_mem (eV ▸ hi);omega
 have hVl:V.length≤6:=by have:=visT_len (t:=t) (a:=a) (b:=b);rw [eV] at this;omega
 have hc:codesT t a b=V.map (cT t):=by unfold codesT;rw [eV]
 rw [eV] at hlen ht2;rw [hc];simp -dsimp [ht2,←hlen,eV];have htV:List.take V.length (V.map natRow)=V.map natRow:=List.take_of_length_le (by simp)
 refine loopC V.length (fun k=>⟨[(0,.p (.str (ba t))),(4,.ref (25,0) 1 0 k),(13,.p (.sl 1 (V.map natRow))),(14,.p (.int .i64 V.length)),(15,.p (.int .i64 k))],[((25,0),.sl 3 1 (((V.take k).map (cT t)).map intRow))]⟩) (fun _=>True) (fun k hk _=>?_) trivial (by simp [htV])
 by_cases h:k<V.length
 ·obtain ⟨i,ei⟩:=gn V[k];have hi:i<t.length:=hm i (by rw [←ei];simp);have wk:R ((k:Int)+1):=rO (by omega);have m1:k+1≤maxLen:=by unfold maxLen;omega
  have e1:(k+1)*8≤140737488355328:=by omega
  have hkl:(V.take k).length=k:=by simp;omega
  have hs:((V.take (k+1)).map (cT t)).map intRow=((V.take k).map (cT t)).map intRow++[[.int .i64 (cT t i)]]:=by
   rw [List.take_add_one,List.getElem?_eq_getElem h,ei];simp [intRow]
  obtain ⟨L,eL⟩:=gn ((V.take k).map (cT t));rw [eL] at hs;have hLl:L.length=k:=by rw [←eL];simp;omega
  have ht3:List.take (k+1) (L.map intRow++[[.int .i64 (cT t i)]])=L.map intRow++[[.int .i64 (cT t i)]]:=List.take_of_length_le (by simp;omega);rw [eL,hs];simp only [cT] at ht3 ⊢;simp -dsimp [h,natRow,ei,hi,m1,e1,hLl,ht3,wr wk,List.range,List.range.loop,-List.all_eq_true]
  skip
 ·have:k=V.length:=by omega
  subst this;rw [List.take_length];have ht4:List.take V.length (((V.map (cT t))).map intRow)=(V.map (cT t)).map intRow:=List.take_of_length_le (by simp);obtain ⟨L,eL⟩:=gn (V.map (cT t));rw [eL] at ht4 ⊢;have hLl:L.length=V.length:=by rw [←eL];simp
  simp -dsimp [h,resOf,hLl,ht4]
  skip
theorem b49 (t:List UInt8) (a b:Nat) (hab:a<b) (hb:b≤t.length) (hl:t.length≤1000000) :
  Bt 49 [.str (ba t),.agg (spRow (a,b))] (.p (.int .i64 (clsT t (baseT t a b)))):=by
 refine best mixed fn49 ok49 (by simp [spRow]) ?_;have hbs:=baseT_le (t:=t) hab;have hbl:baseT t a b<t.length:=by omega
 simp -dsimp [ac49,spRow];refine call_p (b25 t a b hab hb hl) (by simp [spRow]) (by simp) ?_;simp -dsimp [hbl];refine call_p (b24 (cT t (baseT t a b))) (by simp [cT]) (by simp) ?_;simp -dsimp [clsT]
end
section
set_option maxHeartbeats 4000000
attribute [local simp] ba_size wb ba_at w1 w6
attribute [local simp ↓] oneN oneI oneSp
theorem stT_inv (t:List UInt8):∀ i,i≤(stT t i).2+6∧(0<i→(stT t i).1.getLast?=some (stT t i).2)∧(stT t i).1.Pairwise (·<·)∧(∀ x∈(stT t i).1,x<i) ∧
  (∀ (j:Nat) (a b:Nat),(stT t i).1[j]?=some a→(stT t i).1[j+1]?=some b→b≤a+6)
 | 0=>by simp [stT]
 | i+1=>by
  obtain ⟨h1,h2,h3,h4,h5⟩:=stT_inv t i;have hle:=stT_le t i
  by_cases hb:begT t i (stT t i).2=true
  ·have e:stT t (i+1)=((stT t i).1++[i],i):=by simp only [stT,hb,if_true]
   rw [e];refine ⟨by dsimp only;omega,fun _=>by simp,?_,fun x hx=>?_,fun j a b ha hb'=>?_⟩
   ·dsimp only;rw [List.pairwise_append];exact ⟨h3,by simp,fun a ha b hb=>by simp at hb;have:=h4 a ha;omega⟩
   ·dsimp only at hx;rcases List.mem_append.1 hx with g | g
    ·have:=h4 x g;omega
    ·simp at g;omega
   ·dsimp only at ha hb';have hj:=(List.getElem?_eq_some_iff.1 hb').1
    simp at hj
    by_cases hjl:j+1<(stT t i).1.length
    ·rw [List.getElem?_append_left hjl] at hb';rw [List.getElem?_append_left (by omega)] at ha;exact h5 j a b ha hb'
    ·have hjl':j+1=(stT t i).1.length:=by omega
     rw [List.getElem?_append_right (by omega),hjl'] at hb';simp at hb';subst hb';rw [List.getElem?_append_left (by omega)] at ha;have hi0:0<i:=by
      rcases Nat.eq_zero_or_pos i with h0 | h0
      ·subst h0;simp [stT] at hjl'
      ·exact h0
     have:=h2 hi0;rw [List.getLast?_eq_getElem?,show (stT t i).1.length - 1=j by omega,ha] at this;simp at this;omega
  ·have hb':begT t i (stT t i).2=false:=by simpa using hb
   have e:stT t (i+1)=stT t i:=by simp [stT,hb']
   rw [e];have hi0:0<i:=by
    rcases Nat.eq_zero_or_pos i with h0 | h0
    ·subst h0;simp [begT] at hb'
    ·exact h0
   have h6:¬((i:Int) - (stT t i).2=6):=fun q=>by simp [begT,q] at hb'
   refine ⟨by omega,fun _=>h2 hi0,h3,fun x hx=>by have:=h4 x hx;omega,h5⟩
theorem splT_mem {t:List UInt8} {a b:Nat} (h:(a,b)∈splT t):a<b∧b≤t.length∧b - a≤6:=by
 obtain ⟨h1,h2,h3,h4,h5⟩:=stT_inv t t.length;unfold splT spQ at h;obtain ⟨L,eL⟩:=gn ((stT t t.length).1)
 rw [eL] at h h2 h3 h4 h5;obtain ⟨j,hj,e⟩:=List.mem_map.1 h
 have hj:j<L.length:=by simpa using hj
 have g1:L.getD j 0=L[j]:=by simp [hj]
 rw [g1] at e
 by_cases hl:j+1<L.length
 ·have g2:L.getD (j+1) 0=L[j+1]:=by simp [hl]
  rw [if_pos hl,g2] at e;simp only [Prod.mk.injEq] at e;obtain ⟨rfl,rfl⟩:=e
  have p1:=List.pairwise_iff_getElem.1 h3 j (j+1) hj hl (by omega);have p2:=h4 L[j+1] (by simp);have p3:=h5 j L[j] L[j+1] (by simp [hj]) (by simp [hl]);omega
 ·rw [if_neg hl] at e;simp only [Prod.mk.injEq] at e;obtain ⟨rfl,rfl⟩:=e
  have p2:=h4 L[j] (by simp);have h0:0<t.length:=by omega
  have p3:=h2 h0;rw [List.getLast?_eq_getElem?,show L.length - 1=j by omega,List.getElem?_eq_getElem hj] at p3;simp at p3;omega
theorem splT_len (t:List UInt8):(splT t).length≤t.length:=by
 have:=stT_len t t.length;simpa [splT] using this
theorem b153 (x:Ch) (code:Int):Bt 153 [.agg (chRow x),.ro [.int .i64 code]] (.p (.bool (decide (x.code=code)))):=by
 refine best mixed fn153 ok153 (by simp [chRow]) ?_;simp -dsimp [ac153,chRow]
theorem b152 {f:FuncId} {c:PV} {q:Ch→Bool} (hf:∀ x:Ch,Bt f [.agg (chRow x),c] (.p (.bool (q x)))) (r:List Ch) (hl:r.length≤9223372036854775807):Bt 152 [.sl 4 (r.map chRow),.clo (.func f) [] [c]] (.p (.int .i64 (idxS q r))):=by
 refine best mixed fn152 ok152 (by simp) ?_;simp -dsimp [ac152];refine loopC r.length (fun k=>⟨[(0,.p (.sl 4 (r.map chRow))),(1,.p (.clo (.func f) [] [c])),(7,.p (.int .i64 r.length)),(8,.p (.int .i64 k))],[]⟩) (fun k=>∀ y∈r.take k,q y=false) (fun k hk hall=>?_) (by simp) (by simp)
 by_cases h:k<r.length
 ·obtain ⟨x,ex⟩:=gn r[k];have hx:r[k]?=some x:=by simp [h,ex]
  have w:R ((k:Int)+1):=rO (by omega);have hfx:=hf x;have hit:q x=true→idxS q r=k:=fun h2=>idxS_hit hx hall h2
  have go:q x=false→∀ y∈r.take (k+1),q y=false:=fun h2=>take_succ_all (p:=fun y=>q y=false) hx hall h2
  generalize q x=b at *;simp -dsimp [h,ex,chRow] at hfx ⊢;refine call_p hfx rfl (by simp) ?_;cases b with
  | true=>simp -dsimp [hit]
  | false=>simp -dsimp [wr w];exact ⟨h,go rfl⟩
 ·have:k=r.length:=by omega
  subst this;rw [List.take_length] at hall;simp -dsimp [idxS_none hall]
def findN (c:Cor) (code:Int):Option Ch:=c.ch.find? fun x=>decide (x.code=code)
def ch0:Ch:=⟨0,0,0,[]⟩
def hasN (c:Cor) (code:Int):Bool:=(findN c code).isSome
theorem idxS_find {α:Type} {q:α→Bool} {l:List α}:(∃ (k:Nat) (x:α),idxS q l=k∧l[k]?=some x∧l.find? q=some x)∨(idxS q l=-1∧l.find? q=none):=by
 by_cases h:∃ x∈l,q x=true
 ·left;obtain ⟨x,hx⟩:=Option.isSome_iff_exists.1 (List.find?_isSome.2 h);obtain ⟨h1,k,h2,h3,h4⟩:=List.find?_eq_some_iff_getElem.1 hx;have hk:l[k]?=some x:=by rw [List.getElem?_eq_getElem h2,h3]
  refine ⟨k,x,idxS_hit hk (fun y hy=>?_) h1,hk,hx⟩;obtain ⟨j,hj,rfl⟩:=List.mem_take_iff_getElem.1 hy;have:=h4 j (by omega);simpa using this
 ·right;have hn:∀ x∈l,q x=false:=fun x hx=>by
   cases e:q x with
   | false=>rfl
   | true=>exact absurd ⟨x,hx,e⟩ h
  exact ⟨idxS_none hn,by rw [List.find?_eq_none];intro x hx;simp [hn x hx]⟩
theorem b107 (c:Cor) (hc:c.ch.length≤1000) (code:Int):Bt 107 [.agg (corRow c),.int .i64 code] (.p (.tup [.agg (chRow ((findN c code).getD ch0)),.bool (hasN c code)])):=by
 refine best mixed fn107 ok107 (by simp [corRow]) ?_;have q:=b152 (c:=.ro [.int .i64 code]) (fun x=>b153 x code) c.ch (by omega);simp -dsimp [ac107,corRow];refine call_f q (by simp) (by simp) (by simp) ?_;rcases idxS_find (q:=fun x:Ch=>decide (x.code=code)) (l:=c.ch) with ⟨k,x,h1,h2,h3⟩ | ⟨h1,h3⟩
 ·have hk:=(List.getElem?_eq_some_iff.1 h2).1;have hx:=(List.getElem?_eq_some_iff.1 h2).2;have hn:¬(k:Int)<0:=by omega
  have hf:findN c code=some x:=h3;simp -dsimp [h1,hn,hk,hx,chRow,hf,hasN]
 ·have hf:findN c code=none:=h3;simp -dsimp [h1,chRow,hf,hasN,ch0]
def glyN (c:Cor) (code:Int):Int:=((findN c code).getD ch0).glyph
theorem b60 (c:Cor) (hc:c.ch.length≤1000) (code:Int):Bt 60 [.agg (corRow c),.int .i64 code] (.p (.tup [.int .i64 (glyN c code),.bool (hasN c code)])):=by
 refine best mixed fn60 ok60 (by simp [corRow]) ?_;simp -dsimp [ac60,corRow];refine call_p (b107 c hc code) (by simp [corRow]) (by simp) ?_;simp -dsimp [chRow,glyN]
theorem b59 (c:Cor) (hc:c.ch.length≤1000) (code:Int):Bt 59 [.int .i64 code,.ro (corRow c)] (.p (.bool (!hasN c code))):=by
 refine best mixed fn59 ok59 (by simp) ?_;simp -dsimp [ac59,corRow];refine call_p (b60 c hc code) (by simp [corRow]) (by simp) ?_;cases e:hasN c code<;>simp -dsimp
theorem b106c {f:FuncId} {c:PV} {q:Int→Bool} (hf:∀ x:Int,Bt f [.int .i64 x,c] (.p (.bool (q x)))) (r:List Int) (hl:r.length≤9223372036854775807):Bt 106 [.sl 1 (r.map intRow),.clo (.func f) [] [c]] (.p (.int .i64 (idxS q r))):=by
 refine best mixed fn106 ok106 (by simp) ?_;simp -dsimp [ac106];refine loopC r.length (fun k=>⟨[(0,.p (.sl 1 (r.map intRow))),(1,.p (.clo (.func f) [] [c])),(7,.p (.int .i64 r.length)),(8,.p (.int .i64 k))],[]⟩) (fun k=>∀ y∈r.take k,q y=false) (fun k hk hall=>?_) (by simp) (by simp)
 by_cases h:k<r.length
 ·obtain ⟨x,ex⟩:=gn r[k];have hx:r[k]?=some x:=by simp [h,ex]
  have w:R ((k:Int)+1):=rO (by omega);have hfx:=hf x;have hit:q x=true→idxS q r=k:=fun h2=>idxS_hit hx hall h2
  have go:q x=false→∀ y∈r.take (k+1),q y=false:=fun h2=>take_succ_all (p:=fun y=>q y=false) hx hall h2
  generalize q x=b at *;simp -dsimp [h,ex,intRow] at hfx ⊢;refine call_p hfx rfl (by simp) ?_;cases b with
  | true=>simp -dsimp [hit]
  | false=>simp -dsimp [wr w];exact ⟨h,go rfl⟩
 ·have:k=r.length:=by omega
  subst this;rw [List.take_length] at hall;simp -dsimp [idxS_none hall]
theorem b58c {f:FuncId} {c:PV} {q:Int→Bool} (hf:∀ x:Int,Bt f [.int .i64 x,c] (.p (.bool (q x)))) (r:List Int) (hl:r.length≤9223372036854775807):Bt 58 [.sl 1 (r.map intRow),.clo (.func f) [] [c]] (.p (.bool (r.any q))):=by
 refine best mixed fn58 ok58 (by simp) ?_;simp -dsimp [ac58];refine call_p (b106c hf r hl) rfl (by simp) ?_;have:=idxS_ge (q:=q) (l:=r)
 by_cases h:0≤idxS q r<;>simp only [h,decide_true,decide_false] at this<;>simp -dsimp [h,←this]
def allN (codes:List Int) (c:Cor):Bool:=!(codes.any fun x=>!hasN c x)
theorem b57 (c:Cor) (hc:c.ch.length≤1000) (codes:List Int) (hl:codes.length≤1000):Bt 57 [.agg (corRow c),.ro [.sl 1 (codes.map intRow)]] (.p (.bool (allN codes c))):=by
 refine best mixed fn57 ok57 (by simp [corRow]) ?_;have q:=b58c (c:=.ro (corRow c)) (fun x=>b59 c hc x) codes (by omega);simp -dsimp [ac57,corRow];refine call_f q (by simp [corRow]) (by simp) (by simp) ?_;unfold allN;cases e:codes.any fun x=>!hasN c x<;>simp -dsimp
def CorsOk (cs:List Cor):Prop:=cs.length≤1000∧∀ c∈cs,c.ch.length≤1000
theorem b105 {f:FuncId} {c:PV} {q:Cor→Bool} (r:List Cor) (hf:∀ x∈r,Bt f [.agg (corRow x),c] (.p (.bool (q x)))) (hl:r.length≤9223372036854775807):Bt 105 [.sl 9 (r.map corRow),.clo (.func f) [] [c]] (.p (.int .i64 (idxS q r))):=by
 refine best mixed fn105 ok105 (by simp) ?_;simp -dsimp [ac105];refine loopC r.length (fun k=>⟨[(0,.p (.sl 9 (r.map corRow))),(1,.p (.clo (.func f) [] [c])),(7,.p (.int .i64 r.length)),(8,.p (.int .i64 k))],[]⟩) (fun k=>∀ y∈r.take k,q y=false) (fun k hk hall=>?_) (by simp) (by simp)
 by_cases h:k<r.length
 ·obtain ⟨x,ex⟩:=gn r[k];have hx:r[k]?=some x:=by simp [h,ex]
  have w:R ((k:Int)+1):=rO (by omega);have hfx:=hf x (by rw [←ex];simp);have hit:q x=true→idxS q r=k:=fun h2=>idxS_hit hx hall h2
  have go:q x=false→∀ y∈r.take (k+1),q y=false:=fun h2=>take_succ_all (p:=fun y=>q y=false) hx hall h2
  generalize q x=b at *;simp -dsimp [h,ex,corRow] at hfx ⊢;refine call_p hfx rfl (by simp) ?_;cases b with
  | true=>simp -dsimp [hit]
  | false=>simp -dsimp [wr w];exact ⟨h,go rfl⟩
 ·have:k=r.length:=by omega
  subst this;rw [List.take_length] at hall;simp -dsimp [idxS_none hall]
theorem b56 {f:FuncId} {c:PV} {q:Cor→Bool} (r:List Cor) (hf:∀ x∈r,Bt f [.agg (corRow x),c] (.p (.bool (q x)))) (hl:r.length≤9223372036854775807):Bt 56 [.sl 9 (r.map corRow),.clo (.func f) [] [c]] (.p (.int .i64 (idxS q r))):=by
 refine best mixed fn56 ok56 (by simp) ?_;simp -dsimp [ac56];refine call_p (b105 r hf hl) rfl (by simp) ?_;simp -dsimp
def fontN (cs:List Cor) (t:List UInt8) (x:Nat×Nat):Int:=if clsT t (baseT t x.1 x.2)=1 then -1 else idxS (allN (codesT t x.1 x.2)) cs
def fontsN (cs:List Cor) (t:List UInt8):List Int:=(splT t).map (fontN cs t)
theorem b21 (cs:List Cor) (hcs:CorsOk cs) (t:List UInt8) (hl:t.length≤1000000):Bt 21 [.sl 9 (cs.map corRow),.str (ba t)] (.p (.sl 1 ((fontsN cs t).map intRow))):=by
 refine best mixed fn21 ok21 (by simp) ?_;have hsl:=splT_len t;obtain ⟨T,eT⟩:=gn (splT t);have hm:∀ x∈T,x.1<x.2∧x.2≤t.length∧x.2 - x.1≤6:=fun x hx=>splT_mem (eT ▸ hx)
 have q25:=b23 t hl;unfold fontsN;rw [eT] at q25 hsl ⊢;simp -dsimp [ac21,↓ awpC_of xc21b];refine cP q25 ?_;simp -dsimp [↓ awpC_of xc21b];refine loopC T.length (fun k=>⟨[(0,.p (.sl 9 (cs.map corRow))),(1,.p (.str (ba t))),(4,.ref (29,0) 1 0 k),(10,.p (.sl 2 (T.map spRow))),(11,.p (.int .i64 T.length)),(12,.p (.int .i64 k))],[((29,0),.sl 3 1 (((T.take k).map (fontN cs t)).map intRow))]⟩) (fun _=>True) (fun k hk _=>?_) trivial (by simp)
 by_cases h:k<T.length
 ·obtain ⟨⟨a,b⟩,ex⟩:=gn T[k];obtain ⟨hab,hb,h6⟩:=hm (a,b) (by rw [←ex];simp);dsimp only at hab hb h6;have wk:R ((k:Int)+1):=rO (by omega)
  have m1:k+1≤maxLen:=by unfold maxLen;omega
  have e1:(k+1)*8≤140737488355328:=by omega
  have hcl:(codesT t a b).length≤1000:=by have:=visT_len (t:=t) (a:=a) (b:=b);simp [codesT];omega
  have q27:=b56 (c:=.ro [.sl 1 ((codesT t a b).map intRow)]) cs (fun x hx=>b57 x (hcs.2 x hx) (codesT t a b) hcl) (by have:=hcs.1;omega);have hs:((T.take (k+1)).map (fontN cs t)).map intRow=((T.take k).map (fontN cs t)).map intRow++[[.int .i64 (fontN cs t (a,b))]]:=by
   rw [List.take_add_one,List.getElem?_eq_getElem h,ex];simp [intRow]
  obtain ⟨L,eL⟩:=gn ((T.take k).map (fontN cs t));rw [eL] at hs;have hLl:L.length=k:=by rw [←eL];simp;omega
  obtain ⟨fo,ef⟩:=gn (fontN cs t (a,b));rw [ef] at hs;have ht:List.take (k+1) (L.map intRow++[[.int .i64 fo]])=L.map intRow++[[.int .i64 fo]]:=List.take_of_length_le (by simp;omega)
  rw [eL,hs];have key:awp Tryz.prog xc21b (fun e F'=>True) ⟨[],[]⟩∨True:=.inr trivial;simp -dsimp [h,ex,spRow,↓ awpC_of xc21b];refine call_p (b55 t a b hab hb hl h6) (by simp [spRow]) (by simp) ?_;simp -dsimp [↓ awpC_of xc21b];refine call_f q27 (by simp) (by simp) (by simp) ?_;simp -dsimp [↓ awpC_of xc21b];refine call_p (b49 t a b hab hb hl) (by simp [spRow]) (by simp) ?_
  by_cases h1:clsT t (baseT t a b)=1
  ·have hfo:fo=-1:=by rw [←ef];simp [fontN,h1]
   subst hfo;simp -dsimp [h1,↓ awpC_of xc21b];refine awpC_in ?_;simp -dsimp [xc21b,m1,e1,hLl,ht,wr wk,h,List.range,List.range.loop,-List.all_eq_true]
  ·have hfo:idxS (allN (codesT t a b)) cs=fo:=by rw [←ef];simp [fontN,h1]
   simp -dsimp [h1,hfo,↓ awpC_of xc21b];refine awpC_in ?_;simp -dsimp [xc21b,m1,e1,hLl,ht,wr wk,h,List.range,List.range.loop,-List.all_eq_true]
 ·have:k=T.length:=by omega
  subst this;rw [List.take_length];obtain ⟨L,eL⟩:=gn (T.map (fontN cs t));have hLl:L.length=T.length:=by rw [←eL];simp
  have ht4:List.take T.length (L.map intRow)=L.map intRow:=List.take_of_length_le (by simp;omega);rw [eL];simp -dsimp [h,resOf,hLl,ht4];rw [←eL,List.map_map]
end
section
set_option maxHeartbeats 4000000
attribute [local simp] w1 w6 evC
attribute [local simp ↓] oneN oneI oneSp
structure Stg where
 size:Int
 at_:List Int
 feat:Int
def stgRow (s:Stg):List PV:=[.int .i64 s.size,.sl 1 (s.at_.map intRow),.int .i64 s.feat]
def setN (n:Nat) (l:List Int):List Int:=(List.range n).map fun i=>l.getD i 0
def Stg.own (s:Stg) (n:Nat):Stg:={ s with at_:=setN n s.at_ }
theorem setN_rows (n:Nat) (l:List Int):(l.map intRow).take n++(List.replicate n [PV.int .i64 0]).drop l.length=(setN n l).map intRow:=by
 apply List.ext_getElem?
 intro i;simp only [setN,List.getElem?_append,List.getElem?_take,List.getElem?_map,List.getElem?_drop,List.getElem?_replicate,List.length_take,List.length_map,List.getElem?_range]
 by_cases h1:i<l.length
 ·by_cases h2:i<n
  ·rw [if_pos (by omega),if_pos h2];simp [h1,h2]
  ·rw [if_neg (by omega),if_neg (by omega)];simp [List.getElem?_range,h2]
 ·rw [if_neg (by omega)]
  by_cases h2:i<n
  ·rw [if_pos (by omega)];simp [h1,h2,intRow]
  ·rw [if_neg (by omega)];simp [List.getElem?_range,h2]
theorem b93 (c:Cor) (hc:c.ax.length≤1000) (s:Stg) (hs:s.at_.length≤1000):Bt 93 [.agg (corRow c),.agg (stgRow s)] (.p (.agg (stgRow (s.own c.ax.length)))):=by
 refine best mixed fn93 ok93 (by simp [corRow,stgRow]) ?_;have h1:(0:Int)≤c.ax.length:=by omega
 have h2:8*(c.ax.length:Int)≤281474976710656:=by omega
 have h3:(c.ax.length:Int)≤9223372036854775807:=by omega
 have hr:=setN_rows c.ax.length s.at_;rw [List.drop_replicate] at hr;have hcd:c.ax.length≤min c.ax.length s.at_.length+(c.ax.length - s.at_.length):=by omega
 have hl:(setN c.ax.length s.at_).length=c.ax.length:=by simp [setN]
 have ht:List.take c.ax.length ((setN c.ax.length s.at_).map intRow)=(setN c.ax.length s.at_).map intRow:=List.take_of_length_le (by simp [hl]);simp -dsimp [ac93,corRow,stgRow,h2,h3,hr,-List.all_eq_true,resOf,ht,hcd,Stg.own,hl]
theorem b166 (c:Cor) (hc:c.ax.length≤1000) (s:Stg) (hs:s.at_.length≤1000):Bt 166 [.agg (corRow c),.agg (stgRow s)] (.p (.agg (stgRow (s.own c.ax.length)))):=by
 refine best mixed fn166 ok166 (by simp [corRow,stgRow]) ?_;have hsn:∀ k,(setN (k+1) s.at_).map intRow=(setN k s.at_).map intRow++[[.int .i64 (s.at_.getD k 0)]]:=fun k=>by
  unfold setN;rw [List.range_succ];simp [intRow]
 have hsl:∀ k,(setN k s.at_).length=k:=fun k=>by simp [setN]
 simp -dsimp [ac166,corRow,stgRow];refine loopC c.ax.length (fun k=>⟨[(2,.ptr (2,0) 9 0 0),(3,.ptr (3,0) 3 0 0),(4,.ptr (4,0) 3 0 0),(5,.ptr (5,0) 3 0 0),(6,.p (.int .i64 k))],
  [((2,0),.box ((corRow c).map .p)),((3,0),.box [.p (.int .i64 s.size),.p (.sl 1 (s.at_.map intRow)),.p (.int .i64 s.feat)]),((4,0),.box [.p (.int .i64 0),.p .nsl,.p (.int .i64 0)]),((5,0),.box [.p (.int .i64 s.size),.ref (34,1) 1 0 k,.p (.int .i64 s.feat)]),((34,1),.sl 3 1 ((setN k s.at_).map intRow))]⟩) (fun _=>True) (fun k hk _=>?_) trivial (by simp [corRow,setN])
 by_cases h:k<c.ax.length
 ·have wk:R ((k:Int)+1):=rO (by omega);have m1:k+1≤maxLen:=by unfold maxLen;omega
  have e1:(k+1)*8≤140737488355328:=by omega
  have hs1:=hsn k;have hl1:=hsl k;obtain ⟨L,eL⟩:=gn (setN k s.at_);rw [eL] at hs1 hl1;obtain ⟨x,exx⟩:=gn (s.at_.getD k 0)
  rw [exx] at hs1;have ht:List.take (k+1) (L.map intRow++[[.int .i64 x]])=L.map intRow++[[.int .i64 x]]:=List.take_of_length_le (by simp;omega)
  rw [eL,hs1]
  by_cases h2:k<s.at_.length
  ·have hg:s.at_[k]=x:=by rw [←exx];simp [h2]
   simp -dsimp [corRow,h,h2,hg,intRow,m1,e1,hl1,ht,wr wk,List.range,List.range.loop,-List.all_eq_true]
  ·have hg:x=0:=by rw [←exx];simp [h2]
   subst hg;simp -dsimp [corRow,h,h2,m1,e1,hl1,ht,wr wk,List.range,List.range.loop,-List.all_eq_true]
 ·have:k=c.ax.length:=by omega
  subst this;have hl:=hsl c.ax.length;have ht:List.take c.ax.length ((setN c.ax.length s.at_).map intRow)=(setN c.ax.length s.at_).map intRow:=List.take_of_length_le (by simp [hl]);simp -dsimp [corRow,h,resOf,ht,Stg.own,hl]
theorem b90 (n:Int):Bt 90 [.int .i64 n] (.p (.bool (decide (n < -64) || decide (64<n)))):=by
 refine best mixed fn90 ok90 (by simp) ?_
 by_cases h1:n < -64<;>simp -dsimp [ac90,h1]
def fitN (s:Stg):Bool:=decide (4≤s.size) && decide (s.size≤32) && decide (CL s.at_)
theorem any74 (l:List Int):(l.any fun n=>decide (n < -64) || decide (64<n))=!decide (∀ n∈l,CO n):=by
 rw [←anyCO]
 congr 1
 funext n
 have:(n < -64∨64<n)↔¬CO n:=⟨fun h q=>by obtain ⟨a,b⟩:=q;omega,fun h=>by unfold CO at h;omega⟩;rw [Bool.eq_iff_iff,Bool.or_eq_true,decide_eq_true_eq,decide_eq_true_eq,Bool.not_eq_true',decide_eq_false_iff_not];exact this
theorem b47 (s:Stg) (hs:s.at_.length≤1000):Bt 47 [.agg (stgRow s)] (.p (.bool (fitN s))):=by
 refine best mixed fn47 ok47 (by simp [stgRow]) ?_;unfold fitN
 by_cases h1:4≤s.size
 ·by_cases h2:s.size≤32
  ·by_cases h3:(s.at_.length:Int)≤3
   ·have h3':s.at_.length≤3:=by omega
    have q:=b58 (fun x=>b90 x) s.at_ (by omega);rw [any74] at q;simp -dsimp [ac47,stgRow,h1,h2,h3];refine cP q ?_
    by_cases h4:∀ n∈s.at_,CO n
    ·have h5:CL s.at_:=⟨h3',h4⟩;simp -dsimp [h4,h5]
     first | done | exact h4
    ·have h5:¬CL s.at_:=fun h=>h4 h.2
     simp -dsimp [h4,h5]
   ·have h5:¬CL s.at_:=fun h=>h3 (by have:=h.1;omega)
    simp -dsimp [ac47,stgRow,h1,h2,h3,h5]
  ·simp -dsimp [ac47,stgRow,h1,h2]
 ·simp -dsimp [ac47,stgRow,h1]
theorem b20 (s:Stg) (hs:s.at_.length≤1000):Bt 20 [.agg (stgRow s)] (.p (.bool (fitN s))):=by
 refine best mixed fn20 ok20 (by simp [stgRow]) ?_;unfold fitN
 by_cases h1:4≤s.size
 ·by_cases h2:s.size≤32
  ·simp -dsimp [ac20,stgRow,h1,h2];refine cP (b54 s.at_ (by omega)) ?_;simp -dsimp
  ·simp -dsimp [ac20,stgRow,h1,h2]
 ·simp -dsimp [ac20,stgRow,h1]
end
end Go.Abs.A30
