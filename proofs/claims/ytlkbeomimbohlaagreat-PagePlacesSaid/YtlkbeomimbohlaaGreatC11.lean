/- A part of the proof: an abstract reading of the model, contracts of functions. -/
import Derived.Test.YtlkbeomimbohlaaGreatC10
set_option linter.unusedVariables false
set_option linter.unusedSimpArgs false
namespace Go.Abs.A30
open Go Go.Abs Go.Proofs
set_option maxRecDepth 100000
set_option linter.unusedVariables false
set_option linter.unusedSimpArgs false
attribute [local simp ↓] awp_skip awp_seq awp_cond awp_block awp_exit awp_ret awp_reg awp_draw awp_ghost awp_loop awp_rfun awpR_nil awpR_cons awpX_nil awpX_0 awpX_1 awpX_2 awpI_eq awpI_t awpI_f awpStep_eq
attribute [local simp] condL_true condL_false condL_dec evDel evV evN evS evA initFr Ghost.app Fr.var Fr.blk Fr.ff FF.val Abs.look Fr.app Fr.erase Fr.noSlot AV.noSlot AV.noSlotL Blk.noSlot Fr.spoken AV.fz AV.fzL Blk.fz binV binI shI binS unV fillA FF.parts FF.vals headO intO boundO lenV scalarEq leavesEq AV.aggc AV.cells FF.read FF.rows AV.one PV.one chunk freshB newS pickV retK evRs evRl evR resOf mkTup mkAgg allP cloOf okP_nil okX_p okX okP addN Del.noSlot Del.owners Rnd reify_p normM insM Fr.back Fr.backV Fr.setPs normV insV
attribute [local simp] renF Fr.trim Blk.trim AV.rn AV.rnL Blk.rn AV.among AV.amongL Blk.among okF retM fixS BIG initFF
attribute [local simp] FF.reify FF.reifyL PV.flat
section
theorem mixed:Tryz.prog.follows .mixedOrders=true:=by kernel_rfl
theorem wr {n:Int} (h:R n):IntKind.i64.wrap n=n:=wrap_i64 h.1 h.2
theorem b207 (n:Int):Best Tryz.prog 207 [.int .i64 n] (.p (.bool (decide (-64≤n) && decide (n≤64)))):=by
 refine best mixed fn207 ok207 (by simp) ?_
 by_cases h1:-64≤n<;>by_cases h2:n≤64<;>simp -dsimp [ac207,h1,h2]
theorem b102 (n:Int):Best Tryz.prog 102 [.int .i64 n] (.p (.bool (decide (-64≤n) && decide (n≤64)))):=by
 refine best mixed fn102 ok102 (by simp) ?_
 by_cases h1:-64≤n<;>by_cases h2:n≤64<;>simp -dsimp [ac102,h1,h2]
theorem b233 (n:Int):Best Tryz.prog 233 [.int .i64 n] (.p (.bool (decide (-1048576≤n) && decide (n≤1048576)))):=by
 refine best mixed fn233 ok233 (by simp) ?_
 by_cases h1:-1048576≤n<;>by_cases h2:n≤1048576<;>simp -dsimp [ac233,h1,h2]
theorem b237 {n d:Int} (hn:R n) (hd:R d):Best Tryz.prog 237 [.int .i64 n,.int .i64 d] (.p (.tup [.int .i64 (if d<1 then 0 else n / d),.bool (decide (1≤d))])):=by
 refine best mixed fn237 ok237 (by simp) ?_
 by_cases h1:d<1
 ·have:¬1≤d:=by omega
  simp -dsimp [ac237,h1,this]
 ·have g1:=tdiv_floor (n:=n) (d:=d) (by omega)
  have g2:=R_tdiv hn (d:=d) (by omega)
  have g3:=R_ediv hn (d:=d) (by omega)
  have hd0:d≠0:=by omega
  have h3:1≤d:=by omega
  by_cases h2:n.tmod d<0<;>simp only [h2,if_true,if_false] at g1
  ·simp -dsimp [ac237,h1,h2,hd0,h3,wr g2,g1,wr g3]
  ·simp -dsimp [ac237,h1,h2,hd0,h3,wr g2,g1,wr g3]
theorem b203 {n d:Int} (hn:R n) (hn2:n≤4611686018427387904) (hd:R d):Best Tryz.prog 203 [.int .i64 n,.int .i64 d] (.p (.tup [.int .i64 (if d<1 then 0 else roundS n d),.bool (decide (1≤d))])):=by
 refine best mixed fn203 ok203 (by simp) ?_
 have hb:=b237 hn hd
 by_cases h1:d<1
 ·have h3:¬1≤d:=by omega
  simp only [h1,h3,if_true,decide_false] at hb ⊢
  simp -dsimp [ac203]
  refine call_p hb rfl (by simp) ?_
  simp -dsimp
 ·have g2:=tmod_floor (n:=n) (d:=d) (by omega)
  have g3:=R_ediv hn (d:=d) (by omega)
  have g4:=ediv_le (n:=n) (d:=d) hn2 (by omega) (by omega)
  have hd0:d≠0:=by omega
  have h3:1≤d:=by omega
  have e2:=Int.emod_nonneg n hd0
  have e3:=Int.emod_lt_of_pos n (by omega:0<d)
  have e5:¬n % d<0:=by omega
  have w1:R (n % d):=⟨by omega,by have:=hd.2;omega⟩
  have w2:R (d - n % d):=⟨by omega,by have:=hd.2;omega⟩
  have w3:R (n / d+1):=⟨by have:=g3.1;omega,by omega⟩
  simp only [h1,h3,if_false,decide_true] at hb ⊢
  simp -dsimp [ac203]
  refine call_p hb rfl (by simp) ?_
  by_cases h4:n % d ≥ d - n % d
  ·have hr:roundS n d=n / d+1:=by simp [roundS,h4]
   have h4':d - n % d≤n % d:=h4
   by_cases h2:n.tmod d<0<;>simp only [h2,if_true,if_false] at g2<;>simp -dsimp [hd0,h2,g2,e5,wr w1,wr w2,wr w3,h4,h4',hr]
  ·have hr:roundS n d=n / d:=by simp [roundS,h4]
   have h4':¬d - n % d≤n % d:=h4
   by_cases h2:n.tmod d<0<;>simp only [h2,if_true,if_false] at g2<;>simp -dsimp [hd0,h2,g2,e5,wr w1,wr w2,h4,h4',hr]
theorem b178 {n d:Int} (hn:R (d - n)):Best Tryz.prog 178 [.int .i64 n,.int .i64 d] (.p (.bool (decide (n ≥ d - n)))):=by
 refine best mixed fn178 ok178 (by simp) ?_
 simp -dsimp [ac178,wr hn]
theorem b238 {a b:Int} (hb:R b):Best Tryz.prog 238 [.int .i64 a,.int .i64 b] (.p (.int .i64 (gcdI a b))):=by
 refine best mixed fn238 ok238 (by simp) ?_
 simp -dsimp [ac238]
 refine loopL_rule (fun m F=>∃ x y,m=y.toNat∧R y∧gcdI x y=gcdI a b∧(Ghost.keep [0,1]).app F=some ⟨[(0,.p (.int .i64 x)),(1,.p (.int .i64 y))],[]⟩) ?_ ⟨a,b,rfl,hb,rfl,by simp⟩
 rintro m F ⟨x,y,rfl,hy,hg,hF⟩
 rw [awp_ghost,hF]
 by_cases h:0<y
 ·have h0:y≠0:=by omega
  have hb:=tmod_bd (n:=x) (d:=y) (by omega)
  have hr:R (x.tmod y):=⟨by have:=hy.2;omega,by have:=hy.2;omega⟩
  simp -dsimp [h,h0,Rnd,okP_nil,okX_p,okX,okP,addN,Fr.erase,Fr.noSlot,Del.owners]
  refine ⟨_,?_,y,_,rfl,hr,(gcdI_pos h).symm.trans hg,rfl,rfl⟩
  omega
 ·simp -dsimp [h,Rnd,←hg,gcdI_neg h]
theorem b241 {a b:Int} (hb:R b):Best Tryz.prog 241 [.int .i64 a,.int .i64 b] (.p (.int .i64 (gcdI a b))):=by
 refine best mixed fn241 ok241 (by simp) ?_
 simp -dsimp [ac241]
 refine loopL_rule (fun m F=>∃ x y,m=y.toNat∧R y∧gcdI x y=gcdI a b∧(Ghost.keep [0,1]).app F=some ⟨[(0,.p (.int .i64 x)),(1,.p (.int .i64 y))],[]⟩) ?_ ⟨a,b,rfl,hb,rfl,by simp⟩
 rintro m F ⟨x,y,rfl,hy,hg,hF⟩
 rw [awp_ghost,hF]
 by_cases h:0<y
 ·have h0:y≠0:=by omega
  have hb:=tmod_bd (n:=x) (d:=y) (by omega)
  have hr:R (x.tmod y):=⟨by have:=hy.2;omega,by have:=hy.2;omega⟩
  simp -dsimp [h,h0,Rnd,okP_nil,okX_p,okX,okP,addN,Fr.erase,Fr.noSlot,Del.owners]
  refine ⟨_,?_,y,_,rfl,hr,(gcdI_pos h).symm.trans hg,rfl,rfl⟩
  omega
 ·simp -dsimp [h,Rnd,←hg,gcdI_neg h]
theorem b242 {a b:Int} (hb:R b):Best Tryz.prog 242 [.int .i64 a,.int .i64 b] (.p (.int .i64 (gcdI a b))):=by
 refine best mixed fn242 ok242 (by simp) ?_
 simp -dsimp [ac242]
 refine loopL_rule (fun m F=>∃ x y,m=y.toNat∧R y∧gcdI x y=gcdI a b∧(Ghost.keep [0,1]).app F=some ⟨[(0,.p (.int .i64 x)),(1,.p (.int .i64 y))],[]⟩) ?_ ⟨a,b,rfl,hb,rfl,by simp⟩
 rintro m F ⟨x,y,rfl,hy,hg,hF⟩
 rw [awp_ghost,hF]
 by_cases h:0<y
 ·have h0:y≠0:=by omega
  have hb:=tmod_bd (n:=x) (d:=y) (by omega)
  have hr:R (x.tmod y):=⟨by have:=hy.2;omega,by have:=hy.2;omega⟩
  simp -dsimp [h,h0,Rnd,okP_nil,okX_p,okX,okP,addN,Fr.erase,Fr.noSlot,Del.owners]
  refine ⟨_,?_,y,_,rfl,hr,(gcdI_pos h).symm.trans hg,rfl,rfl⟩
  omega
 ·simp -dsimp [h,Rnd,←hg,gcdI_neg h]
def SM (n:Int):Prop:=-1048576≤n∧n≤1048576
instance {n:Int}:Decidable (SM n):=inferInstanceAs (Decidable (_∧_))
def RS (n d:Int):Prop:=1≤d∧d≤262144∧0≤n∧n≤d∧gcdI n d=1
noncomputable instance {n d:Int}:Decidable (RS n d):=inferInstanceAs (Decidable (_∧_))
theorem RSn {n d:Int} (h:¬(1≤d∧d≤262144∧0≤n∧n≤d)):¬RS n d:=fun h'=>h ⟨h'.1,h'.2.1,h'.2.2.1,h'.2.2.2.1⟩
theorem b205 {n d:Int} (hn:R n) (hd:R d):Best Tryz.prog 205 [.agg [.int .i64 n,.int .i64 d]] (.p (.bool (decide (RS n d)))):=by
 refine best mixed fn205 ok205 (by simp) ?_
 by_cases h1:1≤d
 ·by_cases h2:d≤262144
  ·by_cases h3:0≤n
   ·by_cases h4:n≤d
    ·simp -dsimp [ac205,h1,h2,h3,h4]
     refine call_p (b238 (a:=n) hd) rfl (by simp) ?_
     have:RS n d↔gcdI n d=1:=⟨fun h=>h.2.2.2.2,fun h=>⟨h1,h2,h3,h4,h⟩⟩
     by_cases h5:gcdI n d=1<;>simp -dsimp [h5,this]
    ·have:=RSn (n:=n) (d:=d) (by omega)
     simp -dsimp [ac205,h1,h2,h3,h4,this]
   ·have:=RSn (n:=n) (d:=d) (by omega)
    simp -dsimp [ac205,h1,h2,h3,this]
  ·have:=RSn (n:=n) (d:=d) (by omega)
   simp -dsimp [ac205,h1,h2,this]
 ·have:=RSn (n:=n) (d:=d) (by omega)
  simp -dsimp [ac205,h1,this]
theorem b179 {n d:Int} (hn:R n) (hn2:n≤4611686018427387904) (hd:R d):Best Tryz.prog 179 [.agg [.clo (.func 178) [] []],.int .i64 n,.int .i64 d] (.p (.tup [.int .i64 (if d<1 then 0 else roundS n d),.bool (decide (1≤d))])):=by
 refine best mixed fn179 ok179 (by simp) ?_
 by_cases h1:d<1
 ·have h3:¬1≤d:=by omega
  simp -dsimp [ac179,h1,h3]
 ·have g1:=tdiv_floor (n:=n) (d:=d) (by omega)
  have g2:=tmod_floor (n:=n) (d:=d) (by omega)
  have g3:=R_ediv hn (d:=d) (by omega)
  have g4:=ediv_le (n:=n) (d:=d) hn2 (by omega) (by omega)
  have g5:=R_tdiv hn (d:=d) (by omega)
  have hd0:d≠0:=by omega
  have h3:1≤d:=by omega
  have e2:=Int.emod_nonneg n hd0
  have e3:=Int.emod_lt_of_pos n (by omega:0<d)
  have w1:R (n % d):=⟨by omega,by have:=hd.2;omega⟩
  have w2:R (d - n % d):=⟨by omega,by have:=hd.2;omega⟩
  have w3:R (n / d+1):=⟨by have:=g3.1;omega,by omega⟩
  have hc:=b178 w2
  have key:roundS n d=if n % d ≥ d - n % d then n / d+1 else n / d:=rfl
  have e5:¬n % d<0:=by omega
  by_cases h2:n.tmod d<0<;>simp only [h2,if_true,if_false] at g1 g2
  ·simp -dsimp [ac179,h1,h2,hd0,wr g5,g1,g2,wr g3,wr w1]
   refine call_p hc rfl (by simp) ?_
   by_cases h4:n % d ≥ d - n % d<;>simp -dsimp [h4,key,wr w3,h1,h3]
  ·simp -dsimp [ac179,h1,h2,hd0,wr g5,g1,g2,wr g3,e5]
   refine call_p hc rfl (by simp) ?_
   by_cases h4:n % d ≥ d - n % d<;>simp -dsimp [h4,key,wr w3,h1,h3]
theorem b142 {n d:Int} (hn:R n) (hn2:n≤4611686018427387904) (hd:R d):Best Tryz.prog 142 [.int .i64 n,.int .i64 d] (.p (.tup [.int .i64 (if d<1 then 0 else roundS n d),.bool (decide (1≤d))])):=by
 refine best mixed fn142 ok142 (by simp) ?_
 simp -dsimp [ac142]
 refine call_p (b179 hn hn2 hd) rfl (by simp) ?_
 simp -dsimp
theorem b123 {n m:Int} (hn:R n) (hm:1≤m) (hm2:m≤4611686018427387904):Best Tryz.prog 123 [.int .i64 n,.int .i64 m] (.p (.int .i64 (n % m))):=by
 refine best mixed fn123 ok123 (by simp) ?_
 have hb:=tmod_bd (n:=n) (d:=m) (by omega)
 have g2:=tmod_floor (n:=n) (d:=m) (by omega)
 have h0:m≠0:=by omega
 have w:R (n.tmod m+m):=⟨by omega,by omega⟩
 have e2:=Int.emod_nonneg n h0
 have e3:=Int.emod_lt_of_pos n (by omega:0<m)
 have:(n.tmod m+m).tmod m=n % m:=by
  rw [Int.tmod_eq_emod_of_nonneg (by omega)]
  by_cases h2:n.tmod m<0<;>simp only [h2,if_true,if_false] at g2
  ·rw [g2];exact Int.emod_emod_of_dvd n (Int.dvd_refl m)
  ·rw [g2,Int.add_emod_right];exact Int.emod_emod_of_dvd n (Int.dvd_refl m)
 simp -dsimp [ac123,h0,wr w,this]
def intRow (n:Int):List PV:=[.int .i64 n]
theorem b204 (ns:List Int) (hl:ns.length≤9223372036854775807):Best Tryz.prog 204 [.sl 1 (ns.map intRow)] (.p (.bool (decide (∀ n∈ns,SM n)))):=by
 refine best mixed fn204 ok204 (by simp) ?_
 simp -dsimp [ac204]
 refine loopC ns.length (fun k=>⟨[(5,.p (.sl 1 (ns.map intRow))),(6,.p (.int .i64 ns.length)),(7,.p (.int .i64 k))],[]⟩) (fun k=>∀ n∈ns.take k,SM n) (fun k hk hall=>?_) (by simp) (by simp)
 by_cases h:k<ns.length
 ·have hx:ns[k]?=some ns[k]:=by simp [h]
  have hm:ns[k]∈ns:=by simp
  obtain ⟨x,ex⟩:∃ x,ns[k]=x:=⟨_,rfl⟩
  rw [ex] at hx hm
  have w:R ((k:Int)+1):=⟨by omega,by omega⟩
  have no:¬SM x→¬∀ n∈ns,SM n:=fun h1 h2=>h1 (h2 x hm)
  have yes:SM x→∀ n∈ns.take (k+1),SM n:=fun h1 n hn=>by
   rw [List.take_add_one,hx] at hn
   simp at hn
   rcases hn with hn | rfl
   ·exact hall n hn
   ·exact h1
  by_cases h1:x < -1048576
  ·have:=no (by unfold SM;omega)
   simp -dsimp [h,ex,intRow,h1,this]
  ·by_cases h2:1048576<x
   ·have:=no (by unfold SM;omega)
    simp -dsimp [h,ex,intRow,h1,h2,this]
   ·have:=yes (by unfold SM;omega)
    simp -dsimp [h,ex,intRow,h1,h2,wr w];exact this
 ·have:k=ns.length:=by omega
  subst this
  rw [List.take_length] at hall
  simp -dsimp;exact hall
theorem mulb {a n:Int} (ha:SM a) (h0:0≤n) (h1:n≤262144):-17592186044416≤64*a*n∧64*a*n≤17592186044416:=by
 obtain ⟨a1,a2⟩:=ha
 have e:64*a*n=64*(a*n):=Int.mul_assoc ..
 have l1:(-1048576)*n≤a*n:=Int.mul_le_mul_of_nonneg_right a1 h0
 have l2:a*n≤1048576*n:=Int.mul_le_mul_of_nonneg_right a2 h0
 omega
noncomputable def partS (a n d:Int):Int×Bool:=if SM a∧RS n d then (roundS (64*a*n) d,true) else (0,false)
theorem b174 {a n d:Int} (hn:R n) (hd:R d):Best Tryz.prog 174 [.int .i64 a,.agg [.int .i64 n,.int .i64 d]] (.p (.tup [.int .i64 (partS a n d).1,.bool (partS a n d).2])):=by
 refine best mixed fn174 ok174 (by simp) ?_
 simp -dsimp [ac174]
 refine call_f (b204 [a] (by simp)) (by simp [FF.reifyL,FF.reify,FF.rows,Fr.ff,Fr.blk,Fr.app,look,chunk,intRow,List.range]) rfl (by simp) ?_
 by_cases h1:SM a
 ·have h1':∀ n∈[a],SM n:=by simpa using h1
  simp -dsimp [h1']
  refine call_p (b205 hn hd) rfl (by simp) ?_
  by_cases h2:RS n d
  ·have hb:=mulb h1 h2.2.2.1 (by have:=h2.2.1;have:=h2.2.2.2.1;omega)
   have w1:R (64*a):=⟨by have:=h1.1;omega,by have:=h1.2;omega⟩
   have w2:R (64*a*n):=⟨by omega,by omega⟩
   simp -dsimp [h2,wr w1,wr w2]
   refine call_p (b142 w2 (by omega) hd) rfl (by simp) ?_
   have d1:¬d<1:=by have:=h2.1;omega
   have d2:1≤d:=h2.1
   simp -dsimp [partS,h1,h2,d1,d2]
  ·simp -dsimp [partS,h1,h2]
 ·have h1':¬∀ n∈[a],SM n:=by simpa using h1
  simp -dsimp [h1',partS,h1]
theorem gcdI_ge {a b:Int} (ha:0≤a) (hb:1≤b):1≤gcdI a b:=by
 induction h:b.toNat using Nat.strongRecOn generalizing a b with
 | _ n ih=>
  rw [gcdI_pos (by omega)]
  have h1:=tmod_bd (n:=a) (d:=b) hb
  have h2:0≤a.tmod b:=Int.tmod_nonneg b ha
  by_cases h3:1≤a.tmod b
  ·exact ih (a.tmod b).toNat (by omega) (by omega) h3 rfl
  ·rw [gcdI_neg (by omega)];omega
noncomputable def timesS (a b c d:Int):(Int×Int)×Bool:=
 if RS a b∧RS c d then (let g:=gcdI (a*c) (b*d);if 262144<b*d / g then ((0,0),false) else ((a*c / g,b*d / g),true)) else ((0,0),false)
theorem mul_bd {a c m k:Int} (h1:0≤a) (h2:a≤m) (h3:0≤c) (h4:c≤k):0≤a*c∧a*c≤m*k:=by
 refine ⟨Int.mul_nonneg h1 h3,?_⟩
 have:=Int.mul_le_mul h2 h4 h3 (by omega)
 exact this
theorem timesB {a b c d:Int} (h1:RS a b) (h2:RS c d):0≤a*c∧a*c≤68719476736∧1≤b*d∧b*d≤68719476736∧1≤gcdI (a*c) (b*d):=by
 obtain ⟨p1,p2,p3,p4,p5⟩:=h1
 obtain ⟨q1,q2,q3,q4,q5⟩:=h2
 have r1:=mul_bd p3 (by omega:a≤262144) q3 (by omega:c≤262144)
 have r2:=mul_bd (by omega:0≤b) p2 (by omega:0≤d) q2
 have r3:1*1≤b*d:=Int.mul_le_mul p1 q1 (by omega) (by omega)
 refine ⟨r1.1,by omega,by omega,by omega,?_⟩
 exact gcdI_ge r1.1 (by omega)
theorem b212 {a b c d:Int} (ha:R a) (hb:R b) (hc:R c) (hd:R d):Best Tryz.prog 212 [.agg [.int .i64 a,.int .i64 b],.agg [.int .i64 c,.int .i64 d]] (.p (.tup [.agg [.int .i64 (timesS a b c d).1.1,.int .i64 (timesS a b c d).1.2],.bool (timesS a b c d).2])):=by
 refine best mixed fn212 ok212 (by simp) ?_
 simp -dsimp [ac212]
 refine call_p (b205 ha hb) rfl (by simp) ?_
 by_cases h1:RS a b
 ·simp -dsimp [h1]
  refine call_p (b205 hc hd) rfl (by simp) ?_
  by_cases h2:RS c d
  ·obtain ⟨p1,p2,p3,p4,p5⟩:=timesB h1 h2
   have w1:R (a*c):=⟨by omega,by omega⟩
   have w2:R (b*d):=⟨by omega,by omega⟩
   simp -dsimp [h2,wr w1,wr w2]
   refine call_p (b241 w2) rfl (by simp) ?_
   have e:timesS a b c d=if 262144<b*d / gcdI (a*c) (b*d) then ((0,0),false) else ((a*c / gcdI (a*c) (b*d),b*d / gcdI (a*c) (b*d)),true):=by
    unfold timesS;rw [if_pos ⟨h1,h2⟩]
   generalize gcdI (a*c) (b*d)=g at p5 e
   have g0:g≠0:=by omega
   have t1:(a*c).tdiv g=a*c / g:=Int.tdiv_eq_ediv_of_nonneg p1
   have t2:(b*d).tdiv g=b*d / g:=Int.tdiv_eq_ediv_of_nonneg (by omega)
   have w3:=R_ediv w1 p5
   have w4:=R_ediv w2 p5
   by_cases h3:262144<b*d / g
   ·simp -dsimp [g0,t1,t2,wr w3,wr w4,h3,e]
   ·simp -dsimp [g0,t1,t2,wr w3,wr w4,h3,e]
  ·simp -dsimp [timesS,h1,h2]
 ·simp -dsimp [timesS,h1]
theorem roundS_bd {n d m:Int} (hd:1≤d) (h1:-m≤n) (h2:n≤m) (hm:0≤m):-m - 1≤roundS n d∧roundS n d≤m+1:=by
 have a1:=ediv_le (n:=n) (d:=d) h2 hm hd
 have a2:-m≤n / d:=by
  refine Int.le_ediv_of_mul_le (by omega) ?_
  have:(-m)*d≤(-m)*1:=Int.mul_le_mul_of_nonpos_left (by omega) hd
  omega
 unfold roundS
 split<;>omega
end
end Go.Abs.A30
namespace Go.Abs
open Go
set_option linter.unusedSimpArgs false
set_option linter.unusedVariables false
section
variable {P:Program} {l:Nat} {xs:List (List PV)}
theorem coreY_mono {x:Opd} {args:List Opd} {dst:Option Nat} {post:List AB} {K K':Fr→Option Nat→Prop} {F:Fr} {p:Option Nat} (h:∀ F p,K F p→K' F p) (e:coreY P l xs x args dst post K F p):coreY P l xs x args dst post K' F p:=by
 unfold coreY at *
 refine ⟨e.1,?_⟩
 have e:=e.2
 split at e
 ·split at e
  ·exact ⟨e.1,fun b=>awpR_mono (fun F q=>h _ _ q) (e.2 b)⟩
  ·exact e
 ·exact e
theorem stepY_mono {y:AB} {post:List AB} {K K':Fr→Option Nat→Prop} {F:Fr} {p:Option Nat} (h:∀ F p,K F p→K' F p) (e:stepY P l xs y post K F p):stepY P l xs y post K' F p:=by
 unfold stepY at *
 split at e
 ·split at e
  ·exact coreY_mono h e
  ·split at e
   ·exact ⟨fun q=>coreY_mono h (e.1 q),fun q=>awpR_mono (fun F q=>h _ _ q) (e.2 q)⟩
   ·exact e
 ·exact e
def MonoY (b:YPT):Prop:=∀ (K K':AE→Fr→Option Nat→Prop) (F:Fr) (p:Option Nat),(∀ e F p,K e F p→K' e F p)→b K F p→b K' F p
theorem lpY_mono {b:YPT} (hb:MonoY b) {K K':AE→Fr→Option Nat→Prop} (h:∀ e F p,K e F p→K' e F p):∀ {n:Nat} {F:Fr} {p:Option Nat},lpY b n K F p→lpY b n K' F p
 | 0,_,_,e=>e
 | n+1,F,p,e=>hb _ _ F p (fun e F p q=>by
  cases e with
  | normal=>exact lpY_mono hb h (n:=n) q
  | exit i=>exact h _ _ _ q
  | ret=>exact h _ _ _ q) e
theorem awpY_mono:∀ {ay:AY} {K K':AE→Fr→Option Nat→Prop} {F:Fr} {p:Option Nat},(∀ e F p,K e F p→K' e F p)→awpY P l xs ay K F p→awpY P l xs ay K' F p:=by
 intro ay
 induction ay with
 | skip=>intro K K' F p h e;exact h _ _ _ e
 | seq x y ihx ihy=>
  intro K K' F p h e
  refine ihx (fun e F p q=>?_) e
  cases e with
  | normal=>exact ihy h q
  | exit i=>exact h _ _ _ q
  | ret=>exact h _ _ _ q
 | cond c x y ihx ihy=>
  intro K K' F p h e
  simp only [awpY] at e ⊢
  split at e
  ·exact ⟨fun q=>ihx h (e.1 q),fun q=>ihy h (e.2 q)⟩
  ·exact e
 | block id x ih=>
  intro K K' F p h e
  refine ih (fun e F p q=>?_) e
  cases e with
  | exit i=>dsimp only at q ⊢;split<;>(rename_i hi;simp only [hi] at q;exact h _ _ _ (by simpa using q))
  | normal=>exact h _ _ _ q
  | ret=>exact h _ _ _ q
 | scope x ih=>intro K K' F p h e;exact ih h e
 | label l=>intro K K' F p h e;exact h _ _ _ e
 | loop x ih=>intro K K' F p h e;obtain ⟨n,hn⟩:=e;exact ⟨n,lpY_mono (b:=awpY P l xs x) (fun K K' F p h e=>ih h e) h hn⟩
 | exit id=>intro K K' F p h e;exact h _ _ _ e
 | ret=>intro K K' F p h e;exact h _ _ _ e
 | reg ops=>intro K K' F p h e;exact awpR_mono (fun F q=>h _ _ _ q) e
 | draw ops=>intro K K' F p h e;exact awpX_mono (fun F q=>h _ _ _ q) e
 | ghost g x ih=>
  intro K K' F p h e
  simp only [awpY] at e ⊢
  split at e
  ·exact ih h e
  ·exact e
 | yield d pre y post=>
  intro K K' F p h e
  simp only [awpY] at e ⊢
  split at e
  ·rename_i hd;simp only [hd,if_true] at e ⊢;exact awpX_mono (fun F q=>stepY_mono (fun F p q=>h _ _ _ q) q) e
  ·rename_i hd;simp only [hd] at e ⊢;exact awpR_mono (fun F q=>stepY_mono (fun F p q=>h _ _ _ q) q) e
def loopY (P:Program) (l:Nat) (xs:List (List PV)) (x:AY) (K:AE→Fr→Option Nat→Prop) (t:Tag x K) (F:Fr) (p:Option Nat):Prop:=awpY P l xs (.loop x) K F p
variable {K:AE→Fr→Option Nat→Prop} {F:Fr} {p:Option Nat}
theorem awpY_skip:awpY P l xs .skip K F p=K .normal F p:=Eq.trans rfl rfl
theorem awpY_seq {x y:AY}:awpY P l xs (.seq x y) K F p=awpY P l xs x (fun e F' p'=>match e with | .normal=>awpY P l xs y K F' p' | e=>K e F' p') F p:=Eq.trans rfl rfl
theorem awpY_cond {c:Opd} {x y:AY}:awpY P l xs (.cond c x y) K F p=(match F.ff.val c with
  | some (.p (.bool b))=>condL (awpY P l xs x K F p) (awpY P l xs y K F p) {} b
  | _=>False):=Eq.trans rfl rfl
theorem awpY_block {id:Nat} {x:AY}:awpY P l xs (.block id x) K F p=awpY P l xs x (fun e F' p'=>match e with | .exit i=>if i=id then K .normal F' p' else K (.exit i) F' p' | e=>K e F' p') F p:=Eq.trans rfl rfl
theorem awpY_loop {x:AY}:awpY P l xs (.loop x) K F p=loopY P l xs x K {} F p:=Eq.trans rfl rfl
theorem awpY_scope {x:AY}:awpY P l xs (.scope x) K F p=awpY P l xs x K F p:=Eq.trans rfl rfl
theorem awpY_label {i:Nat}:awpY P l xs (.label i) K F p=K .normal F p:=Eq.trans rfl rfl
theorem awpY_exit {id:Nat}:awpY P l xs (.exit id) K F p=K (.exit id) F p:=Eq.trans rfl rfl
theorem awpY_ret:awpY P l xs .ret K F p=K .ret F p:=Eq.trans rfl rfl
theorem awpY_reg {ops:List AB}:awpY P l xs (.reg ops) K F p=awpR P ops (fun F'=>K .normal F' p) F:=Eq.trans rfl rfl
theorem awpY_draw {ops:List AI}:awpY P l xs (.draw ops) K F p=awpX P F 0 [] [] ops (fun F'=>K .normal F' p) F:=Eq.trans rfl rfl
theorem awpY_ghost {g:Ghost} {x:AY}:awpY P l xs (.ghost g x) K F p=(match g.app F with
  | some F'=>awpY P l xs x K F' p
  | none=>False):=Eq.trans rfl rfl
theorem awpY_yt {pre:List AI} {y:AB} {post:List AB}:awpY P l xs (.yield true pre y post) K F p=awpX P F 0 [] [] pre (fun F1=>stepY P l xs y post (K .normal) F1 p) F:=Eq.trans rfl rfl
theorem awpY_yf {pre:List AI} {y:AB} {post:List AB}:awpY P l xs (.yield false pre y post) K F p=awpR P (pre.map (·.b)) (fun F1=>stepY P l xs y post (K .normal) F1 p) F:=Eq.trans rfl rfl
theorem stepY_eq {d:Option Nat} {x:Opd} {args:List Opd} {a:List Nat} {post:List AB} {K:Fr→Option Nat→Prop}:stepY P l xs ⟨d,.callv x args,none,a⟩ post K F p=coreY P l xs x args d post K F p:=Eq.trans rfl rfl
theorem loopYC {g:Ghost} {x:AY} {t:Tag (AY.ghost g x) K} (n:Nat) (fr:Nat→Fr) (step:∀ k,k≤n→awpY P l xs x (fun e F' p'=>match e with
  | .normal=>k<n∧g.app F'=some (fr (k+1))∧p'=some (k+1)
  | e=>K e F' p') (fr k) (some k)) {F:Fr} (hF:g.app F=some (fr 0)):loopY P l xs (.ghost g x) K t F (some 0):=by
 have key:∀ m k F,k+m=n→g.app F=some (fr k)→lpY (awpY P l xs (.ghost g x)) (m+1) K F (some k):=by
  intro m
  induction m with
  | zero=>
   intro k F hk hF
   show awpY P l xs (.ghost g x) _ F (some k)
   rw [awpY_ghost,hF]
   refine awpY_mono (fun e F' p' q=>?_) (step k (by omega))
   cases e with
   | normal=>exact absurd q.1 (by omega)
   | exit i=>exact q
   | ret=>exact q
  | succ m ih=>
   intro k F hk hF
   show awpY P l xs (.ghost g x) _ F (some k)
   rw [awpY_ghost,hF]
   refine awpY_mono (fun e F' p' q=>?_) (step k (by omega))
   cases e with
   | normal=>
    obtain ⟨h1,h2,rfl⟩:=q
    exact ih (k+1) F' (by omega) h2
   | exit i=>exact q
   | ret=>exact q
 exact ⟨n+1,key n 0 F (by omega) hF⟩
end
end Go.Abs
namespace Go.Abs.A30
open Go Go.Abs Go.Proofs
set_option maxRecDepth 100000
set_option linter.unusedVariables false
set_option linter.unusedSimpArgs false
attribute [local simp ↓] awp_skip awp_seq awp_cond awp_block awp_exit awp_ret awp_reg awp_draw awp_ghost awp_loop awp_rfun awpR_nil awpR_cons awpX_nil awpX_0 awpX_1 awpX_2 awpI_eq awpI_t awpI_f awpStep_eq
attribute [local simp] condL_true condL_false condL_dec evDel evV evN evS evA initFr Ghost.app Fr.var Fr.blk Fr.ff FF.val Abs.look Fr.app Fr.erase Fr.noSlot AV.noSlot AV.noSlotL Blk.noSlot Fr.spoken AV.fz AV.fzL Blk.fz binV binI shI binS unV fillA FF.parts FF.vals headO intO boundO lenV scalarEq leavesEq AV.aggc AV.cells FF.read FF.rows AV.one PV.one chunk freshB newS pickV retK evRs evRl evR resOf mkTup mkAgg allP cloOf okP_nil okX_p okX okP addN Del.noSlot Del.owners Rnd reify_p normM insM Fr.back Fr.backV Fr.setPs normV insV
attribute [local simp] renF Fr.trim Blk.trim AV.rn AV.rnL Blk.rn AV.among AV.amongL Blk.among okF retM fixS BIG initFF
attribute [local simp] FF.reify FF.reifyL PV.flat
section
def CO (n:Int):Prop:=-64≤n∧n≤64
instance {n:Int}:Decidable (CO n):=inferInstanceAs (Decidable (_∧_))
structure T3 where
 f:Int
 p:Int
 t:Int
def tRow (x:T3):List PV:=[.int .i64 x.f,.int .i64 x.p,.int .i64 x.t]
def TE (x:T3):Prop:=-64≤x.f∧x.f≤x.p∧x.p≤x.t∧x.t≤64∧(x.p=0∨0≤x.f∨x.t≤0)
instance {x:T3}:Decidable (TE x):=inferInstanceAs (Decidable (_∧_∧_∧_∧(_∨_∨_)))
theorem b207' (n:Int):Best Tryz.prog 207 [.int .i64 n] (.p (.bool (decide (CO n)))):=by
 have e:(decide (-64≤n) && decide (n≤64))=decide (CO n):=by rw [←Bool.decide_and];rfl
 rw [←e];exact b207 n
theorem b102' (n:Int):Best Tryz.prog 102 [.int .i64 n] (.p (.bool (decide (CO n)))):=by
 have e:(decide (-64≤n) && decide (n≤64))=decide (CO n):=by rw [←Bool.decide_and];rfl
 rw [←e];exact b102 n
theorem TEn {x:T3} (h:¬(-64≤x.f∧x.f≤x.p∧x.p≤x.t∧x.t≤64∧(x.p=0∨0≤x.f∨x.t≤0))):¬TE x:=h
theorem TEy {x:T3} (h:-64≤x.f∧x.f≤x.p∧x.p≤x.t∧x.t≤64∧(x.p=0∨0≤x.f∨x.t≤0)):TE x:=h
theorem b209 (x:T3):Best Tryz.prog 209 [.agg (tRow x)] (.p (.bool (decide (TE x)))):=by
 obtain ⟨f,p,t⟩:=x
 refine best mixed fn209 ok209 (by simp) ?_
 simp -dsimp [ac209,tRow]
 refine call_p (b207' f) rfl (by simp) ?_
 by_cases h1:CO f
 rotate_left
 ·have:=TEn (x:=⟨f,p,t⟩) (by unfold CO at h1;dsimp only;omega)
  simp -dsimp [h1,this]
 by_cases h2:f≤p
 rotate_left
 ·have:=TEn (x:=⟨f,p,t⟩) (by dsimp only;omega)
  simp -dsimp [h1,h2,this]
 by_cases h3:p≤t
 rotate_left
 ·have:=TEn (x:=⟨f,p,t⟩) (by dsimp only;omega)
  simp -dsimp [h1,h2,h3,this]
 simp -dsimp [h1,h2,h3]
 refine call_p (b207' t) rfl (by simp) ?_
 by_cases h4:CO t
 rotate_left
 ·have:=TEn (x:=⟨f,p,t⟩) (by unfold CO at *;dsimp only;omega)
  simp -dsimp [h4,this]
 by_cases h5:p=0
 ·have:=TEy (x:=⟨f,p,t⟩) (by unfold CO at *;dsimp only;omega)
  simp -dsimp [h4,h5];simpa [h5] using this
 by_cases h6:0≤f
 ·have:=TEy (x:=⟨f,p,t⟩) (by unfold CO at *;dsimp only;omega)
  simp -dsimp [h4,h5,h6,this]
 by_cases h7:t≤0
 ·have:=TEy (x:=⟨f,p,t⟩) (by unfold CO at *;dsimp only;omega)
  simp -dsimp [h4,h5,h6,h7,this]
 ·have:=TEn (x:=⟨f,p,t⟩) (by dsimp only;omega)
  simp -dsimp [h4,h5,h6,h7,this]
theorem b208 (x:T3):Best Tryz.prog 208 [.agg (tRow x)] (.p (.bool (!decide (TE x)))):=by
 refine best mixed fn208 ok208 (by simp) ?_
 have h:=b209 x
 generalize decide (TE x)=b at *
 obtain ⟨f,p,t⟩:=x
 simp -dsimp [ac208,tRow] at h ⊢
 refine call_p h rfl (by simp) ?_
 simp -dsimp
theorem b206 (n:Int):Best Tryz.prog 206 [.int .i64 n] (.p (.bool (!decide (CO n)))):=by
 refine best mixed fn206 ok206 (by simp) ?_
 simp -dsimp [ac206]
 refine call_p (b207' n) rfl (by simp) ?_
 simp -dsimp
def idxS {α:Type} (q:α→Bool) (l:List α):Int:=match l.findIdx? q with
 | some i=>(i:Int)
 | none=>-1
theorem idxS_hit {α:Type} {q:α→Bool} {l:List α} {k:Nat} {x:α} (hk:l[k]?=some x) (h1:∀ y∈l.take k,q y=false) (h2:q x=true):idxS q l=k:=by
 have hlt:k<l.length:=(List.getElem?_eq_some_iff.1 hk).1
 have:l.findIdx? q=some k:=by
  rw [List.findIdx?_eq_some_iff_getElem]
  refine ⟨hlt,?_,?_⟩
  ·rw [(List.getElem?_eq_some_iff.1 hk).2,h2]
  ·intro j hj
   have:=h1 l[j] (List.mem_take_iff_getElem.2 ⟨j,by omega,rfl⟩)
   simp [this]
 simp [idxS,this]
theorem idxS_none {α:Type} {q:α→Bool} {l:List α} (h:∀ y∈l,q y=false):idxS q l=-1:=by
 have:l.findIdx? q=none:=by
  rw [List.findIdx?_eq_none_iff];intro x hx;simp [h x hx]
 simp [idxS,this]
theorem idxS_ge {α:Type} {q:α→Bool} {l:List α}:decide (0≤idxS q l)=l.any q:=by
 unfold idxS
 cases h:l.findIdx? q with
 | none=>
  rw [List.findIdx?_eq_none_iff] at h
  have:l.any q=false:=by rw [List.any_eq_false];intro x hx;simp [h x hx]
  simp [this]
 | some k=>
  rw [List.findIdx?_eq_some_iff_getElem] at h
  obtain ⟨hlt,hk,-⟩:=h
  have:l.any q=true:=by rw [List.any_eq_true];exact ⟨l[k],by simp,hk⟩
  simp [this]
theorem take_succ_all {α:Type} {p:α→Prop} {l:List α} {k:Nat} {x:α} (hk:l[k]?=some x) (h1:∀ y∈l.take k,p y) (h2:p x):∀ y∈l.take (k+1),p y:=by
 intro y hy
 rw [List.take_add_one,hk] at hy
 simp at hy
 rcases hy with hy | rfl
 ·exact h1 y hy
 ·exact h2
def pRow (x:Int×Int):List PV:=[.int .i64 x.1,.int .i64 x.2]
theorem b239 {f:FuncId} {q:T3→Bool} (hf:∀ x:T3,Best Tryz.prog f [.agg (tRow x)] (.p (.bool (q x)))) (r:List (T3)) (hl:r.length≤9223372036854775807):Best Tryz.prog 239 [.sl 3 (r.map tRow),.clo (.func f) [] []] (.p (.int .i64 (idxS q r))):=by
 refine best mixed fn239 ok239 (by simp) ?_
 simp -dsimp [ac239]
 refine loopC r.length (fun k=>⟨[(0,.p (.sl 3 (r.map tRow))),(1,.p (.clo (.func f) [] [])),(7,.p (.int .i64 r.length)),(8,.p (.int .i64 k))],[]⟩) (fun k=>∀ y∈r.take k,q y=false) (fun k hk hall=>?_) (by simp) (by simp)
 by_cases h:k<r.length
 ·obtain ⟨x,ex⟩:∃ x,r[k]=x:=⟨_,rfl⟩
  have hx:r[k]?=some x:=by simp [h,ex]
  have w:R ((k:Int)+1):=⟨by omega,by omega⟩
  have hfx:=hf x
  have hit:q x=true→idxS q r=k:=fun h2=>idxS_hit hx hall h2
  have go:q x=false→∀ y∈r.take (k+1),q y=false:=fun h2=>take_succ_all (p:=fun y=>q y=false) hx hall h2
  generalize q x=b at *
  obtain ⟨f,p,t⟩:=x
  simp -dsimp [h,ex,tRow] at hfx ⊢
  refine call_p hfx rfl (by simp) ?_
  cases b with
  | true=>simp -dsimp [hit]
  | false=>simp -dsimp [wr w];exact ⟨h,go rfl⟩
 ·have:k=r.length:=by omega
  subst this
  rw [List.take_length] at hall
  simp -dsimp [idxS_none hall]
theorem b210 {f:FuncId} {q:T3→Bool} (hf:∀ x:T3,Best Tryz.prog f [.agg (tRow x)] (.p (.bool (q x)))) (r:List (T3)) (hl:r.length≤9223372036854775807):Best Tryz.prog 210 [.sl 3 (r.map tRow),.clo (.func f) [] []] (.p (.bool (r.any q))):=by
 refine best mixed fn210 ok210 (by simp) ?_
 simp -dsimp [ac210]
 refine call_p (b239 hf r hl) rfl (by simp) ?_
 have:=idxS_ge (q:=q) (l:=r)
 by_cases h:0≤idxS q r<;>simp only [h,decide_true,decide_false] at this<;>simp -dsimp [h,←this]
theorem b106 {f:FuncId} {q:Int→Bool} (hf:∀ x:Int,Best Tryz.prog f [.int .i64 x] (.p (.bool (q x)))) (r:List (Int)) (hl:r.length≤9223372036854775807):Best Tryz.prog 106 [.sl 1 (r.map intRow),.clo (.func f) [] []] (.p (.int .i64 (idxS q r))):=by
 refine best mixed fn106 ok106 (by simp) ?_
 simp -dsimp [ac106]
 refine loopC r.length (fun k=>⟨[(0,.p (.sl 1 (r.map intRow))),(1,.p (.clo (.func f) [] [])),(7,.p (.int .i64 r.length)),(8,.p (.int .i64 k))],[]⟩) (fun k=>∀ y∈r.take k,q y=false) (fun k hk hall=>?_) (by simp) (by simp)
 by_cases h:k<r.length
 ·obtain ⟨x,ex⟩:∃ x,r[k]=x:=⟨_,rfl⟩
  have hx:r[k]?=some x:=by simp [h,ex]
  have w:R ((k:Int)+1):=⟨by omega,by omega⟩
  have hfx:=hf x
  have hit:q x=true→idxS q r=k:=fun h2=>idxS_hit hx hall h2
  have go:q x=false→∀ y∈r.take (k+1),q y=false:=fun h2=>take_succ_all (p:=fun y=>q y=false) hx hall h2
  generalize q x=b at *
  simp -dsimp [h,ex,intRow] at hfx ⊢
  refine call_p hfx rfl (by simp) ?_
  cases b with
  | true=>simp -dsimp [hit]
  | false=>simp -dsimp [wr w];exact ⟨h,go rfl⟩
 ·have:k=r.length:=by omega
  subst this
  rw [List.take_length] at hall
  simp -dsimp [idxS_none hall]
theorem b58 {f:FuncId} {q:Int→Bool} (hf:∀ x:Int,Best Tryz.prog f [.int .i64 x] (.p (.bool (q x)))) (r:List (Int)) (hl:r.length≤9223372036854775807):Best Tryz.prog 58 [.sl 1 (r.map intRow),.clo (.func f) [] []] (.p (.bool (r.any q))):=by
 refine best mixed fn58 ok58 (by simp) ?_
 simp -dsimp [ac58]
 refine call_p (b106 hf r hl) rfl (by simp) ?_
 have:=idxS_ge (q:=q) (l:=r)
 by_cases h:0≤idxS q r<;>simp only [h,decide_true,decide_false] at this<;>simp -dsimp [h,←this]
def RI (r:List T3) (n:Int):Prop:=0≤n∧n≤3∧r.length=n∧∀ t∈r,TE t
instance {r:List T3} {n:Int}:Decidable (RI r n):=inferInstanceAs (Decidable (_∧_∧_∧_))
theorem anyTE (r:List T3):(r.any fun x=>!decide (TE x))=!decide (∀ t∈r,TE t):=by
 by_cases h:∀ t∈r,TE t
 ·rw [decide_eq_true h,List.any_eq_false.2 (fun x hx=>by simp [h x hx])];rfl
 ·rw [decide_eq_false h,List.any_eq_true.2 ?_]
  ·rfl
  ·simpa using h
theorem b176 (r:List T3) (n:Int) (hl:r.length≤9223372036854775807):Best Tryz.prog 176 [.agg [.sl 3 (r.map tRow)],.int .i64 n] (.p (.bool (decide (RI r n)))):=by
 refine best mixed fn176 ok176 (by simp) ?_
 by_cases h1:0≤n
 rotate_left
 ·have:¬RI r n:=fun h=>h1 h.1
  simp -dsimp [ac176,h1,this]
 by_cases h2:n≤3
 rotate_left
 ·have:¬RI r n:=fun h=>h2 h.2.1
  simp -dsimp [ac176,h1,h2,this]
 by_cases h3:(r.length:Int)=n
 rotate_left
 ·have:¬RI r n:=fun h=>h3 h.2.2.1
  simp -dsimp [ac176,h1,h2,h3,this]
 have hc:=b210 b208 r hl
 rw [anyTE] at hc
 have e:decide (RI r n)=decide (∀ t∈r,TE t):=decide_eq_decide.2 ⟨fun h=>h.2.2.2,fun h=>⟨h1,h2,h3,h⟩⟩
 rw [e]
 generalize decide (∀ t∈r,TE t)=b at *
 simp -dsimp [ac176,h1,h2,h3]
 refine call_p hc rfl (by simp) ?_
 simp -dsimp
def CL (at':List Int):Prop:=at'.length≤3∧∀ n∈at',CO n
instance {l:List Int}:Decidable (CL l):=inferInstanceAs (Decidable (_∧_))
theorem anyCO (r:List Int):(r.any fun x=>!decide (CO x))=!decide (∀ t∈r,CO t):=by
 by_cases h:∀ t∈r,CO t
 ·rw [decide_eq_true h,List.any_eq_false.2 (fun x hx=>by simp [h x hx])];rfl
 ·rw [decide_eq_false h,List.any_eq_true.2 ?_]
  ·rfl
  ·simpa using h
theorem b175 (l:List Int):Best Tryz.prog 175 [.sl 1 (l.map intRow)] (.p (.bool (decide (CL l)))):=by
 refine best mixed fn175 ok175 (by simp) ?_
 by_cases h1:l.length≤3
 rotate_left
 ·have:¬CL l:=fun h=>h1 h.1
  have h1':¬((l.length:Int)≤3):=by omega
  simp -dsimp [ac175,h1',this]
 have hc:=b58 b206 l (by omega)
 rw [anyCO] at hc
 have e:decide (CL l)=decide (∀ t∈l,CO t):=decide_eq_decide.2 ⟨fun h=>h.2,fun h=>⟨h1,h⟩⟩
 rw [e]
 generalize decide (∀ t∈l,CO t)=b at *
 have h1':(l.length:Int)≤3:=by omega
 simp -dsimp [ac175,h1']
 refine call_p hc rfl (by simp) ?_
 simp -dsimp
theorem b54 (l:List Int) (hl:l.length≤9223372036854775807):Best Tryz.prog 54 [.sl 1 (l.map intRow)] (.p (.bool (decide (CL l)))):=by
 refine best mixed fn54 ok54 (by simp) ?_
 simp -dsimp [ac54]
 refine loopC l.length (fun k=>⟨[(0,.p (.sl 1 (l.map intRow))),(3,.p (.int .i64 k))],[]⟩) (fun k=>∀ y∈l.take k,CO y) (fun k hk hall=>?_) (by simp) (by simp)
 by_cases h:k<l.length
 ·obtain ⟨x,ex⟩:∃ x,l[k]=x:=⟨_,rfl⟩
  have hx:l[k]?=some x:=by simp [h,ex]
  have w:R ((k:Int)+1):=⟨by omega,by omega⟩
  have hfx:=b102' x
  have no:¬CO x→¬CL l:=fun h2 h4=>h2 (h4.2 x (List.mem_of_getElem? hx))
  have go:CO x→∀ y∈l.take (k+1),CO y:=fun h2=>take_succ_all (p:=CO) hx hall h2
  by_cases hT:CO x
  ·rw [decide_eq_true hT] at hfx
   have go':=go hT
   simp -dsimp [h,ex,intRow]
   refine call_p hfx rfl (by simp) ?_
   simp -dsimp [wr w]
   exact ⟨h,go'⟩
  ·rw [decide_eq_false hT] at hfx
   have no':=no hT
   simp -dsimp [h,ex,intRow]
   refine call_p hfx rfl (by simp) ?_
   simp -dsimp [no']
 ·have:k=l.length:=by omega
  subst this
  rw [List.take_length] at hall
  have e:CL l↔(l.length:Int)≤3:=⟨fun h=>by have:=h.1;omega,fun h=>⟨by omega,hall⟩⟩
  by_cases h3:(l.length:Int)≤3<;>simp -dsimp [e,h3]
attribute [local simp ↓] awpY_skip awpY_seq awpY_cond awpY_block awpY_loop awpY_exit awpY_ret awpY_reg awpY_draw awpY_ghost awpY_yt awpY_yf stepY_eq
attribute [local simp] FF.reify coreY Fr.pure AV.pur
def zipS {α β:Type} (f:α→PV) (g:β→PV) (a:List α) (b:List β):List (List PV):=(a.zip b).map fun x=>[f x.1,g x.2]
theorem zipS_get {α β:Type} {f:α→PV} {g:β→PV} {a:List α} {b:List β} {k:Nat} {x:α} {y:β} (h1:a[k]?=some x) (h2:b[k]?=some y):(zipS f g a b)[k]?=some [f x,g y]:=by
 simp [zipS,List.zip,List.getElem?_zipWith,h1,h2]
theorem zipS_len {α β:Type} {f:α→PV} {g:β→PV} {a:List α} {b:List β}:(zipS f g a b).length=min a.length b.length:=by simp [zipS]
def vI (x:Int):PV:=.int .i64 x
def vT (x:T3):PV:=.agg (tRow x)
theorem b211 (a b:List (List PV)):Best Tryz.prog 211 [.sl 3 a,.sl 1 b] (.p (.clo (.func 240) [] [.ro [.sl 3 a],.ro [.sl 1 b]])):=by
 refine best mixed fn211 ok211 (by simp) ?_
 simp -dsimp [ac211]
theorem g240 (a:List (T3)) (b:List (Int)) (hl:a.length≤9223372036854775807):Gens Tryz.prog 240 [] [.ro [.sl 3 (a.map tRow)],.ro [.sl 1 (b.map intRow)]] (zipS vT vI a b):=by
 refine gens mixed fn240 ok240 (by simp) fun l=>?_
 simp -dsimp [ac240]
 have e:min (a.length:Int) b.length=((min a.length b.length:Nat):Int):=by omega
 refine loopYC (min a.length b.length) (fun k=>⟨[(0,.p (.clo (.yield l) [] [])),(1,.p (.ro [.sl 3 (a.map tRow)])),(2,.p (.ro [.sl 1 (b.map intRow)])),(9,.p (.int .i64 ((min a.length b.length:Nat):Int))),(10,.p (.int .i64 k))],[]⟩) (fun k hk=>?_) (by simp [e])
 by_cases h:k<min a.length b.length
 ·have h1:k<a.length:=by omega
  have h2:k<b.length:=by omega
  obtain ⟨⟨x1,x2,x3⟩,ex⟩:∃ x,a[k]=x:=⟨_,rfl⟩
  obtain ⟨y1,ey⟩:∃ y,b[k]=y:=⟨_,rfl⟩
  have w:R ((k:Int)+1):=⟨by omega,by omega⟩
  have hz:=zipS_get (f:=vT) (g:=vI) (show a[k]?=some _ by rw [List.getElem?_eq_getElem h1,ex]) (show b[k]?=some _ by rw [List.getElem?_eq_getElem h2,ey])
  simp -dsimp [h,h1,h2,ex,ey,intRow,tRow,wr w]
  exact hz
 ·have:k=min a.length b.length:=by omega
  subst this
  simp -dsimp [zipS_len]
end
section
theorem wr0:IntKind.i64.wrap 0=0:=wr ⟨by omega,by omega⟩
def rawS (x:T3) (n:Int):Int×Int:=if x.p=0∨n=x.p then (1,1) else if n≤x.f∨n ≥ x.t then (0,1) else if n<x.p then (n - x.f,x.p - x.f) else (x.t - n,x.t - x.p)
noncomputable def strS (x:T3) (n:Int):Int×Int:=((rawS x n).1 / gcdI (rawS x n).1 (rawS x n).2,(rawS x n).2 / gcdI (rawS x n).1 (rawS x n).2)
theorem rawB {x:T3} {n:Int} (hT:TE x) (hn:CO n):0≤(rawS x n).1∧(rawS x n).1≤(rawS x n).2∧1≤(rawS x n).2∧(rawS x n).2≤128:=by
 obtain ⟨f,p,t⟩:=x
 unfold TE at hT
 unfold CO at hn
 unfold rawS
 dsimp only at *
 split
 ·simp
 ·split
  ·simp
  ·split
   ·dsimp only;omega
   ·dsimp only;omega
theorem strE {x:T3} {n a b:Int} (hT:TE x) (hn:CO n) (h:rawS x n=(a,b)):0≤a∧a≤b∧1≤b∧b≤128∧1≤gcdI a b∧strS x n=(a / gcdI a b,b / gcdI a b):=by
 have hb:=rawB hT hn
 unfold strS
 rw [h] at hb ⊢
 exact ⟨hb.1,hb.2.1,hb.2.2.1,hb.2.2.2,gcdI_ge hb.1 hb.2.2.1,rfl⟩
theorem b213 {x:T3} {n:Int} (hT:TE x) (hn:CO n):Best Tryz.prog 213 [.agg (tRow x),.int .i64 n] (.p (.agg [.int .i64 (strS x n).1,.int .i64 (strS x n).2])):=by
 refine best mixed fn213 ok213 (by simp) ?_
 obtain ⟨f,p,t⟩:=x
 have hT':=hT
 have hn':=hn
 unfold TE at hT'
 unfold CO at hn'
 dsimp only at hT'
 by_cases h1:p=0
 ·have h1d:(p=0)=True:=by simp [h1]
  have hr:rawS ⟨f,p,t⟩ n=(1,1):=by unfold rawS;simp only [];rw [if_pos (.inl h1)]
  obtain ⟨q1,q2,q3,q4,q5,q6⟩:=strE hT hn hr
  have wb:R (1):=⟨by omega,by omega⟩
  have wa:R (1):=⟨by omega,by omega⟩
  simp -dsimp [ac213,tRow,h1d,wr wb,wr wa]
  refine call_p (b242 (a:=1) wb) rfl (by simp) ?_
  generalize gcdI (1) (1)=g at q5 q6
  have g0:g≠0:=by omega
  have t1:Int.tdiv (1) g=(1) / g:=Int.tdiv_eq_ediv_of_nonneg q1
  have t2:Int.tdiv (1) g=(1) / g:=Int.tdiv_eq_ediv_of_nonneg (by omega)
  have w3:=R_ediv wa q5
  have w4:=R_ediv wb q5
  simp -dsimp [g0,t1,t2,wr w3,wr w4,q6,wr0]
 by_cases h2:n=p
 ·have h2d:(n=p)=True:=by simp [h2]
  have hr:rawS ⟨f,p,t⟩ n=(1,1):=by unfold rawS;simp only [];rw [if_pos (.inr h2)]
  obtain ⟨q1,q2,q3,q4,q5,q6⟩:=strE hT hn hr
  have wb:R (1):=⟨by omega,by omega⟩
  have wa:R (1):=⟨by omega,by omega⟩
  simp -dsimp [ac213,tRow,h1,h2d,wr wb,wr wa]
  refine call_p (b242 (a:=1) wb) rfl (by simp) ?_
  generalize gcdI (1) (1)=g at q5 q6
  have g0:g≠0:=by omega
  have t1:Int.tdiv (1) g=(1) / g:=Int.tdiv_eq_ediv_of_nonneg q1
  have t2:Int.tdiv (1) g=(1) / g:=Int.tdiv_eq_ediv_of_nonneg (by omega)
  have w3:=R_ediv wa q5
  have w4:=R_ediv wb q5
  simp -dsimp [g0,t1,t2,wr w3,wr w4,q6,wr0]
 have hn1:¬(p=0∨n=p):=by omega
 by_cases h3:n≤f
 ·
  have hr:rawS ⟨f,p,t⟩ n=(0,1):=by unfold rawS;simp only [];rw [if_neg hn1,if_pos (.inl h3)]
  obtain ⟨q1,q2,q3,q4,q5,q6⟩:=strE hT hn hr
  have wb:R (1):=⟨by omega,by omega⟩
  have wa:R (0):=⟨by omega,by omega⟩
  simp -dsimp [ac213,tRow,h1,h2,h3,wr wb,wr wa]
  refine call_p (b242 (a:=0) wb) rfl (by simp) ?_
  generalize gcdI (0) (1)=g at q5 q6
  have g0:g≠0:=by omega
  have t1:Int.tdiv (0) g=(0) / g:=Int.tdiv_eq_ediv_of_nonneg q1
  have t2:Int.tdiv (1) g=(1) / g:=Int.tdiv_eq_ediv_of_nonneg (by omega)
  have w3:=R_ediv wa q5
  have w4:=R_ediv wb q5
  simp -dsimp [g0,t1,t2,wr w3,wr w4,q6,wr0]
 by_cases h4:t≤n
 ·
  have hr:rawS ⟨f,p,t⟩ n=(0,1):=by unfold rawS;simp only [];rw [if_neg hn1,if_pos (.inr h4)]
  obtain ⟨q1,q2,q3,q4,q5,q6⟩:=strE hT hn hr
  have wb:R (1):=⟨by omega,by omega⟩
  have wa:R (0):=⟨by omega,by omega⟩
  simp -dsimp [ac213,tRow,h1,h2,h3,h4,wr wb,wr wa]
  refine call_p (b242 (a:=0) wb) rfl (by simp) ?_
  generalize gcdI (0) (1)=g at q5 q6
  have g0:g≠0:=by omega
  have t1:Int.tdiv (0) g=(0) / g:=Int.tdiv_eq_ediv_of_nonneg q1
  have t2:Int.tdiv (1) g=(1) / g:=Int.tdiv_eq_ediv_of_nonneg (by omega)
  have w3:=R_ediv wa q5
  have w4:=R_ediv wb q5
  simp -dsimp [g0,t1,t2,wr w3,wr w4,q6,wr0]
 have hn2:¬(n≤f∨n ≥ t):=by omega
 by_cases h5:n<p
 ·
  have hr:rawS ⟨f,p,t⟩ n=(n - f,p - f):=by unfold rawS;simp only [];rw [if_neg hn1,if_neg hn2,if_pos h5]
  obtain ⟨q1,q2,q3,q4,q5,q6⟩:=strE hT hn hr
  have wb:R (p - f):=⟨by omega,by omega⟩
  have wa:R (n - f):=⟨by omega,by omega⟩
  simp -dsimp [ac213,tRow,h1,h2,h3,h4,h5,wr wb,wr wa]
  refine call_p (b242 (a:=n - f) wb) rfl (by simp) ?_
  generalize gcdI (n - f) (p - f)=g at q5 q6
  have g0:g≠0:=by omega
  have t1:Int.tdiv (n - f) g=(n - f) / g:=Int.tdiv_eq_ediv_of_nonneg q1
  have t2:Int.tdiv (p - f) g=(p - f) / g:=Int.tdiv_eq_ediv_of_nonneg (by omega)
  have w3:=R_ediv wa q5
  have w4:=R_ediv wb q5
  simp -dsimp [g0,t1,t2,wr w3,wr w4,q6,wr0]
 have hr:rawS ⟨f,p,t⟩ n=(t - n,t - p):=by unfold rawS;simp only [];rw [if_neg hn1,if_neg hn2,if_neg h5]
 obtain ⟨q1,q2,q3,q4,q5,q6⟩:=strE hT hn hr
 have wb:R (t - p):=⟨by omega,by omega⟩
 have wa:R (t - n):=⟨by omega,by omega⟩
 simp -dsimp [ac213,tRow,h1,h2,h3,h4,h5,wr wb,wr wa]
 refine call_p (b242 (a:=t - n) wb) rfl (by simp) ?_
 generalize gcdI (t - n) (t - p)=g at q5 q6
 have g0:g≠0:=by omega
 have t1:Int.tdiv (t - n) g=(t - n) / g:=Int.tdiv_eq_ediv_of_nonneg q1
 have t2:Int.tdiv (t - p) g=(t - p) / g:=Int.tdiv_eq_ediv_of_nonneg (by omega)
 have w3:=R_ediv wa q5
 have w4:=R_ediv wb q5
 simp -dsimp [g0,t1,t2,wr w3,wr w4,q6,wr0]
def RG (l:List (Int×Int)) (n:Int):Prop:=0≤n∧n≤3∧l.length=n∧∀ p∈l,CO p.1∧CO p.2∧p.1≤p.2
instance {l:List (Int×Int)} {n:Int}:Decidable (RG l n):=inferInstanceAs (Decidable (_∧_∧_∧_))
def PG (p:Int×Int):Prop:=CO p.1∧CO p.2∧p.1≤p.2
instance {p:Int×Int}:Decidable (PG p):=inferInstanceAs (Decidable (_∧_∧_))
theorem b223 (r:List (Int×Int)) (n:Int):Best Tryz.prog 223 [.sl 2 (r.map pRow),.int .i64 n] (.p (.bool (decide (RG r n)))):=by
 refine best mixed fn223 ok223 (by simp) ?_
 by_cases h1:n<0
 ·have:¬RG r n:=fun h=>by have:=h.1;omega
  simp -dsimp [ac223,h1,this]
 by_cases h2:3<n
 ·have:¬RG r n:=fun h=>by have:=h.2.1;omega
  simp -dsimp [ac223,h1,h2,this]
 by_cases h3:(r.length:Int)=n
 rotate_left
 ·have:¬RG r n:=fun h=>h3 h.2.2.1
  simp -dsimp [ac223,h1,h2,h3,this]
 subst h3
 have h1':¬((r.length:Int)<0):=by omega
 simp -dsimp [ac223,h1',h2]
 refine loopC r.length (fun k=>⟨[(0,.p (.sl 2 (r.map pRow))),(1,.p (.int .i64 r.length)),(5,.p (.int .i64 k))],[]⟩) (fun k=>∀ y∈r.take k,PG y) (fun k hk hall=>?_) (by simp) (by simp)
 by_cases h:k<r.length
 ·obtain ⟨x,ex⟩:∃ x,r[k]=x:=⟨_,rfl⟩
  have hx:r[k]?=some x:=by simp [h,ex]
  have w:R ((k:Int)+1):=⟨by omega,by omega⟩
  have no:¬PG x→¬RG r r.length:=fun h2 h4=>h2 (h4.2.2.2 x (List.mem_of_getElem? hx))
  have go:PG x→∀ y∈r.take (k+1),PG y:=fun h2=>take_succ_all (p:=PG) hx hall h2
  obtain ⟨a,b⟩:=x
  simp -dsimp [h,ex,pRow]
  refine call_p (b102' a) rfl (by simp) ?_
  simp -dsimp [h,ex,pRow]
  refine call_p (b102' b) rfl (by simp) ?_
  by_cases q1:CO a
  rotate_left
  ·have:=no fun h=>q1 h.1
   simp -dsimp [q1,this]
  by_cases q2:CO b
  rotate_left
  ·have:=no fun h=>q2 h.2.1
   simp -dsimp [q1,q2,this]
  by_cases q3:b<a
  ·have:=no fun h=>by have:=h.2.2;dsimp only at this;omega
   simp -dsimp [q1,q2,q3,h,ex,pRow,this]
  ·have:=go ⟨q1,q2,by dsimp only;omega⟩
   simp -dsimp [q1,q2,q3,h,ex,pRow,wr w]
   exact fun a b=>this (a,b)
 ·have:k=r.length:=by omega
  subst this
  rw [List.take_length] at hall
  have:RG r r.length:=⟨by omega,by omega,rfl,hall⟩
  simp -dsimp [this]
def WI (a:List Int) (l:List (Int×Int)):Prop:=RG l a.length∧∀ x∈a.zip l,x.2.1≤x.1∧x.1≤x.2.2
instance {a:List Int} {l:List (Int×Int)}:Decidable (WI a l):=inferInstanceAs (Decidable (_∧_))
theorem zipS_inv {α β:Type} {f:α→PV} {g:β→PV} {a:List α} {b:List β} {k:Nat} {z:List PV} (h:(zipS f g a b)[k]?=some z):∃ x y,(a.zip b)[k]?=some (x,y)∧z=[f x,g y]:=by
 simp only [zipS,List.getElem?_map,Option.map_eq_some_iff] at h
 obtain ⟨⟨x,y⟩,h1,h2⟩:=h
 exact ⟨x,y,h1,h2.symm⟩
def TC (t:T3) (p:Int×Int):Prop:=t.p=0∨(min (t.f+1) t.p≤p.2∧p.1≤max (t.t - 1) t.p)
instance {t:T3} {p:Int×Int}:Decidable (TC t p):=inferInstanceAs (Decidable (_∨_∧_))
def TO (r:List T3) (l:List (Int×Int)):Prop:=RG l l.length∧RI r l.length∧∀ x∈r.zip l,TC x.1 x.2
instance {r:List T3} {l:List (Int×Int)}:Decidable (TO r l):=inferInstanceAs (Decidable (_∧_∧_))
theorem timesR (a b c d:Int):R (timesS a b c d).1.1∧R (timesS a b c d).1.2:=by
 unfold timesS
 split
 ·rename_i h
  obtain ⟨p1,p2,p3,p4,p5⟩:=timesB h.1 h.2
  dsimp only
  split
  ·exact ⟨⟨by simp,by simp⟩,⟨by simp,by simp⟩⟩
  ·exact ⟨R_ediv ⟨by omega,by omega⟩ p5,R_ediv ⟨by omega,by omega⟩ p5⟩
 ·exact ⟨⟨by simp,by simp⟩,⟨by simp,by simp⟩⟩
theorem strR {x:T3} {n:Int} (hT:TE x) (hn:CO n):R (strS x n).1∧R (strS x n).2:=by
 obtain ⟨h0,h1,h2,h3⟩:=rawB hT hn
 have hg:=gcdI_ge h0 h2
 exact ⟨R_ediv ⟨by omega,by omega⟩ hg,R_ediv ⟨by omega,by omega⟩ hg⟩
noncomputable def mulS (s:Int×Int) (x:T3×Int):Int×Int:=(timesS s.1 s.2 (strS x.1 x.2).1 (strS x.1 x.2).2).1
noncomputable def scaF (r:List T3) (a:List Int) (k:Nat):Int×Int:=((r.zip a).take k).foldl mulS (1,1)
noncomputable def scaS (r:List T3) (a:List Int):Int×Int:=if RI r a.length∧CL a then (r.zip a).foldl mulS (1,1) else (0,1)
theorem scaF_succ {r:List T3} {a:List Int} {k:Nat} {x:T3} {n:Int} (h:(r.zip a)[k]?=some (x,n)):scaF r a (k+1)=mulS (scaF r a k) (x,n):=by
 simp [scaF,List.take_add_one,h]
theorem scaF_R (r:List T3) (a:List Int) (k:Nat):R (scaF r a k).1∧R (scaF r a k).2:=by
 induction k with
 | zero=>simp [scaF,R]
 | succ k ih=>
  by_cases h:k<(r.zip a).length
  ·rw [scaF_succ (x:=(r.zip a)[k].1) (n:=(r.zip a)[k].2) (List.getElem?_eq_getElem h)]
   exact timesR ..
  ·have:scaF r a (k+1)=scaF r a k:=by
    unfold scaF;rw [List.take_of_length_le (by omega),List.take_of_length_le (by omega)]
   rw [this];exact ih
theorem b177 (r:List T3) (a:List Int) (hr:r.length≤9223372036854775807):Best Tryz.prog 177 [.agg [.sl 3 (r.map tRow)],.sl 1 (a.map intRow)] (.p (.agg [.int .i64 (scaS r a).1,.int .i64 (scaS r a).2])):=by
 refine best mixed fn177 ok177 (by simp) ?_
 simp -dsimp [ac177]
 refine call_p (b176 r a.length hr) rfl (by simp) ?_
 by_cases h1:RI r a.length
 rotate_left
 ·have:scaS r a=(0,1):=if_neg fun h=>h1 h.1
  simp -dsimp [h1,this]
 simp -dsimp [h1]
 refine call_p (b175 a) rfl (by simp) ?_
 by_cases h2:CL a
 rotate_left
 ·have:scaS r a=(0,1):=if_neg fun h=>h2 h.2
  simp -dsimp [h2,this]
 simp -dsimp [h2]
 refine call_p (b211 (r.map tRow) (a.map intRow)) rfl (by simp) ?_
 simp -dsimp
 have hlen:r.length=a.length:=by have:=h1.2.2.1;omega
 refine rfunL_rule rfl rfl (g240 r a hr) (fun k F=>F=⟨[(4,.ptr (4,0) 2 0 0),(5,.ptr (5,0) 2 0 0),(23,.p (.clo (.func 240) [] [.ro [.sl 3 (r.map tRow)],.ro [.sl 1 (a.map intRow)]]))],[((4,0),.box [.p (.int .i64 0),.p (.int .i64 0)]),((5,0),.box [.p (.int .i64 (scaF r a k).1),.p (.int .i64 (scaF r a k).2)])]⟩) ?_ ?_ (by simp [scaF])
 ·rintro k z F hz hF
  obtain ⟨x,n,hxy,rfl⟩:=zipS_inv hz
  refine ⟨by simp,?_⟩
  have hT:TE x:=h1.2.2.2 _ (List.of_mem_zip (List.mem_of_getElem? hxy)).1
  have hN:CO n:=h2.2 _ (List.of_mem_zip (List.mem_of_getElem? hxy)).2
  have hs:=scaF_succ hxy
  unfold mulS at hs
  dsimp only at hs
  have hc:=b213 (x:=x) (n:=n) hT hN
  have hcr:=strR hT hN
  have hsr:=scaF_R r a k
  generalize scaF r a k=s at *
  generalize scaF r a (k+1)=s' at *
  generalize strS x n=u at *
  obtain ⟨x1,x2,x3⟩:=x
  simp -dsimp [tRow] at hc
  subst hF
  simp -dsimp [vT,vI,tRow]
  refine call_p hc rfl (by simp) ?_
  simp -dsimp
  refine call_p (b212 hsr.1 hsr.2 hcr.1 hcr.2) rfl (by simp) ?_
  simp -dsimp [hs]
 ·rintro F hF
  have hz:(zipS vT vI r a).length=a.length:=by simp [zipS,hlen]
  have e:(r.zip a).length=a.length:=by simp [hlen]
  have:scaS r a=scaF r a a.length:=by
   unfold scaS scaF;rw [if_pos ⟨h1,h2⟩,←e,List.take_length]
  rw [hz] at hF
  subst hF
  simp -dsimp [this]
def regRow (r:List T3):List PV:=[.sl 3 (r.map tRow)]
theorem scaS_R (r:List T3) (a:List Int):R (scaS r a).1∧R (scaS r a).2:=by
 unfold scaS
 split
 ·have:=scaF_R r a (r.zip a).length
  unfold scaF at this
  rwa [List.take_length] at this
 ·simp [R]
noncomputable def growS (rs:List (List T3)) (a:List Int) (g:Int×Int):Option Int:=
 if 0≤g.1∧g.1<rs.length∧RI (rs.getD g.1.toNat []) a.length∧(partS g.2 (scaS (rs.getD g.1.toNat []) a).1 (scaS (rs.getD g.1.toNat []) a).2).2=true then some (partS g.2 (scaS (rs.getD g.1.toNat []) a).1 (scaS (rs.getD g.1.toNat []) a).2).1 else none
noncomputable def sumL (rs:List (List T3)) (a:List Int) (s0:Int) (l:List (Int×Int)):Option Int:=l.foldl (fun o g=>o.bind fun s=>(growS rs a g).map (s+·)) (some s0)
noncomputable def sumS (base:Int) (l:List (Int×Int)) (rs:List (List T3)) (a:List Int):Int×Bool:=
 if SM base∧CL a∧l.length≤8 then (match sumL rs a (64*base) l with | some s=>(s,true) | none=>(0,false)) else (0,false)
theorem sumL_none {rs:List (List T3)} {a:List Int}:∀ {l:List (Int×Int)},l.foldl (fun o g=>o.bind fun s=>(growS rs a g).map (s+·)) none=none
 | []=>rfl
 | g :: l=>by simp only [List.foldl_cons,Option.bind_none];exact sumL_none
theorem sumL_app {rs:List (List T3)} {a:List Int} {s0:Int} {l m:List (Int×Int)}:sumL rs a s0 (l++m)=(sumL rs a s0 l).bind fun s=>sumL rs a s m:=by
 unfold sumL
 rw [List.foldl_append]
 cases l.foldl (fun o g=>o.bind fun s=>(growS rs a g).map (s+·)) (some s0) with
 | none=>rw [sumL_none];rfl
 | some s=>rfl
theorem sumL_succ {rs:List (List T3)} {a:List Int} {s0 s:Int} {l:List (Int×Int)} {k:Nat} {g:Int×Int} (hk:l[k]?=some g) (hs:sumL rs a s0 (l.take k)=some s):sumL rs a s0 (l.take (k+1))=(growS rs a g).map (s+·):=by
 rw [List.take_add_one,hk,sumL_app,hs]
 simp [sumL]
theorem sumL_fail {rs:List (List T3)} {a:List Int} {s0 s:Int} {l:List (Int×Int)} {k:Nat} {g:Int×Int} (hk:l[k]?=some g) (hs:sumL rs a s0 (l.take k)=some s) (hg:growS rs a g=none):sumL rs a s0 l=none:=by
 rw [←List.take_append_drop (k+1) l,sumL_app,sumL_succ hk hs,hg]
 rfl
theorem partB (a n d:Int):-17592186044417≤(partS a n d).1∧(partS a n d).1≤17592186044417:=by
 unfold partS
 split
 ·rename_i h
  have hb:=mulb h.1 h.2.2.2.1 (by have:=h.2.2.1;have:=h.2.2.2.2.1;omega)
  have:=roundS_bd (n:=64*a*n) (d:=d) (m:=17592186044416) h.2.1 (by omega) (by omega) (by omega)
  dsimp only;omega
 ·simp
theorem part1 (a:Int):partS a 1 1=if SM a then (64*a,true) else (0,false):=by
 have h1:RS 1 1:=⟨by omega,by omega,by omega,by omega,by rw [gcdI_pos (by omega),gcdI_neg (by decide)]⟩
 unfold partS
 by_cases h:SM a
 ·rw [if_pos ⟨h,h1⟩,if_pos h]
  simp [roundS,Int.emod_one]
 ·rw [if_neg (fun q=>h q.1),if_neg h]
theorem sumN {base:Int} {l:List (Int×Int)} {rs:List (List T3)} {a:List Int} (h:¬(SM base∧CL a∧l.length≤8)):sumS base l rs a=(0,false):=if_neg h
theorem b141 {base:Int} {l:List (Int×Int)} {rs:List (List T3)} {a:List Int} (hb:R base) (hl:l.length≤9223372036854775807) (ha:a.length≤9223372036854775807) (hrs:∀ r∈rs,r.length≤9223372036854775807):Best Tryz.prog 141 [.int .i64 base,.sl 2 (l.map pRow),.sl 1 (rs.map regRow),.sl 1 (a.map intRow)] (.p (.tup [.int .i64 (sumS base l rs a).1,.bool (sumS base l rs a).2])):=by
 refine best mixed fn141 ok141 (by simp) ?_
 simp -dsimp [ac141]
 refine call_p (b174 (a:=base) (n:=1) (d:=1) (by simp [R]) (by simp [R])) rfl (by simp) ?_
 rw [part1]
 by_cases h1:SM base
 rotate_left
 ·have:=sumN (l:=l) (rs:=rs) (a:=a) (fun h=>h1 h.1)
  simp -dsimp [h1,this]
 simp -dsimp [h1]
 refine call_p (b175 a) rfl (by simp) ?_
 by_cases h2:CL a
 rotate_left
 ·have:=sumN (base:=base) (l:=l) (rs:=rs) (fun h=>h2 h.2.1)
  simp -dsimp [h2,this]
 by_cases h3:(8:Int)<l.length
 ·have:=sumN (base:=base) (rs:=rs) (a:=a) (l:=l) (fun h=>by have:=h.2.2;omega)
  simp -dsimp [h2,h3,this]
 simp -dsimp [h2,h3]
 refine loopC l.length (fun k=>⟨[(2,.p (.sl 1 (rs.map regRow))),(3,.p (.sl 1 (a.map intRow))),(10,.p (.int .i64 ((sumL rs a (64*base) (l.take k)).getD 0))),(34,.p (.sl 2 (l.map pRow))),(35,.p (.int .i64 l.length)),(36,.p (.int .i64 k))],[]⟩) (fun k=>∃ s,sumL rs a (64*base) (l.take k)=some s∧-17592186044417*(k+1)≤s∧s≤17592186044417*(k+1)) (fun k hk hQ=>?_) ⟨64*base,by simp [sumL],by have:=h1.1;omega,by have:=h1.2;omega⟩ (by simp [sumL])
 obtain ⟨s,hs,hs1,hs2⟩:=hQ
 by_cases h:k<l.length
 ·obtain ⟨⟨g,y⟩,ex⟩:∃ x,l[k]=x:=⟨_,rfl⟩
  have hx:l[k]?=some (g,y):=by rw [List.getElem?_eq_getElem h,ex]
  have w:R ((k:Int)+1):=⟨by omega,by omega⟩
  have hsu:=sumL_succ hx hs
  have no:growS rs a (g,y)=none→sumS base l rs a=(0,false):=fun hg=>by
   unfold sumS;rw [if_pos ⟨h1,h2,by omega⟩,sumL_fail hx hs hg]
  by_cases q1:g<0
  ·have:=no (if_neg fun h=>by have:=h.1;dsimp only at this;omega)
   simp -dsimp [h,ex,pRow,hs,q1,this]
  by_cases q2:(rs.length:Int)≤g
  ·have:=no (if_neg fun h=>by have:=h.2.1;dsimp only at this;omega)
   simp -dsimp [h,ex,pRow,hs,q1,q2,this]
  obtain ⟨m,rfl⟩:=Int.eq_ofNat_of_zero_le (by omega:0≤g)
  have hm:m<rs.length:=by omega
  obtain ⟨r,er⟩:∃ x,rs[m]=x:=⟨_,rfl⟩
  have hmem:r∈rs:=by rw [←er];simp
  have hgd:rs.getD m []=r:=by simp [List.getD,hm,er]
  have hgr:growS rs a (m,y)=if RI r a.length∧(partS y (scaS r a).1 (scaS r a).2).2=true then some (partS y (scaS r a).1 (scaS r a).2).1 else none:=by
   unfold growS
   have c1:(0:Int)≤(m:Int):=by omega
   have c2:(m:Int)<rs.length:=by omega
   simp only [Int.toNat_natCast,hgd,c1,c2,true_and]
  have hpb:=partB y (scaS r a).1 (scaS r a).2
  have hpart:=b174 (a:=y) (scaS_R r a).1 (scaS_R r a).2
  have hmem':=b177 r a (hrs _ hmem)
  have q1':¬(m:Int)<0:=by omega
  have hri:=b176 r a.length (hrs _ hmem)
  have nl:¬((rs.length:Int)≤m):=by omega
  have nl':¬(rs.length≤m):=by omega
  simp -dsimp [h,ex,pRow,hs,q1',nl',hm,er,regRow]
  refine call_p hri rfl (by simp) ?_
  by_cases q3:RI r a.length
  rotate_left
  ·have:=no (by rw [hgr,if_neg fun h=>q3 h.1])
   simp -dsimp [q3,this]
  simp -dsimp [q3,hm,er,regRow]
  refine call_p hmem' rfl (by simp) ?_
  simp -dsimp
  generalize scaS r a=u at *
  refine call_p hpart rfl (by simp) ?_
  generalize partS y u.1 u.2=z at *
  obtain ⟨z1,z2⟩:=z
  cases z2 with
  | false=>
   have:=no (by rw [hgr,if_neg fun h=>by simp at h])
   simp -dsimp [this]
  | true=>
   rw [if_pos ⟨q3,rfl⟩] at hgr
   rw [hgr] at hsu
   dsimp only [Option.map_some] at hsu hpb
   have wz:R (s+z1):=⟨by omega,by omega⟩
   simp -dsimp [wr w,wr wz,hsu,h]
   omega
 ·have:k=l.length:=by omega
  subst this
  have hs':=hs
  rw [List.take_length] at hs'
  have:sumS base l rs a=(s,true):=by
   unfold sumS;rw [if_pos ⟨h1,h2,by omega⟩,hs']
  simp -dsimp [hs',this]
end
end Go.Abs.A30
