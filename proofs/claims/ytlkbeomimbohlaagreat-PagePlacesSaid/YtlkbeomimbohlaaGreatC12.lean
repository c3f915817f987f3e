/- A part of the proof: an abstract reading of the model, contracts of functions. -/
import Derived.Test.YtlkbeomimbohlaaGreatC11
set_option linter.unusedVariables false
set_option linter.unusedSimpArgs false
namespace Go.Abs.A30
open Go Go.Abs Go.Proofs
set_option maxRecDepth 100000
set_option linter.unusedVariables false
set_option linter.unusedSimpArgs false
attribute [local simp ↓] awp_skip awp_seq awp_cond awp_block awp_exit awp_ret awp_reg awp_draw awp_ghost awp_loop awp_rfun awpR_nil awpR_cons awpX_nil awpX_0 awpX_1 awpX_2 awpI_eq awpI_t awpI_f awpStep_eq
attribute [local simp] condL_true condL_false condL_dec evDel evV evN evS evA initFr Ghost.app Fr.var Fr.blk Fr.ff FF.val Abs.look Fr.app Fr.erase Fr.noSlot AV.noSlot AV.noSlotL Blk.noSlot Fr.spoken AV.fz AV.fzL Blk.fz binV binI shI binS unV fillA FF.parts FF.vals headO intO boundO lenV scalarEq leavesEq AV.aggc AV.cells FF.read FF.rows AV.one PV.one chunk freshB newS pickV retK evRs evRl evR resOf mkTup mkAgg allP cloOf okP_nil okX_p okX okP addN Del.noSlot Del.owners Rnd reify_p normM insM Fr.back Fr.backV Fr.setPs normV insV
attribute [local simp] renF Fr.trim Blk.trim AV.rn AV.rnL Blk.rn AV.among AV.amongL Blk.among okF retM fixS BIG initFF
attribute [local simp] FF.reify FF.reifyL PV.flat
section
def andS (x:Int):Int:=((BitVec.ofInt 64 x &&& BitVec.ofInt 64 65535).toNat:Nat)
theorem andS_bd (x:Int):0≤andS x∧andS x≤65535:=by
 unfold andS
 refine ⟨by omega,?_⟩
 have:(BitVec.ofInt 64 x &&& BitVec.ofInt 64 65535).toNat≤65535:=by
  rw [BitVec.toNat_and]
  exact Nat.le_trans Nat.and_le_right (by decide)
 omega
def numS (l:List Int) (k:Nat):Int:=match l[k]? with
 | some x=>andS x
 | none=>0
theorem numS_bd (l:List Int) (k:Nat):0≤numS l k∧numS l k≤65535:=by
 unfold numS
 cases l[k]? with
 | some x=>exact andS_bd x
 | none=>simp
theorem and_wrap (x:Int):IntKind.i64.wrap ((BitVec.ofInt IntKind.i64.bits x &&& BitVec.ofInt IntKind.i64.bits 65535).toNat)=andS x:=by
 have h:=andS_bd x
 exact wr (n:=andS x) ⟨by omega,by omega⟩
theorem b155 (l:List Int) (k:Nat):Best Tryz.prog 155 [.sl 1 (l.map intRow),.int .i64 k] (.p (.int .i64 (numS l k))):=by
 refine best mixed fn155 ok155 (by simp) ?_
 by_cases h:k<l.length
 ·obtain ⟨x,ex⟩:∃ x,l[k]=x:=⟨_,rfl⟩
  have hx:l[k]?=some x:=by rw [List.getElem?_eq_getElem h,ex]
  have e:numS l k=andS x:=by unfold numS;rw [hx]
  have ha:=and_wrap x
  simp -dsimp [ac155,h,ex,intRow,e]
  exact ha
 ·have e:numS l k=0:=by unfold numS;rw [List.getElem?_eq_none (by omega)]
  simp -dsimp [ac155,h,e]
def peakS (a:Int):Int:=if a / 129 % 7=2 then 64 else if a / 129 % 7=3 then -64 else if a / 129 % 7=4 then 32 else if a / 129 % 7=5 then -16 else if a / 129 % 7=6 then a % 129 - 64 else 0
def mtS (a b c:Int):T3:=if 0<peakS a then ⟨min (b % 65) (peakS a),peakS a,max (c % 65) (peakS a)⟩ else if peakS a<0 then ⟨min (-(b % 65)) (peakS a),peakS a,max (-(c % 65)) (peakS a)⟩ else ⟨-(b % 65),0,c % 65⟩
theorem mt_def (a b c:Int):mtS a b c=if 0<peakS a then ⟨min (b % 65) (peakS a),peakS a,max (c % 65) (peakS a)⟩ else if peakS a<0 then ⟨min (-(b % 65)) (peakS a),peakS a,max (-(c % 65)) (peakS a)⟩ else ⟨-(b % 65),0,c % 65⟩:=rfl
theorem b191 {a b c:Int} (ha:0≤a) (ha2:a≤65535) (hb:0≤b) (hb2:b≤65535) (hc:0≤c) (hc2:c≤65535):Best Tryz.prog 191 [.int .i64 a,.int .i64 b,.int .i64 c] (.p (.agg (tRow (mtS a b c)))):=by
 refine best mixed fn191 ok191 (by simp) ?_
 have e1:a.tmod 129=a % 129:=Int.tmod_eq_emod_of_nonneg ha
 have e2:a.tdiv 129=a / 129:=Int.tdiv_eq_ediv_of_nonneg ha
 have e3:(a / 129).tmod 7=a / 129 % 7:=Int.tmod_eq_emod_of_nonneg (by omega)
 have e4:b.tmod 65=b % 65:=Int.tmod_eq_emod_of_nonneg hb
 have e5:c.tmod 65=c % 65:=Int.tmod_eq_emod_of_nonneg hc
 have w1:R (a % 129 - 64):=⟨by omega,by omega⟩
 have w2:R (a / 129):=⟨by omega,by omega⟩
 have w3:R (0 - b % 65):=⟨by omega,by omega⟩
 have w4:R (0 - c % 65):=⟨by omega,by omega⟩
 have z1:0 - b % 65=-(b % 65):=by omega
 have z2:0 - c % 65=-(c % 65):=by omega
 have w3':IntKind.i64.wrap (-(b % 65))=-(b % 65):=wr ⟨by omega,by omega⟩
 have w4':IntKind.i64.wrap (-(c % 65))=-(c % 65):=wr ⟨by omega,by omega⟩
 have hp:∀ m:Nat,(m:Int)=a / 129 % 7→([[PV.int .i64 0],[PV.int .i64 0],[PV.int .i64 64],[PV.int .i64 (-64)],[PV.int .i64 32],[PV.int .i64 (-16)],[PV.int .i64 (a % 129 - 64)]]:List (List PV))[m]?=some [.int .i64 (peakS a)]:=by
  intro m hm
  unfold peakS
  rw [←hm]
  match m with
  | 0=>rfl
  | 1=>rfl
  | 2=>rfl
  | 3=>rfl
  | 4=>rfl
  | 5=>rfl
  | 6=>rfl
  | k+7=>omega
 obtain ⟨m,hm⟩:=Int.eq_ofNat_of_zero_le (show 0≤a / 129 % 7 by omega)
 have hp:=hp m hm.symm
 have hm7:(m:Int)<7:=by omega
 have hm7':m<7:=by omega
 have hml:=mt_def a b c
 obtain ⟨hh,hp'⟩:=List.getElem?_eq_some_iff.1 hp
 generalize peakS a=p at *
 by_cases q1:0<p
 ·rw [if_pos q1] at hml
  simp -dsimp [ac191,List.range,List.range.loop,e1,e2,e3,e4,e5,wr w1,wr w2,hm,hm7,hm7',hp,hp',q1,tRow,hml]
 ·rw [if_neg q1] at hml
  by_cases q2:p<0
  ·rw [if_pos q2] at hml
   simp -dsimp [ac191,List.range,List.range.loop,e1,e2,e3,e4,e5,wr w1,wr w2,hm,hm7,hm7',hp,hp',q1,q2,tRow,hml,z1,z2,w3',w4']
  ·rw [if_neg q2] at hml
   simp -dsimp [ac191,List.range,List.range.loop,e1,e2,e3,e4,e5,wr w1,wr w2,hm,hm7,hm7',hp,hp',q1,q2,tRow,hml,z1,z2,w3',w4']
def atS (l:List Int) (k:Nat):Int:=numS l k % 129 - 64
def madeAt (l:List Int) (n:Nat):List Int:=(List.range n).map (atS l)
def partAt (l:List Int) (n k:Nat):List Int:=(List.range n).map fun i=>if i<k then atS l i else 0
theorem partAt_set {l:List Int} {n k:Nat} (h:k<n):(partAt l n k).set k (atS l k)=partAt l n (k+1):=by
 apply List.ext_getElem?
 intro i
 rw [List.getElem?_set]
 by_cases hi:k=i
 ·subst hi;simp [partAt,h]
 ·rw [if_neg hi]
  by_cases hn:i<n
  ·simp only [partAt,List.getElem?_map,List.getElem?_range hn,Option.map_some]
   congr 1
   by_cases h1:i<k
   ·rw [if_pos h1,if_pos (by omega)]
   ·rw [if_neg h1,if_neg (by omega)]
  ·rw [List.getElem?_eq_none (by simp [partAt];omega),List.getElem?_eq_none (by simp [partAt];omega)]
theorem partAt_len {l:List Int} {n k:Nat}:(partAt l n k).length=n:=by simp [partAt]
theorem atS_bd (l:List Int) (k:Nat):-64≤atS l k∧atS l k≤64:=by unfold atS;omega
theorem b124 (l:List Int) (n:Nat) (hn:n<1000000):Best Tryz.prog 124 [.sl 1 (l.map intRow),.int .i64 n] (.p (.sl 1 ((madeAt l n).map intRow))):=by
 refine best mixed fn124 ok124 (by simp) ?_
 have c1:(8:Int)*n≤281474976710656:=by omega
 have c2:(n:Int)≤9223372036854775807:=by omega
 have c3:List.replicate n [PV.int .i64 0]=(partAt l n 0).map intRow:=by
  simp [partAt,intRow,List.map_const',Function.comp_def]
 have c4:(n:Int)*8≤281474976710656:=by omega
 simp -dsimp [ac124,c1,c2,c3,c4]
 refine loopC n (fun k=>⟨[(0,.p (.sl 1 (l.map intRow))),(1,.p (.int .i64 n)),(5,.ref (8,0) 1 0 n),(6,.p (.int .i64 k))],[((8,0),.sl 3 1 ((partAt l n k).map intRow))]⟩) (fun _=>True) (fun k hk _=>?_) trivial (by simp)
 by_cases h:k<n
 ·have w:R ((k:Int)+1):=⟨by omega,by omega⟩
  have hb:=numS_bd l k
  have e1:(numS l k).tmod 129=numS l k % 129:=Int.tmod_eq_emod_of_nonneg hb.1
  have w1:R (numS l k % 129 - 64):=⟨by omega,by omega⟩
  have ea:numS l k % 129 - 64=atS l k:=rfl
  have e2:∀ p:Int,(partAt l n k)[k]?=some ((partAt l n k)[k]'(by rw [partAt_len];exact h)):=fun _=>List.getElem?_eq_getElem _
  have hset:((partAt l n k).map intRow).set k (intRow (atS l k))=(partAt l n (k+1)).map intRow:=by
   rw [←List.map_set,partAt_set h]
  simp -dsimp [h]
  refine call_p (b155 l k) rfl (by simp) ?_
  have hl:k<(partAt l n k).length:=by rw [partAt_len];exact h
  have ht:∀ x,(intRow x).tail=[]:=fun _=>rfl
  have w5:R (atS l k):=by rw [←ea];exact w1
  simp -dsimp [e1,wr w5,ea,h,hl,partAt_len,wr w,ht]
  exact hset
 ·have:k=n:=by omega
  subst this
  have:partAt l k k=madeAt l k:=by
   unfold partAt madeAt
   apply List.map_congr_left
   intro i hi
   rw [if_pos (by simpa using hi)]
  have hlen:(madeAt l k).length=k:=by simp [madeAt]
  simp -dsimp [this,hlen]
  exact List.take_of_length_le (by simp [hlen])
theorem Best.res {P:Program} {f:FuncId} {ps:List PV} {v v':PV} (h:∀ S x,PRel S v x→PRel S v' x) (b:Best P f ps (.p v)):Best P f ps (.p v'):=
 ⟨b.1,fun S w xs hS hx=>(b.2 S w xs hS hx).mono fun e w' ⟨x,S',h1,h2,h3,h4,h5,h6⟩=>⟨x,S',h1,h2,h3,h4,h5,h S' x h6⟩⟩
theorem agg_nsl {S:Snap} {x:Value} (n:Nat) (h:PRel S (.agg [.nsl]) x):PRel S (.agg [.sl n []]) x:=by
 cases h with
 | agg cells vs hl hh=>
  match vs,hl with
  | [v],_=>
   refine .agg _ [v] rfl fun j p u e1 e2=>?_
   match j with
   | 0=>simp at e1 e2;subst e1 e2;exact (hh 0 _ _ rfl rfl).nsl_sl n
   | j+1=>simp at e1
def regT (l:List Int) (k:Nat):T3:=mtS (numS l (3*k)) (numS l (3*k+1)) (numS l (3*k+2))
def madeReg (l:List Int) (n:Nat):List T3:=(List.range n).map (regT l)
theorem madeReg_succ (l:List Int) (n:Nat):madeReg l (n+1)=madeReg l n++[regT l n]:=by simp [madeReg,List.range_succ]
theorem madeReg_len (l:List Int) (n:Nat):(madeReg l n).length=n:=by simp [madeReg]
theorem oneT (z:List T3):((z.map tRow).all fun r=>r.all PV.one)=true:=by
 rw [List.all_eq_true];intro x hx
 simp only [List.mem_map] at hx
 obtain ⟨t,_,rfl⟩:=hx
 rfl
theorem one1 (x:T3):([tRow x].all fun r=>r.all PV.one)=true:=oneT [x]
def regV:Nat→AV
 | 0=>.p .nsl
 | k+1=>.ref (31,k) 3 0 (k+1)
def regM (l:List Int):Nat→List (Slot×Blk)
 | 0=>[]
 | k+1=>[((31,k),.sl 258 3 ((madeReg l (k+1)).map tRow))]
theorem wl0:IntKind.i64.wrap 0=0:=wr ⟨by omega,by omega⟩
theorem wl1:IntKind.i64.wrap 1=1:=wr ⟨by omega,by omega⟩
theorem wl2:IntKind.i64.wrap 2=2:=wr ⟨by omega,by omega⟩
theorem mtR (x:T3):tRow x=[.int .i64 x.f,.int .i64 x.p,.int .i64 x.t]:=rfl
theorem b156' (l:List Int) (n:Nat) (hn:n<1000):awp Tryz.prog ac156 (retK [.cell 4 true 1] (.p (.agg [if n=0 then .nsl else .sl 3 ((madeReg l n).map tRow)]))) (initFr [.sl 1 (l.map intRow),.int .i64 n]):=by
 simp -dsimp [ac156]
 refine loopC n (fun k=>⟨[(0,.p (.sl 1 (l.map intRow))),(1,.p (.int .i64 n)),(4,.ptr (4,0) 1 0 0),(5,.ptr (5,0) 1 0 0),(6,.p (.int .i64 k))],((4,0),.box [.p .nsl]) :: ((5,0),.box [regV k]) :: regM l k⟩) (fun _=>True) (fun k hk _=>?_) trivial (by simp [regV,regM])
 by_cases h:k<n
 ·have w:R ((k:Int)+1):=⟨by omega,by omega⟩
  have h1:=b155 l (3*k)
  rw [show ((3*k:Nat):Int)=3*(k:Int) by omega] at h1
  have h2:=b155 l (3*k+1)
  rw [show ((3*k+1:Nat):Int)=3*(k:Int)+1 by omega] at h2
  have h3:=b155 l (3*k+2)
  rw [show ((3*k+2:Nat):Int)=3*(k:Int)+2 by omega] at h3
  have n1:=numS_bd l (3*k)
  have n2:=numS_bd l (3*k+1)
  have n3:=numS_bd l (3*k+2)
  have h4:=b191 n1.1 n1.2 n2.1 n2.2 n3.1 n3.2
  rw [show mtS (numS l (3*k)) (numS l (3*k+1)) (numS l (3*k+2))=regT l k from rfl] at h4
  have w1:R (3*(k:Int)):=⟨by omega,by omega⟩
  have w2:R (3*(k:Int)+1):=⟨by omega,by omega⟩
  have w3:R (3*(k:Int)+2):=⟨by omega,by omega⟩
  have hs:=madeReg_succ l k
  have hl:=madeReg_len l k
  have o1:=one1 (regT l k)
  generalize numS l (3*k)=y1 at *
  generalize numS l (3*k+1)=y2 at *
  generalize numS l (3*k+2)=y3 at *
  generalize regT l k=x at *
  obtain ⟨x1,x2,x3⟩:=x
  cases k with
  | zero=>
   have hs':madeReg l 1=[⟨x1,x2,x3⟩]:=by simpa [madeReg] using hs
   simp -dsimp [regV,regM,h,wl0,wl1,wl2]
   refine call_p h1 (by simp) (by simp) ?_
   simp -dsimp [wl0,wl1,wl2]
   refine call_p h2 (by simp [wl0,wl1,wl2]) (by simp) ?_
   simp -dsimp [wl0,wl1,wl2]
   refine call_p h3 (by simp [wl0,wl1,wl2]) (by simp) ?_
   simp -dsimp [wl0,wl1,wl2]
   refine call_p h4 (by simp) (by simp) ?_
   simp -dsimp [wl0,wl1,wl2,mtR,List.range,List.range.loop,maxLen,hs',h]
   exact ⟨rfl,by simp [regM,hs',mtR]⟩
  | succ k=>
   simp only [Int.natCast_add,Int.natCast_one] at w w1 w2 w3 h1 h2 h3
   have hl2:((madeReg l (k+1)).map tRow).length=k+1:=by simp [hl]
   have hmax:k+1+1≤maxLen:=by unfold maxLen;omega
   have hby:(k+1+1)*24≤140737488355328:=by omega
   have hi:(k:Int)+1<n:=by omega
   simp -dsimp [regV,regM,h,hi,wr w1]
   refine call_p h1 (by simp) (by simp) ?_
   simp -dsimp [wr w1,wr w2]
   refine call_p h2 (by simp) (by simp) ?_
   simp -dsimp [wr w1,wr w3]
   refine call_p h3 (by simp) (by simp) ?_
   simp -dsimp
   refine call_p h4 (by simp) (by simp) ?_
   simp -dsimp [mtR,List.range,List.range.loop,hl2,hmax,hby,hs,h]
   exact ⟨wr w,rfl,by simp only [regM,hs,List.map_append];rfl⟩
 ·have:k=n:=by omega
  subst this
  have hl:=madeReg_len l k
  cases k with
  | zero=>simp -dsimp [regV,regM]
  | succ k=>
   have ht:List.take (k+1) ((madeReg l (k+1)).map tRow)=(madeReg l (k+1)).map tRow:=List.take_of_length_le (by simp [hl])
   have hi:¬(k:Int)+1<(k:Int)+1:=by omega
   simp -dsimp [regV,regM,hi,hl,ht]
theorem b156 (l:List Int) (n:Nat) (hn:n<1000):Best Tryz.prog 156 [.sl 1 (l.map intRow),.int .i64 n] (.p (.agg [.sl 3 ((madeReg l n).map tRow)])):=by
 have h:=best mixed fn156 ok156 (by simp) (b156' l n hn)
 by_cases h0:n=0
 ·subst h0
  rw [if_pos rfl] at h
  exact Best.res (fun S x hx=>agg_nsl 3 hx) h
 ·rwa [if_neg h0] at h
end
end Go.Abs.A30
namespace Go.Abs.A30
open Go Go.Abs Go.Proofs
set_option maxRecDepth 100000
set_option maxHeartbeats 4000000
set_option linter.unusedVariables false
def ac163:AC:=by
 apply fun (y:AC) (_:@Eq AC (anF Tryz.prog 163 mu1 [] 0 0 []) y)=>y
 conv=>lhs;reduce;dsimp
theorem fn163:factOf Tryz.prog 163=some (ac163.strip,[.tmp 4],47):=by kernel_rfl
theorem ok163:ac163.okAll=true:=by kernel_rfl
def ac116:AC:=by
 apply fun (y:AC) (_:@Eq AC (anF Tryz.prog 116 mu1 [] 0 0 []) y)=>y
 conv=>lhs;reduce;dsimp
theorem fn116:factOf Tryz.prog 116=some (ac116.strip,[.tmp 6],27):=by kernel_rfl
theorem ok116:ac116.okAll=true:=by kernel_rfl
def ac159:AC:=by
 apply fun (y:AC) (_:@Eq AC (anF Tryz.prog 159 mu1 [] 0 0 []) y)=>y
 conv=>lhs;reduce;dsimp
theorem fn159:factOf Tryz.prog 159=some (ac159.strip,[.tmp 2],25):=by kernel_rfl
theorem ok159:ac159.okAll=true:=by kernel_rfl
def ac126:AC:=by
 apply fun (y:AC) (_:@Eq AC (anD [⟨2,[],[.zsl 3 1],none⟩] (anF Tryz.prog 126 mu1 [] 0 0 [])) y)=>y
 conv=>lhs;reduce;dsimp
theorem fn126:factOf Tryz.prog 126=some (ac126.strip,[.tmp 2],18):=by kernel_rfl
theorem ok126:ac126.okAll=true:=by kernel_rfl
def ac121:AC:=by
 apply fun (y:AC) (_:@Eq AC (anD [⟨9,[.canV 3 (3,1),.freeze (3,1)],[],none⟩] (anF Tryz.prog 121 mu1 [] 0 0 [])) y)=>y
 conv=>lhs;reduce;dsimp
theorem fn121:factOf Tryz.prog 121=some (ac121.strip,[.tmp 2],32):=by kernel_rfl
theorem ok121:ac121.okAll=true:=by kernel_rfl
def xc160c:AC:=by
 apply fun (y:AC) (_:@Eq AC (anS 10 [] [] (anF Tryz.prog 160 mu1 [1000000,1000001,1000002,1000003,1000004,1000005] 63 0 [0])) y)=>y
 conv=>lhs;reduce;dsimp
def xc160b:AC:=(fun (z0:AC)=>by
 apply fun (y:AC) (_:@Eq AC (anS 4 [⟨10,[],[],some z0⟩,⟨14,[.canV 9 (9,1),.freeze (9,1)],[],none⟩,⟨15,[],[.canV 7 (7,1)],none⟩] [] (anF Tryz.prog 160 mu1 [1000000,1000001,1000002,1000003,1000004,1000005] 63 0 [0])) y)=>y
 conv=>lhs;reduce;dsimp) xc160c
def ac160:AC:=(fun (z0:AC)=>by
 apply fun (y:AC) (_:@Eq AC (anD [⟨2,[],[.canV 7 (7,1)],none⟩,⟨4,[],[],some z0⟩,⟨16,[.freeze (7,1)],[],none⟩] (anF Tryz.prog 160 mu1 [1000000,1000001,1000002,1000003,1000004,1000005] 63 0 [0])) y)=>y
 conv=>lhs;reduce;dsimp) xc160b
theorem fn160:factOf Tryz.prog 160=some (ac160.strip,[.tmp 6],38):=by kernel_rfl
theorem ok160:ac160.okAll=true:=by kernel_rfl
end Go.Abs.A30
namespace Go.Abs.A30
open Go Go.Abs Go.Proofs
set_option maxRecDepth 100000
set_option linter.unusedVariables false
set_option linter.unusedSimpArgs false
attribute [local simp ↓] awp_skip awp_seq awp_cond awp_block awp_exit awp_ret awp_reg awp_draw awp_ghost awp_loop awp_rfun awpR_nil awpR_cons awpX_nil awpX_0 awpX_1 awpX_2 awpI_eq awpI_t awpI_f awpStep_eq
attribute [local simp] condL_true condL_false condL_dec evDel evV evN evS evA initFr Ghost.app Fr.var Fr.blk Fr.ff FF.val Abs.look Fr.app Fr.erase Fr.noSlot AV.noSlot AV.noSlotL Blk.noSlot Fr.spoken AV.fz AV.fzL Blk.fz binV binI shI binS unV fillA FF.parts FF.vals headO intO boundO lenV scalarEq leavesEq AV.aggc AV.cells FF.read FF.rows AV.one PV.one chunk freshB newS pickV retK evRs evRl evR resOf mkTup mkAgg allP cloOf okP_nil okX_p okX okP addN Del.noSlot Del.owners Rnd reify_p normM insM Fr.back Fr.backV Fr.setPs normV insV
attribute [local simp] renF Fr.trim Blk.trim AV.rn AV.rnL Blk.rn AV.among AV.amongL Blk.among okF retM fixS BIG initFF
attribute [local simp] FF.reify FF.reifyL PV.flat
section
theorem oneI (z:List Int):((z.map intRow).all fun r=>r.all PV.one)=true:=by
 rw [List.all_eq_true];intro x hx
 simp only [List.mem_map] at hx
 obtain ⟨t,_,rfl⟩:=hx
 rfl
theorem oneDT (z:List Int) (i j:Nat):((List.drop i (List.take j (z.map intRow))).all fun r=>r.all PV.one)=true:=by
 rw [List.all_eq_true];intro x hx
 exact List.all_eq_true.1 (oneI z) x (List.mem_of_mem_take (List.mem_of_mem_drop hx))
theorem oneTk (z:List Int) (j:Nat):((List.take j (z.map intRow)).all fun r=>r.all PV.one)=true:=by
 rw [List.all_eq_true];intro x hx
 exact List.all_eq_true.1 (oneI z) x (List.mem_of_mem_take hx)
theorem oneD (z:List Int) (j:Nat):((List.drop j (z.map intRow)).all fun r=>r.all PV.one)=true:=by
 rw [List.all_eq_true];intro x hx
 exact List.all_eq_true.1 (oneI z) x (List.mem_of_mem_drop hx)
attribute [local simp ↓] oneI oneDT oneTk oneD
def twN {α:Type} (p:α→Bool) (l:List α):Nat:=(l.takeWhile p).length
theorem twN_le {α:Type} (p:α→Bool):∀ (l:List α),twN p l≤l.length
 | []=>Nat.le_refl _
 | x :: l=>by
  have:=twN_le p l
  unfold twN at *
  cases h:p x<;>simp [List.takeWhile_cons,h]
  omega
theorem twN_get {α:Type} (p:α→Bool):∀ (l:List α) (k:Nat) (x:α),k<twN p l→l[k]?=some x→p x=true
 | [],k,x,h,e=>by simp at e
 | y :: l,0,x,h,e=>by
  simp at e;subst e
  cases hp:p y with
  | true=>rfl
  | false=>simp [twN,List.takeWhile_cons,hp] at h
 | y :: l,k+1,x,h,e=>by
  cases hp:p y with
  | true=>exact twN_get p l k x (by simp [twN,List.takeWhile_cons,hp] at h ⊢;omega) (by simpa using e)
  | false=>simp [twN,List.takeWhile_cons,hp] at h
theorem twN_end {α:Type} (p:α→Bool):∀ (l:List α) (x:α),l[twN p l]?=some x→p x=false
 | [],x,e=>by simp at e
 | y :: l,x,e=>by
  cases hp:p y with
  | true=>exact twN_end p l x (by simpa [twN,List.takeWhile_cons,hp] using e)
  | false=>simp [twN,List.takeWhile_cons,hp] at e;subst e;exact hp
def posL (l:List Int) (n:Int):Nat:=twN (fun x=>decide (x<n)) l
def withL (l:List Int) (n:Int):List Int:=if l[posL l n]?=some n then l else l.take (posL l n)++n :: l.drop (posL l n)
theorem withL_len (l:List Int) (n:Int):(withL l n).length≤l.length+1:=by
 unfold withL
 split
 ·omega
 ·simp;omega
theorem b163 (l:List Int) (n:Int) (hl:l.length≤100000000):Best Tryz.prog 163 [.sl 1 (l.map intRow),.int .i64 n] (.p (.sl 1 ((withL l n).map intRow))):=by
 refine best mixed fn163 ok163 (by simp) ?_
 have hle:=twN_le (fun x=>decide (x<n)) l
 have hget:=fun k x=>twN_get (fun x=>decide (x<n)) l k x
 have hend:=fun x=>twN_end (fun x=>decide (x<n)) l x
 have hw:withL l n=if l[posL l n]?=some n then l else l.take (posL l n)++n :: l.drop (posL l n):=rfl
 unfold posL at hw
 generalize twN (fun x=>decide (x<n)) l=p at *
 simp -dsimp [ac163]
 refine loopC p (fun k=>⟨[(0,.p (.sl 1 (l.map intRow))),(1,.p (.int .i64 n)),(5,.p (.int .i64 k))],[]⟩) (fun _=>True) (fun k hk _=>?_) trivial (by simp)
 by_cases h:k<p
 ·have hkl:k<l.length:=by omega
  obtain ⟨x,ex⟩:∃ x,l[k]=x:=⟨_,rfl⟩
  have hx:=hget k x h (by rw [List.getElem?_eq_getElem hkl,ex])
  have hxn:x<n:=by simpa using hx
  have w:R ((k:Int)+1):=⟨by omega,by omega⟩
  simp -dsimp [hkl,ex,intRow,hxn,wr w,h]
 ·have:k=p:=by omega
  subst this
  by_cases hkl:k<l.length
  ·obtain ⟨x,ex⟩:∃ x,l[k]=x:=⟨_,rfl⟩
   have hxn:¬x<n:=by simpa using hend x (by rw [List.getElem?_eq_getElem hkl,ex])
   by_cases hxe:x=n
   ·rw [List.getElem?_eq_getElem hkl,ex,if_pos (by rw [hxe])] at hw
    rw [hw]
    subst hxe
    simp -dsimp [hkl,ex,intRow]
   ·rw [List.getElem?_eq_getElem hkl,ex,if_neg (by simpa using hxe)] at hw
    rw [hw]
    have kz:(0:Int)≤(k:Int):=by omega
    have ki:(k:Int)≤l.length:=by omega
    have m1:1+(l.length - k)≤maxLen:=by unfold maxLen;omega
    have m2:(1+(l.length - k))*8≤140737488355328:=by omega
    have m3:k≤maxLen:=by unfold maxLen;omega
    have m4:k*8≤140737488355328:=by omega
    have m5:k+(l.length - k+1)≤maxLen:=by unfold maxLen;omega
    have m6:(k+(l.length - k+1))*8≤140737488355328:=by omega
    have hmn:min k l.length=k:=by omega
    have dt:List.drop k (List.take l.length (l.map intRow))=List.drop k (l.map intRow):=by rw [List.take_of_length_le (by simp)]
    have hA:1+(l.length - k)≤l.length - k+1:=by omega
    have tA:List.take (1+(l.length - k)) ([PV.int .i64 n] :: List.drop k (l.map intRow))=[PV.int .i64 n] :: List.drop k (l.map intRow):=List.take_of_length_le (by simp;omega)
    have hB:1+(l.length - k)=l.length - k+1:=by omega
    simp -dsimp [-List.all_eq_true,↓dt,hkl,ex,intRow,hxn,hxe,kz,ki,hk,List.range,List.range.loop,m1,m2,m3,m4,m5,m6,hmn,hA,tA]
    exact List.take_of_length_le (by simp;omega)
  ·have:l[k]?=none:=List.getElem?_eq_none (by omega)
   rw [this,if_neg (by simp)] at hw
   rw [hw]
   have hkq:k=l.length:=by omega
   subst hkq
   have m1:l.length≤maxLen:=by unfold maxLen;omega
   have m2:l.length*8≤140737488355328:=by omega
   have m3:l.length+1≤maxLen:=by unfold maxLen;omega
   have m4:(l.length+1)*8≤140737488355328:=by omega
   have m5:1≤maxLen:=by unfold maxLen;omega
   simp -dsimp [-List.all_eq_true,hkl,List.range,List.range.loop,m1,m2,m3,m4,m5]
   rw [List.take_of_length_le (show (l.map intRow).length≤l.length by simp),List.take_of_length_le (by simp)]
   rfl
end
section
def llRow (l:List Int):List PV:=[.sl 1 (l.map intRow)]
def partL (l:List (List Int)) (k:Nat):List Int:=(l.getD k []).take 60
theorem b114 (l:List (List Int)) (k:Nat):Best Tryz.prog 114 [.sl 1 (l.map llRow),.int .i64 k] (.p (.sl 1 ((partL l k).map intRow))):=by
 by_cases h:k<l.length
 ·refine best mixed fn114 ok114 (by simp) ?_
  obtain ⟨x,ex⟩:∃ x,l[k]=x:=⟨_,rfl⟩
  have hx:partL l k=x.take 60:=by unfold partL;rw [List.getD_eq_getElem?_getD,List.getElem?_eq_getElem h,ex];rfl
  have c1:min (x.length:Int) 60=((min x.length 60:Nat):Int):=by omega
  have c2:min x.length 60≤x.length:=by omega
  have c3:(x.map intRow).take (min x.length 60)=(x.take 60).map intRow:=by
   rw [List.map_take,List.take_eq_take_iff];simp;omega
  rw [hx]
  generalize x.take 60=y at *
  simp -dsimp [ac114,h,ex,llRow,c1,c2,c3]
 ·have hx:partL l k=[]:=by unfold partL;rw [List.getD_eq_getElem?_getD,List.getElem?_eq_none (by omega)];rfl
  rw [hx]
  refine Best.res (v:=.nsl) (fun S x h=>h.nsl_sl 1) (best mixed fn114 ok114 (by simp) ?_)
  simp -dsimp [ac114,h]
structure Dr where
 l:List Int
 a:Nat
def Dr.cells (d:Dr):List AV:=[.p (.sl 1 (d.l.map intRow)),.p (.int .i64 d.a)]
def Dr.ok (d:Dr):Prop:=(∀ x∈d.l,R x)∧d.l.length≤140737488355328
def Dr.val (d:Dr) (n:Int):Int:=match d.l[d.a]? with
 | some x=>x % n
 | none=>0
def Dr.nxt (d:Dr):Dr:=⟨d.l,if d.a<d.l.length then d.a+1 else d.a⟩
theorem Dr.val_bd (d:Dr) {n:Int} (h:1≤n):0≤d.val n∧d.val n<n:=by
 unfold Dr.val
 split
 ·exact ⟨Int.emod_nonneg _ (by omega),Int.emod_lt_of_pos _ (by omega)⟩
 ·omega
theorem BestF.one {P:Program} {f:FuncId} {args:List AV} {v:AV} {k k':Blk} (h:BestF P f [((BIG,0),k)] args [(BIG,0)] v [((BIG,0),k')]) (s:Slot) (hv:v.among [(BIG,0)]=true) (hk:k'.among [(BIG,0)]=true) :
  BestF P f [(s,k.rnF fun _=>s)] (AV.rnFL (fun _=>s) args) [s] (v.rnF fun _=>s) [(s,k'.rnF fun _=>s)]:=
 h.ren (fun _=>s) (fun _=>(BIG,0)) (by simp) (by simp) (by simp) (by simpa using hv) (by simpa using hk)
theorem b71 (d:Dr) (hd:d.ok) {n:Int} (hn:1≤n) (hn2:n≤4611686018427387904) (s:Slot):BestF Tryz.prog 71 [(s,.box [.p (.sl 1 (d.l.map intRow)),.p (.int .i64 d.a)])] [.ptr s 2 0 0,.p (.int .i64 n)] [s] (.p (.int .i64 (d.val n))) [(s,.box [.p (.sl 1 (d.nxt.l.map intRow)),.p (.int .i64 d.nxt.a)])]:=by
 refine BestF.one (k:=.box d.cells) (k':=.box d.nxt.cells) (v:=.p (.int .i64 (d.val n))) (args:=[.ptr (BIG,0) 2 0 0,.p (.int .i64 n)]) ?_ s rfl rfl
 refine bestF mixed fn71 ok71 (by simp) (by simp) ?_
 obtain ⟨l,a⟩:=d
 obtain ⟨h1,h2⟩:=hd
 dsimp only at h1 h2
 by_cases h:a<l.length
 ·have hi:¬((l.length:Int)≤a):=by omega
  have w:R ((a:Int)+1):=⟨by omega,by omega⟩
  obtain ⟨x,ex⟩:∃ x,l[a]=x:=⟨_,rfl⟩
  have hx:=h1 x (by rw [←ex];simp)
  have p:=b123 (n:=x) (m:=n) hx hn hn2
  have hv:Dr.val ⟨l,a⟩ n=x % n:=by unfold Dr.val;dsimp only;rw [List.getElem?_eq_getElem h,ex]
  have e1:(a:Int)+1 - 1=a:=by omega
  have wa:R (a:Int):=⟨by omega,by omega⟩
  have hli:¬l.length≤a:=by omega
  simp -dsimp [ac71,Dr.cells,Dr.nxt,hi,hli,wr w,e1,wr wa,h,ex,intRow,hv]
  refine call_p p rfl (by simp) ?_
  simp -dsimp [retF]
 ·have hi:(l.length:Int)≤a:=by omega
  have hli:l.length≤a:=by omega
  have hv:Dr.val ⟨l,a⟩ n=0:=by unfold Dr.val;dsimp only;rw [List.getElem?_eq_none (by omega)]
  simp -dsimp [ac71,Dr.cells,Dr.nxt,hi,hli,h,hv,retF]
end
section
def normL (l:List Int):List Int:=l.foldl withL []
theorem foldW_len:∀ (l m:List Int),(l.foldl withL m).length≤m.length+l.length
 | [],m=>by simp
 | x :: l,m=>by
  have h1:=foldW_len l (withL m x)
  have h2:=withL_len m x
  simp only [List.foldl_cons,List.length_cons];omega
theorem normL_len (l:List Int):(normL l).length≤l.length:=by
 have:=foldW_len l []
 simpa [normL] using this
theorem b126 (l:List Int) (hl:l.length≤10000000):Best Tryz.prog 126 [.sl 1 (l.map intRow)] (.p (.sl 1 ((normL l).map intRow))):=by
 refine best mixed fn126 ok126 (by simp) ?_
 simp -dsimp [ac126]
 refine loopC l.length (fun k=>⟨[(0,.p (.sl 1 (l.map intRow))),(3,.p (.sl 1 (((l.take k).foldl withL []).map intRow))),(4,.p (.int .i64 k))],[]⟩) (fun _=>True) (fun k hk _=>?_) trivial (by simp)
 by_cases h:k<l.length
 ·obtain ⟨x,ex⟩:∃ x,l[k]=x:=⟨_,rfl⟩
  have w:R ((k:Int)+1):=⟨by omega,by omega⟩
  have hs:(l.take (k+1)).foldl withL []=withL ((l.take k).foldl withL []) x:=by
   rw [List.take_add_one,List.getElem?_eq_getElem h,ex,List.foldl_append];rfl
  have hln:=foldW_len (l.take k) []
  have p:=b163 ((l.take k).foldl withL []) x (by rw [List.length_take] at hln;simp at hln;omega)
  rw [hs]
  generalize (l.take k).foldl withL []=m at *
  simp -dsimp [h,ex,intRow]
  refine call_p p rfl (by simp) ?_
  simp -dsimp [wr w,h]
 ·have:k=l.length:=by omega
  subst this
  rw [List.take_length]
  simp -dsimp [normL]
theorem b160' (d0:Dr) (h0:d0.ok) (many:Nat) (g:Int) (hm:many≤100) (hg:1≤g) (hg2:g≤1000):∃ x:List (List Int)×Dr,(x.2.ok∧x.1.length=many∧∀ y∈x.1,y.length≤3) ∧
  BestF Tryz.prog 160 [((BIG,0),.box [.p (.sl 1 (d0.l.map intRow)),.p (.int .i64 d0.a)])] [.ptr (BIG,0) 2 0 0,.p (.int .i64 many),.p (.int .i64 g)] [(BIG,0)] (.p (.sl 1 (x.1.map llRow))) [((BIG,0),.box [.p (.sl 1 (x.2.l.map intRow)),.p (.int .i64 x.2.a)])]:=by
 refine bestEF mixed fn160 ok160 (by simp) (by simp) ?_
 simp -dsimp [ac160]
 refine loopE many (fun k (x:List (List Int)×Dr)=>⟨[(0,.ptr (1000000,0) 2 0 0),(1,.p (.int .i64 many)),(2,.p (.int .i64 g)),(7,.ref (7,1) 1 0 k),(8,.p (.int .i64 k))],[((7,1),.sl 37 1 (x.1.map llRow)),((1000000,0),.box [.p (.sl 1 (x.2.l.map intRow)),.p (.int .i64 x.2.a)])]⟩) (fun k x=>x.2.ok∧x.1.length=k∧∀ y∈x.1,y.length≤3) ([],d0) (fun k x hk hQ=>?_) ⟨h0,rfl,by simp⟩ (by simp)
 obtain ⟨x,d⟩:=x
 obtain ⟨hd,hx,hsh⟩:=hQ
 dsimp only at hd hx hsh
 by_cases h:k<many
 ·have w:R ((k:Int)+1):=⟨by omega,by omega⟩
  have p:=b71 d hd (n:=3) (by decide) (by decide) (1000000,0)
  have hv:=d.val_bd (n:=3) (by decide)
  have w1:R (1+d.val 3):=⟨by omega,by omega⟩
  simp -dsimp [xc160b,h]
  refine call_m p (by simp) (by simp) (by simp) ?_
  simp -dsimp [wr w1]
  have hd':d.nxt.ok:=hd
  generalize d.nxt=d1 at *
  obtain ⟨m,hm1⟩:∃ m:Nat,1+d.val 3=m:=⟨(1+d.val 3).toNat,by omega⟩
  have hm3:m≤3:=by omega
  rw [hm1]
  clear hm1 hv w1 p
  refine loopE m (fun j (y:List Int×Dr)=>⟨[(0,.ptr (1000000,0) 2 0 0),(1,.p (.int .i64 many)),(2,.p (.int .i64 g)),(7,.ref (7,1) 1 0 k),(8,.p (.int .i64 k)),(9,.ref (31,j) 1 0 j),(10,.p (.int .i64 m)),(11,.p (.int .i64 j))],[((7,1),.sl 37 1 (x.map llRow)),((31,j),.sl 3 1 (y.1.map intRow)),((1000000,0),.box [.p (.sl 1 (y.2.l.map intRow)),.p (.int .i64 y.2.a)])]⟩) (fun j y=>y.2.ok∧y.1.length=j) ([],d1) (fun j y hj hQ=>?_) ⟨hd',rfl⟩ (by simp)
  obtain ⟨y,d2⟩:=y
  obtain ⟨hd2,hy⟩:=hQ
  dsimp only at hd2 hy
  by_cases hjm:j<m
  ·have wj:R ((j:Int)+1):=⟨by omega,by omega⟩
   have p:=b71 d2 hd2 (n:=min g 8) (by omega) (by omega) (1000000,0)
   have m1:y.length+1≤maxLen:=by unfold maxLen;omega
   have m2:(y.length+1)*8≤140737488355328:=by omega
   have hd3:d2.nxt.ok:=hd2
   generalize d2.nxt=d3 at *
   subst hy
   simp -dsimp [xc160c,hjm]
   refine call_m p (by simp) (by simp) (by simp) ?_
   simp -dsimp [wr wj,List.range,List.range.loop,m1,m2,hjm]
   exact ⟨y++[d2.val (min g 8)],d3,⟨hd3,by simp⟩,by simp [intRow],rfl,rfl⟩
  ·have:j=m:=by omega
   subst this
   have q:=b126 y (by omega)
   have hyt:List.take j (y.map intRow)=y.map intRow:=List.take_of_length_le (by simp;omega)
   have m1:x.length+1≤maxLen:=by unfold maxLen;omega
   have m2:(x.length+1)*24≤140737488355328:=by omega
   subst hx
   simp -dsimp [xc160c,hjm,hy,hyt]
   refine call_p q (by simp) (by simp) ?_
   simp -dsimp [wr w,List.range,List.range.loop,m1,m2,h]
   have hnl:=normL_len y
   refine ⟨x++[normL y],d2,⟨hd2,by simp,fun z hz=>?_⟩,?_,rfl,rfl⟩
   ·rcases List.mem_append.1 hz with h1 | h1
    ·exact hsh z h1
    ·rw [List.mem_singleton.1 h1];omega
   rw [List.take_of_length_le (by simp)]
   simp [llRow]
 ·have:k=many:=by omega
  subst this
  have hxt:List.take k (x.map llRow)=x.map llRow:=List.take_of_length_le (by simp;omega)
  simp -dsimp [xc160b,hx,hxt,retEF]
  exact ⟨x,rfl,d,⟨rfl,rfl⟩,hd,hx,hsh⟩
theorem b160 (d0:Dr) (h0:d0.ok) (many:Nat) (g:Int) (hm:many≤100) (hg:1≤g) (hg2:g≤1000) (s:Slot):∃ (x:List (List Int)) (d:Dr),d.ok∧(x.length=many∧∀ y∈x,y.length≤3) ∧
  BestF Tryz.prog 160 [(s,.box [.p (.sl 1 (d0.l.map intRow)),.p (.int .i64 d0.a)])] [.ptr s 2 0 0,.p (.int .i64 many),.p (.int .i64 g)] [s] (.p (.sl 1 (x.map llRow))) [(s,.box [.p (.sl 1 (d.l.map intRow)),.p (.int .i64 d.a)])]:=by
 obtain ⟨⟨x,d⟩,⟨h1,h2⟩,h3⟩:=b160' d0 h0 many g hm hg hg2
 exact ⟨x,d,h1,h2,BestF.one h3 s rfl rfl⟩
end
end Go.Abs.A30
namespace Go.Abs
open Go
def awpC (P:Program) (x:AC) (K:AE→Fr→Prop) (t:Tag x K) (F:Fr):Prop:=awp P x K F
theorem awpC_of (x:AC) {P:Program} {K:AE→Fr→Prop} {F:Fr}:awp P x K F=awpC P x K {} F:=rfl
theorem awpC_in {P:Program} {x:AC} {K:AE→Fr→Prop} {t:Tag x K} {F:Fr} (h:awp P x K F):awpC P x K t F:=h
theorem seqG1 {P:Program} {x z:AC} {g1:Ghost} {K:AE→Fr→Prop} {F:Fr} {α:Type} (fr:α→Fr) (Q:α→Prop) (h1:awp P x (fun e F'=>e=.normal∧∃ a,Q a∧(g1.app F')=some (fr a)) F) (h2:∀ a,Q a→awp P z K (fr a)):awp P (.seq x (.ghost g1 z)) K F:=by
 rw [awp_seq]
 refine awp_mono (fun e F' q=>?_) h1
 obtain ⟨rfl,a,q1,q2⟩:=q
 dsimp only
 rw [awp_ghost,q2];exact h2 a q1
theorem seqG3 {P:Program} {x z:AC} {g1 g2 g3:Ghost} {K:AE→Fr→Prop} {F:Fr} {α:Type} (fr:α→Fr) (Q:α→Prop) (h1:awp P x (fun e F'=>e=.normal∧∃ a,Q a∧((g1.app F').bind fun F1=>((g2.app F1).bind fun F2=>(g3.app F2)))=some (fr a)) F) (h2:∀ a,Q a→awp P z K (fr a)):awp P (.seq x (.ghost g1 (.ghost g2 (.ghost g3 z)))) K F:=by
 rw [awp_seq]
 refine awp_mono (fun e F' q=>?_) h1
 obtain ⟨rfl,a,q1,q2⟩:=q
 dsimp only
 rw [Option.bind_eq_some_iff] at q2;obtain ⟨F1,e1,q2⟩:=q2;rw [awp_ghost,e1];dsimp only
 rw [Option.bind_eq_some_iff] at q2;obtain ⟨F2,e2,q2⟩:=q2;rw [awp_ghost,e2];dsimp only
 rw [awp_ghost,q2];exact h2 a q1
theorem seqG5 {P:Program} {x z:AC} {g1 g2 g3 g4 g5:Ghost} {K:AE→Fr→Prop} {F:Fr} {α:Type} (fr:α→Fr) (Q:α→Prop) (h1:awp P x (fun e F'=>e=.normal∧∃ a,Q a∧((g1.app F').bind fun F1=>((g2.app F1).bind fun F2=>((g3.app F2).bind fun F3=>((g4.app F3).bind fun F4=>(g5.app F4)))))=some (fr a)) F) (h2:∀ a,Q a→awp P z K (fr a)):awp P (.seq x (.ghost g1 (.ghost g2 (.ghost g3 (.ghost g4 (.ghost g5 z)))))) K F:=by
 rw [awp_seq]
 refine awp_mono (fun e F' q=>?_) h1
 obtain ⟨rfl,a,q1,q2⟩:=q
 dsimp only
 rw [Option.bind_eq_some_iff] at q2;obtain ⟨F1,e1,q2⟩:=q2;rw [awp_ghost,e1];dsimp only
 rw [Option.bind_eq_some_iff] at q2;obtain ⟨F2,e2,q2⟩:=q2;rw [awp_ghost,e2];dsimp only
 rw [Option.bind_eq_some_iff] at q2;obtain ⟨F3,e3,q2⟩:=q2;rw [awp_ghost,e3];dsimp only
 rw [Option.bind_eq_some_iff] at q2;obtain ⟨F4,e4,q2⟩:=q2;rw [awp_ghost,e4];dsimp only
 rw [awp_ghost,q2];exact h2 a q1
def Wk (u v:AV):Prop:=∀ (ι:Inj) (S:Snap) (x:Value),AVRel ι S u x→AVRel ι S v x
theorem Wk.refl (u:AV):Wk u u:=fun _ _ _ h=>h
theorem Wk.top (u:AV):Wk u .top:=fun _ _ x _=>.top x
inductive WkL:List AV→List AV→Prop where
 | nil:WkL [] []
 | cons {u v:AV} {us vs:List AV} (h:Wk u v) (hs:WkL us vs):WkL (u :: us) (v :: vs)
theorem WkL.len {us vs:List AV} (h:WkL us vs):us.length=vs.length:=by
 induction h with
 | nil=>rfl
 | cons _ _ ih=>simp [ih]
theorem WkL.get {us vs:List AV} (h:WkL us vs):∀ {j:Nat} {v:AV},vs[j]?=some v→∃ u,us[j]?=some u∧Wk u v:=by
 induction h with
 | nil=>intro j v e;simp at e
 | cons h hs ih=>
  intro j v e
  cases j with
  | zero=>simp at e;subst e;exact ⟨_,rfl,h⟩
  | succ j=>simpa using ih (by simpa using e)
theorem WkL.rs {us vs:List AV} (h:WkL us vs) {ι:Inj} {S:Snap} {xs:List Value} (hr:Rs ι S us xs):Rs ι S vs xs:=
 ⟨by rw [hr.1,h.len],fun j v x e1 e2=>by obtain ⟨u,e3,e4⟩:=h.get e1;exact e4 ι S x (hr.2 j u x e3 e2)⟩
theorem Wk.agg {us vs:List AV} (h:WkL us vs):Wk (.agg us) (.agg vs):=by
 intro ι S x e
 cases e with
 | agg cells vals hl hh=>exact .agg _ vals (by rw [hl,h.len]) (h.rs ⟨hl,hh⟩).2
theorem Wk.pagg {ps:List PV} {vs:List AV} (h:WkL (ps.map .p) vs):Wk (.p (.agg ps)) (.agg vs):=by
 intro ι S x e
 cases e with
 | p _ _ e=>cases e with
  | agg cells vals hl hh=>
   refine .agg _ vals (by rw [hl,←h.len];simp) (h.rs ⟨by simpa using hl,fun j u v e1 e2=>?_⟩).2
   simp only [List.getElem?_map,Option.map_eq_some_iff] at e1
   obtain ⟨q,e3,rfl⟩:=e1
   exact .p _ _ (hh j q v e3 e2)
theorem BestF.args {P:Program} {f:FuncId} {M0 M1:List (Slot×Blk)} {us vs:List AV} {K:List Slot} {v:AV} (h:BestF P f M0 vs K v M1) (hw:WkL us vs):BestF P f M0 us K v M1:=
 ⟨h.1,fun ι S w xs hS hP hr=>h.2 ι S w xs hS hP (hw.rs hr)⟩
theorem Lent_nil {ι:Inj} {b:Nat}:¬Lent ι [] b:=by rintro ⟨s,k,t,e,_⟩;simp [look] at e
theorem BestF.pure {P:Program} {f:FuncId} {ps:List PV} {v:PV} (h:BestF P f [] (ps.map .p) [] (.p v) []):Best P f ps (.p v):=by
 refine ⟨h.1,fun S w xs hS hr=>(h.2 (fun _=>none) S w xs hS ⟨fun s k e=>by simp [look] at e,fun s k e=>by simp [look] at e,fun s s' k k' e=>by simp [look] at e⟩ ⟨?_,fun j u x e1 e2=>?_⟩).mono ?_⟩
 ·simpa using hr.1
 ·simp only [List.getElem?_map,Option.map_eq_some_iff] at e1
  obtain ⟨q,e3,rfl⟩:=e1
  exact .p _ _ (hr.2 j q x e3 e2)
 ·rintro e w' ⟨x,ι',S',rfl,g1,g2,g3,g4,g5,g6,g7,g8⟩
  exact ⟨x,S',rfl,g1.keep (fun _=>Lent_nil),g2,g3,fun a u q=>(g4 a u q).imp id fun q=>q.resolve_right Lent_nil,g5.inv_p⟩
end Go.Abs
namespace Go.Abs.A30
open Go Go.Abs Go.Proofs
set_option maxRecDepth 100000
set_option linter.unusedVariables false
set_option linter.unusedSimpArgs false
attribute [local simp ↓] awp_skip awp_seq awp_cond awp_block awp_exit awp_ret awp_reg awp_draw awp_ghost awp_loop awp_rfun awpR_nil awpR_cons awpX_nil awpX_0 awpX_1 awpX_2 awpI_eq awpI_t awpI_f awpStep_eq
attribute [local simp] condL_true condL_false condL_dec evDel evV evN evS evA initFr Ghost.app Fr.var Fr.blk Fr.ff FF.val Abs.look Fr.app Fr.erase Fr.noSlot AV.noSlot AV.noSlotL Blk.noSlot Fr.spoken AV.fz AV.fzL Blk.fz binV binI shI binS unV fillA FF.parts FF.vals headO intO boundO lenV scalarEq leavesEq AV.aggc AV.cells FF.read FF.rows AV.one PV.one chunk freshB newS pickV retK evRs evRl evR resOf mkTup mkAgg allP cloOf okP_nil okX_p okX okP addN Del.noSlot Del.owners Rnd reify_p normM insM Fr.back Fr.backV Fr.setPs normV insV
attribute [local simp] renF Fr.trim Blk.trim AV.rn AV.rnL Blk.rn AV.among AV.amongL Blk.among okF retM fixS BIG initFF
attribute [local simp] FF.reify FF.reifyL PV.flat
section
attribute [local simp ↓] oneI oneDT oneTk oneD
def regS (l:List Int) (n k:Nat):List T3:=madeReg (l.drop (min l.length (9*k))) n
def regsL (l:List Int) (n m:Nat):List (List T3):=(List.range m).map (regS l n)
theorem regsL_succ (l:List Int) (n m:Nat):regsL l n (m+1)=regsL l n m++[regS l n m]:=by simp [regsL,List.range_succ]
theorem regsL_len (l:List Int) (n m:Nat):(regsL l n m).length=m:=by simp [regsL]
theorem b116 (l:List Int) (n m:Nat) (hn:n<1000) (hm:m≤1000):Best Tryz.prog 116 [.sl 1 (l.map intRow),.int .i64 n,.int .i64 m] (.p (.sl 1 ((regsL l n m).map regRow))):=by
 refine best mixed fn116 ok116 (by simp) ?_
 simp -dsimp [ac116]
 refine loopC m (fun k=>⟨[(0,.p (.sl 1 (l.map intRow))),(1,.p (.int .i64 n)),(2,.p (.int .i64 m)),(7,.ref (25,k) 1 0 k),(8,.p (.int .i64 k))],[((25,k),.sl 212 1 ((regsL l n k).map regRow))]⟩) (fun _=>True) (fun k hk _=>?_) trivial (by simp [regsL])
 have hL:((regsL l n k).map regRow).length=k:=by simp [regsL]
 by_cases h:k<m
 ·have w:R ((k:Int)+1):=⟨by omega,by omega⟩
  have w9:R (9*(k:Int)):=⟨by omega,by omega⟩
  have c1:min (l.length:Int) (9*k)=((min l.length (9*k):Nat):Int):=by omega
  have c2:min l.length (9*k)≤l.length:=by omega
  have p:=b156 (l.drop (min l.length (9*k))) n hn
  rw [show (l.drop (min l.length (9*k))).map intRow=(l.map intRow).drop (min l.length (9*k)) by simp [List.map_drop]] at p
  have m1:k+1≤maxLen:=by unfold maxLen;omega
  have m2:(k+1)*24≤140737488355328:=by omega
  have e5:List.take l.length (l.map intRow)=l.map intRow:=List.take_of_length_le (by simp)
  simp -dsimp [h,wr w9,c1,c2,e5]
  refine call_p p (by simp) (by simp) ?_
  simp -dsimp [wr w,List.range,List.range.loop,m1,m2,h,regsL_len]
  simp [regsL_succ,regRow,regS]
 ·have:k=m:=by omega
  subst this
  have:List.take k ((regsL l n k).map regRow)=(regsL l n k).map regRow:=List.take_of_length_le (by simp [regsL])
  simp -dsimp [regsL_len,this]
structure Ru where
 back:List (List Int)
 inp:List (List Int)
 ahead:List (List Int)
 out:List Int
 calls:List (Int×Int)
def ruRow (x:Ru):List PV:=[.sl 1 (x.back.map llRow),.sl 1 (x.inp.map llRow),.sl 1 (x.ahead.map llRow),.sl 1 (x.out.map intRow),.sl 2 (x.calls.map fun c=>[.int .i64 c.1,.int .i64 c.2])]
def Ru.ok (r:Ru):Prop:=r.back.length≤8∧r.inp.length≤8∧r.ahead.length≤8∧r.out.length≤8∧r.calls.length≤8
theorem b121 (l:List Ru) (hl:l.length≤1000) (h8:∀ x∈l,∀ y∈x.inp,y.length≤1000):∃ v:List Int,Best Tryz.prog 121 [.agg [.sl 5 (l.map ruRow)]] (.p (.sl 1 (v.map intRow))):=by
 obtain ⟨v,⟨x,rfl⟩,h⟩:=bestE (Q:=fun v=>∃ x:List Int,v=.sl 1 (x.map intRow)) mixed fn121 ok121 (args:=[.agg [.sl 5 (l.map ruRow)]]) (by simp) (by
  simp -dsimp [ac121]
  refine loopE l.length (fun k (y:Nat×List Int)=>⟨[(1,.ptr (1,0) 1 0 0),(3,.ref (29,y.1) 1 0 y.2.length),(4,.p (.int .i64 k))],[((1,0),.box [.p (.sl 5 (l.map ruRow))]),((29,y.1),.sl 3 1 (y.2.map intRow))]⟩) (fun k y=>y.2.length≤1000*k) (0,[]) (fun k y hk hQ=>?_) (by simp) (by simp)
  obtain ⟨c,y⟩:=y
  dsimp only at hQ
  by_cases h:k<l.length
  ·have w:R ((k:Int)+1):=⟨by omega,by omega⟩
   obtain ⟨r,er⟩:∃ r,l[k]=r:=⟨_,rfl⟩
   have h8':=h8 r (by rw [←er];simp)
   by_cases h0:r.inp=[]
   ·simp -dsimp [h,er,ruRow,h0,wr w]
    exact ⟨c,y,by omega,⟨rfl,rfl⟩,rfl,rfl⟩
   ·obtain ⟨z,zs,hz⟩:∃ z zs,r.inp=z :: zs:=by
     cases hh:r.inp with
     | nil=>exact absurd hh h0
     | cons z zs=>exact ⟨z,zs,rfl⟩
    have hzl:=h8' z (by rw [hz];simp)
    have m1:y.length+z.length≤maxLen:=by unfold maxLen;omega
    have m2:(y.length+z.length)*8≤140737488355328:=by omega
    have hp:(0:Int)<zs.length+1:=by omega
    have hyt:List.take y.length (y.map intRow)=y.map intRow:=List.take_of_length_le (by simp)
    simp -dsimp [h,er,ruRow,hz,hp,llRow,List.range,List.range.loop,m1,m2,wr w,hyt,-List.all_eq_true]
    exact ⟨c+1,y++z,by simp;omega,⟨rfl,by simp⟩,rfl,by simp⟩
  ·have:k=l.length:=by omega
   subst this
   have p:=b126 y (by omega)
   have ht:List.take y.length (y.map intRow)=y.map intRow:=List.take_of_length_le (by simp)
   simp -dsimp [ht]
   refine call_p p (by simp) (by simp) ?_
   simp -dsimp [retE]
   exact ⟨_,rfl⟩)
 exact ⟨x,h⟩
end
end Go.Abs.A30
namespace Go.Abs.A30
open Go Go.Abs Go.Proofs
set_option maxRecDepth 100000
set_option maxHeartbeats 4000000
set_option linter.unusedVariables false
def xc120e:AC:=by
 apply fun (y:AC) (_:@Eq AC (anS 26 [] [] (anF Tryz.prog 120 mu1 [] 0 0 [])) y)=>y
 conv=>lhs;reduce;dsimp
def xc120f:AC:=(fun (z0:AC)=>by
 apply fun (y:AC) (_:@Eq AC (anS 14 [⟨26,[.canC (13,0) 4 (13,4),.canC (13,0) 3 (13,3),.freeze (13,4),.freeze (13,3)],[],some z0⟩] [] (anF Tryz.prog 120 mu1 [] 0 0 [])) y)=>y
 conv=>lhs;reduce;dsimp) xc120e
def xc120d:AC:=(fun (z0:AC)=>by
 apply fun (y:AC) (_:@Eq AC (anS 13 [⟨14,[],[],some z0⟩] [] (anF Tryz.prog 120 mu1 [] 0 0 [])) y)=>y
 conv=>lhs;reduce;dsimp) xc120f
def xc120c:AC:=(fun (z0:AC)=>by
 apply fun (y:AC) (_:@Eq AC (anS 11 [⟨13,[],[],some z0⟩] [] (anF Tryz.prog 120 mu1 [] 0 0 [])) y)=>y
 conv=>lhs;reduce;dsimp) xc120d
def xc120b:AC:=(fun (z0:AC)=>by
 apply fun (y:AC) (_:@Eq AC (anS 9 [⟨11,[],[],some z0⟩] [] (anF Tryz.prog 120 mu1 [] 0 0 [])) y)=>y
 conv=>lhs;reduce;dsimp) xc120c
def xc120a:AC:=(fun (z0:AC)=>by
 apply fun (y:AC) (_:@Eq AC (anS 6 [⟨9,[],[.zslC (13,0) 0 1,.zslC (13,0) 2 1,.ownC (13,0) 3 (107,0) 3 1,.ownC (13,0) 4 (93,0) 232 2],some z0⟩] [] (anF Tryz.prog 120 mu1 [] 0 0 [])) y)=>y
 conv=>lhs;reduce;dsimp) xc120b
def ac120:AC:=(fun (z0:AC)=>by
 apply fun (y:AC) (_:@Eq AC (anD [⟨3,[],[.ownC (10,0) 0 (113,0) 230 5],none⟩,⟨6,[],[],some z0⟩,⟨28,[.canC (10,0) 0 (10,1),.freeze (10,1)],[],none⟩] (anF Tryz.prog 120 mu1 [] 0 0 [])) y)=>y
 conv=>lhs;reduce;dsimp) xc120a
theorem fn120:factOf Tryz.prog 120=some (ac120.strip,[.cell 8 true 1],116):=by kernel_rfl
theorem ok120:ac120.okAll=true:=by kernel_rfl
end Go.Abs.A30
namespace Go.Abs.A30
open Go Go.Abs Go.Proofs
set_option maxRecDepth 100000
set_option linter.unusedVariables false
set_option linter.unusedSimpArgs false
attribute [local simp ↓] awp_skip awp_seq awp_cond awp_block awp_exit awp_ret awp_reg awp_draw awp_ghost awp_loop awp_rfun awpR_nil awpR_cons awpX_nil awpX_0 awpX_1 awpX_2 awpI_eq awpI_t awpI_f awpStep_eq
attribute [local simp] condL_true condL_false condL_dec evDel evV evN evS evA initFr Ghost.app Fr.var Fr.blk Fr.ff FF.val Abs.look Fr.app Fr.erase Fr.noSlot AV.noSlot AV.noSlotL Blk.noSlot Fr.spoken AV.fz AV.fzL Blk.fz binV binI shI binS unV fillA FF.parts FF.vals headO intO boundO lenV scalarEq leavesEq AV.aggc AV.cells FF.read FF.rows AV.one PV.one chunk freshB newS pickV retK evRs evRl evR resOf mkTup mkAgg allP cloOf okP_nil okX_p okX okP addN Del.noSlot Del.owners Rnd reify_p normM insM Fr.back Fr.backV Fr.setPs normV insV
attribute [local simp] renF Fr.trim Blk.trim AV.rn AV.rnL Blk.rn AV.among AV.amongL Blk.among okF retM fixS BIG initFF
attribute [local simp] FF.reify FF.reifyL PV.flat
section
set_option maxHeartbeats 2000000
attribute [local simp ↓] oneI oneDT oneTk oneD
def cRow (c:Int×Int):List PV:=[.int .i64 c.1,.int .i64 c.2]
theorem b71x (d:Dr) (hd:d.ok) (n:Int) (s:Slot) (hn:1≤n) (hn2:n≤4611686018427387904):∃ (v:Int) (d':Dr),d'.ok∧0≤v∧v<n∧BestF Tryz.prog 71 [(s,.box [.p (.sl 1 (d.l.map intRow)),.p (.int .i64 d.a)])] [.ptr s 2 0 0,.p (.int .i64 n)] [s] (.p (.int .i64 v)) [(s,.box [.p (.sl 1 (d'.l.map intRow)),.p (.int .i64 d'.a)])]:=
 ⟨d.val n,d.nxt,hd,(d.val_bd hn).1,(d.val_bd hn).2,b71 d hd hn hn2 s⟩
theorem b71n (d:Dr) (hd:d.ok) (n:Int) (s:Slot) (hn:1≤n) (hn2:n≤4611686018427387904):∃ (v:Nat) (d':Dr),d'.ok∧(v:Int)<n∧BestF Tryz.prog 71 [(s,.box [.p (.sl 1 (d.l.map intRow)),.p (.int .i64 d.a)])] [.ptr s 2 0 0,.p (.int .i64 n)] [s] (.p (.int .i64 v)) [(s,.box [.p (.sl 1 (d'.l.map intRow)),.p (.int .i64 d'.a)])]:=by
 obtain ⟨v,d',h1,h2,h3,h4⟩:=b71x d hd n s hn hn2
 refine ⟨v.toNat,d',h1,by omega,?_⟩
 rwa [show ((v.toNat:Nat):Int)=v by omega]
def fr56 (i m g c k:Nat) (x:List Ru) (back inn ahead:List (List Int)) (d:Dr) (rest:List (Nat×AV)) (o:AV) (q:AV) (M:List (Slot×Blk)):Fr:=⟨[(1,.p (.int .i64 i)),(2,.p (.int .i64 m)),(3,.p (.int .i64 g)),(8,.ptr (8,0) 1 0 0),(9,.ptr (19,0) 2 0 0),(10,.ptr (10,0) 1 0 0),(11,.p (.int .i64 c)),(12,.p (.int .i64 k)),(13,.ptr (13,0) 5 0 0)]++rest,[((8,0),.box [.p .nsl]),((10,0),.box [.ref (113,k) 5 0 k]),((13,0),.box [.p (.sl 1 (back.map llRow)),.p (.sl 1 (inn.map llRow)),.p (.sl 1 (ahead.map llRow)),o,q]),((19,0),.box [.p (.sl 1 (d.l.map intRow)),.p (.int .i64 d.a)])]++M++[((113,k),.sl 230 5 (x.map ruRow))]⟩
attribute [local simp] fr56
def setOk (l:List (List Int)):Prop:=l.length≤3∧∀ y∈l,y.length≤3
def Ru.fine (r:Ru):Prop:=setOk r.back∧setOk r.inp∧setOk r.ahead∧r.out.length≤3∧r.calls.length≤3
theorem b120 (l:List Int) (hl:∀ x∈l,R x) (hl2:l.length≤140737488355328) (i m g:Nat) (hi:i≤1000) (hm:m≤1000) (hg:1≤g) (hg2:g≤1000) :
  ∃ x:List Ru,(x.length≤4∧∀ r∈x,r.fine)∧Best Tryz.prog 120 [.sl 1 (l.map intRow),.int .i64 i,.int .i64 m,.int .i64 g] (.p (.agg [.sl 5 (x.map ruRow)])):=by
 obtain ⟨v,⟨x,rfl,hx⟩,h⟩:=bestE (Q:=fun v=>∃ x:List Ru,v=.agg [.sl 5 (x.map ruRow)]∧(x.length≤4∧∀ r∈x,r.fine)) mixed fn120 ok120 (args:=[.sl 1 (l.map intRow),.int .i64 i,.int .i64 m,.int .i64 g]) (by simp) (by
  simp -dsimp [ac120]
  obtain ⟨c,d1,hd1,hc4,p⟩:=b71n ⟨l,0⟩ ⟨hl,hl2⟩ 4 (19,0) (by decide) (by decide)
  refine call_m p (by simp) (by simp) (by simp) ?_
  simp -dsimp
  clear p
  refine loopE c (fun k (y:List Ru×Dr)=>⟨[(1,.p (.int .i64 i)),(2,.p (.int .i64 m)),(3,.p (.int .i64 g)),(8,.ptr (8,0) 1 0 0),(9,.ptr (19,0) 2 0 0),(10,.ptr (10,0) 1 0 0),(11,.p (.int .i64 c)),(12,.p (.int .i64 k))],[((8,0),.box [.p .nsl]),((10,0),.box [.ref (113,k) 5 0 k]),((19,0),.box [.p (.sl 1 (y.2.l.map intRow)),.p (.int .i64 y.2.a)]),((113,k),.sl 230 5 (y.1.map ruRow))]⟩) (fun k y=>y.2.ok∧y.1.length=k∧∀ r∈y.1,r.fine) ([],d1) (fun k y hk hQ=>?_) ⟨hd1,rfl,by simp⟩ (by simp)
  obtain ⟨x,d⟩:=y
  obtain ⟨hd,hx,hsh⟩:=hQ
  dsimp only at hd hx hsh
  by_cases h:k<c
  ·have w:R ((k:Int)+1):=⟨by omega,by omega⟩
   simp -dsimp [xc120a,h]
   obtain ⟨v1,d1,hd1,v1l,p⟩:=b71n d hd 5 (19,0) (by decide) (by decide)
   refine call_m p (by simp) (by simp) (by simp) ?_
   simp -dsimp
   obtain ⟨v2,d2,hd2,v2l,p⟩:=b71n d1 hd1 2 (19,0) (by decide) (by decide)
   refine call_m p (by simp) (by simp) (by simp) ?_
   have hv:v1*v2≤4:=by
    have:v1*v2≤4*1:=Nat.mul_le_mul (by omega) (by omega)
    omega
   have w1:R ((v1:Int)*v2):=⟨by omega,by omega⟩
   have w2:((v1:Int)*v2).tmod 3=(v1:Int)*v2 % 3:=Int.tmod_eq_emod_of_nonneg (by omega)
   obtain ⟨n,hn⟩:∃ n:Nat,1+(v1:Int)*v2 % 3=n:=⟨1+v1*v2 % 3,by omega⟩
   have hn1:1≤n:=by omega
   have hn3:n≤3:=by omega
   have w3:R ((n:Int)):=⟨by omega,by omega⟩
   simp -dsimp [wr w1,w2,hn,wr w3]
   clear hn hv w1 w2 w3 v2l p
   obtain ⟨inn,d3,hd3,⟨hin,hin3⟩,p⟩:=b160 d2 hd2 n g (by omega) (by omega) (by omega) (19,0)
   refine call_m p (by simp) (by simp) (by simp) ?_
   simp -dsimp [↓ awpC_of xc120b]
   clear p
   -- back
   refine awpC_in (seqG1 (α:=List (List Int)×Dr) (fun y=>fr56 i m g c k x y.1 inn [] y.2 [] (.ref (107,0) 1 0 0) (.ref (93,0) 2 0 0) [((93,0),.sl 232 2 []),((107,0),.sl 3 1 [])]) (fun y=>y.2.ok∧setOk y.1) ?_ ?_)
   ·simp -dsimp
    obtain ⟨v1,d4,hd4,v1l,p⟩:=b71n d3 hd3 3 (19,0) (by decide) (by decide)
    refine call_m p (by simp) (by simp) (by simp) ?_
    simp -dsimp
    by_cases h0:v1=0
    ·simp -dsimp [h0]
     obtain ⟨v2,d5,hd5,v2l,p⟩:=b71n d4 hd4 2 (19,0) (by decide) (by decide)
     refine call_m p (by simp) (by simp) (by simp) ?_
     have w3:R (((1+v2:Nat):Int)):=⟨by omega,by omega⟩
     have w4:(1:Int)+v2=((1+v2:Nat):Int):=by omega
     rw [←w4] at w3
     simp -dsimp [wr w3]
     obtain ⟨y,d6,hd6,⟨hy,hy3⟩,p⟩:=b160 d5 hd5 (1+v2) g (by omega) (by omega) (by omega) (19,0)
     rw [←w4] at p
     refine call_m p (by simp) (by simp) (by simp) ?_
     simp -dsimp [fr56]
     exact ⟨y,d6,⟨hd6,by omega,hy3⟩,by simp⟩
    ·simp -dsimp [h0,fr56]
     exact ⟨[],d4,⟨hd4,by simp [setOk]⟩,by simp⟩
   ·rintro ⟨back,d4⟩ ⟨hd4,hbk⟩
    dsimp only at hd4 hbk ⊢
    -- ahead
    refine seqG1 (α:=List (List Int)×Dr) (fun y=>fr56 i m g c k x back inn y.1 y.2 [] (.ref (107,0) 1 0 0) (.ref (93,0) 2 0 0) [((93,0),.sl 232 2 []),((107,0),.sl 3 1 [])]) (fun y=>y.2.ok∧setOk y.1) ?_ ?_
    ·simp -dsimp [fr56]
     obtain ⟨v1,d5,hd5,v1l,p⟩:=b71n d4 hd4 3 (19,0) (by decide) (by decide)
     refine call_m p (by simp) (by simp) (by simp) ?_
     simp -dsimp
     by_cases h0:v1=0
     ·simp -dsimp [h0]
      obtain ⟨v2,d6,hd6,v2l,p⟩:=b71n d5 hd5 2 (19,0) (by decide) (by decide)
      refine call_m p (by simp) (by simp) (by simp) ?_
      have w3:R (((1+v2:Nat):Int)):=⟨by omega,by omega⟩
      have w4:(1:Int)+v2=((1+v2:Nat):Int):=by omega
      rw [←w4] at w3
      simp -dsimp [wr w3]
      obtain ⟨y,d7,hd7,⟨hy,hy3⟩,p⟩:=b160 d6 hd6 (1+v2) g (by omega) (by omega) (by omega) (19,0)
      rw [←w4] at p
      refine call_m p (by simp) (by simp) (by simp) ?_
      simp -dsimp
      exact ⟨y,d7,⟨hd7,by omega,hy3⟩,by simp⟩
     ·simp -dsimp [h0]
      exact ⟨[],d5,⟨hd5,by simp [setOk]⟩,by simp⟩
    rintro ⟨ahead,d5⟩ ⟨hd5,hah⟩
    dsimp only at hd5 hah ⊢
    simp -dsimp [xc120d,fr56,↓ awpC_of xc120f]
    obtain ⟨u,d6,hd6,u4,p⟩:=b71n d5 hd5 4 (19,0) (by decide) (by decide)
    refine call_m p (by simp) (by simp) (by simp) ?_
    simp -dsimp [↓ awpC_of xc120f]
    refine awpC_in (seqG5 (α:=(List Int×List (Int×Int))×Dr) (fun y=>fr56 i m g c k x back inn ahead y.2 [] (.p (.sl 1 (y.1.1.map intRow))) (.p (.sl 2 (y.1.2.map cRow))) []) (fun y=>y.2.ok∧y.1.1.length≤3∧y.1.2.length≤3) ?_ ?_)
    ·have ww:R ((i:Int)+1):=⟨by omega,by omega⟩
     by_cases hi1:i+1<m
     ·have hi1':(i:Int)+1<m:=by omega
      simp -dsimp [wr ww,hi1']
      obtain ⟨z,d7,hd7,z2,p⟩:=b71n d6 hd6 2 (19,0) (by decide) (by decide)
      refine call_m p (by simp) (by simp) (by simp) ?_
      simp -dsimp
      by_cases h0:z=0
      ·simp -dsimp [h0]
       obtain ⟨e,he⟩:∃ e:Nat,(u:Int) % 2=e:=⟨u % 2,by omega⟩
       have he':(u:Int).tmod 2=e:=by rw [Int.tmod_eq_emod_of_nonneg (by omega),he]
       refine loopE (e+1) (fun j (y:List (Int×Int)×Dr)=>fr56 i m g c k x back inn ahead y.2 [(14,.p (.int .i64 u)),(15,.p (.int .i64 j))] (.ref (107,0) 1 0 0) (.ref (93,j) 2 0 j) [((93,j),.sl 232 2 (y.1.map cRow)),((107,0),.sl 3 1 [])]) (fun j y=>y.2.ok∧y.1.length=j) ([],d7) (fun j y hj hQ=>?_) ⟨hd7,rfl⟩ (by simp)
       obtain ⟨y,d8⟩:=y
       obtain ⟨hd8,hy⟩:=hQ
       dsimp only at hd8 hy
       by_cases hje:j<e+1
       ·have wj:R ((j:Int)+1):=⟨by omega,by omega⟩
        have hje':(j:Int)≤e:=by omega
        simp -dsimp [hje,hje',he,he']
        obtain ⟨q1,d9,hd9,q1l,p⟩:=b71n d8 hd8 inn.length (19,0) (by omega) (by omega)
        refine call_m p (by simp) (by simp) (by simp) ?_
        have q2:R ((m:Int) - i):=⟨by omega,by omega⟩
        have q3:R ((m:Int) - i - 1):=⟨by omega,by omega⟩
        simp -dsimp [wr ww,wr q2,wr q3]
        obtain ⟨q4,d10,hd10,q4l,p⟩:=b71n d9 hd9 ((m:Int) - i - 1) (19,0) (by omega) (by omega)
        refine call_m p (by simp) (by simp) (by simp) ?_
        have q5:R ((i:Int)+1+q4):=⟨by omega,by omega⟩
        have m1:y.length+1≤maxLen:=by unfold maxLen;omega
        have m2:(y.length+1)*16≤140737488355328:=by omega
        subst hy
        simp -dsimp [wr q5,wr wj,List.range,List.range.loop,m1,m2,hje]
        exact ⟨y++[((q1:Int),(i:Int)+1+q4)],d10,⟨hd10,by simp⟩,⟨rfl,rfl⟩,by simp [cRow]⟩
       ·have:j=e+1:=by omega
        subst this
        have hje':¬((e:Int)+1≤e):=by omega
        have ht:List.take (e+1) (y.map cRow)=y.map cRow:=List.take_of_length_le (by simp;omega)
        simp -dsimp [he,he',hje',hy,ht]
        exact ⟨[],y,d8,⟨hd8,by simp,by omega⟩,by simp⟩
      ·simp -dsimp [h0]
       refine loopE u (fun j (y:List Int×Dr)=>fr56 i m g c k x back inn ahead y.2 [(14,.p (.int .i64 u)),(16,.p (.int .i64 j))] (.ref (107,j) 1 0 j) (.ref (93,0) 2 0 0) [((93,0),.sl 232 2 []),((107,j),.sl 3 1 (y.1.map intRow))]) (fun j y=>y.2.ok∧y.1.length=j) ([],d7) (fun j y hj hQ=>?_) ⟨hd7,rfl⟩ (by simp)
       obtain ⟨y,d8⟩:=y
       obtain ⟨hd8,hy⟩:=hQ
       dsimp only at hd8 hy
       by_cases hje:j<u
       ·have wj:R ((j:Int)+1):=⟨by omega,by omega⟩
        simp -dsimp [hje]
        obtain ⟨q1,d9,hd9,q1l,p⟩:=b71n d8 hd8 (min (g:Int) 8) (19,0) (by omega) (by omega)
        refine call_m p (by simp) (by simp) (by simp) ?_
        have m1:y.length+1≤maxLen:=by unfold maxLen;omega
        have m2:(y.length+1)*8≤140737488355328:=by omega
        subst hy
        simp -dsimp [wr wj,List.range,List.range.loop,m1,m2,hje]
        exact ⟨y++[(q1:Int)],d9,⟨hd9,by simp⟩,⟨rfl,rfl⟩,by simp [intRow]⟩
       ·have:j=u:=by omega
        subst this
        have ht:List.take j (y.map intRow)=y.map intRow:=List.take_of_length_le (by simp;omega)
        simp -dsimp [hje,hy,ht]
        exact ⟨y,[],d8,⟨hd8,by omega,by simp⟩,by simp⟩
     ·have hi1':¬(i:Int)+1<m:=by omega
      simp -dsimp [wr ww,hi1']
      refine loopE u (fun j (y:List Int×Dr)=>fr56 i m g c k x back inn ahead y.2 [(14,.p (.int .i64 u)),(16,.p (.int .i64 j))] (.ref (107,j) 1 0 j) (.ref (93,0) 2 0 0) [((93,0),.sl 232 2 []),((107,j),.sl 3 1 (y.1.map intRow))]) (fun j y=>y.2.ok∧y.1.length=j) ([],d6) (fun j y hj hQ=>?_) ⟨hd6,rfl⟩ (by simp)
      obtain ⟨y,d8⟩:=y
      obtain ⟨hd8,hy⟩:=hQ
      dsimp only at hd8 hy
      by_cases hje:j<u
      ·have wj:R ((j:Int)+1):=⟨by omega,by omega⟩
       simp -dsimp [hje]
       obtain ⟨q1,d9,hd9,q1l,p⟩:=b71n d8 hd8 (min (g:Int) 8) (19,0) (by omega) (by omega)
       refine call_m p (by simp) (by simp) (by simp) ?_
       have m1:y.length+1≤maxLen:=by unfold maxLen;omega
       have m2:(y.length+1)*8≤140737488355328:=by omega
       subst hy
       simp -dsimp [wr wj,List.range,List.range.loop,m1,m2,hje]
       exact ⟨y++[(q1:Int)],d9,⟨hd9,by simp⟩,⟨rfl,rfl⟩,by simp [intRow]⟩
      ·have:j=u:=by omega
       subst this
       have ht:List.take j (y.map intRow)=y.map intRow:=List.take_of_length_le (by simp;omega)
       simp -dsimp [hje,hy,ht]
       exact ⟨y,[],d8,⟨hd8,by omega,by simp⟩,by simp⟩
    ·rintro ⟨⟨out,calls⟩,d7⟩ ⟨hd7,ho3,hc3⟩
     dsimp only at hd7 ho3 hc3 ⊢
     have m1:x.length+1≤maxLen:=by unfold maxLen;omega
     have m2:(x.length+1)*120≤140737488355328:=by omega
     subst hx
     simp -dsimp [xc120e,wr w,m1,m2,h]
     refine ⟨x++[⟨back,inn,ahead,out,calls⟩],d7,⟨hd7,by simp,fun r hr=>?_⟩,⟨rfl,rfl⟩,by simp [ruRow,cRow]⟩
     rcases List.mem_append.1 hr with h1 | h1
     ·exact hsh r h1
     ·rw [List.mem_singleton.1 h1];exact ⟨hbk,⟨by dsimp only;omega,hin3⟩,hah,ho3,hc3⟩
  ·have:k=c:=by omega
   subst this
   have ht:List.take k (x.map ruRow)=x.map ruRow:=List.take_of_length_le (by simp;omega)
   simp -dsimp [xc120a,hx,ht,retE]
   refine ⟨x,rfl,by omega,fun r hr=>hsh r hr⟩)
 exact ⟨x,hx,h⟩
end
section
def conRow (x:List (Int×Int×Bool)):List PV:=[.sl 3 (x.map fun y=>[.int .i64 y.1,.int .i64 y.2.1,.bool y.2.2])]
def i3Row (x:Int×Int×Int):List PV:=[.int .i64 x.1,.int .i64 x.2.1,.int .i64 x.2.2]
def pointsN (con:List (List (Int×Int×Bool))) (an:List (Int×Int×Int)):Nat:=an.length+1+(con.map List.length).sum
theorem b159t (con:List (List (Int×Int×Bool))) (an:List (Int×Int×Int)) (h1:con.length≤1000) (h2:∀ x∈con,x.length≤1000) (h3:an.length≤1000) :
  BestF Tryz.prog 159 [] [.agg [.p (.sl 1 (con.map conRow)),.p (.sl 3 (an.map i3Row)),.top,.top,.top,.top,.top,.top]] [] (.p (.int .i64 (pointsN con an))) []:=by
 refine bestF mixed fn159 ok159 (by simp) (by simp) ?_
 have w0:R ((an.length:Int)+1):=⟨by omega,by omega⟩
 have hb:∀ k,((con.take k).map List.length).sum≤1000*k:=by
  intro k
  induction k with
  | zero=>simp
  | succ k ih=>
   by_cases hk:k<con.length
   ·have e:=h2 con[k] (by simp)
    have e2:((con.take (k+1)).map List.length).sum=((con.take k).map List.length).sum+con[k].length:=by
     rw [List.take_add_one,List.getElem?_eq_getElem hk];simp only [Option.toList,List.map_append,List.sum_append,List.map_cons,List.map_nil,List.sum_cons,List.sum_nil];omega
    omega
   ·rw [List.take_of_length_le (by omega)] at ih ⊢;omega
 simp -dsimp [ac159,wr w0]
 refine loopC con.length (fun k=>⟨[(1,.ptr (1,0) 8 0 0),(3,.p (.int .i64 ((an.length+1+((con.take k).map List.length).sum:Nat)))),(4,.p (.int .i64 k))],[((1,0),.box [.p (.sl 1 (con.map conRow)),.p (.sl 3 (an.map i3Row)),.top,.top,.top,.top,.top,.top])]⟩) (fun _=>True) (fun k hk _=>?_) trivial (by simp)
 by_cases h:k<con.length
 ·obtain ⟨x,ex⟩:∃ x,con[k]=x:=⟨_,rfl⟩
  have w:R ((k:Int)+1):=⟨by omega,by omega⟩
  have hx:=h2 x (by rw [←ex];simp)
  have hs:((con.take (k+1)).map List.length).sum=((con.take k).map List.length).sum+x.length:=by
   rw [List.take_add_one,List.getElem?_eq_getElem h,ex];simp only [Option.toList,List.map_append,List.sum_append,List.map_cons,List.map_nil,List.sum_cons,List.sum_nil];omega
  have hbk:=hb k
  rw [hs]
  generalize ((con.take k).map List.length).sum=z at *
  have w2:R ((an.length:Int)+1+z+x.length):=⟨by omega,by omega⟩
  simp -dsimp [h,ex,conRow,wr w2,wr w]
  omega
 ·have:k=con.length:=by omega
  subst this
  simp -dsimp [retF,pointsN]
theorem pagg_tops {a b c d e f g h:PV}:WkL [.p (.agg [a,b,c,d,e,f,g,h])] [.agg [.p a,.p b,.top,.top,.top,.top,.top,.top]]:=
 .cons (.pagg (.cons (.refl _) (.cons (.refl _) (.cons (.top _) (.cons (.top _) (.cons (.top _) (.cons (.top _) (.cons (.top _) (.cons (.top _) .nil))))))))) .nil
theorem b159 (con:List (List (Int×Int×Bool))) (an:List (Int×Int×Int)) (c d e f g h:PV) (h1:con.length≤1000) (h2:∀ x∈con,x.length≤1000) (h3:an.length≤1000) :
  Best Tryz.prog 159 [.agg [.sl 1 (con.map conRow),.sl 3 (an.map i3Row),c,d,e,f,g,h]] (.p (.int .i64 (pointsN con an))):=
 BestF.pure (BestF.args (b159t con an h1 h2 h3) pagg_tops)
end
end Go.Abs.A30
namespace Go.Abs.A30
open Go Go.Abs Go.Proofs
set_option maxRecDepth 100000
set_option maxHeartbeats 4000000
set_option linter.unusedVariables false
def xc192b:AC:=by
 apply fun (y:AC) (_:@Eq AC (anS 8 [] [] (anF Tryz.prog 192 mu1 [1000000,1000001,1000002,1000003,1000004,1000005] 63 0 [2])) y)=>y
 conv=>lhs;reduce;dsimp
def ac192:AC:=(fun (z0:AC)=>by
 apply fun (y:AC) (_:@Eq AC (anD [⟨2,[],[.ownC (7,0) 2 (45,0) 26 2],none⟩,⟨8,[],[],some z0⟩,⟨12,[.canC (7,0) 2 (7,1),.freeze (7,1)],[],none⟩] (anF Tryz.prog 192 mu1 [1000000,1000001,1000002,1000003,1000004,1000005] 63 0 [2])) y)=>y
 conv=>lhs;reduce;dsimp) xc192b
theorem fn192:factOf Tryz.prog 192=some (ac192.strip,[.cell 6 true 3],48):=by kernel_rfl
theorem ok192:ac192.okAll=true:=by kernel_rfl
def xc157d:AC:=by
 apply fun (y:AC) (_:@Eq AC (anS 33 [] [] (anF Tryz.prog 157 mu1 [] 0 0 [])) y)=>y
 conv=>lhs;reduce;dsimp
def xc157c:AC:=(fun (z0:AC)=>by
 apply fun (y:AC) (_:@Eq AC (anS 29 [⟨33,[],[],some z0⟩,⟨38,[.canC (6,0) 6 (6,1),.freeze (6,1)],[],none⟩] [] (anF Tryz.prog 157 mu1 [] 0 0 [])) y)=>y
 conv=>lhs;reduce;dsimp) xc157d
def xc157b:AC:=(fun (z0:AC)=>by
 apply fun (y:AC) (_:@Eq AC (anS 21 [⟨29,[.canC (6,0) 1 (6,1),.freeze (6,1)],[],some z0⟩] [] (anF Tryz.prog 157 mu1 [] 0 0 [])) y)=>y
 conv=>lhs;reduce;dsimp) xc157c
def xc157a:AC:=(fun (z0:AC)=>by
 apply fun (y:AC) (_:@Eq AC (anS 3 [⟨19,[.canV 9 (9,1),.freeze (9,1)],[],none⟩,⟨21,[.canC (6,0) 0 (6,1),.freeze (6,1)],[],some z0⟩] [.zslC (6,0) 7 2,.ownC (6,0) 6 (127,0) 264 3,.ownC (6,0) 1 (90,0) 219 3,.ownC (6,0) 0 (65,0) 260 1] (anF Tryz.prog 157 mu1 [] 0 0 [])) y)=>y
 conv=>lhs;reduce;dsimp) xc157b
def ac157:AC:=(fun (z0:AC)=>by
 apply fun (y:AC) (_:@Eq AC (anD [⟨3,[],[],some z0⟩] (anF Tryz.prog 157 mu1 [] 0 0 [])) y)=>y
 conv=>lhs;reduce;dsimp) xc157a
theorem fn157:factOf Tryz.prog 157=some (ac157.strip,[.cell 4 true 8],130):=by kernel_rfl
theorem ok157:ac157.okAll=true:=by kernel_rfl
end Go.Abs.A30
