/- A part of the proof: an abstract reading of the model, contracts of functions. -/
import Derived.Test.YtlkbeomimbohlaaGreatL3x2
set_option linter.unusedVariables false
set_option linter.unusedSimpArgs false
namespace Go.Abs.A30
open Go Go.Abs Go.Proofs
set_option maxRecDepth 100000
set_option linter.unusedVariables false
set_option linter.unusedSimpArgs false
attribute [local simp ↓] awp_skip awp_seq awp_cond awp_block awp_exit awp_ret awp_reg awp_draw awp_ghost awp_loop awp_rfun awpR_nil awpR_cons awpX_nil awpX_0 awpX_1 awpX_2 awpI_eq awpI_t awpI_f awpStep_eq
attribute [local simp] condL_true condL_false condL_dec evDel evV evN evS evA initFr Ghost.app Fr.var Fr.blk Fr.ff FF.val Abs.look Fr.app Fr.erase Fr.noSlot AV.noSlot AV.noSlotL Blk.noSlot Fr.spoken AV.fz AV.fzL Blk.fz binV binI shI binS unV fillA FF.parts FF.vals headO intO boundO lenV scalarEq leavesEq AV.aggc AV.cells FF.read FF.rows AV.one PV.one chunk freshB newS pickV retK evRs evRl evR resOf mkTup mkAgg allP cloOf okP_nil okX_p okX okP addN Del.noSlot Del.owners Rnd reify_p normM insM Fr.back Fr.backV Fr.setPs normV insV
attribute [local simp] renF Fr.trim Blk.trim AV.rn AV.rnL Blk.rn AV.among AV.amongL Blk.among okF retM fixS BIG initFF
attribute [local simp] FF.reify FF.reifyL PV.flat
section
attribute [local simp ↓] awp_scope awp_label
set_option maxHeartbeats 1000000
attribute [local simp] evC
attribute [local simp ↓] oneI oneS oneSS oneK oneF oneC oneLl
theorem b30 (fs:List Fnt) (hf:fs.length≤3):Bt 30 [.sl 11 (fs.map fRow)] (.p (.sl 9 ((fs.map (·.1)).map corRow))):=by
 refine best mixed fn30 ok30 (by simp) ?_;simp -dsimp [ac30];refine loopC fs.length (fun k=>⟨[(0,.p (.sl 11 (fs.map fRow))),(3,.ref (18,k) 9 0 k),(4,.p (.int .i64 k))],[((18,k),.sl 53 9 (((fs.take k).map (·.1)).map corRow))]⟩) (fun _=>True) (fun k hk _=>?_) trivial (by simp)
 by_cases h:k<fs.length
 ·obtain ⟨⟨⟨nm,ver,ax,rg,gl,ch,pr,hd,rt⟩,ls,gs⟩,ex⟩:=gn fs[k];have wk:R ((k:Int)+1):=rO (by omega);have m1:k+1≤maxLen:=by unfold maxLen;omega
  have m2:(k+1)*168≤140737488355328:=by omega
  have hl:min k fs.length=k:=by omega
  have hs:fs.take (k+1)=fs.take k++[(⟨nm,ver,ax,rg,gl,ch,pr,hd,rt⟩,ls,gs)]:=by
   rw [List.take_add_one,List.getElem?_eq_getElem h,ex];rfl
  have hall:((((fs.take k).map (·.1)).map corRow).all fun r=>r.all PV.one)=true:=oneC _;simp only [List.map_map] at hall;simp -dsimp [h,ex,fRow,fntRow,wr wk,m1,m2,hl,hs,List.range,List.range.loop,corRow,hall,-List.all_eq_true,-List.map_take]
 ·have:k=fs.length:=by omega
  subst this;have ht:List.take fs.length (fs.map (corRow ∘ fun x=>x.1))=fs.map (corRow ∘ fun x=>x.1):=List.take_of_length_le (by simp);simp -dsimp [h,ht]
theorem ba_app (a b:List UInt8):ba a++ba b=ba (a++b):=by
 apply ByteArray.ext
 simp [ba,ByteArray.data_append]
def Dr.okm (d:Dr):Prop:=(∀ x∈d.l,R x)∧d.l.length≤9223372036854775807
theorem b71m (d:Dr) (hd:d.okm) {n:Int} (hn:1≤n) (hn2:n≤4611686018427387904) (s:Slot):BestF Tryz.prog 71 [(s,.box [.p (.sl 1 (d.l.map intRow)),.p (.int .i64 d.a)])] [.ptr s 2 0 0,.p (.int .i64 n)] [s] (.p (.int .i64 (d.val n))) [(s,.box [.p (.sl 1 (d.nxt.l.map intRow)),.p (.int .i64 d.nxt.a)])]:=by
 refine BestF.one (k:=.box d.cells) (k':=.box d.nxt.cells) (v:=.p (.int .i64 (d.val n))) (args:=[.ptr (BIG,0) 2 0 0,.p (.int .i64 n)]) ?_ s rfl rfl;refine bestF mixed fn71 ok71 (by simp) (by simp) ?_;obtain ⟨l,a⟩:=d;obtain ⟨h1,h2⟩:=hd;dsimp only at h1 h2
 by_cases h:a<l.length
 ·have hi:¬((l.length:Int)≤a):=by omega
  have w:R ((a:Int)+1):=rO (by omega);obtain ⟨x,ex⟩:=gn l[a];have hx:=h1 x (by rw [←ex];simp);have p:=b123 (n:=x) (m:=n) hx hn hn2;have hv:Dr.val ⟨l,a⟩ n=x % n:=by unfold Dr.val;dsimp only;rw [List.getElem?_eq_getElem h,ex]
  have e1:(a:Int)+1 - 1=a:=by omega
  have wa:R (a:Int):=rO (by omega);have hli:¬l.length≤a:=by omega
  simp -dsimp [ac71,Dr.cells,Dr.nxt,hi,hli,wr w,e1,wr wa,h,ex,intRow,hv];refine call_p p rfl (by simp) ?_;simp -dsimp [retF]
 ·have hi:(l.length:Int)≤a:=by omega
  have hli:l.length≤a:=by omega
  have hv:Dr.val ⟨l,a⟩ n=0:=by unfold Dr.val;dsimp only;rw [List.getElem?_eq_none (by omega)]
  simp -dsimp [ac71,Dr.cells,Dr.nxt,hi,hli,h,hv,retF]
theorem b71nm (d:Dr) (hd:d.okm) (n:Int) (s:Slot) (hn:1≤n) (hn2:n≤4611686018427387904):∃ (v:Nat) (d':Dr),d'.okm∧(v:Int)<n∧BestF Tryz.prog 71 [(s,.box [.p (.sl 1 (d.l.map intRow)),.p (.int .i64 d.a)])] [.ptr s 2 0 0,.p (.int .i64 n)] [s] (.p (.int .i64 v)) [(s,.box [.p (.sl 1 (d'.l.map intRow)),.p (.int .i64 d'.a)])]:=by
 have h1:=d.val_bd hn;have h2:=b71m d hd hn hn2 s;refine ⟨(d.val n).toNat,d.nxt,hd,by omega,?_⟩
 rwa [show (((d.val n).toNat:Nat):Int)=d.val n by omega]
theorem b72 (l:List Int) (hl:l.length≤9223372036854775807):∃ t:List UInt8,t.length≤12∧Bt 72 [.sl 1 (l.map intRow)] (.p (.str (ba t))):=by
 obtain ⟨v,⟨t,rfl,ht⟩,hb⟩:=bestE (Q:=fun v=>∃ t:List UInt8,v=.str (ba t)∧t.length≤12) mixed fn72 ok72 (args:=[.sl 1 (l.map intRow)]) (by simp) (by
  simp -dsimp [ac72];refine loopE (min l.length 12) (fun k (t:List UInt8)=>⟨[(0,.p (.sl 1 (l.map intRow))),(3,.p (.str (ba t))),(4,.p (.int .i64 k))],[]⟩) (fun k t=>t.length=k) [] (fun k t hk ht=>?_) rfl (by simp [ba])
  by_cases h1:k<l.length
  ·by_cases h2:k<12
   ·have h2':(k:Int)<12:=by omega
    have wk:R ((k:Int)+1):=rO (by omega);obtain ⟨x,ex⟩:=gn l[k];obtain ⟨n,hn⟩:∃ n:Nat,andS x=n:=⟨_,rfl⟩;have hw:IntKind.i64.wrap (((x % 2 ^ IntKind.i64.bits).toNat &&& 65535 % 2 ^ IntKind.i64.bits:Nat):Int)=n:=by rw [←hn];exact and_wrap x
    have hn20:(n:Int).tmod 20=((n % 20:Nat):Int):=rfl;obtain ⟨b,eb⟩:=pool_get (k:=n % 20) (by omega);obtain ⟨m,em⟩:=gn (n % 20);rw [em] at hn20 eb;have hz:(ba t).size+1≤9223372036854775807:=by rw [ba_size];omega
    obtain ⟨q,eq⟩:=gn ((n:Int).fdiv (2 ^ min 10 IntKind.i64.bits));have sb:∀ u:Int,strB [u]=ba [UInt8.ofNat u.toNat]:=fun u=>rfl
    have lim:(ba t).size+1≤9223372036854775807:=hz;have l1:∀ u,(ba [u]).size=1:=fun u=>rfl
    have lim2:t.length+1≤9223372036854775807:=by omega
    by_cases q1:q=63
    ·simp -dsimp [h1,h2',ex,intRow,hw,hn20,eb,eq,q1,bytesO,sb,ba_app,ba_size,lim2,wr wk,List.range,List.range.loop];exact ⟨by omega,t++[_],by simp [ht],rfl⟩
    ·by_cases q2:q=62
     ·simp -dsimp [h1,h2',ex,intRow,hw,hn20,eb,eq,q2,bytesO,sb,ba_app,ba_size,lim2,wr wk,List.range,List.range.loop];exact ⟨by omega,t++[_],by simp [ht],rfl⟩
     ·simp -dsimp [h1,h2',ex,intRow,hw,hn20,eb,eq,q1,q2,bytesO,sb,ba_app,ba_size,lim2,wr wk,List.range,List.range.loop];exact ⟨by omega,t++[_],by simp [ht],rfl⟩
   ·have:k=12:=by omega
    subst this;have h3:(12:Int)<l.length:=by omega
    simp -dsimp [h1,h3,retE];exact ⟨t,rfl,by omega⟩
  ·simp -dsimp [h1,retE];exact ⟨t,rfl,by omega⟩)
 exact ⟨t,ht,hb⟩
theorem b73 (l:List Int) (hl:∀ x∈l,R x) (hl2:l.length≤9223372036854775807):∃ s:Stg,(fitN s=true∧s.at_.length≤2)∧Bt 73 [.sl 1 (l.map intRow)] (.p (.agg (stgRow s))):=by
 obtain ⟨v1,d1,hd1,l1,p1⟩:=b71nm ⟨l,0⟩ ⟨hl,hl2⟩ 13 (8,0) (by decide) (by decide);obtain ⟨v2,d2,hd2,l2,p2⟩:=b71nm d1 hd1 4 (8,0) (by decide) (by decide);obtain ⟨v3,d3,hd3,l3,p3⟩:=b71nm d2 hd2 3 (8,0) (by decide) (by decide);obtain ⟨ft,eft⟩:∃ ft:Int,([[PV.int .i64 0],[PV.int .i64 32],[PV.int .i64 96],[PV.int .i64 1023]]:List (List PV))[v2]?=some [PV.int .i64 ft]:=by
  have:v2=0∨v2=1∨v2=2∨v2=3:=by omega
  rcases this with rfl | rfl | rfl | rfl<;>exact ⟨_,rfl⟩
 obtain ⟨a,ea⟩:∃ a:Nat,min (l.length:Int) 3=a:=⟨min l.length 3,by omega⟩;have hal:a≤l.length:=by omega
 have h2':(v2:Int)<4:=l2;have q:=b124 (l.drop a) v3 (by omega);have w1:R (4+(v1:Int)):=rO (by omega);have fit:fitN ⟨4+v1,madeAt (l.drop a) v3,ft⟩=true:=by
  have h1:(4:Int)≤4+v1:=by omega
  have h2:4+(v1:Int)≤32:=by omega
  have h3:CL (madeAt (l.drop a) v3):=⟨by simp [madeAt];omega,fun n hn=>by
   simp only [madeAt] at hn;obtain ⟨k,_,rfl⟩:=List.mem_map.1 hn
   have:=atS_bd (l.drop a) k;exact ⟨by omega,by omega⟩⟩
  simp [fitN,h1,h2,h3]
 refine ⟨⟨4+v1,madeAt (l.drop a) v3,ft⟩,⟨fit,by simp [madeAt];omega⟩,best mixed fn73 ok73 (by simp) ?_⟩;simp -dsimp [ac73];refine call_m p1 (by simp) (by simp) (by simp) ?_;simp -dsimp [wr w1,List.range,List.range.loop];refine call_m p2 (by simp) (by simp) (by simp) ?_;simp -dsimp [h2',eft,List.range,List.range.loop];refine call_m p3 (by simp) (by simp) (by simp) ?_;simp -dsimp [ea,hal];have hty:List.take l.length (l.map intRow)=l.map intRow:=List.take_of_length_le (by simp);refine call_p q (by simp [List.map_drop,hty]) (by simp) ?_;simp -dsimp [stgRow]
structure Par where
 t:List UInt8
 s:Stg
def parRow (p:Par):List PV:=[.str (ba p.t),.int .i64 p.s.size,.sl 1 (p.s.at_.map intRow),.int .i64 p.s.feat]
def pinRow (c:Cor):List PV:=[.str c.nm,.int .i64 c.ver,.str c.rt]
theorem onePa (l:List Par):((l.map parRow).all fun r=>r.all PV.one)=true:=by
 rw [List.all_eq_true];intro r hr;obtain ⟨u,_,rfl⟩:=List.mem_map.1 hr;rfl
theorem onePi (l:List Cor):((l.map pinRow).all fun r=>r.all PV.one)=true:=by
 rw [List.all_eq_true];intro r hr;obtain ⟨u,_,rfl⟩:=List.mem_map.1 hr;rfl
attribute [local simp ↓] onePa onePi
def docRow (w:Int) (cs:List Cor) (ps:List Par):List PV:=[.int .i64 w,.sl 3 (cs.map pinRow),.sl 4 (ps.map parRow)]
def Par.ok (p:Par):Prop:=p.t.length≤12∧fitN p.s=true∧p.s.at_.length≤2
def ParsOk (l:List Par):Prop:=l.length≤3∧∀ p∈l,p.ok
def K32 (cs:List Cor):AE→Fr→Prop:=retE [.cell 4 true 3] (fun v=>∃ (w:Int) (ps:List Par),v=.agg (docRow w cs ps)∧(12≤w∧w<72∧ParsOk ps))
theorem x32c (l:List (List Int)) (hl:l.length≤4) (hR:∀ x∈l,x.length≤9223372036854775807∧∀ n∈x,R n) (cs:List Cor) (hc:cs.length≤3) (q:List Int) (hq:q.length≤9223372036854775807∧∀ n∈q,R n) (w:Int) (hw:12≤w∧w<72) :
  awp Tryz.prog xc32c (K32 cs) ⟨[(0,.p (.sl 1 (l.map llRow))),(4,.ptr (4,0) 3 0 0),(5,.p (.sl 1 (q.map intRow))),(7,.ptr (7,0) 3 0 0)],
   [((78,0),.sl 41 4 []),((4,0),.box [.p (.int .i64 0),.p .nsl,.p .nsl]),((7,0),.box [.p (.int .i64 w),.ref (48,cs.length) 3 0 cs.length,.ref (78,0) 4 0 0]),((48,cs.length),.sl 143 3 (cs.map pinRow))]⟩:=by
 simp -dsimp [xc32c];refine loopE (min (l.length - 1) 3) (fun j (z:Nat×List Par)=>⟨[(0,.p (.sl 1 (l.map llRow))),(4,.ptr (4,0) 3 0 0),(5,.p (.sl 1 (q.map intRow))),(7,.ptr (7,0) 3 0 0),(9,.p (.int .i64 z.1))],
   [((4,0),.box [.p (.int .i64 0),.p .nsl,.p .nsl]),((7,0),.box [.p (.int .i64 w),.ref (48,cs.length) 3 0 cs.length,.ref (78,j) 4 0 j]),((48,cs.length),.sl 143 3 (cs.map pinRow)),((78,j),.sl 41 4 (z.2.map parRow))]⟩) (fun j z=>z.1=j+1∧z.2.length=j∧∀ p∈z.2,p.ok) (1,[]) (fun j z hj hz=>?_) ⟨rfl,rfl,by simp⟩ (by simp)
 obtain ⟨a,z⟩:=z;obtain ⟨ha,hz1,hz2⟩:=hz;dsimp only at ha hz1 hz2;have ht1:List.take cs.length (cs.map pinRow)=cs.map pinRow:=List.take_of_length_le (by simp)
 have ht2:List.take j (z.map parRow)=z.map parRow:=List.take_of_length_le (by simp;omega)
 by_cases h1:a<l.length
 ·have h1':(a:Int)<l.length:=by omega
  by_cases h2:a<4
  ·have h2':(a:Int)<4:=by omega
   have wa:R ((a:Int)+1):=rO (by omega);have w6:R (6*(a:Int)):=rO (by omega);have w7:R (6*(a:Int) - 5):=rO (by omega);obtain ⟨x,ex⟩:=gn l[a];obtain ⟨hx1,hx2⟩:=hR x (by rw [←ex];simp);obtain ⟨t,ht,q1⟩:=b72 x hx1;obtain ⟨m,em⟩:∃ m:Nat,min (q.length:Int) (6*(a:Int) - 5)=m:=⟨min q.length (6*a - 5),by omega⟩;have hm:m≤q.length:=by omega
   obtain ⟨s,⟨hs1,hs2⟩,q2⟩:=b73 (q.drop m) (fun x hx=>hq.2 x (List.mem_of_mem_drop hx)) (by simp;omega);have hty:List.take q.length (q.map intRow)=q.map intRow:=List.take_of_length_le (by simp);have m1:j+1≤maxLen:=by unfold maxLen;omega
   have m2:(j+1)*56≤140737488355328:=by omega
   simp -dsimp [h1,h1',h2',ex,llRow];refine cP q1 ?_;simp -dsimp [wr w6,wr w7,em,hm];refine call_p q2 (by simp [List.map_drop,hty]) (by simp) ?_;simp -dsimp [stgRow,hz1,m1,m2,wr wa,List.range,List.range.loop];refine ⟨by omega,a+1,z++[⟨t,s⟩],⟨by omega,by simp [hz1],fun p hp=>?_⟩,by omega,by simp [parRow]⟩;rcases List.mem_append.1 hp with g | g
   ·exact hz2 p g
   ·rw [List.mem_singleton.1 g];exact ⟨ht,hs1,hs2⟩
  ·have h2':¬(a:Int)<4:=by omega
   simp -dsimp [h1,h1',h2',K32,retE,ht1,ht2,hz1];exact ⟨w,z,rfl,hw.1,hw.2,by omega,hz2⟩
 ·have h1':¬(a:Int)<l.length:=by omega
  simp -dsimp [h1,h1',K32,retE,ht1,ht2,hz1];exact ⟨w,z,rfl,hw.1,hw.2,by omega,hz2⟩
theorem x32b (l:List (List Int)) (hl:l.length≤4) (hR:∀ x∈l,x.length≤9223372036854775807∧∀ n∈x,R n) (cs:List Cor) (hc:cs.length≤3) (q:List Int) (hq:q.length≤9223372036854775807∧∀ n∈q,R n) :
  awp Tryz.prog xc32b (K32 cs) ⟨[(0,.p (.sl 1 (l.map llRow))),(1,.p (.sl 9 (cs.map corRow))),(4,.ptr (4,0) 3 0 0),(5,.p (.sl 1 (q.map intRow)))],
   [((4,0),.box [.p (.int .i64 0),.p .nsl,.p .nsl])]⟩:=by
 obtain ⟨v1,d1,hd1,l1,p1⟩:=b71nm ⟨q,0⟩ ⟨hq.2,hq.1⟩ 60 (18,0) (by decide) (by decide);have w1:R (12+(v1:Int)):=rO (by omega);simp -dsimp [xc32b,↓ awpC_of xc32c];refine call_m p1 (by simp) (by simp) (by simp) ?_;simp -dsimp [wr w1,↓ awpC_of xc32c];obtain ⟨w,ew⟩:=gn (12+(v1:Int));rw [ew];refine loopC cs.length (fun k=>⟨[(0,.p (.sl 1 (l.map llRow))),(1,.p (.sl 9 (cs.map corRow))),(4,.ptr (4,0) 3 0 0),(5,.p (.sl 1 (q.map intRow))),(7,.ptr (7,0) 3 0 0),(8,.p (.int .i64 k))],
   [((4,0),.box [.p (.int .i64 0),.p .nsl,.p .nsl]),((7,0),.box [.p (.int .i64 w),.ref (48,k) 3 0 k,.p .nsl]),((48,k),.sl 143 3 ((cs.take k).map pinRow))]⟩) (fun _=>True) (fun k hk _=>?_) trivial (by simp)
 by_cases h:k<cs.length
 ·obtain ⟨⟨nm,ver,ax,rg,gl,ch,pr,hd,rt⟩,ex⟩:=gn cs[k];have wk:R ((k:Int)+1):=rO (by omega);have m1:k+1≤maxLen:=by unfold maxLen;omega
  have m2:(k+1)*40≤140737488355328:=by omega
  have hl:min k cs.length=k:=by omega
  have hs:cs.take (k+1)=cs.take k++[⟨nm,ver,ax,rg,gl,ch,pr,hd,rt⟩]:=by
   rw [List.take_add_one,List.getElem?_eq_getElem h,ex];rfl
  have hall:(((cs.take k).map pinRow).all fun r=>r.all PV.one)=true:=onePi _;simp -dsimp [h,ex,corRow,pinRow,wr wk,m1,m2,hl,hs,List.range,List.range.loop,hall,-List.all_eq_true,-List.map_take,↓ awpC_of xc32c]
 ·have:k=cs.length:=by omega
  subst this;simp -dsimp [h,↓ awpC_of xc32c];exact awpC_in (x32c l hl hR cs hc q hq w ⟨by omega,by omega⟩)
theorem b32 (l:List (List Int)) (hl:l.length≤4) (hR:∀ x∈l,x.length≤9223372036854775807∧∀ n∈x,R n) (cs:List Cor) (hc:cs.length≤3):∃ (w:Int) (ps:List Par),(12≤w∧w<72∧ParsOk ps)∧Bt 32 [.sl 1 (l.map llRow),.sl 9 (cs.map corRow)] (.p (.agg (docRow w cs ps))):=by
 obtain ⟨v,⟨w,ps,rfl,hs⟩,hb⟩:=bestE (Q:=fun v=>∃ (w:Int) (ps:List Par),v=.agg (docRow w cs ps)∧(12≤w∧w<72∧ParsOk ps)) mixed fn32 ok32 (args:=[.sl 1 (l.map llRow),.sl 9 (cs.map corRow)]) (by simp) (by
  change awp Tryz.prog ac32 (K32 cs) _
  cases l with
  | nil=>
   simp -dsimp [ac32,↓ awpC_of xc32b];exact awpC_in (x32b [] (by simp) (by simp) cs hc [] ⟨by simp,by simp⟩)
  | cons x l=>
   simp -dsimp [ac32,llRow,↓ awpC_of xc32b];have:=x32b (x :: l) hl hR cs hc x (hR x (by simp));simp only [List.map_cons,llRow] at this;exact awpC_in this)
 exact ⟨w,ps,hs,hb⟩
theorem b10 (F:List (List (List Int))) (D:List (List Int)) (hF:∀ x∈F,x.length≤9223372036854775807∧∀ y∈x,∀ n∈y,R n) (hD:∀ x∈D,x.length≤9223372036854775807∧∀ n∈x,R n) :
  ∃ (cs:List Cor) (w:Int) (ps:List Par),(cs.length≤3∧(∀ c∈cs,c.ok)∧12≤w∧w<72∧ParsOk ps)∧Bt 10 [.agg [.sl 1 (F.map lllRow),.sl 1 (D.map llRow)]] (.p (.tup [.agg (docRow w cs ps),.sl 9 (cs.map corRow)])):=by
 obtain ⟨L,eL⟩:=gn ((F.take 3).map (fun x=>x.take 14));have hL:∀ x∈L,x.length≤140737488355328∧∀ y∈x,∀ n∈y,R n:=fun x hx=>by
  rw [←eL] at hx;obtain ⟨y,hy,rfl⟩:=List.mem_map.1 hx
  have:=hF y (List.mem_of_mem_take hy);exact ⟨by rw [List.length_take];omega,fun z hz=>this.2 z (List.mem_of_mem_take hz)⟩
 obtain ⟨fs,⟨hf1,hf2⟩,q1⟩:=b31 L hL;have q2:=b30 fs hf1;obtain ⟨cs,ecs⟩:=gn (fs.map (·.1));rw [ecs] at q2;have hc:cs.length≤3:=by rw [←ecs];simpa using hf1
 have hco:∀ c∈cs,c.ok:=fun c hx=>by
  rw [←ecs] at hx;obtain ⟨f,hf,rfl⟩:=List.mem_map.1 hx
  exact hf2 f hf
 obtain ⟨w,ps,⟨hw1,hw2,hps⟩,q3⟩:=b32 (D.take 4) (by simp;omega) (fun x hx=>hD x (List.mem_of_mem_take hx)) cs hc;refine ⟨cs,w,ps,⟨hc,hco,hw1,hw2,hps⟩,best mixed fn10 ok10 (by simp) ?_⟩;obtain ⟨a,ea⟩:∃ a:Nat,min (D.length:Int) 4=a:=⟨min D.length 4,by omega⟩;have ha:a≤D.length:=by omega
 have ta:D.take 4=D.take a:=by
  have:a=min 4 D.length:=by omega
  rw [this,←List.take_take,List.take_length]
 rw [ta] at q3;simp -dsimp [ac10];refine loopC (min F.length 3) (fun k=>⟨[(1,.ptr (1,0) 2 0 0),(2,.ptr (2,0) 3 0 0),(4,.ref (33,k) 1 0 k),(5,.p (.int .i64 k))],[((1,0),.box [.p (.sl 1 (F.map lllRow)),.p (.sl 1 (D.map llRow))]),((2,0),.box [.p (.int .i64 0),.p .nsl,.p .nsl]),((33,k),.sl 23 1 ((L.take k).map lllRow))]⟩) (fun _=>True) (fun k hk _=>?_) trivial (by simp);have lL:L.length=min 3 F.length:=by rw [←eL];simp
 have go:(fun _:Nat=>True) 0:=trivial;have m1:k+1≤maxLen:=by unfold maxLen;omega
 have m2:(k+1)*24≤140737488355328:=by omega
 by_cases h1:k<F.length∧k<3
 ·obtain ⟨h1,h2⟩:=h1;have h2':(k:Int)<3:=by omega
  obtain ⟨x,ex⟩:=gn F[k];obtain ⟨b,eb⟩:∃ b:Nat,min (x.length:Int) 14=b:=⟨min x.length 14,by omega⟩;have hb:b≤x.length:=by omega
  have tb:x.take 14=x.take b:=by
   have:b=min 14 x.length:=by omega
   rw [this,←List.take_take,List.take_length]
  have hs:L.take (k+1)=L.take k++[x.take b]:=by
   rw [List.take_add_one,←eL,List.getElem?_map,List.getElem?_take,if_pos h2,List.getElem?_eq_getElem h1,ex];simp [tb]
  have hl:min k L.length=k:=by omega
  have wk:R ((k:Int)+1):=rO (by omega);have hall:(((L.take k).map lllRow).all fun r=>r.all PV.one)=true:=oneLl _;have hk3:k<min F.length 3:=by omega
  simp -dsimp [h1,h2',ex,lllRow,eb,hb,wr wk,m1,m2,hl,hs,hk3,List.range,List.range.loop,hall,List.map_take,-List.all_eq_true]
 ·have hkk:k=min F.length 3:=by omega
  have tL:L.take k=L:=List.take_of_length_le (by omega);have ht:List.take k (L.map lllRow)=L.map lllRow:=List.take_of_length_le (by simp;omega);have hlk:L.length=k:=by omega
  have hty:List.take D.length (D.map llRow)=D.map llRow:=List.take_of_length_le (by simp);have go:(k<F.length∧k=3)∨¬k<F.length:=by omega
  rcases go with ⟨g1,rfl⟩ | g1
  ·have g1':(3:Int)<F.length:=by omega
   simp -dsimp [g1,g1',tL,hlk,ht];refine cP q1 ?_;simp -dsimp;refine cP q2 ?_;simp -dsimp [ea,ha];refine call_p q3 (by simp [List.map_take,hty]) (by simp) ?_;simp -dsimp [docRow]
  ·simp -dsimp [g1,tL,hlk,ht];refine cP q1 ?_;simp -dsimp;refine cP q2 ?_;simp -dsimp [ea,ha];refine call_p q3 (by simp [List.map_take,hty]) (by simp) ?_;simp -dsimp [docRow]
end
section
set_option maxHeartbeats 4000000
attribute [local simp] ba_size wb ba_at w1 w6
theorem b81 (c lo hi:Int):Bt 81 [.int .i64 c,.int .i64 lo,.int .i64 hi] (.p (.bool (decide (lo≤c) && decide (c≤hi)))):=by
 refine best mixed fn81 ok81 (by simp) ?_
 by_cases h1:lo≤c<;>by_cases h2:c≤hi<;>simp -dsimp [ac81,h1,h2]
theorem blk_sorted:∀ (j:Nat) (h:j<blkL.length),∀ y∈blkL.take j,y.2.1<(blkL[j]).1:=by decide
theorem cls_of {c:Int} {lo hi k s:Int} (h:(lo,hi,k,s)∈blkL) (h1:lo≤c) (h2:c≤hi):clsN c=k:=by
 obtain ⟨j,hj,e⟩:=List.mem_iff_getElem.1 h;have hn:∀ y∈blkL.take j,inB c y=false:=fun y hy=>by
  have:=blk_sorted j hj y hy;rw [e] at this;dsimp only at this;unfold inB;rw [Bool.and_eq_false_iff,decide_eq_false_iff_not,decide_eq_false_iff_not];omega
 have:=kindN_at (c:=c) (k:=j) (b:=(lo,hi,k,s)) (by rw [List.getElem?_eq_getElem hj,e]) (by simp [inB,h1,h2]) hn;unfold clsN;rw [this]
theorem b36 (c:Int):Bt 36 [.int .i64 c] (.p (.int .i64 (clsN c))):=by
 refine best mixed fn36 ok36 (by simp) ?_
 by_cases g1:c=10
 ·subst g1;have hr:clsN 10=1:=rfl;simp -dsimp [ac36,hr]
 by_cases g2:c=32
 ·subst g2;have hr:clsN 32=2:=rfl;simp -dsimp [ac36,hr]
 simp -dsimp [ac36,g1,g2];refine cP (b81 c 33 47) ?_
 by_cases g3:33≤c∧c≤47
 ·have hr:=cls_of (c:=c) (lo:=33) (hi:=47) (k:=4) (s:=0) (by decide) g3.1 g3.2;simp -dsimp [g3.1,g3.2,hr]
 have e3:(decide ((33:Int)≤c) && decide (c≤47))=false:=by simpa using g3
 simp -dsimp [e3];refine cP (b81 c 48 57) ?_
 by_cases g4:48≤c∧c≤57
 ·have hr:=cls_of (c:=c) (lo:=48) (hi:=57) (k:=3) (s:=0) (by decide) g4.1 g4.2;simp -dsimp [g4.1,g4.2,hr]
 have e4:(decide ((48:Int)≤c) && decide (c≤57))=false:=by simpa using g4
 simp -dsimp [e4];refine cP (b81 c 64 95) ?_
 by_cases g5:64≤c∧c≤95
 ·have hr:=cls_of (c:=c) (lo:=64) (hi:=95) (k:=5) (s:=1) (by decide) g5.1 g5.2;simp -dsimp [g5.1,g5.2,hr]
 have e5:(decide ((64:Int)≤c) && decide (c≤95))=false:=by simpa using g5
 simp -dsimp [e5];refine cP (b81 c 96 103) ?_
 by_cases g6:96≤c∧c≤103
 ·have hr:=cls_of (c:=c) (lo:=96) (hi:=103) (k:=6) (s:=1) (by decide) g6.1 g6.2;simp -dsimp [g6.1,g6.2,hr]
 have e6:(decide ((96:Int)≤c) && decide (c≤103))=false:=by simpa using g6
 simp -dsimp [e6];refine cP (b81 c 144 151) ?_
 by_cases g7:144≤c∧c≤151
 ·have hr:=cls_of (c:=c) (lo:=144) (hi:=151) (k:=6) (s:=2) (by decide) g7.1 g7.2;simp -dsimp [g7.1,g7.2,hr]
 have e7:(decide ((144:Int)≤c) && decide (c≤151))=false:=by simpa using g7
 simp -dsimp [e7];refine cP (b81 c 200 207) ?_
 by_cases g8:200≤c∧c≤207
 ·have hr:=cls_of (c:=c) (lo:=200) (hi:=207) (k:=6) (s:=3) (by decide) g8.1 g8.2;simp -dsimp [g8.1,g8.2,hr]
 have e8:(decide ((200:Int)≤c) && decide (c≤207))=false:=by simpa using g8
 simp -dsimp [e8];refine cP (b81 c 104 127) ?_
 by_cases g9:104≤c∧c≤127
 ·have hr:=cls_of (c:=c) (lo:=104) (hi:=127) (k:=7) (s:=2) (by decide) g9.1 g9.2;simp -dsimp [g9.1,g9.2,hr]
 have e9:(decide ((104:Int)≤c) && decide (c≤127))=false:=by simpa using g9
 simp -dsimp [e9];refine cP (b81 c 128 143) ?_
 by_cases gx10:128≤c∧c≤143
 ·have hr:=cls_of (c:=c) (lo:=128) (hi:=143) (k:=8) (s:=2) (by decide) gx10.1 gx10.2;simp -dsimp [gx10.1,gx10.2,hr]
 have e10:(decide ((128:Int)≤c) && decide (c≤143))=false:=by simpa using gx10
 simp -dsimp [e10];refine cP (b81 c 152 183) ?_
 by_cases gx11:152≤c∧c≤183
 ·have hr:=cls_of (c:=c) (lo:=152) (hi:=183) (k:=9) (s:=3) (by decide) gx11.1 gx11.2;simp -dsimp [gx11.1,gx11.2,hr]
 have e11:(decide ((152:Int)≤c) && decide (c≤183))=false:=by simpa using gx11
 by_cases gx12:c=184
 ·subst gx12;have hr:clsN 184=10:=rfl;simp -dsimp [hr]
 simp -dsimp [e11,gx12];refine cP (b81 c 185 191) ?_
 by_cases gx13:185≤c∧c≤191
 ·have hr:=cls_of (c:=c) (lo:=185) (hi:=191) (k:=11) (s:=3) (by decide) gx13.1 gx13.2;simp -dsimp [gx13.1,gx13.2,hr]
 have e13:(decide ((185:Int)≤c) && decide (c≤191))=false:=by simpa using gx13
 simp -dsimp [e13];refine cP (b81 c 192 199) ?_
 by_cases gx14:192≤c∧c≤199
 ·have hr:=cls_of (c:=c) (lo:=192) (hi:=199) (k:=12) (s:=3) (by decide) gx14.1 gx14.2;simp -dsimp [gx14.1,gx14.2,hr]
 have e14:(decide ((192:Int)≤c) && decide (c≤199))=false:=by simpa using gx14
 by_cases gx15:c=240
 ·subst gx15;have hr:clsN 240=13:=rfl;simp -dsimp [hr]
 by_cases gx16:c=241
 ·subst gx16;have hr:clsN 241=14:=rfl;simp -dsimp [hr]
 have hr:clsN c=0:=by
  have:kindN c=(0,0):=kindN_none fun y hy=>by
   simp only [blkL,List.mem_cons,List.not_mem_nil,or_false] at hy;unfold inB;rw [Bool.and_eq_false_iff,decide_eq_false_iff_not,decide_eq_false_iff_not];rcases hy with rfl | rfl | rfl | rfl | rfl | rfl | rfl | rfl | rfl | rfl | rfl | rfl | rfl | rfl | rfl | rfl
   all_goals (dsimp only;omega)
  unfold clsN;rw [this]
 simp -dsimp [e14,gx15,gx16,hr]
end
section
set_option maxHeartbeats 4000000
attribute [local simp] ba_size wb ba_at w1 w6
attribute [local simp ↓] oneN oneI oneSp
theorem b82 (c:Int):Bt 82 [.int .i64 c] (.p (.bool (extN c))):=by
 refine best mixed fn82 ok82 (by simp) ?_;simp -dsimp [ac82];refine cP (b36 c) ?_;unfold extN;generalize clsN c=k
 by_cases h1:k=6
 ·simp -dsimp [h1]
 by_cases h2:k=10
 ·simp -dsimp [h2]
 by_cases h3:k=11
 ·simp -dsimp [h3]
 by_cases h4:k=12
 ·simp -dsimp [h4]
 by_cases h5:k=13
 ·simp -dsimp [h5]
 by_cases h6:k=14
 ·simp -dsimp [h6]
 ·simp -dsimp [h1,h2,h3,h4,h5,h6]
theorem b125 (t:List UInt8) (i:Nat) (h:i<t.length):Bt 125 [.str (ba t),.int .i64 i] (.p (.int .i64 (clsT t i))):=by
 refine best mixed fn125 ok125 (by simp) ?_;simp -dsimp [ac125,ba_get h];refine call_p (b36 (cT t i)) (by simp [cT]) (by simp) ?_;simp -dsimp [clsT]
theorem b74 (t:List UInt8) (i f:Nat) (h:i<t.length) (hf:f≤i) (hl:t.length≤1000000):Bt 74 [.str (ba t),.int .i64 i,.int .i64 ((i:Int) - f)] (.p (.bool (begT t i f))):=by
 refine best mixed fn74 ok74 (by simp) ?_;have hget:=ba_get h
 by_cases h0:i=0
 ·subst h0;have hb:begT t 0 f=true:=by simp [begT]
  simp -dsimp [ac74,hb]
 have h0':¬(i:Int)=0:=by omega
 by_cases h6:(i:Int) - f=6
 ·have hb:begT t i f=true:=by simp [begT,h6]
  simp -dsimp [ac74,h0,h0',h6,hb]
 obtain ⟨m,em⟩:∃ m:Nat,(i:Int) - 1=m:=⟨i - 1,by omega⟩;have em':i - 1=m:=by omega
 have wm:R (m:Int):=rO (by omega);have q1:=b125 t m (by omega);have q2:=b125 t i h;have q3:=b82 (cT t i);simp -dsimp [ac74,h0,h0',h6,em,wr wm];refine cP q1 ?_
 by_cases h1:clsT t m=1
 ·have hb:begT t i f=true:=by simp [begT,em',h1]
  simp -dsimp [h1,hb]
 simp -dsimp [h1,h];refine call_p q3 (by simp [cT]) (by simp) ?_
 by_cases h2:extN (cT t i)=true
 ·have hb:begT t i f=false:=by simp [begT,em',h0,h1,h2,h6]
  simp -dsimp [h2,hb]
 have h2':extN (cT t i)=false:=by simpa using h2
 simp -dsimp [h2'];refine cP q2 ?_
 by_cases h3:clsT t i=9
 ·simp -dsimp [h3,em,wr wm];refine cP q1 ?_
  by_cases h4:clsT t m=10
  ·have hb:begT t i f=false:=by simp [begT,em',h0,h1,h2',h3,h4,h6]
   simp -dsimp [h4,hb]
  ·have hb:begT t i f=true:=by simp [begT,em',h1,h2',h3,h4]
   simp -dsimp [h4,hb]
 ·have hb:begT t i f=true:=by simp [begT,em',h1,h2',h3]
  simp -dsimp [h3,hb]
def clT (t:List UInt8) (i:Nat):List (Nat×Nat):=spQ (stT t i).1 ((stT t i).1.length - 1) (stT t i).2
theorem spQ_ext {L L':List Nat} {k n n':Nat} (h:∀ j,j<k→L.getD j 0=L'.getD j 0) (hn:0<k→n=n'):spQ L k n=spQ L' k n':=by
 unfold spQ;refine List.map_congr_left fun j hj=>?_
 have hj:j<k:=by simpa using hj
 rw [h j hj]
 by_cases h2:j+1<k
 ·rw [if_pos h2,if_pos h2,h (j+1) h2]
 ·rw [if_neg h2,if_neg h2,hn (by omega)]
theorem stT_last (t:List UInt8) {i:Nat} (h:0<i):0<(stT t i).1.length∧(stT t i).1.getD ((stT t i).1.length - 1) 0=(stT t i).2:=by
 have:=(stT_inv t i).2.1 h;rw [List.getLast?_eq_getElem?] at this;have hl:=(List.getElem?_eq_some_iff.1 this).1
 exact ⟨by omega,by rw [List.getD_eq_getElem?_getD,this];rfl⟩
theorem spQ_snoc {L:List Nat} {k n:Nat}:spQ L (k+1) n=(spQ L k (L.getD k 0))++[(L.getD k 0,n)]:=by
 unfold spQ;rw [List.range_succ,List.map_append]
 congr 1
 ·refine List.map_congr_left fun j hj=>?_
  have hj:j<k:=by simpa using hj
  rw [if_pos (by omega)]
  by_cases h2:j+1<k
  ·rw [if_pos h2]
  ·rw [if_neg h2,show j+1=k by omega]
 ·simp
theorem clT_yes {t:List UInt8} {i:Nat} (h:0<i) (hs:stT t (i+1)=((stT t i).1++[i],i)):clT t (i+1)=clT t i++[((stT t i).2,i)]:=by
 obtain ⟨h1,h2⟩:=stT_last t h;unfold clT;rw [hs];dsimp only
 clear hs
 generalize (stT t i).1=L at *;generalize (stT t i).2=f at *;obtain ⟨k,ek⟩:∃ k,L.length=k+1:=⟨L.length - 1,by omega⟩
 rw [List.length_append,ek];simp only [List.length_singleton,Nat.add_sub_cancel];rw [ek,Nat.add_sub_cancel] at h2;rw [spQ_snoc];have hg:∀ j,j<k+1→(L++[i]).getD j 0=L.getD j 0:=fun j hj=>by
  rw [List.getD_eq_getElem?_getD,List.getD_eq_getElem?_getD,List.getElem?_append_left (by omega)]
 rw [hg k (by omega),h2]
 congr 1
 exact spQ_ext (fun j hj=>hg j (by omega)) (fun _=>rfl)
theorem clT_end {t:List UInt8} (h:0<t.length):splT t=clT t t.length++[((stT t t.length).2,t.length)]:=by
 obtain ⟨h1,h2⟩:=stT_last t h;unfold splT clT;obtain ⟨k,ek⟩:∃ k,(stT t t.length).1.length=k+1:=⟨(stT t t.length).1.length - 1,by omega⟩;rw [ek,Nat.add_sub_cancel] at h2;rw [ek,Nat.add_sub_cancel,spQ_snoc,h2]
theorem clT_len (t:List UInt8) (i:Nat):(clT t i).length≤i:=by
 have:=stT_len t i;simp [clT];omega
theorem b33 (t:List UInt8) (hl:t.length≤1000000):Bt 33 [.str (ba t)] (.p (.sl 2 ((splT t).map spRow))):=by
 refine best mixed fn33 ok33 (by simp) ?_;simp -dsimp [ac33,↓ awpC_of xc33b];refine loopC t.length (fun k=>⟨[(0,.p (.str (ba t))),(3,.ref (28,0) 2 0 (clT t k).length),(4,.p (.int .i64 (stT t k).2)),(5,.p (.int .i64 k))],[((28,0),.sl 76 2 ((clT t k).map spRow))]⟩) (fun _=>True) (fun k hk _=>?_) trivial (by simp [stT,clT,spQ]);have hcl:=clT_len t k;have hle:=stT_le t k
 by_cases h:k<t.length
 ·have wk:R ((k:Int)+1):=rO (by omega);have wf:R ((k:Int) - (stT t k).2):=rO (by omega);have q:=b74 t k (stT t k).2 h hle hl;simp -dsimp [h,wr wf,↓ awpC_of xc33b];refine cP q ?_;cases hb:begT t k (stT t k).2 with
  | false=>
   have hs:stT t (k+1)=stT t k:=by simp [stT,hb]
   have hc:clT t (k+1)=clT t k:=by unfold clT;rw [hs]
   have ht:List.take (clT t k).length ((clT t k).map spRow)=(clT t k).map spRow:=List.take_of_length_le (by simp);simp -dsimp [h,wr wk,hs,hc,ht]
  | true=>
   have hs:stT t (k+1)=((stT t k).1++[k],k):=by simp only [stT,hb,if_true]
   by_cases h0:0<k
   ·have hc:=clT_yes h0 hs;have h0':(0:Int)<k:=by omega
    obtain ⟨C,eC⟩:=gn (clT t k);obtain ⟨f,ef⟩:=gn ((stT t k).2);rw [eC,ef] at hc;rw [eC] at hcl;have m1:C.length+1≤maxLen:=by unfold maxLen;omega
    have e1:(C.length+1)*16≤140737488355328:=by omega
    have ht:List.take (C.length+1) (C.map spRow++[[.int .i64 (f:Int),.int .i64 (k:Int)]])=C.map spRow++[[.int .i64 (f:Int),.int .i64 (k:Int)]]:=List.take_of_length_le (by simp);simp -dsimp [h,h0,h0',eC,ef,m1,e1,wr wk,hs,hc,ht,List.range,List.range.loop,-List.all_eq_true];rfl
   ·have:k=0:=by omega
    subst this;have hc:clT t (0+1)=[]:=by unfold clT;rw [hs];simp [stT,spQ]
    have hc0:clT t 0=[]:=by simp [clT,stT,spQ]
    simp -dsimp [h,hs,hc,hc0]
 ·have:k=t.length:=by omega
  subst this;simp -dsimp [h,↓ awpC_of xc33b];refine awpC_in ?_
  by_cases h0:0<t.length
  ·have h0':(0:Int)<t.length:=by omega
   rw [clT_end h0];obtain ⟨C,eC⟩:=gn (clT t t.length);obtain ⟨f,ef⟩:=gn ((stT t t.length).2);rw [eC] at hcl;have m1:C.length+1≤maxLen:=by unfold maxLen;omega
   have e1:(C.length+1)*16≤140737488355328:=by omega
   have ht:List.take (C.length+1) (C.map spRow++[[.int .i64 (f:Int),.int .i64 (t.length:Int)]])=C.map spRow++[[.int .i64 (f:Int),.int .i64 (t.length:Int)]]:=List.take_of_length_le (by simp);simp -dsimp [xc33b,h0,h0',eC,ef,m1,e1,ht,List.range,List.range.loop,-List.all_eq_true,resOf];rfl
  ·have:t=[]:=List.length_eq_zero_iff.1 (by omega);subst this;have hc0:clT [] 0=[]:=by simp [clT,stT,spQ]
   simp -dsimp [xc33b,hc0,resOf,splT,stT,spQ]
theorem b37 (t:List UInt8) (a b:Nat) (hab:a<b) (hb:b≤t.length) (hl:t.length≤1000000):Bt 37 [.str (ba t),.agg (spRow (a,b))] (.p (.int .i64 (baseT t a b))):=by
 refine best mixed fn37 ok37 (by simp [spRow]) ?_;have n1:¬(a:Int)<0:=by omega
 have n2:¬(b:Int)≤a:=by omega
 have n3:¬(t.length:Int)<b:=by omega
 simp -dsimp [ac37,spRow,n1,n2,n3];refine loopC (b - a) (fun k=>⟨[(0,.p (.str (ba t))),(3,.ptr (3,0) 2 0 0),(5,.p (.int .i64 ((a+k:Nat):Int)))],[((3,0),.box [.p (.int .i64 a),.p (.int .i64 b)])]⟩) (fun k=>∀ j,a≤j→j<a+k→extN (cT t j)=true) (fun k hk hall=>?_) (by intro j h1 h2;omega) (by simp);obtain ⟨q,eq⟩:=gn (a+k);rw [eq] at hall;dsimp only;rw [eq]
 by_cases h:q<b
 ·have h':(q:Int)<b:=by omega
  have hq:q<t.length:=by omega
  have wk:R ((q:Int)+1):=rO (by omega);simp -dsimp [h',h,hq];refine call_p (b82 (cT t q)) (by simp [cT]) (by simp) ?_;cases e:extN (cT t q) with
  | false=>
   have hr:=baseT_at (a:=a) (b:=b) (by omega) h e hall;simp -dsimp [hr]
   try omega
  | true=>
   simp -dsimp [wr wk];refine ⟨by omega,fun j h1 h2=>?_,by omega⟩
   by_cases hj:j=q
   ·rw [hj];exact e
   ·exact hall j h1 (by omega)
 ·have h':¬(q:Int)<b:=by omega
  have hr:=baseT_none (t:=t) (a:=a) (b:=b) fun j h1 h2=>hall j h1 (by omega)
  simp -dsimp [h',h,hr]
theorem b75 (t:List UInt8) (a b:Nat) (hab:a<b) (hb:b≤t.length) (hl:t.length≤1000000) :
  Bt 75 [.str (ba t),.agg (spRow (a,b))] (.p (.int .i64 (clsT t (baseT t a b)))):=by
 refine best mixed fn75 ok75 (by simp [spRow]) ?_;have hbs:=baseT_le (t:=t) hab;have hbl:baseT t a b<t.length:=by omega
 simp -dsimp [ac75,spRow];refine call_p (b37 t a b hab hb hl) (by simp [spRow]) (by simp) ?_;simp -dsimp [hbl];refine call_p (b36 (cT t (baseT t a b))) (by simp [cT]) (by simp) ?_;simp -dsimp [clsT]
end
section
set_option maxHeartbeats 4000000
attribute [local simp] ba_size wb ba_at w1 w6
attribute [local simp ↓] oneN oneI oneSp
theorem withL_mem {l:List Int} {n x:Int} (hs:l.Pairwise (·<·)):x∈withL l n↔x∈l∨x=n:=by
 unfold withL;split
 ·rename_i h;have:=List.mem_of_getElem? h;constructor
  ·exact .inl
  ·rintro (h | rfl)
   ·exact h
   ·exact this
 ·have:x∈l↔x∈l.take (posL l n)∨x∈l.drop (posL l n):=by
   rw [←List.mem_append,List.take_append_drop]
  simp only [List.mem_append,List.mem_cons,this]
  grind
theorem withL_sorted {l:List Int} {n:Int} (hs:l.Pairwise (·<·)):(withL l n).Pairwise (·<·):=by
 unfold withL;split
 ·exact hs
 ·rename_i hne;have hlt:∀ a∈l.take (posL l n),a<n:=fun a ha=>by
   obtain ⟨k,hk,rfl⟩:=List.mem_take_iff_getElem.1 ha;have:=twN_get (fun x=>decide (x<n)) l k l[k] (by unfold posL at hk;omega) (by simp);simpa using this
  have hgt:∀ b∈l.drop (posL l n),n<b:=fun b hb=>by
   obtain ⟨k,hk,rfl⟩:=List.mem_drop_iff_getElem.1 hb;have hp:posL l n<l.length:=by omega
   have h1:=twN_end (fun x=>decide (x<n)) l l[posL l n] (by show l[posL l n]?=_;simp [hp]);have h2:l[posL l n]≠n:=fun e=>hne (by simp [hp,e])
   simp at h1;rcases Nat.eq_zero_or_pos k with h0 | h0
   ·subst h0;simp;omega
   ·have:=List.pairwise_iff_getElem.1 hs (posL l n) (posL l n+k) hp (by omega) (by omega);omega
  rw [List.pairwise_append,List.pairwise_cons];refine ⟨hs.sublist (List.take_sublist _ _),⟨hgt,hs.sublist (List.drop_sublist _ _)⟩,fun a ha b hb=>?_⟩;have h1:=hlt a ha;rcases List.mem_cons.1 hb with rfl | hb
  ·exact h1
  ·have:=hgt b hb;omega
theorem foldW (l:List Int):∀ m:List Int,m.Pairwise (·<·)→(l.foldl withL m).Pairwise (·<·)∧∀ x,x∈l.foldl withL m↔x∈m∨x∈l:=by
 induction l with
 | nil=>intro m h;exact ⟨h,fun x=>by simp⟩
 | cons a l ih=>
  intro m h;obtain ⟨h1,h2⟩:=ih (withL m a) (withL_sorted h);refine ⟨h1,fun x=>?_⟩;rw [List.foldl_cons,h2,withL_mem h,List.mem_cons]
  grind
theorem sorted_ext {l m:List Int} (hl:l.Pairwise (·<·)) (hm:m.Pairwise (·<·)) (h:∀ x,x∈l↔x∈m):l=m:=by
 have hp:l.Perm m:=(List.perm_ext_iff_of_nodup (hl.imp fun h=>by omega) (hm.imp fun h=>by omega)).2 h;exact List.Perm.eq_of_pairwise (le:=(·<·)) (fun a b _ _ h1 h2=>by omega) hl hm hp
def natI (i:Nat):Int:=i
theorem norm_vis (t:List UInt8) (a b:Nat):normL ((ordT t a b).map natI)=(visT t a b).map natI:=by
 obtain ⟨h1,h2⟩:=foldW ((ordT t a b).map natI) [] List.Pairwise.nil;refine sorted_ext h1 ?_ fun x=>?_
 ·rw [List.pairwise_map];exact List.Pairwise.imp (fun h=>by unfold natI;omega) (List.Pairwise.filter _ List.pairwise_lt_range')
 ·show x∈List.foldl withL [] _↔_;rw [h2,List.mem_map,List.mem_map];simp only [List.not_mem_nil,false_or,(vis_perm t a b).mem_iff]
theorem natRow_I (l:List Nat):l.map natRow=(l.map natI).map intRow:=by rw [List.map_map];rfl
theorem b127 (t:List UInt8) (a b:Nat) (hab:a<b) (hb:b≤t.length) (hl:t.length≤1000000) :
  Bt 127 [.str (ba t),.agg (spRow (a,b))] (.p (.sl 1 ((ordT t a b).map natRow))):=by
 refine best mixed fn127 ok127 (by simp [spRow]) ?_;have n1:¬(a:Int)<0:=by omega
 have n2:¬(b:Int)≤a:=by omega
 have n3:¬(t.length:Int)<b:=by omega
 simp -dsimp [ac127,spRow,n1,n2,n3];refine loopC (b - a) (fun k=>⟨[(0,.p (.str (ba t))),(3,.ptr (3,0) 2 0 0),(5,.ref (45,0) 1 0 (plT t true [12] a (a+k)).length),(6,.ref (56,0) 1 0 (plT t false [12,13,14] a (a+k)).length),(7,.p (.int .i64 ((a+k:Nat):Int)))],[((3,0),.box [.p (.int .i64 a),.p (.int .i64 b)]),((45,0),.sl 3 1 ((plT t true [12] a (a+k)).map natRow)),((56,0),.sl 3 1 ((plT t false [12,13,14] a (a+k)).map natRow))]⟩) (fun _=>True) (fun k hk _=>?_) trivial (by simp [plT]);obtain ⟨q,eq⟩:=gn (a+k);have hs1:=plT_succ (t:=t) (has:=true) (cs:=[12]) (a:=a) (k:=k);have hs2:=plT_succ (t:=t) (has:=false) (cs:=[12,13,14]) (a:=a) (k:=k);have hp1:=plT_len (t:=t) (has:=true) (cs:=[12]) (a:=a) (b:=a+k);have hp2:=plT_len (t:=t) (has:=false) (cs:=[12,13,14]) (a:=a) (b:=a+k);have e1:a+(k+1)=q+1:=by omega
 rw [e1] at hs1 hs2;dsimp only;rw [e1];rw [eq] at hs1 hs2 hp1 hp2 ⊢
 by_cases h:q<b
 ·have h':(q:Int)<b:=by omega
  have hq:q<t.length:=by omega
  have wk:R ((q:Int)+1):=rO (by omega);obtain ⟨L,eL⟩:=gn (plT t true [12] a q);obtain ⟨M,eM⟩:=gn (plT t false [12,13,14] a q);rw [eL] at hs1 hp1 ⊢;rw [eM] at hs2 hp2 ⊢;have m1:L.length+1≤maxLen:=by unfold maxLen;omega
  have m2:(L.length+1)*8≤140737488355328:=by omega
  have m3:M.length+1≤maxLen:=by unfold maxLen;omega
  have m4:(M.length+1)*8≤140737488355328:=by omega
  have t1:List.take (L.length+1) (L.map natRow++[[.int .i64 (q:Int)]])=L.map natRow++[[.int .i64 (q:Int)]]:=List.take_of_length_le (by simp);have t2:List.take (M.length+1) (M.map natRow++[[.int .i64 (q:Int)]])=M.map natRow++[[.int .i64 (q:Int)]]:=List.take_of_length_le (by simp);have t3:List.take L.length (L.map natRow)=L.map natRow:=List.take_of_length_le (by simp);have t4:List.take M.length (M.map natRow)=M.map natRow:=List.take_of_length_le (by simp);rw [hs1,hs2];unfold plP;simp -dsimp [h',h,hq];refine call_p (b36 (cT t q)) (by simp [cT]) (by simp) ?_;have ec:clsN (cT t q)=clsT t q:=rfl;rw [ec];generalize clsT t q=c
  by_cases c12:c=12
  ·simp -dsimp [c12,m1,m2,t1,t4,wr wk,List.range,List.range.loop,-List.all_eq_true];exact ⟨by omega,rfl⟩
  ·by_cases c13:c=13
   ·simp -dsimp [c13,t3,t4,wr wk,List.range,List.range.loop,-List.all_eq_true];omega
   ·by_cases c14:c=14
    ·simp -dsimp [c14,t3,t4,wr wk,List.range,List.range.loop,-List.all_eq_true];omega
    ·simp -dsimp [c12,c13,c14,m3,m4,t2,t3,wr wk,List.range,List.range.loop,-List.all_eq_true];exact ⟨by omega,rfl⟩
 ·have h':¬(q:Int)<b:=by omega
  have:q=b:=by omega
  subst this;have m1:(plT t true [12] a q).length+(plT t false [12,13,14] a q).length≤maxLen:=by unfold maxLen;omega
  have m2:((plT t true [12] a q).length+(plT t false [12,13,14] a q).length)*8≤140737488355328:=by omega
  have t4:List.take (plT t false [12,13,14] a q).length ((plT t false [12,13,14] a q).map natRow)=(plT t false [12,13,14] a q).map natRow:=List.take_of_length_le (by simp);simp -dsimp [h',m1,m2,t4,resOf,ordT,-List.all_eq_true];exact List.take_of_length_le (by simp)
theorem b76 (t:List UInt8) (a b:Nat) (hab:a<b) (hb:b≤t.length) (hl:t.length≤1000000) :
  Bt 76 [.str (ba t),.agg (spRow (a,b))] (.p (.sl 1 ((codesT t a b).map intRow))):=by
 refine best mixed fn76 ok76 (by simp [spRow]) ?_;have hol:=ordT_len (t:=t) (a:=a) (b:=b);have q71:=b126 ((ordT t a b).map natI) (by simp;omega);rw [norm_vis,←natRow_I,←natRow_I] at q71;obtain ⟨V,eV⟩:=gn (visT t a b)
 have hm:∀ i∈V,i<t.length:=fun i hi=>by have:=visT_mem (eV ▸ hi);omega
 have hVl:V.length≤1000000:=by have:=visT_len (t:=t) (a:=a) (b:=b);rw [eV] at this;omega
 have hc:codesT t a b=V.map (cT t):=by unfold codesT;rw [eV]
 rw [eV] at q71;rw [hc];simp -dsimp [ac76,spRow];refine call_p (b127 t a b hab hb hl) (by simp [spRow]) (by simp) ?_;simp -dsimp;refine cP q71 ?_;simp -dsimp;refine loopC V.length (fun k=>⟨[(0,.p (.str (ba t))),(5,.p (.sl 1 (V.map natRow))),(6,.ref (27,0) 1 0 k),(7,.p (.int .i64 k))],[((27,0),.sl 3 1 (((V.take k).map (cT t)).map intRow))]⟩) (fun _=>True) (fun k hk _=>?_) trivial (by simp)
 by_cases h:k<V.length
 ·obtain ⟨i,ei⟩:=gn V[k];have hi:i<t.length:=hm i (by rw [←ei];simp);have wk:R ((k:Int)+1):=rO (by omega);have m1:k+1≤maxLen:=by unfold maxLen;omega
  have e1:(k+1)*8≤140737488355328:=by omega
  have hs:((V.take (k+1)).map (cT t)).map intRow=((V.take k).map (cT t)).map intRow++[[.int .i64 (cT t i)]]:=by
   rw [List.take_add_one,List.getElem?_eq_getElem h,ei];simp [intRow]
  obtain ⟨L,eL⟩:=gn ((V.take k).map (cT t));rw [eL] at hs;have hLl:L.length=k:=by rw [←eL];simp;omega
  have ht3:List.take (k+1) (L.map intRow++[[.int .i64 (cT t i)]])=L.map intRow++[[.int .i64 (cT t i)]]:=List.take_of_length_le (by simp;omega);rw [eL,hs];simp only [cT] at ht3 ⊢;simp -dsimp [h,natRow,ei,hi,m1,e1,hLl,ht3,wr wk,List.range,List.range.loop,-List.all_eq_true]
 ·have:k=V.length:=by omega
  subst this;rw [List.take_length];have ht4:List.take V.length (((V.map (cT t))).map intRow)=(V.map (cT t)).map intRow:=List.take_of_length_le (by simp);obtain ⟨L,eL⟩:=gn (V.map (cT t));rw [eL] at ht4 ⊢;have hLl:L.length=V.length:=by rw [←eL];simp
  simp -dsimp [h,resOf,hLl,ht4];rw [←eL,List.map_map]
theorem b164 (c:Cor) (hc:c.ch.length≤1000) (code:Int):Bt 164 [.agg (corRow c),.int .i64 code] (.p (.tup [.agg (chRow ((findN c code).getD ch0)),.bool (hasN c code)])):=by
 refine best mixed fn164 ok164 (by simp [corRow]) ?_;simp -dsimp [ac164,corRow];refine loopC c.ch.length (fun k=>⟨[(1,.p (.int .i64 code)),(2,.ptr (2,0) 9 0 0),(4,.ptr (4,0) 4 0 0),(6,.p (.int .i64 k))],[((2,0),.box ((corRow c).map .p)),((4,0),.box [.p (.int .i64 0),.p (.int .i64 0),.p (.int .i64 0),.p .nsl])]⟩) (fun k=>∀ y∈c.ch.take k,decide (y.code=code)=false) (fun k hk hall=>?_) (by simp) (by simp [corRow])
 by_cases h:k<c.ch.length
 ·obtain ⟨x,ex⟩:=gn c.ch[k];have hx:c.ch[k]?=some x:=by simp [h,ex]
  have w:R ((k:Int)+1):=rO (by omega)
  by_cases hq:x.code=code
  ·have hf:findN c code=some x:=by
    unfold findN;rw [List.find?_eq_some_iff_getElem];refine ⟨by simp [hq],k,h,ex,fun j hj=>?_⟩;rw [hall _ (List.mem_take_iff_getElem.2 ⟨j,by omega,rfl⟩)];rfl
   simp -dsimp [corRow,h,ex,chRow,hq,hf,hasN]
  ·have go:=take_succ_all (p:=fun y:Ch=>decide (y.code=code)=false) hx hall (by simp [hq]);simp -dsimp [corRow,h,ex,chRow,hq,wr w];simpa using go
 ·have:k=c.ch.length:=by omega
  subst this;rw [List.take_length] at hall;have hf:findN c code=none:=by unfold findN;rw [List.find?_eq_none];intro x hx;simp [hall x hx]
  simp -dsimp [corRow,h,chRow,hf,hasN,ch0]
theorem b128 (c:Cor) (hc:c.ch.length≤1000) (code:Int):Bt 128 [.agg (corRow c),.int .i64 code] (.p (.tup [.int .i64 (glyN c code),.bool (hasN c code)])):=by
 refine best mixed fn128 ok128 (by simp [corRow]) ?_;simp -dsimp [ac128,corRow];refine call_p (b164 c hc code) (by simp [corRow]) (by simp) ?_;simp -dsimp [chRow,glyN]
theorem b77 (c:Cor) (hc:c.ch.length≤1000) (codes:List Int) (hl:codes.length≤1000):Bt 77 [.agg (corRow c),.sl 1 (codes.map intRow)] (.p (.bool (allN codes c))):=by
 refine best mixed fn77 ok77 (by simp [corRow]) ?_;simp -dsimp [ac77,corRow];refine loopC codes.length (fun k=>⟨[(1,.p (.sl 1 (codes.map intRow))),(2,.ptr (2,0) 9 0 0),(5,.p (.int .i64 k))],[((2,0),.box ((corRow c).map .p))]⟩) (fun k=>∀ y∈codes.take k,hasN c y=true) (fun k hk hall=>?_) (by simp) (by simp [corRow])
 by_cases h:k<codes.length
 ·obtain ⟨x,ex⟩:=gn codes[k];have hx:codes[k]?=some x:=by simp [h,ex]
  have w:R ((k:Int)+1):=rO (by omega);simp -dsimp [corRow,h,ex,intRow];refine call_p (b128 c hc x) (by simp [corRow]) (by simp) ?_;cases e:hasN c x with
  | false=>
   have hr:allN codes c=false:=by
    unfold allN;rw [Bool.not_eq_false',List.any_eq_true];exact ⟨x,List.mem_of_getElem? hx,by simp [e]⟩
   simp -dsimp [corRow,hr]
  | true=>
   have go:=take_succ_all (p:=fun y=>hasN c y=true) hx hall e;simp -dsimp [corRow,wr w,h];exact go
 ·have:k=codes.length:=by omega
  subst this;rw [List.take_length] at hall;have hr:allN codes c=true:=by
   unfold allN;rw [Bool.not_eq_true',List.any_eq_false];intro x hx;simp [hall x hx]
  simp -dsimp [corRow,h,hr]
end
section
theorem b140 (n a b:Int):Bt 140 [.int .i64 n,.int .i64 a,.int .i64 b] (.p (.bool (decide (a≤n) && decide (n≤b)))):=by
 refine best mixed fn140 ok140 (by simp) ?_
 by_cases h1:a≤n<;>simp -dsimp [ac140,h1]
theorem b202 (n:Int):Bt 202 [.int .i64 n] (.p (.bool (decide (4≤n) && decide (n≤32)))):=by
 refine best mixed fn202 ok202 (by simp) ?_
 by_cases h1:4≤n<;>simp -dsimp [ac202,h1]
theorem b144 (x:Int×Int×Int) (a b:Int):Bt 144 [.agg (i3Row x),.ro [.int .i64 a],.ro [.int .i64 b]] (.p (.bool (decide (x.1=a) && decide (x.2.1=b)))):=by
 refine best mixed fn144 ok144 (by simp [i3Row]) ?_
 by_cases h1:x.1=a<;>simp -dsimp [ac144,i3Row,h1]
theorem b143 {f:FuncId} {c d:PV} {q:Int×Int×Int→Bool} (hf:∀ x:Int×Int×Int,Bt f [.agg (i3Row x),c,d] (.p (.bool (q x)))) (r:List (Int×Int×Int)) (hl:r.length≤9223372036854775807):Bt 143 [.sl 3 (r.map i3Row),.clo (.func f) [] [c,d]] (.p (.int .i64 (idxS q r))):=by
 refine best mixed fn143 ok143 (by simp) ?_;simp -dsimp [ac143];refine loopC r.length (fun k=>⟨[(0,.p (.sl 3 (r.map i3Row))),(1,.p (.clo (.func f) [] [c,d])),(7,.p (.int .i64 r.length)),(8,.p (.int .i64 k))],[]⟩) (fun k=>∀ y∈r.take k,q y=false) (fun k hk hall=>?_) (by simp) (by simp)
 by_cases h:k<r.length
 ·obtain ⟨x,ex⟩:=gn r[k];have hx:r[k]?=some x:=by simp [h,ex]
  have w:R ((k:Int)+1):=rO (by omega);have hfx:=hf x;have hit:q x=true→idxS q r=k:=fun h2=>idxS_hit hx hall h2
  have go:q x=false→∀ y∈r.take (k+1),q y=false:=fun h2=>take_succ_all (p:=fun y=>q y=false) hx hall h2
  generalize q x=b at *;simp -dsimp [h,ex,i3Row] at hfx ⊢;refine call_p hfx rfl (by simp) ?_;cases b with
  | true=>simp -dsimp [hit]
  | false=>simp -dsimp [wr w];exact ⟨h,fun a b c=>go rfl (a,b,c)⟩
 ·have:k=r.length:=by omega
  subst this;rw [List.take_length] at hall;simp -dsimp [idxS_none hall]
theorem growS_b {rs:List (List T3)} {a:List Int} {g:Int×Int} {s:Int} (h:growS rs a g=some s):-17592186044417≤s∧s≤17592186044417:=by
 unfold growS at h;split at h
 ·have:=partB g.2 (scaS (rs.getD g.1.toNat []) a).1 (scaS (rs.getD g.1.toNat []) a).2;cases h;exact this
 ·cases h
theorem sumL_b {rs:List (List T3)} {a:List Int}:∀ {l:List (Int×Int)} {s0 s:Int},sumL rs a s0 l=some s→s0 - 17592186044417*l.length≤s∧s≤s0+17592186044417*l.length
 | [],s0,s,h=>by simp [sumL] at h;subst h;simp
 | g :: l,s0,s,h=>by
  unfold sumL at h;rw [List.foldl_cons] at h;cases e:growS rs a g with
  | none=>simp [e,sumL_none] at h
  | some v=>
   simp only [e,Option.bind_some,Option.map_some] at h;have h1:=growS_b e
   have h2:=sumL_b (s0:=s0+v) (l:=l) h;rw [List.length_cons];push_cast;omega
theorem sumS_b (base:Int) (l:List (Int×Int)) (rs:List (List T3)) (a:List Int):-200000000000000≤(sumS base l rs a).1∧(sumS base l rs a).1≤200000000000000:=by
 unfold sumS;split
 ·rename_i h;obtain ⟨⟨h1,h2⟩,h3,h4⟩:=h;cases e:sumL rs a (64*base) l with
  | none=>simp
  | some v=>
   have:=sumL_b e;simp only;omega
 ·simp
def sizeB (n:Int):Bool:=decide (4≤n) && decide (n≤32)
noncomputable def chW (c:Cor) (x:Ch) (s:Stg):Int×Bool:=
 if sizeB s.size=true∧(sumS x.width x.wide c.rg s.at_).2=true then (max (roundS ((sumS x.width x.wide c.rg s.at_).1*s.size) 4096) 0,true) else (0,false)
noncomputable def widthN (c:Cor) (code:Int) (s:Stg):Int×Bool:=match findN c code with | none=>(0,false) | some x=>chW c x s
theorem findN_mem {c:Cor} {code:Int} {x:Ch} (h:findN c code=some x):x∈c.ch:=List.mem_of_find?_eq_some h
theorem mulsize {v n:Int} (h:-200000000000000≤v∧v≤200000000000000) (hn:sizeB n=true):R (v*n)∧v*n≤4611686018427387904:=by
 simp [sizeB] at hn;have h1:v*n≤200000000000000*n:=Int.mul_le_mul_of_nonneg_right h.2 (by omega)
 have h2:(-200000000000000)*n≤v*n:=Int.mul_le_mul_of_nonneg_right h.1 (by omega);refine ⟨⟨by omega,by omega⟩,by omega⟩
structure WOk (c:Cor) (x:Ch) (s:Stg):Prop where
 w:R x.width
 l:x.wide.length≤1000
 a:s.at_.length≤1000
 r:∀ r∈c.rg,r.length≤1000
theorem b92 (c:Cor) (hc:c.ch.length≤1000) (code:Int) (s:Stg) (hw:WOk c ((findN c code).getD ch0) s):Bt 92 [.agg (corRow c),.int .i64 code,.agg (stgRow s)] (.p (.tup [.int .i64 (widthN c code s).1,.bool (widthN c code s).2])):=by
 refine best mixed fn92 ok92 (by simp [corRow,stgRow]) ?_;simp -dsimp [ac92,corRow,stgRow];refine call_p (b107 c hc code) (by simp [corRow]) (by simp) ?_;simp -dsimp [chRow];have hq:=b140 s.size 4 32;rw [←sizeB] at hq;unfold widthN hasN;cases e:findN c code with
 | none=>simp -dsimp [e]
 | some x=>
  rw [e] at hw;simp only [Option.getD_some,Option.isSome_some] at hw ⊢;simp -dsimp [e];refine cP hq ?_;have hs:=b141 (base:=x.width) (l:=x.wide) (rs:=c.rg) (a:=s.at_) hw.w (by have:=hw.l;omega) (by have:=hw.a;omega) (fun r hr=>by have:=hw.r r hr;omega)
  by_cases h1:sizeB s.size=true
  ·simp -dsimp [h1];refine call_p hs (by simp [mvRow,pRow]) (by simp) ?_;have hb:=sumS_b x.width x.wide c.rg s.at_;have hm:=mulsize hb h1;unfold chW;generalize sumS x.width x.wide c.rg s.at_=v at *;obtain ⟨v1,v2⟩:=v
   cases v2 with
   | false=>simp -dsimp
   | true=>
    have h2:=b142 hm.1 hm.2 (d:=4096) (by simp [R]);simp only at hm h2;simp -dsimp [h1,wr hm.1];refine cP h2 ?_;simp -dsimp [h1]
  ·simp -dsimp [h1,chW]
theorem b167 (c:Cor) (hc:c.ch.length≤1000) (code:Int) (s:Stg) (hw:WOk c ((findN c code).getD ch0) s):Bt 167 [.agg (corRow c),.int .i64 code,.agg (stgRow s)] (.p (.tup [.int .i64 (widthN c code s).1,.bool (widthN c code s).2])):=by
 refine best mixed fn167 ok167 (by simp [corRow,stgRow]) ?_;simp -dsimp [ac167,corRow,stgRow];refine call_p (b164 c hc code) (by simp [corRow]) (by simp) ?_;simp -dsimp [chRow];have hs:=b201 (base:=((findN c code).getD ch0).width) (l:=((findN c code).getD ch0).wide) (rs:=c.rg) (a:=s.at_) hw.w (by have:=hw.l;omega) (by have:=hw.a;omega) (fun r hr=>by have:=hw.r r hr;omega);refine call_p hs (by simp [mvRow,pRow]) (by simp) ?_;have hb:=sumS_b ((findN c code).getD ch0).width ((findN c code).getD ch0).wide c.rg s.at_;have hq:=b202 s.size;rw [←sizeB] at hq;unfold widthN hasN;cases e:findN c code with
 | none=>simp -dsimp [e]
 | some x=>
  rw [e] at hw hb;simp only [Option.getD_some,Option.isSome_some] at hw hb ⊢;unfold chW;generalize sumS x.width x.wide c.rg s.at_=v at *;obtain ⟨v1,v2⟩:=v
  cases v2 with
  | false=>simp -dsimp
  | true=>
   simp -dsimp;refine cP hq ?_
   by_cases h1:sizeB s.size=true
   ·have hm:=mulsize hb h1;have h2:=b203 hm.1 hm.2 (d:=4096) (by simp [R]);simp only at hm h2;simp -dsimp [h1,wr hm.1];refine cP h2 ?_;simp -dsimp [h1]
   ·simp -dsimp [h1]
noncomputable def betwN (c:Cor) (l r n:Int):Int:=if sizeB n=true then (match c.pr.find? (fun x=>decide (x.1=l) && decide (x.2.1=r)) with | none=>0 | some x=>roundS (x.2.2*n) 64) else 0
theorem mulpair {v n:Int} (h:-1000≤v∧v≤1000) (hn:sizeB n=true):R (v*n)∧v*n≤4611686018427387904:=mulsize ⟨by omega,by omega⟩ hn
theorem b94 (c:Cor) (hc:c.pr.length≤1000) (hp:∀ x∈c.pr,-1000≤x.2.2∧x.2.2≤1000) (l r n:Int):Bt 94 [.agg (corRow c),.int .i64 l,.int .i64 r,.int .i64 n] (.p (.int .i64 (betwN c l r n))):=by
 refine best mixed fn94 ok94 (by simp [corRow]) ?_;simp -dsimp [ac94,corRow];have q7:=b143 (c:=.ro [.int .i64 l]) (d:=.ro [.int .i64 r]) (fun x=>b144 x l r) c.pr (by omega);refine call_f q7 (by simp) (by simp) (by simp) ?_;have hq:=b140 n 4 32;rw [←sizeB] at hq;unfold betwN;rcases idxS_find (q:=fun x:Int×Int×Int=>decide (x.1=l) && decide (x.2.1=r)) (l:=c.pr) with ⟨k,x,h1,h2,h3⟩ | ⟨h1,h3⟩
 ·have hk:k<c.pr.length:=by
   rcases Nat.lt_or_ge k c.pr.length with h | h
   ·exact h
   ·rw [List.getElem?_eq_none h] at h2;cases h2
  have ex:c.pr[k]=x:=by rw [List.getElem?_eq_getElem hk] at h2;exact Option.some.inj h2
  have hx:x∈c.pr:=by rw [←ex];simp
  rw [h1,h3];have n1:¬(k:Int)<0:=by omega
  simp -dsimp [n1];refine cP hq ?_
  by_cases h5:sizeB n=true
  ·have hm:=mulpair (hp x hx) h5;have h2:=b142 hm.1 hm.2 (d:=64) (by simp [R]);simp -dsimp [h5,hk,ex,i3Row,wr hm.1];refine cP h2 ?_;simp -dsimp [h5]
  ·simp -dsimp [h5]
 ·rw [h1,h3];simp -dsimp
theorem b168 (c:Cor) (hc:c.pr.length≤1000) (hp:∀ x∈c.pr,-1000≤x.2.2∧x.2.2≤1000) (l r n:Int):Bt 168 [.agg (corRow c),.int .i64 l,.int .i64 r,.int .i64 n] (.p (.int .i64 (betwN c l r n))):=by
 refine best mixed fn168 ok168 (by simp [corRow]) ?_;have hq:=b202 n;rw [←sizeB] at hq;simp -dsimp [ac168,corRow];refine loopC c.pr.length (fun k=>⟨[(1,.p (.int .i64 l)),(2,.p (.int .i64 r)),(3,.p (.int .i64 n)),(4,.ptr (4,0) 9 0 0),(9,.p (.int .i64 k))],[((4,0),.box ((corRow c).map .p))]⟩) (fun k=>sizeB n=true→∀ y∈c.pr.take k,(decide (y.1=l) && decide (y.2.1=r))=false) (fun k hk hall=>?_) (by simp) (by simp [corRow])
 by_cases h:k<c.pr.length
 ·obtain ⟨x,ex⟩:=gn c.pr[k];have hg:c.pr[k]?=some x:=by simp [h,ex]
  have hx:x∈c.pr:=by rw [←ex];simp
  have w:R ((k:Int)+1):=rO (by omega);have go:(sizeB n=true→(decide (x.1=l) && decide (x.2.1=r))=false)→sizeB n=true→∀ y∈c.pr.take (k+1),(decide (y.1=l) && decide (y.2.1=r))=false:=fun h2 h3=>take_succ_all (p:=fun y=>(decide (y.1=l) && decide (y.2.1=r))=false) hg (hall h3) (h2 h3)
  by_cases h1:x.1=l
  ·by_cases h2:x.2.1=r
   ·simp -dsimp [h,corRow,ex,i3Row,h1,h2];refine cP hq ?_
    by_cases h3:sizeB n=true
    ·have hm:=mulpair (hp x hx) h3;have h4:=b203 hm.1 hm.2 (d:=64) (by simp [R]);have hf:c.pr.find? (fun x=>decide (x.1=l) && decide (x.2.1=r))=some x:=by
      rw [List.find?_eq_some_iff_getElem];refine ⟨by simp [h1,h2],k,h,ex,fun j hj=>?_⟩;have:=hall h3 (c.pr[j]'(by omega)) (List.mem_take_iff_getElem.2 ⟨j,by omega,rfl⟩);simp only [this,Bool.not_false]
     simp -dsimp [h3,h,corRow,ex,i3Row,wr hm.1];refine cP h4 ?_;simp -dsimp [betwN,h3,hf]
    ·have:=go (fun h=>absurd h h3);simp -dsimp [h3,h,corRow,wr w]
   ·have:=go (fun _=>by simp [h2]);simp -dsimp [h,corRow,ex,i3Row,h1,h2,wr w]
    first | done | exact this | exact ⟨h,this⟩ | exact (fun e a b c m q1=>by have:=this e (a,b,c) m;simp [q1] at this;exact this)
  ·have:=go (fun _=>by simp [h1]);simp -dsimp [h,corRow,ex,i3Row,h1,wr w]
   first | done | exact this | exact ⟨h,this⟩ | exact (fun e a b c m q1=>by have:=this e (a,b,c) m;simp [q1] at this;exact this)
 ·have:k=c.pr.length:=by omega
  subst this;rw [List.take_length] at hall;have hr:betwN c l r n=0:=by
   unfold betwN
   by_cases h3:sizeB n=true
   ·rw [if_pos h3,List.find?_eq_none.2 (fun y hy=>by simp only [hall h3 y hy,Bool.false_eq_true,not_false_eq_true])]
   ·rw [if_neg h3]
  simp -dsimp [h,corRow,hr]
end
section
structure Cor.fine (c:Cor):Prop where
 ax:c.ax.length≤1000
 ch:c.ch.length≤1000
 pr:c.pr.length≤1000
 prb:∀ x∈c.pr,-1000≤x.2.2∧x.2.2≤1000
 chs:∀ x∈c.ch,R x.width∧x.wide.length≤1000
 rgs:∀ r∈c.rg,r.length≤1000
def CorsOk2 (cs:List Cor):Prop:=cs.length≤1000∧∀ c∈cs,c.fine
theorem incr_len {m:Int}:∀ {l:List (Int×Int)} {k:Int},(∀ y∈l,k≤y.1∧y.1<m)→l.Pairwise (fun a b=>a.1<b.1)→(l.length:Int)≤max (m - k) 0
 | [],k,_,_=>by simp;omega
 | x :: l,k,h,hp=>by
  have hp:=List.pairwise_cons.1 hp;have hx:=h x (by simp);have:=incr_len (m:=m) (l:=l) (k:=x.1+1) (fun y hy=>⟨by have:=hp.1 y hy;omega,(h y (by simp [hy])).2⟩) hp.2;rw [List.length_cons];push_cast;omega
theorem CorsOk2.one {cs:List Cor} (h:CorsOk2 cs):CorsOk cs:=⟨h.1,fun c hc=>(h.2 c hc).ch⟩
theorem PairsOk_b {l:List (Int×Int×Int)} (h:PairsOk l):∀ x∈l,-1000≤x.2.2∧x.2.2≤1000:=by
 induction l with
 | nil=>simp
 | cons y l ih=>
  intro x hx;rcases List.mem_cons.1 hx with rfl | hx
  ·have:=h.1;omega
  ·exact ih h.2.2 x hx
theorem Cor.ok.fine {c:Cor} (h:c.ok):c.fine:=by
 obtain ⟨h1,h2,⟨h3,h4⟩,h5,h6,h7⟩:=h;refine ⟨by omega,by omega,by omega,PairsOk_b h6,fun x hx=>?_,fun r hr=>by have:=h2.2 r hr;omega⟩;obtain ⟨g1,g2,g3,g4,g5,g6,g7,g8⟩:=h4.1 x hx;refine ⟨⟨by omega,by omega⟩,?_⟩;have:=incr_len (l:=x.wide) (m:=c.rg.length) (k:=0) (fun y hy=>⟨(g7 y hy).1,(g7 y hy).2.1⟩) g8;omega
theorem Cor.fine.w {c:Cor} (h:c.fine) (code:Int) (s:Stg) (hs:s.at_.length≤1000):WOk c ((findN c code).getD ch0) s:=by
 cases e:findN c code with
 | none=>exact ⟨by simp [ch0,R],by simp [ch0],hs,h.rgs⟩
 | some x=>
  have hx:=h.chs x (findN_mem e);exact ⟨hx.1,hx.2,hs,h.rgs⟩
noncomputable def cwN (c:Cor) (s:Stg) (code:Int):Int:=(widthN c code (s.own c.ax.length)).1
noncomputable def sumW (c:Cor) (s:Stg):Int→List Int→Int
 | _,[]=>0
 | b,x :: l=>cwN c s x+(if 0≤b then betwN c b x s.size else 0)+sumW c s x l
theorem sumW_snoc (c:Cor) (s:Stg) (x:Int):∀ (l:List Int) (b:Int),sumW c s b (l++[x])=sumW c s b l+cwN c s x+(if 0≤l.getLastD b then betwN c (l.getLastD b) x s.size else 0)
 | [],b=>by simp [sumW]
 | y :: l,b=>by
  have:=sumW_snoc c s x l y;rw [List.cons_append,sumW,this,sumW];have e:(y :: l).getLastD b=l.getLastD y:=List.getLastD_cons ..;rw [e];omega
theorem cwN_b {c:Cor} {s:Stg} {x:Int}:0≤cwN c s x∧cwN c s x≤6500000000000000:=by
 unfold cwN widthN;cases findN c x with
 | none=>simp
 | some y=>
  simp only [chW];split
  ·rename_i h;have hb:=sumS_b y.width y.wide c.rg (s.own c.ax.length).at_;have hm:sizeB (s.own c.ax.length).size=true:=h.1;generalize (sumS y.width y.wide c.rg (s.own c.ax.length).at_).1=v at *;generalize (s.own c.ax.length).size=n at *;simp [sizeB] at hm;have h1:v*n≤200000000000000*n:=Int.mul_le_mul_of_nonneg_right hb.2 (by omega)
   have h2:(-200000000000000)*n≤v*n:=Int.mul_le_mul_of_nonneg_right hb.1 (by omega);have:=roundS_bd (n:=v*n) (d:=4096) (m:=6400000000000000) (by omega) (by omega) (by omega) (by omega);simp only;omega
  ·simp
theorem betwN_b {c:Cor} (hp:∀ x∈c.pr,-1000≤x.2.2∧x.2.2≤1000) {a b n:Int}:-100000≤betwN c a b n∧betwN c a b n≤100000:=by
 unfold betwN;split
 ·rename_i h;simp [sizeB] at h;split
  ·omega
  ·rename_i x hx;have hb:=hp x (List.mem_of_find?_eq_some hx);generalize x.2.2=v at *;have h1:v*n≤1000*n:=Int.mul_le_mul_of_nonneg_right hb.2 (by omega)
   have h2:(-1000)*n≤v*n:=Int.mul_le_mul_of_nonneg_right hb.1 (by omega);have:=roundS_bd (n:=v*n) (d:=64) (m:=32000) (by omega) (by omega) (by omega) (by omega);omega
 ·omega
theorem sumW_b {c:Cor} (hp:∀ x∈c.pr,-1000≤x.2.2∧x.2.2≤1000) (s:Stg):∀ (l:List Int) (b:Int),-100000*(l.length:Int)≤sumW c s b l∧sumW c s b l≤6600000000000000*l.length
 | [],b=>by simp [sumW]
 | x :: l,b=>by
  have h:=sumW_b hp s l x;have h1:=cwN_b (c:=c) (s:=s) (x:=x);have h2:=betwN_b hp (a:=b) (b:=x) (n:=s.size);rw [sumW,List.length_cons];push_cast;split<;>omega
def befN (cs:List Cor) (t:List UInt8) (i:Nat):Int:=
 if 0<i∧fontN cs t ((splT t).getD (i - 1) (0,0))=fontN cs t ((splT t).getD i (0,0)) then (codesT t ((splT t).getD (i - 1) (0,0)).1 ((splT t).getD (i - 1) (0,0)).2).getLastD (-1) else -1
def cor0:Cor:=⟨⟨#[]⟩,0,[],[],0,[],[],[],⟨#[]⟩⟩
noncomputable def wdN (cs:List Cor) (t:List UInt8) (s:Stg) (i:Nat):Int:=
 if clsT t (baseT t ((splT t).getD i (0,0)).1 ((splT t).getD i (0,0)).2)=1 then 0
 else if fontN cs t ((splT t).getD i (0,0))<0 then s.size.tdiv 2
 else max (sumW (cs.getD (fontN cs t ((splT t).getD i (0,0))).toNat cor0) s (befN cs t i) (codesT t ((splT t).getD i (0,0)).1 ((splT t).getD i (0,0)).2)) 0
noncomputable def widthsN (cs:List Cor) (t:List UInt8) (s:Stg):List Int:=if fitN s=true then (List.range (splT t).length).map (wdN cs t s) else []
theorem fontN_lt {cs:List Cor} {t:List UInt8} {x:Nat×Nat} (h:¬fontN cs t x<0):∃ m:Nat,fontN cs t x=m∧m<cs.length:=by
 unfold fontN at h ⊢;split at h
 ·omega
 ·rename_i h1;rw [if_neg h1];rcases idxS_find (q:=allN (codesT t x.1 x.2)) (l:=cs) with ⟨k,y,h2,h3,_⟩ | ⟨h2,_⟩
  ·exact ⟨k,h2,(List.getElem?_eq_some_iff.1 h3).1⟩
  ·rw [h2] at h;omega
theorem codesT_nn {t:List UInt8} {a b:Nat}:∀ x∈codesT t a b,0≤x:=by
 intro x hx;obtain ⟨i,_,rfl⟩:=List.mem_map.1 hx;unfold cT;omega
theorem codesT_len {t:List UInt8} {a b:Nat}:(codesT t a b).length≤b - a:=by
 have:=visT_len (t:=t) (a:=a) (b:=b);simpa [codesT] using this
end
section
set_option maxHeartbeats 400000
theorem x38 (c:Cor) (hc:c.fine) (s:Stg) (hs:s.at_.length≤1000) (C:List Int) (hC:C.length≤6) (b:Int) :
  awp Tryz.prog xc91b (retK [RO.tmp 7] (.p (.int .i64 (max (sumW c s b C) 0)))) ⟨[(4,.p (.ro (stgRow s))),(8,.ptr (8,0) 9 0 0),(9,.p (.sl 1 (C.map intRow))),(10,.p (.int .i64 b))],[((8,0),.box ((corRow c).map .p))]⟩:=by
 have hp:=hc.prb;have hpl:=hc.pr;have hch:c.ch.length≤1000:=hc.ch;have hax:c.ax.length≤1000:=hc.ax;simp -dsimp [xc91b,stgRow,corRow];refine loopC C.length (fun k=>⟨[(4,.p (.ro (stgRow s))),(8,.ptr (8,0) 9 0 0),(10,.p (.int .i64 ((C.take k).getLastD b))),(12,.p (.int .i64 (sumW c s b (C.take k)))),(77,.p (.sl 1 (C.map intRow))),(78,.p (.int .i64 C.length)),(79,.p (.int .i64 k))],[((8,0),.box ((corRow c).map .p))]⟩) (fun _=>True) (fun k hk _=>?_) trivial (by simp [sumW,stgRow,corRow])
 by_cases h:k<C.length
 ·obtain ⟨x,ex⟩:=gn C[k];have hx:C[k]?=some x:=by simp [h,ex]
  have hsn:=sumW_snoc c s x (C.take k) b;have htk:C.take (k+1)=C.take k++[x]:=by rw [List.take_add_one,hx];rfl
  have hla:(C.take (k+1)).getLastD b=x:=by rw [htk];simp
  rw [←htk] at hsn;have hb:=sumW_b hp s (C.take k) b
  have hl2:(C.take k).length≤6:=by simp;omega
  have wk:R ((k:Int)+1):=rO (by omega);have hw:(widthN c x (s.own c.ax.length)).1=cwN c s x:=rfl;have hcb:=cwN_b (c:=c) (s:=s) (x:=x);have q39:=b92 c hch x (s.own c.ax.length) (Cor.fine.w hc x (s.own c.ax.length) (by simp [Stg.own,setN];omega));have hbb:=betwN_b hp (a:=(C.take k).getLastD b) (b:=x) (n:=s.size);obtain ⟨l,el⟩:=gn ((C.take k).getLastD b);obtain ⟨v,ev⟩:=gn (sumW c s b (C.take k));obtain ⟨z,ez⟩:=gn (cwN c s x);obtain ⟨w,ew⟩:=gn (betwN c l x s.size);obtain ⟨v',ev'⟩:∃ v',sumW c s b (C.take (k+1))=v':=⟨_,rfl⟩;rw [el,ev,ez,ew,ev'] at hsn;rw [ev] at hb;rw [ez] at hcb hw;rw [el,ew] at hbb;rw [el,ev,ev',hla];have w1':R (v+z):=rO (by omega)
  have w2':R (v+z+w):=rO (by omega);simp -dsimp [h,ex,intRow,stgRow,corRow];refine call_p (b93 c hax s hs) (by simp [stgRow,corRow]) (by simp) ?_;simp -dsimp [h,ex,intRow,stgRow,corRow];refine call_p q39 (by simp [stgRow,corRow]) (by simp) ?_;rw [hw]
  by_cases h1:0≤l
  ·rw [if_pos h1] at hsn;simp -dsimp [h,h1,wr w1'];refine call_p (b94 c (by omega) hp l x s.size) (by simp [corRow]) (by simp) ?_;rw [ew];simp -dsimp [h,h1,wr w2',wr wk,hsn,stgRow,corRow]
  ·rw [if_neg h1] at hsn;simp -dsimp [h,h1,wr w1',wr wk,hsn,stgRow,corRow]
 ·have:k=C.length:=by omega
  subst this;rw [List.take_length];simp -dsimp [h]
theorem b91 (cs:List Cor) (hcs:CorsOk2 cs) (t:List UInt8) (hl:t.length≤1000000) (s:Stg) (hs:s.at_.length≤1000) (hz:R s.size) (i:Nat) (hi:i<(splT t).length) :
  Bt 91 [.int .i64 i,.ro [.str (ba t)],.ro [.sl 2 ((splT t).map spRow)],.ro [.sl 1 ((fontsN cs t).map intRow)],.ro (stgRow s),.ro [.sl 9 (cs.map corRow)]] (.p (.int .i64 (wdN cs t s i))):=by
 refine best mixed fn91 ok91 (by simp) ?_;have hm:∀ x∈splT t,x.1<x.2∧x.2≤t.length∧x.2 - x.1≤6:=fun x hx=>splT_mem hx
 have hfl:(fontsN cs t).length=(splT t).length:=by simp [fontsN]
 have hfg:∀ j (hj:j<(splT t).length),(fontsN cs t)[j]'(by omega)=fontN cs t ((splT t)[j]):=fun j hj=>by simp [fontsN]
 obtain ⟨V,eV⟩:=gn (wdN cs t s i);rw [eV];unfold wdN at eV;obtain ⟨T,eT⟩:=gn (splT t)
 obtain ⟨Fs,eF⟩:=gn (fontsN cs t);have eB:befN cs t i=befN cs t i:=rfl
 conv at eB=>rhs;unfold befN
 simp only [eT,eF] at hm hfl hfg hi eB eV ⊢;obtain ⟨⟨a,b⟩,ex⟩:=gn T[i]
 obtain ⟨hab,hb,h6⟩:=hm (a,b) (by rw [←ex];simp);dsimp only at hab hb h6;have exd:T.getD i (0,0)=(a,b):=by simp [hi,ex]
 obtain ⟨fo,ef⟩:=gn (fontN cs t (a,b));have hfi:=hfg i hi;rw [ex,ef] at hfi;have hFi:i<Fs.length:=by omega
 rw [exd,ef] at eB eV;simp -dsimp [ac91,hi,ex,spRow,↓ awpC_of xc91b];refine call_p (b49 t a b hab hb hl) (by simp [spRow]) (by simp) ?_
 by_cases h1:clsT t (baseT t a b)=1
 ·rw [if_pos h1] at eV;simp -dsimp [h1,←eV,↓ awpC_of xc91b]
 rw [if_neg h1] at eV
 by_cases h2:fo<0
 ·rw [if_pos h2] at eV;subst eV;have wd:R (s.size.tdiv 2):=R_tdiv hz (d:=2) (by omega)
  simp -dsimp [h1,hFi,hfi,intRow,h2,stgRow,wr wd,↓ awpC_of xc91b]
 obtain ⟨m,hm1,hm2⟩:=fontN_lt (cs:=cs) (t:=t) (x:=(a,b)) (by rw [ef];exact h2);rw [ef] at hm1;subst hm1;obtain ⟨c,ec⟩:=gn cs[m]
 have hcm:c∈cs:=by rw [←ec];simp
 have n1:¬(m:Int)<0:=by omega
 simp -dsimp [h1,n1,hm2,ec,corRow,hi,ex,spRow,hFi,hfi,intRow,↓ awpC_of xc91b];refine call_p (b55 t a b hab hb hl h6) (by simp [spRow]) (by simp) ?_;have hgc:cs.getD (m:Int).toNat cor0=c:=by simp [hm2,ec]
 have hC:(codesT t a b).length≤6:=by have:=codesT_len (t:=t) (a:=a) (b:=b);omega
 rw [if_neg h2,hgc] at eV;dsimp only at eV;have htl:=splT_len t
 rw [eT] at htl;rcases Nat.eq_zero_or_pos i with h0 | h0
 ·subst h0;rw [if_neg (by omega)] at eB;have:=x38 c (hcs.2 c hcm) s hs (codesT t a b) hC (befN cs t 0)
  rw [eB] at this eV;subst eV;simp -dsimp [↓ awpC_of xc91b];exact awpC_in this
 ·obtain ⟨j,rfl⟩:∃ j,i=j+1:=⟨i - 1,by omega⟩;have hj:j<T.length:=by omega
  have hFj:j<Fs.length:=by omega
  obtain ⟨⟨a',b'⟩,ex'⟩:∃ x,T[j]=x:=⟨_,rfl⟩;obtain ⟨hab',hb',h6'⟩:=hm (a',b') (by rw [←ex'];simp);dsimp only at hab' hb' h6';have hfj:=hfg j hj
  rw [ex'] at hfj;have exd':T.getD j (0,0)=(a',b'):=by simp [hj,ex']
  rw [Nat.add_sub_cancel,exd'] at eB;obtain ⟨fj,efj⟩:=gn (fontN cs t (a',b'))
  rw [efj] at hfj eB;have wj:R (j:Int):=rO (by omega)
  have j0:0≤(j:Int)+1:=by omega
  have this:=x38 c (hcs.2 c hcm) s hs (codesT t a b) hC (befN cs t (j+1))
  by_cases h3:fj=m
  ·rw [if_pos ⟨h0,h3⟩] at eB;simp -dsimp [hj,ex',hFj,hfj,hFi,hfi,wr wj,intRow,spRow,h3,j0,↓ awpC_of xc91b];refine call_p (b55 t a' b' hab' hb' hl h6') (by simp [spRow]) (by simp) ?_;obtain ⟨D,eD⟩:=gn (codesT t a' b')
   rw [eD] at eB ⊢
   by_cases h4:D=[]
   ·subst h4;rw [eB] at this eV;subst eV;simp -dsimp [↓ awpC_of xc91b];exact awpC_in this
   ·have h5:0<D.length:=List.length_pos_iff.2 h4;have h5':0<(D.length:Int):=by omega
    obtain ⟨y,ey⟩:=gn (D.getLastD (-1));have ey':D[D.length - 1]=y:=by rw [←ey,List.getLastD_eq_getLast?,List.getLast?_eq_getElem?,List.getElem?_eq_getElem (by omega)];rfl
    have ey2:D[D.length - 1]?=some y:=by rw [List.getElem?_eq_getElem (by omega),ey']
    have hD:D.length≤6:=by rw [←eD];have:=codesT_len (t:=t) (a:=a') (b:=b');omega
    have wl:R ((D.length:Int) - 1):=rO (by omega);have ln:(0:Int)≤(D.length:Int) - 1:=by omega
    have lt:((D.length:Int) - 1).toNat=D.length - 1:=by omega
    have lt2:D.length - 1<D.length:=by omega
    have l1:1≤(D.length:Int):=by omega
    rw [ey] at eB;rw [eB] at this eV;subst eV;simp -dsimp [h5,↓ awpC_of xc91b];simp -dsimp [h5,h5',wr wl,ln,l1,lt,lt2,ey',ey2,intRow,↓ awpC_of xc91b];exact awpC_in this
  ·rw [if_neg (fun e=>h3 e.2)] at eB;rw [eB] at this eV;subst eV;simp -dsimp [hj,ex',hFj,hfj,hFi,hfi,wr wj,intRow,spRow,h3,j0,↓ awpC_of xc91b];exact awpC_in this
end
end Go.Abs.A30
