/- A part of the proof: an abstract reading of the model, contracts of functions. -/
import Derived.Test.YtlkbeomimbohlaaGreatC18
set_option linter.unusedVariables false
set_option linter.unusedSimpArgs false
namespace Go.Abs.A30
open Go Go.Abs Go.Proofs
set_option maxRecDepth 100000
set_option linter.unusedVariables false
set_option linter.unusedSimpArgs false
attribute [local simp ↓] awp_skip awp_seq awp_cond awp_block awp_exit awp_ret awp_reg awp_draw awp_ghost awp_loop awp_rfun awpR_nil awpR_cons awpX_nil awpX_0 awpX_1 awpX_2 awpI_eq awpI_t awpI_f awpStep_eq
attribute [local simp] condL_true condL_false condL_dec evDel evV evN evS evA initFr Ghost.app Fr.var Fr.blk Fr.ff FF.val Abs.look Fr.app Fr.erase Fr.noSlot AV.noSlot AV.noSlotL Blk.noSlot Fr.spoken AV.fz AV.fzL Blk.fz binV binI shI binS unV fillA FF.parts FF.vals headO intO boundO lenV scalarEq leavesEq AV.aggc AV.cells FF.read FF.rows AV.one PV.one chunk freshB newS pickV retK evRs evRl evR resOf mkTup mkAgg allP cloOf okP_nil okX_p okX okP addN Del.noSlot Del.owners Rnd reify_p normM insM Fr.back Fr.backV Fr.setPs normV insV
attribute [local simp] renF Fr.trim Blk.trim AV.rn AV.rnL Blk.rn AV.among AV.amongL Blk.among okF retM fixS BIG initFF
attribute [local simp] FF.reify FF.reifyL PV.flat
section
attribute [local simp ↓] awp_scope awp_label
set_option maxHeartbeats 1000000
attribute [local simp] evC
attribute [local simp ↓] oneI oneS oneSS oneK oneF oneC oneLl
theorem b30 (fs:List Fnt) (hf:fs.length≤3):Best Tryz.prog 30 [.sl 11 (fs.map fRow)] (.p (.sl 9 ((fs.map (·.1)).map corRow))):=by
 refine best mixed fn30 ok30 (by simp) ?_
 simp -dsimp [ac30]
 refine loopC fs.length (fun k=>⟨[(0,.p (.sl 11 (fs.map fRow))),(3,.ref (18,k) 9 0 k),(4,.p (.int .i64 k))],[((18,k),.sl 53 9 (((fs.take k).map (·.1)).map corRow))]⟩) (fun _=>True) (fun k hk _=>?_) trivial (by simp)
 by_cases h:k<fs.length
 ·obtain ⟨⟨⟨nm,ver,ax,rg,gl,ch,pr,hd,rt⟩,ls,gs⟩,ex⟩:∃ x,fs[k]=x:=⟨_,rfl⟩
  have wk:R ((k:Int)+1):=⟨by omega,by omega⟩
  have m1:k+1≤maxLen:=by unfold maxLen;omega
  have m2:(k+1)*168≤140737488355328:=by omega
  have hl:min k fs.length=k:=by omega
  have hs:fs.take (k+1)=fs.take k++[(⟨nm,ver,ax,rg,gl,ch,pr,hd,rt⟩,ls,gs)]:=by
   rw [List.take_add_one,List.getElem?_eq_getElem h,ex];rfl
  have hall:((((fs.take k).map (·.1)).map corRow).all fun r=>r.all PV.one)=true:=oneC _
  simp only [List.map_map] at hall
  simp -dsimp [h,ex,fRow,fntRow,wr wk,m1,m2,hl,hs,List.range,List.range.loop,corRow,hall,-List.all_eq_true,-List.map_take]
 ·have:k=fs.length:=by omega
  subst this
  have ht:List.take fs.length (fs.map (corRow ∘ fun x=>x.1))=fs.map (corRow ∘ fun x=>x.1):=List.take_of_length_le (by simp)
  simp -dsimp [h,ht]
theorem ba_app (a b:List UInt8):ba a++ba b=ba (a++b):=by
 apply ByteArray.ext
 simp [ba,ByteArray.data_append]
def Dr.okm (d:Dr):Prop:=(∀ x∈d.l,R x)∧d.l.length≤9223372036854775807
theorem b71m (d:Dr) (hd:d.okm) {n:Int} (hn:1≤n) (hn2:n≤4611686018427387904) (s:Slot):BestF Tryz.prog 71 [(s,.box [.p (.sl 1 (d.l.map intRow)),.p (.int .i64 d.a)])] [.ptr s 2 0 0,.p (.int .i64 n)] [s] (.p (.int .i64 (d.val n))) [(s,.box [.p (.sl 1 (d.nxt.l.map intRow)),.p (.int .i64 d.nxt.a)])]:=by
 refine BestF.one (k:=.box d.cells) (k':=.box d.nxt.cells) (v:=.p (.int .i64 (d.val n))) (args:=[.ptr (BIG,0) 2 0 0,.p (.int .i64 n)]) ?_ s rfl rfl
 refine bestF mixed fn71 ok71 (by simp) (by simp) ?_
 obtain ⟨l,a⟩:=d
 obtain ⟨h1,h2⟩:=hd
 dsimp only at h1 h2
 by_cases h:a<l.length
 ·have hi:¬((l.length:Int)≤a):=by omega
  have w:R ((a:Int)+1):=⟨by omega,by omega⟩
  obtain ⟨x,ex⟩:∃ x,l[a]=x:=⟨_,rfl⟩
  have hx:=h1 x (by rw [←ex];simp)
  have p:=b123 (n:=x) (m:=n) hx hn hn2
  have hv:Dr.val ⟨l,a⟩ n=x % n:=by unfold Dr.val;dsimp only;rw [List.getElem?_eq_getElem h,ex]
  have e1:(a:Int)+1 - 1=a:=by omega
  have wa:R (a:Int):=⟨by omega,by omega⟩
  have hli:¬l.length≤a:=by omega
  simp -dsimp [ac71,Dr.cells,Dr.nxt,hi,hli,wr w,e1,wr wa,h,ex,intRow,hv]
  refine call_p p rfl (by simp) ?_
  simp -dsimp [retF]
 ·have hi:(l.length:Int)≤a:=by omega
  have hli:l.length≤a:=by omega
  have hv:Dr.val ⟨l,a⟩ n=0:=by unfold Dr.val;dsimp only;rw [List.getElem?_eq_none (by omega)]
  simp -dsimp [ac71,Dr.cells,Dr.nxt,hi,hli,h,hv,retF]
theorem b71nm (d:Dr) (hd:d.okm) (n:Int) (s:Slot) (hn:1≤n) (hn2:n≤4611686018427387904):∃ (v:Nat) (d':Dr),d'.okm∧(v:Int)<n∧BestF Tryz.prog 71 [(s,.box [.p (.sl 1 (d.l.map intRow)),.p (.int .i64 d.a)])] [.ptr s 2 0 0,.p (.int .i64 n)] [s] (.p (.int .i64 v)) [(s,.box [.p (.sl 1 (d'.l.map intRow)),.p (.int .i64 d'.a)])]:=by
 have h1:=d.val_bd hn
 have h2:=b71m d hd hn hn2 s
 refine ⟨(d.val n).toNat,d.nxt,hd,by omega,?_⟩
 rwa [show (((d.val n).toNat:Nat):Int)=d.val n by omega]
theorem b72 (l:List Int) (hl:l.length≤9223372036854775807):∃ t:List UInt8,t.length≤12∧Best Tryz.prog 72 [.sl 1 (l.map intRow)] (.p (.str (ba t))):=by
 obtain ⟨v,⟨t,rfl,ht⟩,hb⟩:=bestE (Q:=fun v=>∃ t:List UInt8,v=.str (ba t)∧t.length≤12) mixed fn72 ok72 (args:=[.sl 1 (l.map intRow)]) (by simp) (by
  simp -dsimp [ac72]
  refine loopE (min l.length 12) (fun k (t:List UInt8)=>⟨[(0,.p (.sl 1 (l.map intRow))),(3,.p (.str (ba t))),(4,.p (.int .i64 k))],[]⟩) (fun k t=>t.length=k) [] (fun k t hk ht=>?_) rfl (by simp [ba])
  by_cases h1:k<l.length
  ·by_cases h2:k<12
   ·have h2':(k:Int)<12:=by omega
    have wk:R ((k:Int)+1):=⟨by omega,by omega⟩
    obtain ⟨x,ex⟩:∃ x,l[k]=x:=⟨_,rfl⟩
    obtain ⟨n,hn⟩:∃ n:Nat,andS x=n:=⟨_,rfl⟩
    have hw:IntKind.i64.wrap (((x % 2 ^ IntKind.i64.bits).toNat &&& 65535 % 2 ^ IntKind.i64.bits:Nat):Int)=n:=by rw [←hn];exact and_wrap x
    have hn20:(n:Int).tmod 20=((n % 20:Nat):Int):=rfl
    obtain ⟨b,eb⟩:=pool_get (k:=n % 20) (by omega)
    obtain ⟨m,em⟩:∃ m,n % 20=m:=⟨_,rfl⟩
    rw [em] at hn20 eb
    have hz:(ba t).size+1≤9223372036854775807:=by rw [ba_size];omega
    obtain ⟨q,eq⟩:∃ q,(n:Int).fdiv (2 ^ min 10 IntKind.i64.bits)=q:=⟨_,rfl⟩
    have sb:∀ u:Int,strB [u]=ba [UInt8.ofNat u.toNat]:=fun u=>rfl
    have lim:(ba t).size+1≤9223372036854775807:=hz
    have l1:∀ u,(ba [u]).size=1:=fun u=>rfl
    have lim2:t.length+1≤9223372036854775807:=by omega
    by_cases q1:q=63
    ·simp -dsimp [h1,h2',ex,intRow,hw,hn20,eb,eq,q1,bytesO,sb,ba_app,ba_size,lim2,wr wk,List.range,List.range.loop]
     exact ⟨by omega,t++[_],by simp [ht],rfl⟩
    ·by_cases q2:q=62
     ·simp -dsimp [h1,h2',ex,intRow,hw,hn20,eb,eq,q2,bytesO,sb,ba_app,ba_size,lim2,wr wk,List.range,List.range.loop]
      exact ⟨by omega,t++[_],by simp [ht],rfl⟩
     ·simp -dsimp [h1,h2',ex,intRow,hw,hn20,eb,eq,q1,q2,bytesO,sb,ba_app,ba_size,lim2,wr wk,List.range,List.range.loop]
      exact ⟨by omega,t++[_],by simp [ht],rfl⟩
   ·have:k=12:=by omega
    subst this
    have h3:(12:Int)<l.length:=by omega
    simp -dsimp [h1,h3,retE]
    exact ⟨t,rfl,by omega⟩
  ·simp -dsimp [h1,retE]
   exact ⟨t,rfl,by omega⟩)
 exact ⟨t,ht,hb⟩
theorem b73 (l:List Int) (hl:∀ x∈l,R x) (hl2:l.length≤9223372036854775807):∃ s:Stg,(fitN s=true∧s.at_.length≤2)∧Best Tryz.prog 73 [.sl 1 (l.map intRow)] (.p (.agg (stgRow s))):=by
 obtain ⟨v1,d1,hd1,l1,p1⟩:=b71nm ⟨l,0⟩ ⟨hl,hl2⟩ 13 (8,0) (by decide) (by decide)
 obtain ⟨v2,d2,hd2,l2,p2⟩:=b71nm d1 hd1 4 (8,0) (by decide) (by decide)
 obtain ⟨v3,d3,hd3,l3,p3⟩:=b71nm d2 hd2 3 (8,0) (by decide) (by decide)
 obtain ⟨ft,eft⟩:∃ ft:Int,([[PV.int .i64 0],[PV.int .i64 32],[PV.int .i64 96],[PV.int .i64 1023]]:List (List PV))[v2]?=some [PV.int .i64 ft]:=by
  have:v2=0∨v2=1∨v2=2∨v2=3:=by omega
  rcases this with rfl | rfl | rfl | rfl<;>exact ⟨_,rfl⟩
 obtain ⟨a,ea⟩:∃ a:Nat,min (l.length:Int) 3=a:=⟨min l.length 3,by omega⟩
 have hal:a≤l.length:=by omega
 have h2':(v2:Int)<4:=l2
 have q:=b124 (l.drop a) v3 (by omega)
 have w1:R (4+(v1:Int)):=⟨by omega,by omega⟩
 have fit:fitN ⟨4+v1,madeAt (l.drop a) v3,ft⟩=true:=by
  have h1:(4:Int)≤4+v1:=by omega
  have h2:4+(v1:Int)≤32:=by omega
  have h3:CL (madeAt (l.drop a) v3):=⟨by simp [madeAt];omega,fun n hn=>by
   simp only [madeAt] at hn
   obtain ⟨k,_,rfl⟩:=List.mem_map.1 hn
   have:=atS_bd (l.drop a) k
   exact ⟨by omega,by omega⟩⟩
  simp [fitN,h1,h2,h3]
 refine ⟨⟨4+v1,madeAt (l.drop a) v3,ft⟩,⟨fit,by simp [madeAt];omega⟩,best mixed fn73 ok73 (by simp) ?_⟩
 simp -dsimp [ac73]
 refine call_m p1 (by simp) (by simp) (by simp) ?_
 simp -dsimp [wr w1,List.range,List.range.loop]
 refine call_m p2 (by simp) (by simp) (by simp) ?_
 simp -dsimp [h2',eft,List.range,List.range.loop]
 refine call_m p3 (by simp) (by simp) (by simp) ?_
 simp -dsimp [ea,hal]
 have hty:List.take l.length (l.map intRow)=l.map intRow:=List.take_of_length_le (by simp)
 refine call_p q (by simp [List.map_drop,hty]) (by simp) ?_
 simp -dsimp [stgRow]
structure Par where
 t:List UInt8
 s:Stg
def parRow (p:Par):List PV:=[.str (ba p.t),.int .i64 p.s.size,.sl 1 (p.s.at_.map intRow),.int .i64 p.s.feat]
def pinRow (c:Cor):List PV:=[.str c.nm,.int .i64 c.ver,.str c.rt]
theorem onePa (l:List Par):((l.map parRow).all fun r=>r.all PV.one)=true:=by
 rw [List.all_eq_true];intro r hr;obtain ⟨u,_,rfl⟩:=List.mem_map.1 hr;rfl
theorem onePi (l:List Cor):((l.map pinRow).all fun r=>r.all PV.one)=true:=by
 rw [List.all_eq_true];intro r hr;obtain ⟨u,_,rfl⟩:=List.mem_map.1 hr;rfl
attribute [local simp ↓] onePa onePi
def docRow (w:Int) (cs:List Cor) (ps:List Par):List PV:=[.int .i64 w,.sl 3 (cs.map pinRow),.sl 4 (ps.map parRow)]
def Par.ok (p:Par):Prop:=p.t.length≤12∧fitN p.s=true∧p.s.at_.length≤2
def ParsOk (l:List Par):Prop:=l.length≤3∧∀ p∈l,p.ok
def K32 (cs:List Cor):AE→Fr→Prop:=retE [.cell 4 true 3] (fun v=>∃ (w:Int) (ps:List Par),v=.agg (docRow w cs ps)∧(12≤w∧w<72∧ParsOk ps))
theorem x32c (l:List (List Int)) (hl:l.length≤4) (hR:∀ x∈l,x.length≤9223372036854775807∧∀ n∈x,R n) (cs:List Cor) (hc:cs.length≤3) (q:List Int) (hq:q.length≤9223372036854775807∧∀ n∈q,R n) (w:Int) (hw:12≤w∧w<72) :
  awp Tryz.prog xc32c (K32 cs) ⟨[(0,.p (.sl 1 (l.map llRow))),(4,.ptr (4,0) 3 0 0),(5,.p (.sl 1 (q.map intRow))),(7,.ptr (7,0) 3 0 0)],
   [((78,0),.sl 41 4 []),((4,0),.box [.p (.int .i64 0),.p .nsl,.p .nsl]),((7,0),.box [.p (.int .i64 w),.ref (48,cs.length) 3 0 cs.length,.ref (78,0) 4 0 0]),((48,cs.length),.sl 143 3 (cs.map pinRow))]⟩:=by
 simp -dsimp [xc32c]
 refine loopE (min (l.length - 1) 3) (fun j (z:Nat×List Par)=>⟨[(0,.p (.sl 1 (l.map llRow))),(4,.ptr (4,0) 3 0 0),(5,.p (.sl 1 (q.map intRow))),(7,.ptr (7,0) 3 0 0),(9,.p (.int .i64 z.1))],
   [((4,0),.box [.p (.int .i64 0),.p .nsl,.p .nsl]),((7,0),.box [.p (.int .i64 w),.ref (48,cs.length) 3 0 cs.length,.ref (78,j) 4 0 j]),((48,cs.length),.sl 143 3 (cs.map pinRow)),((78,j),.sl 41 4 (z.2.map parRow))]⟩) (fun j z=>z.1=j+1∧z.2.length=j∧∀ p∈z.2,p.ok) (1,[]) (fun j z hj hz=>?_) ⟨rfl,rfl,by simp⟩ (by simp)
 obtain ⟨a,z⟩:=z
 obtain ⟨ha,hz1,hz2⟩:=hz
 dsimp only at ha hz1 hz2
 have ht1:List.take cs.length (cs.map pinRow)=cs.map pinRow:=List.take_of_length_le (by simp)
 have ht2:List.take j (z.map parRow)=z.map parRow:=List.take_of_length_le (by simp;omega)
 by_cases h1:a<l.length
 ·have h1':(a:Int)<l.length:=by omega
  by_cases h2:a<4
  ·have h2':(a:Int)<4:=by omega
   have wa:R ((a:Int)+1):=⟨by omega,by omega⟩
   have w6:R (6*(a:Int)):=⟨by omega,by omega⟩
   have w7:R (6*(a:Int) - 5):=⟨by omega,by omega⟩
   obtain ⟨x,ex⟩:∃ x,l[a]=x:=⟨_,rfl⟩
   obtain ⟨hx1,hx2⟩:=hR x (by rw [←ex];simp)
   obtain ⟨t,ht,q1⟩:=b72 x hx1
   obtain ⟨m,em⟩:∃ m:Nat,min (q.length:Int) (6*(a:Int) - 5)=m:=⟨min q.length (6*a - 5),by omega⟩
   have hm:m≤q.length:=by omega
   obtain ⟨s,⟨hs1,hs2⟩,q2⟩:=b73 (q.drop m) (fun x hx=>hq.2 x (List.mem_of_mem_drop hx)) (by simp;omega)
   have hty:List.take q.length (q.map intRow)=q.map intRow:=List.take_of_length_le (by simp)
   have m1:j+1≤maxLen:=by unfold maxLen;omega
   have m2:(j+1)*56≤140737488355328:=by omega
   simp -dsimp [h1,h1',h2',ex,llRow]
   refine call_p q1 (by simp) (by simp) ?_
   simp -dsimp [wr w6,wr w7,em,hm]
   refine call_p q2 (by simp [List.map_drop,hty]) (by simp) ?_
   simp -dsimp [stgRow,hz1,m1,m2,wr wa,List.range,List.range.loop]
   refine ⟨by omega,a+1,z++[⟨t,s⟩],⟨by omega,by simp [hz1],fun p hp=>?_⟩,by omega,by simp [parRow]⟩
   rcases List.mem_append.1 hp with g | g
   ·exact hz2 p g
   ·rw [List.mem_singleton.1 g];exact ⟨ht,hs1,hs2⟩
  ·have h2':¬(a:Int)<4:=by omega
   simp -dsimp [h1,h1',h2',K32,retE,ht1,ht2,hz1]
   exact ⟨w,z,rfl,hw.1,hw.2,by omega,hz2⟩
 ·have h1':¬(a:Int)<l.length:=by omega
  simp -dsimp [h1,h1',K32,retE,ht1,ht2,hz1]
  exact ⟨w,z,rfl,hw.1,hw.2,by omega,hz2⟩
theorem x32b (l:List (List Int)) (hl:l.length≤4) (hR:∀ x∈l,x.length≤9223372036854775807∧∀ n∈x,R n) (cs:List Cor) (hc:cs.length≤3) (q:List Int) (hq:q.length≤9223372036854775807∧∀ n∈q,R n) :
  awp Tryz.prog xc32b (K32 cs) ⟨[(0,.p (.sl 1 (l.map llRow))),(1,.p (.sl 9 (cs.map corRow))),(4,.ptr (4,0) 3 0 0),(5,.p (.sl 1 (q.map intRow)))],
   [((4,0),.box [.p (.int .i64 0),.p .nsl,.p .nsl])]⟩:=by
 obtain ⟨v1,d1,hd1,l1,p1⟩:=b71nm ⟨q,0⟩ ⟨hq.2,hq.1⟩ 60 (18,0) (by decide) (by decide)
 have w1:R (12+(v1:Int)):=⟨by omega,by omega⟩
 simp -dsimp [xc32b,↓ awpC_of xc32c]
 refine call_m p1 (by simp) (by simp) (by simp) ?_
 simp -dsimp [wr w1,↓ awpC_of xc32c]
 obtain ⟨w,ew⟩:∃ w,12+(v1:Int)=w:=⟨_,rfl⟩
 rw [ew]
 refine loopC cs.length (fun k=>⟨[(0,.p (.sl 1 (l.map llRow))),(1,.p (.sl 9 (cs.map corRow))),(4,.ptr (4,0) 3 0 0),(5,.p (.sl 1 (q.map intRow))),(7,.ptr (7,0) 3 0 0),(8,.p (.int .i64 k))],
   [((4,0),.box [.p (.int .i64 0),.p .nsl,.p .nsl]),((7,0),.box [.p (.int .i64 w),.ref (48,k) 3 0 k,.p .nsl]),((48,k),.sl 143 3 ((cs.take k).map pinRow))]⟩) (fun _=>True) (fun k hk _=>?_) trivial (by simp)
 by_cases h:k<cs.length
 ·obtain ⟨⟨nm,ver,ax,rg,gl,ch,pr,hd,rt⟩,ex⟩:∃ x,cs[k]=x:=⟨_,rfl⟩
  have wk:R ((k:Int)+1):=⟨by omega,by omega⟩
  have m1:k+1≤maxLen:=by unfold maxLen;omega
  have m2:(k+1)*40≤140737488355328:=by omega
  have hl:min k cs.length=k:=by omega
  have hs:cs.take (k+1)=cs.take k++[⟨nm,ver,ax,rg,gl,ch,pr,hd,rt⟩]:=by
   rw [List.take_add_one,List.getElem?_eq_getElem h,ex];rfl
  have hall:(((cs.take k).map pinRow).all fun r=>r.all PV.one)=true:=onePi _
  simp -dsimp [h,ex,corRow,pinRow,wr wk,m1,m2,hl,hs,List.range,List.range.loop,hall,-List.all_eq_true,-List.map_take,↓ awpC_of xc32c]
 ·have:k=cs.length:=by omega
  subst this
  simp -dsimp [h,↓ awpC_of xc32c]
  exact awpC_in (x32c l hl hR cs hc q hq w ⟨by omega,by omega⟩)
theorem b32 (l:List (List Int)) (hl:l.length≤4) (hR:∀ x∈l,x.length≤9223372036854775807∧∀ n∈x,R n) (cs:List Cor) (hc:cs.length≤3):∃ (w:Int) (ps:List Par),(12≤w∧w<72∧ParsOk ps)∧Best Tryz.prog 32 [.sl 1 (l.map llRow),.sl 9 (cs.map corRow)] (.p (.agg (docRow w cs ps))):=by
 obtain ⟨v,⟨w,ps,rfl,hs⟩,hb⟩:=bestE (Q:=fun v=>∃ (w:Int) (ps:List Par),v=.agg (docRow w cs ps)∧(12≤w∧w<72∧ParsOk ps)) mixed fn32 ok32 (args:=[.sl 1 (l.map llRow),.sl 9 (cs.map corRow)]) (by simp) (by
  change awp Tryz.prog ac32 (K32 cs) _
  cases l with
  | nil=>
   simp -dsimp [ac32,↓ awpC_of xc32b]
   exact awpC_in (x32b [] (by simp) (by simp) cs hc [] ⟨by simp,by simp⟩)
  | cons x l=>
   simp -dsimp [ac32,llRow,↓ awpC_of xc32b]
   have:=x32b (x :: l) hl hR cs hc x (hR x (by simp))
   simp only [List.map_cons,llRow] at this
   exact awpC_in this)
 exact ⟨w,ps,hs,hb⟩
theorem b10 (F:List (List (List Int))) (D:List (List Int)) (hF:∀ x∈F,x.length≤9223372036854775807∧∀ y∈x,∀ n∈y,R n) (hD:∀ x∈D,x.length≤9223372036854775807∧∀ n∈x,R n) :
  ∃ (cs:List Cor) (w:Int) (ps:List Par),(cs.length≤3∧(∀ c∈cs,c.ok)∧12≤w∧w<72∧ParsOk ps)∧Best Tryz.prog 10 [.agg [.sl 1 (F.map lllRow),.sl 1 (D.map llRow)]] (.p (.tup [.agg (docRow w cs ps),.sl 9 (cs.map corRow)])):=by
 obtain ⟨L,eL⟩:∃ L,(F.take 3).map (fun x=>x.take 14)=L:=⟨_,rfl⟩
 have hL:∀ x∈L,x.length≤140737488355328∧∀ y∈x,∀ n∈y,R n:=fun x hx=>by
  rw [←eL] at hx
  obtain ⟨y,hy,rfl⟩:=List.mem_map.1 hx
  have:=hF y (List.mem_of_mem_take hy)
  exact ⟨by rw [List.length_take];omega,fun z hz=>this.2 z (List.mem_of_mem_take hz)⟩
 obtain ⟨fs,⟨hf1,hf2⟩,q1⟩:=b31 L hL
 have q2:=b30 fs hf1
 obtain ⟨cs,ecs⟩:∃ cs,fs.map (·.1)=cs:=⟨_,rfl⟩
 rw [ecs] at q2
 have hc:cs.length≤3:=by rw [←ecs];simpa using hf1
 have hco:∀ c∈cs,c.ok:=fun c hx=>by
  rw [←ecs] at hx
  obtain ⟨f,hf,rfl⟩:=List.mem_map.1 hx
  exact hf2 f hf
 obtain ⟨w,ps,⟨hw1,hw2,hps⟩,q3⟩:=b32 (D.take 4) (by simp;omega) (fun x hx=>hD x (List.mem_of_mem_take hx)) cs hc
 refine ⟨cs,w,ps,⟨hc,hco,hw1,hw2,hps⟩,best mixed fn10 ok10 (by simp) ?_⟩
 obtain ⟨a,ea⟩:∃ a:Nat,min (D.length:Int) 4=a:=⟨min D.length 4,by omega⟩
 have ha:a≤D.length:=by omega
 have ta:D.take 4=D.take a:=by
  have:a=min 4 D.length:=by omega
  rw [this,←List.take_take,List.take_length]
 rw [ta] at q3
 simp -dsimp [ac10]
 refine loopC (min F.length 3) (fun k=>⟨[(1,.ptr (1,0) 2 0 0),(2,.ptr (2,0) 3 0 0),(4,.ref (33,k) 1 0 k),(5,.p (.int .i64 k))],[((1,0),.box [.p (.sl 1 (F.map lllRow)),.p (.sl 1 (D.map llRow))]),((2,0),.box [.p (.int .i64 0),.p .nsl,.p .nsl]),((33,k),.sl 23 1 ((L.take k).map lllRow))]⟩) (fun _=>True) (fun k hk _=>?_) trivial (by simp)
 have lL:L.length=min 3 F.length:=by rw [←eL];simp
 have go:(fun _:Nat=>True) 0:=trivial
 have m1:k+1≤maxLen:=by unfold maxLen;omega
 have m2:(k+1)*24≤140737488355328:=by omega
 by_cases h1:k<F.length∧k<3
 ·obtain ⟨h1,h2⟩:=h1
  have h2':(k:Int)<3:=by omega
  obtain ⟨x,ex⟩:∃ x,F[k]=x:=⟨_,rfl⟩
  obtain ⟨b,eb⟩:∃ b:Nat,min (x.length:Int) 14=b:=⟨min x.length 14,by omega⟩
  have hb:b≤x.length:=by omega
  have tb:x.take 14=x.take b:=by
   have:b=min 14 x.length:=by omega
   rw [this,←List.take_take,List.take_length]
  have hs:L.take (k+1)=L.take k++[x.take b]:=by
   rw [List.take_add_one,←eL,List.getElem?_map,List.getElem?_take,if_pos h2,List.getElem?_eq_getElem h1,ex]
   simp [tb]
  have hl:min k L.length=k:=by omega
  have wk:R ((k:Int)+1):=⟨by omega,by omega⟩
  have hall:(((L.take k).map lllRow).all fun r=>r.all PV.one)=true:=oneLl _
  have hk3:k<min F.length 3:=by omega
  simp -dsimp [h1,h2',ex,lllRow,eb,hb,wr wk,m1,m2,hl,hs,hk3,List.range,List.range.loop,hall,List.map_take,-List.all_eq_true]
 ·have hkk:k=min F.length 3:=by omega
  have tL:L.take k=L:=List.take_of_length_le (by omega)
  have ht:List.take k (L.map lllRow)=L.map lllRow:=List.take_of_length_le (by simp;omega)
  have hlk:L.length=k:=by omega
  have hty:List.take D.length (D.map llRow)=D.map llRow:=List.take_of_length_le (by simp)
  have go:(k<F.length∧k=3)∨¬k<F.length:=by omega
  rcases go with ⟨g1,rfl⟩ | g1
  ·have g1':(3:Int)<F.length:=by omega
   simp -dsimp [g1,g1',tL,hlk,ht]
   refine call_p q1 (by simp) (by simp) ?_
   simp -dsimp
   refine call_p q2 (by simp) (by simp) ?_
   simp -dsimp [ea,ha]
   refine call_p q3 (by simp [List.map_take,hty]) (by simp) ?_
   simp -dsimp [docRow]
  ·simp -dsimp [g1,tL,hlk,ht]
   refine call_p q1 (by simp) (by simp) ?_
   simp -dsimp
   refine call_p q2 (by simp) (by simp) ?_
   simp -dsimp [ea,ha]
   refine call_p q3 (by simp [List.map_take,hty]) (by simp) ?_
   simp -dsimp [docRow]
end
end Go.Abs.A30
namespace Go.Abs.A30
open Go Go.Abs Go.Proofs
set_option maxRecDepth 100000
set_option maxHeartbeats 4000000
set_option linter.unusedVariables false
def ac140:AC:=by
 apply fun (y:AC) (_:@Eq AC (anF Tryz.prog 140 mu1 [] 0 0 []) y)=>y
 conv=>lhs;reduce;dsimp
theorem fn140:factOf Tryz.prog 140=some (ac140.strip,[.tmp 6],15):=by kernel_rfl
theorem ok140:ac140.okAll=true:=by kernel_rfl
def ac143:AC:=by
 apply fun (y:AC) (_:@Eq AC (anF Tryz.prog 143 mu1 [] 0 0 []) y)=>y
 conv=>lhs;reduce;dsimp
theorem fn143:factOf Tryz.prog 143=some (ac143.strip,[.tmp 4],19):=by kernel_rfl
theorem ok143:ac143.okAll=true:=by kernel_rfl
def ac92:AC:=by
 apply fun (y:AC) (_:@Eq AC (anF Tryz.prog 92 mu1 [] 0 0 []) y)=>y
 conv=>lhs;reduce;dsimp
theorem fn92:factOf Tryz.prog 92=some (ac92.strip,[.tmp 6,.tmp 7],49):=by kernel_rfl
theorem ok92:ac92.okAll=true:=by kernel_rfl
def ac94:AC:=by
 apply fun (y:AC) (_:@Eq AC (anF Tryz.prog 94 mu1 [] 0 0 []) y)=>y
 conv=>lhs;reduce;dsimp
theorem fn94:factOf Tryz.prog 94=some (ac94.strip,[.tmp 8],36):=by kernel_rfl
theorem ok94:ac94.okAll=true:=by kernel_rfl
def ac144:AC:=by
 apply fun (y:AC) (_:@Eq AC (anF Tryz.prog 144 mu1 [] 0 0 []) y)=>y
 conv=>lhs;reduce;dsimp
theorem fn144:factOf Tryz.prog 144=some (ac144.strip,[.tmp 4],15):=by kernel_rfl
theorem ok144:ac144.okAll=true:=by kernel_rfl
end Go.Abs.A30
namespace Go.Abs.A30
open Go Go.Abs Go.Proofs
set_option maxRecDepth 100000
set_option linter.unusedVariables false
set_option linter.unusedSimpArgs false
attribute [local simp ↓] awp_skip awp_seq awp_cond awp_block awp_exit awp_ret awp_reg awp_draw awp_ghost awp_loop awp_rfun awpR_nil awpR_cons awpX_nil awpX_0 awpX_1 awpX_2 awpI_eq awpI_t awpI_f awpStep_eq
attribute [local simp] condL_true condL_false condL_dec evDel evV evN evS evA initFr Ghost.app Fr.var Fr.blk Fr.ff FF.val Abs.look Fr.app Fr.erase Fr.noSlot AV.noSlot AV.noSlotL Blk.noSlot Fr.spoken AV.fz AV.fzL Blk.fz binV binI shI binS unV fillA FF.parts FF.vals headO intO boundO lenV scalarEq leavesEq AV.aggc AV.cells FF.read FF.rows AV.one PV.one chunk freshB newS pickV retK evRs evRl evR resOf mkTup mkAgg allP cloOf okP_nil okX_p okX okP addN Del.noSlot Del.owners Rnd reify_p normM insM Fr.back Fr.backV Fr.setPs normV insV
attribute [local simp] renF Fr.trim Blk.trim AV.rn AV.rnL Blk.rn AV.among AV.amongL Blk.among okF retM fixS BIG initFF
attribute [local simp] FF.reify FF.reifyL PV.flat
section
theorem b140 (n a b:Int):Best Tryz.prog 140 [.int .i64 n,.int .i64 a,.int .i64 b] (.p (.bool (decide (a≤n) && decide (n≤b)))):=by
 refine best mixed fn140 ok140 (by simp) ?_
 by_cases h1:a≤n<;>simp -dsimp [ac140,h1]
theorem b144 (x:Int×Int×Int) (a b:Int):Best Tryz.prog 144 [.agg (i3Row x),.ro [.int .i64 a],.ro [.int .i64 b]] (.p (.bool (decide (x.1=a) && decide (x.2.1=b)))):=by
 refine best mixed fn144 ok144 (by simp [i3Row]) ?_
 by_cases h1:x.1=a<;>simp -dsimp [ac144,i3Row,h1]
theorem b143 {f:FuncId} {c d:PV} {q:Int×Int×Int→Bool} (hf:∀ x:Int×Int×Int,Best Tryz.prog f [.agg (i3Row x),c,d] (.p (.bool (q x)))) (r:List (Int×Int×Int)) (hl:r.length≤9223372036854775807):Best Tryz.prog 143 [.sl 3 (r.map i3Row),.clo (.func f) [] [c,d]] (.p (.int .i64 (idxS q r))):=by
 refine best mixed fn143 ok143 (by simp) ?_
 simp -dsimp [ac143]
 refine loopC r.length (fun k=>⟨[(0,.p (.sl 3 (r.map i3Row))),(1,.p (.clo (.func f) [] [c,d])),(7,.p (.int .i64 r.length)),(8,.p (.int .i64 k))],[]⟩) (fun k=>∀ y∈r.take k,q y=false) (fun k hk hall=>?_) (by simp) (by simp)
 by_cases h:k<r.length
 ·obtain ⟨x,ex⟩:∃ x,r[k]=x:=⟨_,rfl⟩
  have hx:r[k]?=some x:=by simp [h,ex]
  have w:R ((k:Int)+1):=⟨by omega,by omega⟩
  have hfx:=hf x
  have hit:q x=true→idxS q r=k:=fun h2=>idxS_hit hx hall h2
  have go:q x=false→∀ y∈r.take (k+1),q y=false:=fun h2=>take_succ_all (p:=fun y=>q y=false) hx hall h2
  generalize q x=b at *
  simp -dsimp [h,ex,i3Row] at hfx ⊢
  refine call_p hfx rfl (by simp) ?_
  cases b with
  | true=>simp -dsimp [hit]
  | false=>simp -dsimp [wr w];exact ⟨h,fun a b c=>go rfl (a,b,c)⟩
 ·have:k=r.length:=by omega
  subst this
  rw [List.take_length] at hall
  simp -dsimp [idxS_none hall]
theorem growS_b {rs:List (List T3)} {a:List Int} {g:Int×Int} {s:Int} (h:growS rs a g=some s):-17592186044417≤s∧s≤17592186044417:=by
 unfold growS at h
 split at h
 ·have:=partB g.2 (scaS (rs.getD g.1.toNat []) a).1 (scaS (rs.getD g.1.toNat []) a).2
  cases h
  exact this
 ·cases h
theorem sumL_b {rs:List (List T3)} {a:List Int}:∀ {l:List (Int×Int)} {s0 s:Int},sumL rs a s0 l=some s→s0 - 17592186044417*l.length≤s∧s≤s0+17592186044417*l.length
 | [],s0,s,h=>by simp [sumL] at h;subst h;simp
 | g :: l,s0,s,h=>by
  unfold sumL at h
  rw [List.foldl_cons] at h
  cases e:growS rs a g with
  | none=>simp [e,sumL_none] at h
  | some v=>
   simp only [e,Option.bind_some,Option.map_some] at h
   have h1:=growS_b e
   have h2:=sumL_b (s0:=s0+v) (l:=l) h
   rw [List.length_cons]
   push_cast
   omega
theorem sumS_b (base:Int) (l:List (Int×Int)) (rs:List (List T3)) (a:List Int):-200000000000000≤(sumS base l rs a).1∧(sumS base l rs a).1≤200000000000000:=by
 unfold sumS
 split
 ·rename_i h
  obtain ⟨⟨h1,h2⟩,h3,h4⟩:=h
  cases e:sumL rs a (64*base) l with
  | none=>simp
  | some v=>
   have:=sumL_b e
   simp only
   omega
 ·simp
def sizeB (n:Int):Bool:=decide (4≤n) && decide (n≤32)
noncomputable def chW (c:Cor) (x:Ch) (s:Stg):Int×Bool:=
 if sizeB s.size=true∧(sumS x.width x.wide c.rg s.at_).2=true then (max (roundS ((sumS x.width x.wide c.rg s.at_).1*s.size) 4096) 0,true) else (0,false)
noncomputable def widthN (c:Cor) (code:Int) (s:Stg):Int×Bool:=match findN c code with | none=>(0,false) | some x=>chW c x s
theorem findN_mem {c:Cor} {code:Int} {x:Ch} (h:findN c code=some x):x∈c.ch:=List.mem_of_find?_eq_some h
theorem mulsize {v n:Int} (h:-200000000000000≤v∧v≤200000000000000) (hn:sizeB n=true):R (v*n)∧v*n≤4611686018427387904:=by
 simp [sizeB] at hn
 have h1:v*n≤200000000000000*n:=Int.mul_le_mul_of_nonneg_right h.2 (by omega)
 have h2:(-200000000000000)*n≤v*n:=Int.mul_le_mul_of_nonneg_right h.1 (by omega)
 refine ⟨⟨by omega,by omega⟩,by omega⟩
structure WOk (c:Cor) (x:Ch) (s:Stg):Prop where
 w:R x.width
 l:x.wide.length≤1000
 a:s.at_.length≤1000
 r:∀ r∈c.rg,r.length≤1000
theorem b92 (c:Cor) (hc:c.ch.length≤1000) (code:Int) (s:Stg) (hw:WOk c ((findN c code).getD ch0) s):Best Tryz.prog 92 [.agg (corRow c),.int .i64 code,.agg (stgRow s)] (.p (.tup [.int .i64 (widthN c code s).1,.bool (widthN c code s).2])):=by
 refine best mixed fn92 ok92 (by simp [corRow,stgRow]) ?_
 simp -dsimp [ac92,corRow,stgRow]
 refine call_p (b107 c hc code) (by simp [corRow]) (by simp) ?_
 simp -dsimp [chRow]
 have hq:=b140 s.size 4 32
 rw [←sizeB] at hq
 unfold widthN hasN
 cases e:findN c code with
 | none=>simp -dsimp [e]
 | some x=>
  rw [e] at hw
  simp only [Option.getD_some,Option.isSome_some] at hw ⊢
  simp -dsimp [e]
  refine call_p hq (by simp) (by simp) ?_
  have hs:=b141 (base:=x.width) (l:=x.wide) (rs:=c.rg) (a:=s.at_) hw.w (by have:=hw.l;omega) (by have:=hw.a;omega) (fun r hr=>by have:=hw.r r hr;omega)
  by_cases h1:sizeB s.size=true
  ·simp -dsimp [h1]
   refine call_p hs (by simp [mvRow,pRow]) (by simp) ?_
   have hb:=sumS_b x.width x.wide c.rg s.at_
   have hm:=mulsize hb h1
   unfold chW
   generalize sumS x.width x.wide c.rg s.at_=v at *
   obtain ⟨v1,v2⟩:=v
   cases v2 with
   | false=>simp -dsimp
   | true=>
    have h2:=b142 hm.1 hm.2 (d:=4096) (by simp [R])
    simp only at hm h2
    simp -dsimp [h1,wr hm.1]
    refine call_p h2 (by simp) (by simp) ?_
    simp -dsimp [h1]
  ·simp -dsimp [h1,chW]
noncomputable def betwN (c:Cor) (l r n:Int):Int:=if sizeB n=true then (match c.pr.find? (fun x=>decide (x.1=l) && decide (x.2.1=r)) with | none=>0 | some x=>roundS (x.2.2*n) 64) else 0
theorem mulpair {v n:Int} (h:-1000≤v∧v≤1000) (hn:sizeB n=true):R (v*n)∧v*n≤4611686018427387904:=mulsize ⟨by omega,by omega⟩ hn
theorem b94 (c:Cor) (hc:c.pr.length≤1000) (hp:∀ x∈c.pr,-1000≤x.2.2∧x.2.2≤1000) (l r n:Int):Best Tryz.prog 94 [.agg (corRow c),.int .i64 l,.int .i64 r,.int .i64 n] (.p (.int .i64 (betwN c l r n))):=by
 refine best mixed fn94 ok94 (by simp [corRow]) ?_
 simp -dsimp [ac94,corRow]
 have q7:=b143 (c:=.ro [.int .i64 l]) (d:=.ro [.int .i64 r]) (fun x=>b144 x l r) c.pr (by omega)
 refine call_f q7 (by simp) (by simp) (by simp) ?_
 have hq:=b140 n 4 32
 rw [←sizeB] at hq
 unfold betwN
 rcases idxS_find (q:=fun x:Int×Int×Int=>decide (x.1=l) && decide (x.2.1=r)) (l:=c.pr) with ⟨k,x,h1,h2,h3⟩ | ⟨h1,h3⟩
 ·have hk:k<c.pr.length:=by
   rcases Nat.lt_or_ge k c.pr.length with h | h
   ·exact h
   ·rw [List.getElem?_eq_none h] at h2;cases h2
  have ex:c.pr[k]=x:=by rw [List.getElem?_eq_getElem hk] at h2;exact Option.some.inj h2
  have hx:x∈c.pr:=by rw [←ex];simp
  rw [h1,h3]
  have n1:¬(k:Int)<0:=by omega
  simp -dsimp [n1]
  refine call_p hq (by simp) (by simp) ?_
  by_cases h5:sizeB n=true
  ·have hm:=mulpair (hp x hx) h5
   have h2:=b142 hm.1 hm.2 (d:=64) (by simp [R])
   simp -dsimp [h5,hk,ex,i3Row,wr hm.1]
   refine call_p h2 (by simp) (by simp) ?_
   simp -dsimp [h5]
  ·simp -dsimp [h5]
 ·rw [h1,h3]
  simp -dsimp
end
section
structure Cor.fine (c:Cor):Prop where
 ax:c.ax.length≤1000
 ch:c.ch.length≤1000
 pr:c.pr.length≤1000
 prb:∀ x∈c.pr,-1000≤x.2.2∧x.2.2≤1000
 chs:∀ x∈c.ch,R x.width∧x.wide.length≤1000
 rgs:∀ r∈c.rg,r.length≤1000
def CorsOk2 (cs:List Cor):Prop:=cs.length≤1000∧∀ c∈cs,c.fine
theorem incr_len {m:Int}:∀ {l:List (Int×Int)} {k:Int},(∀ y∈l,k≤y.1∧y.1<m)→l.Pairwise (fun a b=>a.1<b.1)→(l.length:Int)≤max (m - k) 0
 | [],k,_,_=>by simp;omega
 | x :: l,k,h,hp=>by
  have hp:=List.pairwise_cons.1 hp
  have hx:=h x (by simp)
  have:=incr_len (m:=m) (l:=l) (k:=x.1+1) (fun y hy=>⟨by have:=hp.1 y hy;omega,(h y (by simp [hy])).2⟩) hp.2
  rw [List.length_cons]
  push_cast
  omega
theorem CorsOk2.one {cs:List Cor} (h:CorsOk2 cs):CorsOk cs:=⟨h.1,fun c hc=>(h.2 c hc).ch⟩
theorem PairsOk_b {l:List (Int×Int×Int)} (h:PairsOk l):∀ x∈l,-1000≤x.2.2∧x.2.2≤1000:=by
 induction l with
 | nil=>simp
 | cons y l ih=>
  intro x hx
  rcases List.mem_cons.1 hx with rfl | hx
  ·have:=h.1;omega
  ·exact ih h.2.2 x hx
theorem Cor.ok.fine {c:Cor} (h:c.ok):c.fine:=by
 obtain ⟨h1,h2,⟨h3,h4⟩,h5,h6,h7⟩:=h
 refine ⟨by omega,by omega,by omega,PairsOk_b h6,fun x hx=>?_,fun r hr=>by have:=h2.2 r hr;omega⟩
 obtain ⟨g1,g2,g3,g4,g5,g6,g7,g8⟩:=h4.1 x hx
 refine ⟨⟨by omega,by omega⟩,?_⟩
 have:=incr_len (l:=x.wide) (m:=c.rg.length) (k:=0) (fun y hy=>⟨(g7 y hy).1,(g7 y hy).2.1⟩) g8
 omega
theorem Cor.fine.w {c:Cor} (h:c.fine) (code:Int) (s:Stg) (hs:s.at_.length≤1000):WOk c ((findN c code).getD ch0) s:=by
 cases e:findN c code with
 | none=>exact ⟨by simp [ch0,R],by simp [ch0],hs,h.rgs⟩
 | some x=>
  have hx:=h.chs x (findN_mem e)
  exact ⟨hx.1,hx.2,hs,h.rgs⟩
noncomputable def cwN (c:Cor) (s:Stg) (code:Int):Int:=(widthN c code (s.own c.ax.length)).1
noncomputable def sumW (c:Cor) (s:Stg):Int→List Int→Int
 | _,[]=>0
 | b,x :: l=>cwN c s x+(if 0≤b then betwN c b x s.size else 0)+sumW c s x l
theorem sumW_snoc (c:Cor) (s:Stg) (x:Int):∀ (l:List Int) (b:Int),sumW c s b (l++[x])=sumW c s b l+cwN c s x+(if 0≤l.getLastD b then betwN c (l.getLastD b) x s.size else 0)
 | [],b=>by simp [sumW]
 | y :: l,b=>by
  have:=sumW_snoc c s x l y
  rw [List.cons_append,sumW,this,sumW]
  have e:(y :: l).getLastD b=l.getLastD y:=List.getLastD_cons ..
  rw [e]
  omega
theorem cwN_b {c:Cor} {s:Stg} {x:Int}:0≤cwN c s x∧cwN c s x≤6500000000000000:=by
 unfold cwN widthN
 cases findN c x with
 | none=>simp
 | some y=>
  simp only [chW]
  split
  ·rename_i h
   have hb:=sumS_b y.width y.wide c.rg (s.own c.ax.length).at_
   have hm:sizeB (s.own c.ax.length).size=true:=h.1
   generalize (sumS y.width y.wide c.rg (s.own c.ax.length).at_).1=v at *
   generalize (s.own c.ax.length).size=n at *
   simp [sizeB] at hm
   have h1:v*n≤200000000000000*n:=Int.mul_le_mul_of_nonneg_right hb.2 (by omega)
   have h2:(-200000000000000)*n≤v*n:=Int.mul_le_mul_of_nonneg_right hb.1 (by omega)
   have:=roundS_bd (n:=v*n) (d:=4096) (m:=6400000000000000) (by omega) (by omega) (by omega) (by omega)
   simp only
   omega
  ·simp
theorem betwN_b {c:Cor} (hp:∀ x∈c.pr,-1000≤x.2.2∧x.2.2≤1000) {a b n:Int}:-100000≤betwN c a b n∧betwN c a b n≤100000:=by
 unfold betwN
 split
 ·rename_i h
  simp [sizeB] at h
  split
  ·omega
  ·rename_i x hx
   have hb:=hp x (List.mem_of_find?_eq_some hx)
   generalize x.2.2=v at *
   have h1:v*n≤1000*n:=Int.mul_le_mul_of_nonneg_right hb.2 (by omega)
   have h2:(-1000)*n≤v*n:=Int.mul_le_mul_of_nonneg_right hb.1 (by omega)
   have:=roundS_bd (n:=v*n) (d:=64) (m:=32000) (by omega) (by omega) (by omega) (by omega)
   omega
 ·omega
theorem sumW_b {c:Cor} (hp:∀ x∈c.pr,-1000≤x.2.2∧x.2.2≤1000) (s:Stg):∀ (l:List Int) (b:Int),-100000*(l.length:Int)≤sumW c s b l∧sumW c s b l≤6600000000000000*l.length
 | [],b=>by simp [sumW]
 | x :: l,b=>by
  have h:=sumW_b hp s l x
  have h1:=cwN_b (c:=c) (s:=s) (x:=x)
  have h2:=betwN_b hp (a:=b) (b:=x) (n:=s.size)
  rw [sumW,List.length_cons]
  push_cast
  split<;>omega
def befN (cs:List Cor) (t:List UInt8) (i:Nat):Int:=
 if 0<i∧fontN cs t ((splT t).getD (i - 1) (0,0))=fontN cs t ((splT t).getD i (0,0)) then (codesT t ((splT t).getD (i - 1) (0,0)).1 ((splT t).getD (i - 1) (0,0)).2).getLastD (-1) else -1
def cor0:Cor:=⟨⟨#[]⟩,0,[],[],0,[],[],[],⟨#[]⟩⟩
noncomputable def wdN (cs:List Cor) (t:List UInt8) (s:Stg) (i:Nat):Int:=
 if clsT t (baseT t ((splT t).getD i (0,0)).1 ((splT t).getD i (0,0)).2)=1 then 0
 else if fontN cs t ((splT t).getD i (0,0))<0 then s.size.tdiv 2
 else max (sumW (cs.getD (fontN cs t ((splT t).getD i (0,0))).toNat cor0) s (befN cs t i) (codesT t ((splT t).getD i (0,0)).1 ((splT t).getD i (0,0)).2)) 0
noncomputable def widthsN (cs:List Cor) (t:List UInt8) (s:Stg):List Int:=if fitN s=true then (List.range (splT t).length).map (wdN cs t s) else []
theorem fontN_lt {cs:List Cor} {t:List UInt8} {x:Nat×Nat} (h:¬fontN cs t x<0):∃ m:Nat,fontN cs t x=m∧m<cs.length:=by
 unfold fontN at h ⊢
 split at h
 ·omega
 ·rename_i h1
  rw [if_neg h1]
  rcases idxS_find (q:=allN (codesT t x.1 x.2)) (l:=cs) with ⟨k,y,h2,h3,_⟩ | ⟨h2,_⟩
  ·exact ⟨k,h2,(List.getElem?_eq_some_iff.1 h3).1⟩
  ·rw [h2] at h;omega
theorem codesT_len {t:List UInt8} {a b:Nat}:(codesT t a b).length≤b - a:=by
 have:=visT_len (t:=t) (a:=a) (b:=b)
 simpa [codesT] using this
end
end Go.Abs.A30
namespace Go.Abs.A30
open Go Go.Abs Go.Proofs
set_option maxRecDepth 100000
set_option maxHeartbeats 4000000
set_option linter.unusedVariables false
def ac48:AC:=by
 apply fun (y:AC) (_:@Eq AC (let e0:=[6,9,21,22];(qk [0,1,2] (qs (qr [(qp 3 (.box (.v 0))),(qp 4 (.box (.v 1))),(qp 5 (.box (.v 2))),(qp 6 (.mov (.c .nsl)))]) (.ghost (.own 6 30 3 1) (qk [3,4,5,6] (qs (qs (qr [(qp 11 (qt 3 5)),(qi 12 (.call 47 [.v 11]) [0]),(qi 13 (.un .not (.v 12)) [1])]) (qk [3,4,5,6,13] (qq (.v 13) (qs (qr [(qp 6 (.mov (.c .nsl)))]) (qk [6] (.ghost (.zsl 6 1) .ret))) .skip))) (qk [3,4,5,6] (qs (qd [(qa (yl 14 4) [7,8,16,17] [7,8] [] [] 0),(qa (qi 15 (.call 23 [.v 14]) [0]) [7,8,16,17] [7,8] [15] [] 0),(qa (yl 16 3) [7,8,14,15,17] [7,8,15] [] [0,1] 0),(qa (yl 17 4) [7,8,14,15,16] [7,8,15] [] [0,1,2] 0),(qa (qi 18 (.call 21 [.v 16,.v 17]) [2,3,1]) [7,8] [7,8] [18] [] 0),(qa (qp 7 (.alloc [.nsl])) [8,14,15,16,17,18] [8,15,18] [7] [0,1,2,3,4] 0),(qa (qp 8 (.alloc [.nsl])) [7,14,15,16,17,18] [7,15,18] [8] [0,1,2,3,4,5] 0),(qa (qo (.store 1 (.v 7) (.v 15)) [5,1,4,0,1,5,6]) [] [] [7] [] 1),(qa (qo (.store 1 (.v 8) (.v 18)) [6,4,7,0,1,2,3,4,5,6,7]) [] [] [8] [] 1)]) (qk [3,4,5,6,7,8] (qs (qr [(qp 19 (.mkfn (.func 91) [] [.v 4,.v 7,.v 8,.v 5,.v 3])),(yn 9 19 [0,0])]) (qk [6,7,9] (qs (qs (qr [(yl 20 7),(yh 21 20 [0]),(qp 22 (.mov (qz 0)))]) (qk e0 (.block 0 (.loop (qk e0 (qs (qr [(qp 23 (qb .lss 22 21))]) (qk [6,9,21,22,23] (qs (qq (.v 23) .skip (.exit 0)) (qk e0 (qs (.block 1 (qs (qr [(ym 24 22),(yn 10 24 [0,0])]) (qk [6,9,10,21,22] (qr [(ym 25 6),(ym 26 9),(ym 27 10),(qi 28 (.callv (.v 26) [.v 27]) [1,2]),(qi 29 (.bslice 3 1 1 [.int .i64 0] [(0,1,.v 28)]) [3]),(qi 30 (.app 3 1 8 (.v 25) (.v 29)) [0,4,3]),(yn 6 30 [5,5,0,1,2,3,4,5])])))) (qk e0 (.ghost (.canV 6 (30,0)) (qr [(qp 31 (qc .add 22 (qz 1))),(yn 22 31 [0])]))))))))))))) (qk [6] (qs (qr [(ym 32 6),(yn 6 32 [0,0])]) (qk [6] .ret))))))))))))))) y)=>y
 dsimp
theorem fn48:factOf Tryz.prog 48=some (ac48.strip,[.tmp 6],33):=by kernel_rfl
theorem ok48:ac48.okAll=true:=by kernel_rfl
def xc91b:AC:=by
 apply fun (y:AC) (_:@Eq AC (anS 12 [] [] (anF Tryz.prog 91 mu1 [] 0 0 [])) y)=>y
 conv=>lhs;reduce;dsimp
def ac91:AC:=(fun (z0:AC)=>by
 apply fun (y:AC) (_:@Eq AC (anD [⟨12,[],[],some z0⟩] (anF Tryz.prog 91 mu1 [] 0 0 [])) y)=>y
 conv=>lhs;reduce;dsimp) xc91b
theorem fn91:factOf Tryz.prog 91=some (ac91.strip,[.tmp 7],109):=by kernel_rfl
theorem ok91:ac91.okAll=true:=by kernel_rfl
end Go.Abs.A30
namespace Go.Abs.A30
open Go Go.Abs Go.Proofs
set_option maxRecDepth 100000
set_option linter.unusedVariables false
set_option linter.unusedSimpArgs false
attribute [local simp ↓] awp_skip awp_seq awp_cond awp_block awp_exit awp_ret awp_reg awp_draw awp_ghost awp_loop awp_rfun awpR_nil awpR_cons awpX_nil awpX_0 awpX_1 awpX_2 awpI_eq awpI_t awpI_f awpStep_eq
attribute [local simp] condL_true condL_false condL_dec evDel evV evN evS evA initFr Ghost.app Fr.var Fr.blk Fr.ff FF.val Abs.look Fr.app Fr.erase Fr.noSlot AV.noSlot AV.noSlotL Blk.noSlot Fr.spoken AV.fz AV.fzL Blk.fz binV binI shI binS unV fillA FF.parts FF.vals headO intO boundO lenV scalarEq leavesEq AV.aggc AV.cells FF.read FF.rows AV.one PV.one chunk freshB newS pickV retK evRs evRl evR resOf mkTup mkAgg allP cloOf okP_nil okX_p okX okP addN Del.noSlot Del.owners Rnd reify_p normM insM Fr.back Fr.backV Fr.setPs normV insV
attribute [local simp] renF Fr.trim Blk.trim AV.rn AV.rnL Blk.rn AV.among AV.amongL Blk.among okF retM fixS BIG initFF
attribute [local simp] FF.reify FF.reifyL PV.flat
section
set_option maxHeartbeats 400000
theorem x38 (c:Cor) (hc:c.fine) (s:Stg) (hs:s.at_.length≤1000) (C:List Int) (hC:C.length≤6) (b:Int) :
  awp Tryz.prog xc91b (retK [RO.tmp 7] (.p (.int .i64 (max (sumW c s b C) 0)))) ⟨[(4,.p (.ro (stgRow s))),(8,.ptr (8,0) 9 0 0),(9,.p (.sl 1 (C.map intRow))),(10,.p (.int .i64 b))],[((8,0),.box ((corRow c).map .p))]⟩:=by
 have hp:=hc.prb
 have hpl:=hc.pr
 have hch:c.ch.length≤1000:=hc.ch
 have hax:c.ax.length≤1000:=hc.ax
 simp -dsimp [xc91b,stgRow,corRow]
 refine loopC C.length (fun k=>⟨[(4,.p (.ro (stgRow s))),(8,.ptr (8,0) 9 0 0),(10,.p (.int .i64 ((C.take k).getLastD b))),(12,.p (.int .i64 (sumW c s b (C.take k)))),(77,.p (.sl 1 (C.map intRow))),(78,.p (.int .i64 C.length)),(79,.p (.int .i64 k))],[((8,0),.box ((corRow c).map .p))]⟩) (fun _=>True) (fun k hk _=>?_) trivial (by simp [sumW,stgRow,corRow])
 by_cases h:k<C.length
 ·obtain ⟨x,ex⟩:∃ x,C[k]=x:=⟨_,rfl⟩
  have hx:C[k]?=some x:=by simp [h,ex]
  have hsn:=sumW_snoc c s x (C.take k) b
  have htk:C.take (k+1)=C.take k++[x]:=by rw [List.take_add_one,hx];rfl
  have hla:(C.take (k+1)).getLastD b=x:=by rw [htk];simp
  rw [←htk] at hsn
  have hb:=sumW_b hp s (C.take k) b
  have hl2:(C.take k).length≤6:=by simp;omega
  have wk:R ((k:Int)+1):=⟨by omega,by omega⟩
  have hw:(widthN c x (s.own c.ax.length)).1=cwN c s x:=rfl
  have hcb:=cwN_b (c:=c) (s:=s) (x:=x)
  have q39:=b92 c hch x (s.own c.ax.length) (Cor.fine.w hc x (s.own c.ax.length) (by simp [Stg.own,setN];omega))
  have hbb:=betwN_b hp (a:=(C.take k).getLastD b) (b:=x) (n:=s.size)
  obtain ⟨l,el⟩:∃ l,(C.take k).getLastD b=l:=⟨_,rfl⟩
  obtain ⟨v,ev⟩:∃ v,sumW c s b (C.take k)=v:=⟨_,rfl⟩
  obtain ⟨z,ez⟩:∃ z,cwN c s x=z:=⟨_,rfl⟩
  obtain ⟨w,ew⟩:∃ w,betwN c l x s.size=w:=⟨_,rfl⟩
  obtain ⟨v',ev'⟩:∃ v',sumW c s b (C.take (k+1))=v':=⟨_,rfl⟩
  rw [el,ev,ez,ew,ev'] at hsn
  rw [ev] at hb
  rw [ez] at hcb hw
  rw [el,ew] at hbb
  rw [el,ev,ev',hla]
  have w1':R (v+z):=⟨by omega,by omega⟩
  have w2':R (v+z+w):=⟨by omega,by omega⟩
  simp -dsimp [h,ex,intRow,stgRow,corRow]
  refine call_p (b93 c hax s hs) (by simp [stgRow,corRow]) (by simp) ?_
  simp -dsimp [h,ex,intRow,stgRow,corRow]
  refine call_p q39 (by simp [stgRow,corRow]) (by simp) ?_
  rw [hw]
  by_cases h1:0≤l
  ·rw [if_pos h1] at hsn
   simp -dsimp [h,h1,wr w1']
   refine call_p (b94 c (by omega) hp l x s.size) (by simp [corRow]) (by simp) ?_
   rw [ew]
   simp -dsimp [h,h1,wr w2',wr wk,hsn,stgRow,corRow]
  ·rw [if_neg h1] at hsn
   simp -dsimp [h,h1,wr w1',wr wk,hsn,stgRow,corRow]
 ·have:k=C.length:=by omega
  subst this
  rw [List.take_length]
  simp -dsimp [h]
theorem b91 (cs:List Cor) (hcs:CorsOk2 cs) (t:List UInt8) (hl:t.length≤1000000) (s:Stg) (hs:s.at_.length≤1000) (hz:R s.size) (i:Nat) (hi:i<(splT t).length) :
  Best Tryz.prog 91 [.int .i64 i,.ro [.str (ba t)],.ro [.sl 2 ((splT t).map spRow)],.ro [.sl 1 ((fontsN cs t).map intRow)],.ro (stgRow s),.ro [.sl 9 (cs.map corRow)]] (.p (.int .i64 (wdN cs t s i))):=by
 refine best mixed fn91 ok91 (by simp) ?_
 have hm:∀ x∈splT t,x.1<x.2∧x.2≤t.length∧x.2 - x.1≤6:=fun x hx=>splT_mem hx
 have hfl:(fontsN cs t).length=(splT t).length:=by simp [fontsN]
 have hfg:∀ j (hj:j<(splT t).length),(fontsN cs t)[j]'(by omega)=fontN cs t ((splT t)[j]):=fun j hj=>by simp [fontsN]
 obtain ⟨V,eV⟩:∃ V,wdN cs t s i=V:=⟨_,rfl⟩
 rw [eV]
 unfold wdN at eV
 obtain ⟨T,eT⟩:∃ T,splT t=T:=⟨_,rfl⟩
 obtain ⟨Fs,eF⟩:∃ Fs,fontsN cs t=Fs:=⟨_,rfl⟩
 have eB:befN cs t i=befN cs t i:=rfl
 conv at eB=>rhs;unfold befN
 simp only [eT,eF] at hm hfl hfg hi eB eV ⊢
 obtain ⟨⟨a,b⟩,ex⟩:∃ x,T[i]=x:=⟨_,rfl⟩
 obtain ⟨hab,hb,h6⟩:=hm (a,b) (by rw [←ex];simp)
 dsimp only at hab hb h6
 have exd:T.getD i (0,0)=(a,b):=by simp [hi,ex]
 obtain ⟨fo,ef⟩:∃ fo,fontN cs t (a,b)=fo:=⟨_,rfl⟩
 have hfi:=hfg i hi
 rw [ex,ef] at hfi
 have hFi:i<Fs.length:=by omega
 rw [exd,ef] at eB eV
 simp -dsimp [ac91,hi,ex,spRow,↓ awpC_of xc91b]
 refine call_p (b49 t a b hab hb hl) (by simp [spRow]) (by simp) ?_
 by_cases h1:clsT t (baseT t a b)=1
 ·rw [if_pos h1] at eV
  simp -dsimp [h1,←eV,↓ awpC_of xc91b]
 rw [if_neg h1] at eV
 by_cases h2:fo<0
 ·rw [if_pos h2] at eV
  subst eV
  have wd:R (s.size.tdiv 2):=R_tdiv hz (d:=2) (by omega)
  simp -dsimp [h1,hFi,hfi,intRow,h2,stgRow,wr wd,↓ awpC_of xc91b]
 obtain ⟨m,hm1,hm2⟩:=fontN_lt (cs:=cs) (t:=t) (x:=(a,b)) (by rw [ef];exact h2)
 rw [ef] at hm1
 subst hm1
 obtain ⟨c,ec⟩:∃ c,cs[m]=c:=⟨_,rfl⟩
 have hcm:c∈cs:=by rw [←ec];simp
 have n1:¬(m:Int)<0:=by omega
 simp -dsimp [h1,n1,hm2,ec,corRow,hi,ex,spRow,hFi,hfi,intRow,↓ awpC_of xc91b]
 refine call_p (b55 t a b hab hb hl h6) (by simp [spRow]) (by simp) ?_
 have hgc:cs.getD (m:Int).toNat cor0=c:=by simp [hm2,ec]
 have hC:(codesT t a b).length≤6:=by have:=codesT_len (t:=t) (a:=a) (b:=b);omega
 rw [if_neg h2,hgc] at eV
 dsimp only at eV
 have htl:=splT_len t
 rw [eT] at htl
 rcases Nat.eq_zero_or_pos i with h0 | h0
 ·subst h0
  rw [if_neg (by omega)] at eB
  have:=x38 c (hcs.2 c hcm) s hs (codesT t a b) hC (befN cs t 0)
  rw [eB] at this eV
  subst eV
  simp -dsimp [↓ awpC_of xc91b]
  exact awpC_in this
 ·obtain ⟨j,rfl⟩:∃ j,i=j+1:=⟨i - 1,by omega⟩
  have hj:j<T.length:=by omega
  have hFj:j<Fs.length:=by omega
  obtain ⟨⟨a',b'⟩,ex'⟩:∃ x,T[j]=x:=⟨_,rfl⟩
  obtain ⟨hab',hb',h6'⟩:=hm (a',b') (by rw [←ex'];simp)
  dsimp only at hab' hb' h6'
  have hfj:=hfg j hj
  rw [ex'] at hfj
  have exd':T.getD j (0,0)=(a',b'):=by simp [hj,ex']
  rw [Nat.add_sub_cancel,exd'] at eB
  obtain ⟨fj,efj⟩:∃ fj,fontN cs t (a',b')=fj:=⟨_,rfl⟩
  rw [efj] at hfj eB
  have wj:R (j:Int):=⟨by omega,by omega⟩
  have j0:0≤(j:Int)+1:=by omega
  have this:=x38 c (hcs.2 c hcm) s hs (codesT t a b) hC (befN cs t (j+1))
  by_cases h3:fj=m
  ·rw [if_pos ⟨h0,h3⟩] at eB
   simp -dsimp [hj,ex',hFj,hfj,hFi,hfi,wr wj,intRow,spRow,h3,j0,↓ awpC_of xc91b]
   refine call_p (b55 t a' b' hab' hb' hl h6') (by simp [spRow]) (by simp) ?_
   obtain ⟨D,eD⟩:∃ D,codesT t a' b'=D:=⟨_,rfl⟩
   rw [eD] at eB ⊢
   by_cases h4:D=[]
   ·subst h4
    rw [eB] at this eV
    subst eV
    simp -dsimp [↓ awpC_of xc91b]
    exact awpC_in this
   ·have h5:0<D.length:=List.length_pos_iff.2 h4
    have h5':0<(D.length:Int):=by omega
    obtain ⟨y,ey⟩:∃ y,D.getLastD (-1)=y:=⟨_,rfl⟩
    have ey':D[D.length - 1]=y:=by rw [←ey,List.getLastD_eq_getLast?,List.getLast?_eq_getElem?,List.getElem?_eq_getElem (by omega)];rfl
    have ey2:D[D.length - 1]?=some y:=by rw [List.getElem?_eq_getElem (by omega),ey']
    have hD:D.length≤6:=by rw [←eD];have:=codesT_len (t:=t) (a:=a') (b:=b');omega
    have wl:R ((D.length:Int) - 1):=⟨by omega,by omega⟩
    have ln:(0:Int)≤(D.length:Int) - 1:=by omega
    have lt:((D.length:Int) - 1).toNat=D.length - 1:=by omega
    have lt2:D.length - 1<D.length:=by omega
    have l1:1≤(D.length:Int):=by omega
    rw [ey] at eB
    rw [eB] at this eV
    subst eV
    simp -dsimp [h5,↓ awpC_of xc91b]
    simp -dsimp [h5,h5',wr wl,ln,l1,lt,lt2,ey',ey2,intRow,↓ awpC_of xc91b]
    exact awpC_in this
  ·rw [if_neg (fun e=>h3 e.2)] at eB
   rw [eB] at this eV
   subst eV
   simp -dsimp [hj,ex',hFj,hfj,hFi,hfi,wr wj,intRow,spRow,h3,j0,↓ awpC_of xc91b]
   exact awpC_in this
end
section
set_option maxHeartbeats 400000
theorem fitN_b {s:Stg} (h:fitN s=true):4≤s.size∧s.size≤32∧CL s.at_:=by
 simp [fitN] at h
 exact ⟨h.1.1,h.1.2,h.2⟩
theorem b48 (cs:List Cor) (hcs:CorsOk2 cs) (t:List UInt8) (hl:t.length≤1000000) (s:Stg) (hs:s.at_.length≤1000) :
  Best Tryz.prog 48 [.sl 9 (cs.map corRow),.str (ba t),.agg (stgRow s)] (.p (.sl 1 ((widthsN cs t s).map intRow))):=by
 refine best mixed fn48 ok48 (by simp [stgRow]) ?_
 unfold widthsN
 have q37:=b47 s hs
 simp -dsimp [ac48,stgRow]
 refine call_p q37 (by simp [stgRow]) (by simp) ?_
 by_cases h1:fitN s=true
 rotate_left
 ·simp -dsimp [h1,resOf]
 obtain ⟨f1,f2,f3⟩:=fitN_b h1
 simp -dsimp [h1]
 refine call_p (b23 t hl) (by simp) (by simp) ?_
 simp -dsimp
 refine call_p (b21 cs hcs.one t hl) (by simp) (by simp) ?_
 have q38:=fun i hi=>b91 cs hcs t hl s hs ⟨by omega,by omega⟩ i hi
 have hsl:=splT_len t
 obtain ⟨T,eT⟩:∃ T,splT t=T:=⟨_,rfl⟩
 simp only [eT] at q38 hsl ⊢
 have hlen:(fontsN cs t).length=T.length:=by simp [fontsN,eT]
 obtain ⟨Fs,eF⟩:∃ Fs,fontsN cs t=Fs:=⟨_,rfl⟩
 rw [eF] at q38
 simp -dsimp [eF]
 obtain ⟨W,eW⟩:∃ W:Nat→List Int,W=fun k=>(List.range k).map (wdN cs t s):=⟨_,rfl⟩
 have hW0:W 0=[]:=by rw [eW];rfl
 have hWl:∀ k,(W k).length=k:=fun k=>by rw [eW];simp
 have hWs:∀ k,(W (k+1)).map intRow=(W k).map intRow++[[.int .i64 (wdN cs t s k)]]:=fun k=>by rw [eW];simp [List.range_succ,intRow]
 have hWe:(List.range T.length).map (wdN cs t s)=W T.length:=by rw [eW]
 rw [hWe]
 refine loopC T.length (fun k=>⟨[(6,.ref (30,0) 1 0 k),(9,.clo (.func 91) [] [.ptr (4,0) 1 0 0,.ptr (7,0) 1 0 0,.ptr (8,0) 1 0 0,.ptr (5,0) 3 0 0,.ptr (3,0) 1 0 0]),(21,.p (.int .i64 T.length)),(22,.p (.int .i64 k))],
  [((3,0),.box [.p (.sl 9 (cs.map corRow))]),((4,0),.box [.p (.str (ba t))]),((5,0),.box [.p (.int .i64 s.size),.p (.sl 1 (s.at_.map intRow)),.p (.int .i64 s.feat)]),((7,0),.box [.p (.sl 2 (T.map spRow))]),((8,0),.box [.p (.sl 1 (Fs.map intRow))]),((30,0),.sl 3 1 ((W k).map intRow))]⟩) (fun _=>True) (fun k hk _=>?_) trivial (by simp [hW0])
 by_cases h:k<T.length
 ·have wk:R ((k:Int)+1):=⟨by omega,by omega⟩
  have m1:k+1≤maxLen:=by unfold maxLen;omega
  have e1:(k+1)*8≤140737488355328:=by omega
  have q:=q38 k h
  have hl1:=hWl k
  have hs1:=hWs k
  obtain ⟨L,eL⟩:∃ L,W k=L:=⟨_,rfl⟩
  obtain ⟨x,exx⟩:∃ x,wdN cs t s k=x:=⟨_,rfl⟩
  rw [exx] at hs1 q
  rw [eL] at hs1 hl1
  have ht:List.take (k+1) (L.map intRow++[[.int .i64 x]])=L.map intRow++[[.int .i64 x]]:=List.take_of_length_le (by simp;omega)
  rw [eL,hs1]
  simp -dsimp [h]
  refine call_f q (by simp [stgRow]) (by simp) (by simp) ?_
  simp -dsimp [h,m1,e1,hl1,ht,wr wk,List.range,List.range.loop,-List.all_eq_true]
 ·have:k=T.length:=by omega
  subst this
  have hl:=hWl T.length
  have ht:List.take T.length ((W T.length).map intRow)=(W T.length).map intRow:=List.take_of_length_le (by simp [hl])
  simp -dsimp [h,h1,resOf,ht,hl]
end
end Go.Abs.A30
namespace Go.Abs.A30
open Go Go.Abs Go.Proofs
set_option maxRecDepth 100000
set_option maxHeartbeats 4000000
set_option linter.unusedVariables false
def ac62:AC:=by
 apply fun (y:AC) (_:@Eq AC (anF Tryz.prog 62 mu1 [] 0 0 []) y)=>y
 conv=>lhs;reduce;dsimp
theorem fn62:factOf Tryz.prog 62=some (ac62.strip,[.tmp 2],24):=by kernel_rfl
theorem ok62:ac62.okAll=true:=by kernel_rfl
def ac52:AC:=by
 apply fun (y:AC) (_:@Eq AC (anF Tryz.prog 52 mu1 [] 0 0 []) y)=>y
 conv=>lhs;reduce;dsimp
theorem fn52:factOf Tryz.prog 52=some (ac52.strip,[.tmp 2],6):=by kernel_rfl
theorem ok52:ac52.okAll=true:=by kernel_rfl
def ac110:AC:=by
 apply fun (y:AC) (_:@Eq AC (anF Tryz.prog 110 mu1 [] 0 0 []) y)=>y
 conv=>lhs;reduce;dsimp
theorem fn110:factOf Tryz.prog 110=some (ac110.strip,[.tmp 2],5):=by kernel_rfl
theorem ok110:ac110.okAll=true:=by kernel_rfl
def ac109:AC:=by
 apply fun (y:AC) (_:@Eq AC (anF Tryz.prog 109 mu1 [] 0 0 []) y)=>y
 conv=>lhs;reduce;dsimp
theorem fn109:factOf Tryz.prog 109=some (ac109.strip,[.tmp 4],6):=by kernel_rfl
theorem ok109:ac109.okAll=true:=by kernel_rfl
def ac154:AY:=(.ghost (.keep [0,1,2])
 (.seq (.reg [⟨some 4,.mov (.c (.int .i64 0)),none,[]⟩])
 (.ghost (.keep [0,1,2,4]) (.block 0 (.loop (.ghost (.keep [0,1,2,4]) (.seq (.seq (.reg [⟨some 7,.mov (.v 4),none,[]⟩,
  ⟨some 8,.load false 1 (.v 1),none,[]⟩,
  ⟨some 9,.len false (.v 8),none,[1]⟩,
  ⟨some 10,.bin .lss (.v 7) (.v 9),none,[0,2]⟩])
 (.ghost (.keep [0,1,2,4,10]) (.cond (.v 10)
 .skip
 (.exit 0))))
 (.ghost (.keep [0,1,2,4]) (.block 1 (.seq (.draw [⟨⟨some 11,.load false 1 (.v 2),none,[]⟩,[12,13,14,15,17,18],[],[],[],2⟩,
  ⟨⟨some 12,.load false 1 (.v 1),none,[]⟩,[11,13,17,18],[],[],[0],2⟩,
  ⟨⟨some 13,.mov (.v 4),none,[]⟩,[11,12,17,18],[],[],[0,1],2⟩,
  ⟨⟨some 14,.iaddr 1 (.v 12) (.v 13),none,[1,2]⟩,[11,17,18],[],[],[0],2⟩,
  ⟨⟨some 15,.load false 1 (.v 14),none,[3]⟩,[11,17,18],[],[],[0],2⟩,
  ⟨⟨some 16,.callv (.v 11) [.v 15],none,[0,4]⟩,[17,18],[],[16],[],1⟩,
  ⟨⟨some 17,.mov (.v 4),none,[]⟩,[5,11,12,13,14,15,16],[16],[],[0,1,2,3,4,5],2⟩,
  ⟨⟨some 18,.bin .add (.v 17) (.c (.int .i64 1)),none,[6]⟩,[5,11,12,13,14,15,16],[16],[],[0,1,2,3,4,5],2⟩,
  ⟨⟨some 5,.mov (.v 16),none,[5,5,0,1,2,3,4,5]⟩,[17,18],[],[],[6,7],2⟩,
  ⟨⟨some 6,.mov (.v 18),none,[7,8,0,1,2,3,4,5,6,7,8]⟩,[],[],[],[],2⟩])
 (.ghost (.keep [0,1,2,4,5,6]) (.seq (.block 2 (.loop (.ghost (.keep [0,1,2,4,5,6]) (.seq (.seq (.draw [⟨⟨some 19,.mov (.v 6),none,[]⟩,[20,21],[],[],[],2⟩,
  ⟨⟨some 20,.load false 1 (.v 1),none,[]⟩,[19],[],[],[0],2⟩,
  ⟨⟨some 21,.len false (.v 20),none,[1]⟩,[19],[],[],[0],2⟩,
  ⟨⟨some 22,.bin .lss (.v 19) (.v 21),none,[0,2]⟩,[],[],[],[],2⟩,
  ⟨⟨some 23,.mov (.v 22),none,[3]⟩,[],[],[],[],2⟩,
  ⟨⟨some 24,.load false 1 (.v 2),some (23,true),[4]⟩,[25,26,27,28,30],[],[],[],2⟩,
  ⟨⟨some 25,.load false 1 (.v 1),some (23,true),[4]⟩,[24,26,30],[],[],[5],2⟩,
  ⟨⟨some 26,.mov (.v 6),some (23,true),[4]⟩,[24,25,30],[],[],[5,6],2⟩,
  ⟨⟨some 27,.iaddr 1 (.v 25) (.v 26),some (23,true),[6,7,4]⟩,[24,30],[],[],[5],2⟩,
  ⟨⟨some 28,.load false 1 (.v 27),some (23,true),[8,4]⟩,[24,30],[],[],[5],2⟩,
  ⟨⟨some 29,.callv (.v 24) [.v 28],some (23,true),[5,9,4,4]⟩,[30],[],[29],[],1⟩,
  ⟨⟨some 30,.mov (.v 5),some (23,true),[4]⟩,[24,25,26,27,28,29],[29],[],[5,6,7,8,9,10],2⟩,
  ⟨⟨some 31,.eqb false (.v 29) (.v 30),some (23,true),[10,11,4]⟩,[],[],[],[],2⟩,
  ⟨⟨some 32,.pick (.v 23) (.v 31) (.c (.bool false)),none,[4,12]⟩,[],[],[],[],2⟩])
 (.ghost (.keep [0,1,2,4,5,6,32]) (.cond (.v 32)
 .skip
 (.exit 2))))
 (.ghost (.keep [0,1,2,4,5,6]) (.block 3 (.reg [⟨some 33,.mov (.v 6),none,[]⟩,
  ⟨some 34,.bin .add (.v 33) (.c (.int .i64 1)),none,[0]⟩,
  ⟨some 6,.mov (.v 34),none,[1,0,1]⟩])))))))
 (.ghost (.keep [0,1,2,4,5,6]) (.seq (.seq (.yield false [⟨⟨some 35,.mov (.v 0),none,[]⟩,[36,37,38,39],[],[],[],2⟩,
  ⟨⟨some 36,.mov (.v 4),none,[]⟩,[35,37,39],[],[],[0],2⟩,
  ⟨⟨some 37,.mov (.v 6),none,[]⟩,[35,36,39],[],[],[0,1],2⟩,
  ⟨⟨some 38,.build [.int .i64 0,.int .i64 0] [(0,1,.v 36),(1,1,.v 37)],none,[1,2]⟩,[35,39],[],[],[0],2⟩,
  ⟨⟨some 39,.mov (.v 5),none,[]⟩,[35,36,37,38],[],[],[0,1,2,3],2⟩]
  ⟨some 40,.callv (.v 35) [.v 38,.v 39],none,[0,3,4]⟩ [⟨some 41,.un .not (.v 40),none,[5]⟩])
 (.ghost (.keep [0,1,2,6,41]) (.cond (.v 41)
 .ret
 .skip)))
 (.ghost (.keep [0,1,2,6]) (.reg [⟨some 42,.mov (.v 6),none,[]⟩,
  ⟨some 4,.mov (.v 42),none,[0,0]⟩]))))))))))))))))
theorem fn154:factOf Tryz.prog 154=some (ac154.strip,[],43):=by kernel_rfl
theorem ok154:ac154.okAll=true:=by kernel_rfl
def ac147:AC:=by
 apply fun (y:AC) (_:@Eq AC (anF Tryz.prog 147 mu1 [] 0 0 []) y)=>y
 conv=>lhs;reduce;dsimp
theorem fn147:factOf Tryz.prog 147=some (ac147.strip,[.tmp 4],11):=by kernel_rfl
theorem ok147:ac147.okAll=true:=by kernel_rfl
def ac146:AC:=by
 apply fun (y:AC) (_:@Eq AC (anF Tryz.prog 146 mu1 [] 0 0 []) y)=>y
 conv=>lhs;reduce;dsimp
theorem fn146:factOf Tryz.prog 146=some (ac146.strip,[.tmp 2],8):=by kernel_rfl
theorem ok146:ac146.okAll=true:=by kernel_rfl
def ac100:AC:=by
 apply fun (y:AC) (_:@Eq AC (anF Tryz.prog 100 mu1 [] 0 0 []) y)=>y
 conv=>lhs;reduce;dsimp
theorem fn100:factOf Tryz.prog 100=some (ac100.strip,[.tmp 2],4):=by kernel_rfl
theorem ok100:ac100.okAll=true:=by kernel_rfl
def ac53:AC:=by
 apply fun (y:AC) (_:@Eq AC (anF Tryz.prog 53 mu1 [] 0 0 []) y)=>y
 conv=>lhs;reduce;dsimp
theorem fn53:factOf Tryz.prog 53=some (ac53.strip,[.tmp 2],6):=by kernel_rfl
theorem ok53:ac53.okAll=true:=by kernel_rfl
def ac145:AY:=(.ghost (.keep [0,1])
 (.seq (.reg [⟨some 5,.load false 1 (.v 1),none,[]⟩,
  ⟨some 6,.len false (.v 5),none,[0]⟩,
  ⟨some 7,.mov (.c (.int .i64 0)),none,[]⟩])
 (.ghost (.keep [0,5,6,7]) (.block 0 (.loop (.ghost (.keep [0,5,6,7]) (.seq (.reg [⟨some 8,.bin .lss (.v 7) (.v 6),none,[]⟩])
 (.ghost (.keep [0,5,6,7,8]) (.seq (.cond (.v 8)
 .skip
 (.exit 0))
 (.ghost (.keep [0,5,6,7]) (.seq (.block 1 (.seq (.reg [⟨some 9,.iaddr 1 (.v 5) (.v 7),none,[]⟩,
  ⟨some 10,.load false 1 (.v 9),none,[0]⟩,
  ⟨some 4,.mov (.v 10),none,[1,0,1]⟩])
 (.ghost (.keep [0,4,5,6,7]) (.seq (.yield false [⟨⟨some 11,.mov (.v 0),none,[]⟩,[12],[],[],[],2⟩,
  ⟨⟨some 12,.mov (.v 4),none,[]⟩,[11],[],[],[0],2⟩]
  ⟨some 13,.callv (.v 11) [.v 12],none,[0,1]⟩ [⟨some 14,.un .not (.v 13),none,[2]⟩])
 (.ghost (.keep [0,5,6,7,14]) (.cond (.v 14)
 .ret
 .skip))))))
 (.ghost (.keep [0,5,6,7]) (.reg [⟨some 15,.bin .add (.v 7) (.c (.int .i64 1)),none,[]⟩,
  ⟨some 7,.mov (.v 15),none,[0]⟩])))))))))))))
theorem fn145:factOf Tryz.prog 145=some (ac145.strip,[],16):=by kernel_rfl
theorem ok145:ac145.okAll=true:=by kernel_rfl
end Go.Abs.A30
