/- Proved: the law PageStays returns true for every input, and its arguments read behind the call as they did; no condition beyond the given row. -/
import Derived.Test.YtlkbeomimbohlaaGreatC24
set_option linter.unusedVariables false
set_option linter.unusedSimpArgs false
namespace Go.Abs.A30
open Go Go.Abs Go.Proofs
set_option maxRecDepth 100000
set_option maxHeartbeats 4000000
set_option linter.unusedVariables false
def xc4b:AC:=by
 apply fun (y:AC) (_:@Eq AC (anS 9 [⟨20,[.freeze (30,1),.freeze (43,1)],[],none⟩] [] (anF Tryz.prog 4 mu1 [] 0 0 [])) y)=>y
 conv=>lhs;reduce;dsimp
def xc4c:AC:=by
 apply fun (y:AC) (_:@Eq AC (anS 22 [] [] (anF Tryz.prog 4 mu1 [] 0 0 [])) y)=>y
 conv=>lhs;reduce;dsimp
def ac4:AC:=(fun (z0:AC)=>fun (z1:AC)=>by
 apply fun (y:AC) (_:@Eq AC (anD [⟨9,[],[],some z0⟩,⟨22,[.canV 10 (4,1),.freeze (4,1)],[],some z1⟩] (anF Tryz.prog 4 mu1 [] 0 0 [])) y)=>y
 conv=>lhs;reduce;dsimp) xc4b xc4c
theorem fn4:factOf Tryz.prog 4=some (ac4.strip,[.tmp 6],118):=by kernel_rfl
theorem ok4:ac4.okAll=true:=by kernel_rfl
end Go.Abs.A30
namespace Go.Abs.A30
open Go Go.Abs Go.Proofs
set_option maxRecDepth 100000
set_option linter.unusedVariables false
set_option linter.unusedSimpArgs false
attribute [local simp ↓] awp_skip awp_seq awp_cond awp_block awp_exit awp_ret awp_reg awp_draw awp_ghost awp_loop awp_rfun awpR_nil awpR_cons awpX_nil awpX_0 awpX_1 awpX_2 awpI_eq awpI_t awpI_f awpStep_eq
attribute [local simp] condL_true condL_false condL_dec evDel evV evN evS evA initFr Ghost.app Fr.var Fr.blk Fr.ff FF.val Abs.look Fr.app Fr.erase Fr.noSlot AV.noSlot AV.noSlotL Blk.noSlot Fr.spoken AV.fz AV.fzL Blk.fz binV binI shI binS unV fillA FF.parts FF.vals headO intO boundO lenV scalarEq leavesEq AV.aggc AV.cells FF.read FF.rows AV.one PV.one chunk freshB newS pickV retK evRs evRl evR resOf mkTup mkAgg allP cloOf okP_nil okX_p okX okP addN Del.noSlot Del.owners Rnd reify_p normM insM Fr.back Fr.backV Fr.setPs normV insV
attribute [local simp] renF Fr.trim Blk.trim AV.rn AV.rnL Blk.rn AV.among AV.amongL Blk.among okF retM fixS BIG initFF
attribute [local simp] FF.reify FF.reifyL PV.flat
section
set_option maxHeartbeats 1000000
attribute [local simp ↓] oneD2 oneI oneC onePa onePi oneSp onePl
theorem oneHd (l:List (Int×List Int)):((l.map hdRow).all fun r=>r.all PV.one)=true:=by
 rw [List.all_eq_true];intro r hr;obtain ⟨u,_,rfl⟩:=List.mem_map.1 hr;rfl
theorem oneChr (l:List Ch):((l.map chRow).all fun r=>r.all PV.one)=true:=by
 rw [List.all_eq_true];intro r hr;obtain ⟨u,_,rfl⟩:=List.mem_map.1 hr;rfl
def setG (n:Int) (x:Ch):Ch:={ x with glyph:=n }
def chSet (n:Int) (l:List Ch) (j:Nat):List Ch:=(l.take j).map (setG n)++l.drop j
theorem chSet_len (n:Int) (l:List Ch) (j:Nat):(chSet n l j).length=l.length:=by
 simp only [chSet,List.length_append,List.length_map,List.length_take,List.length_drop];omega
theorem chSet_end (n:Int) (l:List Ch):chSet n l l.length=l.map (setG n):=by simp [chSet]
theorem chSet_get (n:Int) (l:List Ch) (j:Nat) (h:j<l.length) (h2:j<(chSet n l j).length):(chSet n l j)[j]=l[j]:=by
 simp only [chSet]
 rw [List.getElem_append_right (by simp;omega)]
 simp
 congr 1
 omega
theorem chSet_set (n:Int) (l:List Ch) (j:Nat) (h:j<l.length):(chSet n l j).set j (setG n l[j])=chSet n l (j+1):=by
 apply List.ext_getElem?
 intro i
 rw [List.getElem?_set,chSet_len]
 by_cases hij:j=i
 ·subst hij
  rw [if_pos rfl,if_pos h]
  simp only [chSet]
  rw [List.getElem?_append_left (by simp;omega)]
  simp [List.getElem?_take,h]
 ·rw [if_neg hij]
  simp only [chSet,List.getElem?_append,List.getElem?_map,List.getElem?_take,List.getElem?_drop,List.length_map,List.length_take]
  by_cases h1:i<j
  ·rw [if_pos (by omega),if_pos (by omega),if_pos (by omega)]
   split<;>first | rfl | omega
  ·rw [if_neg (by omega),if_neg (by omega)]
   congr 1
   omega
def stayC (hs:List (Int×List Int)) (n:Int) (c:Cor):Cor:=⟨c.nm,n,c.ax,c.rg,n,c.ch.map (setG n),c.pr,hs,⟨#[97,110,111,116,104,101,114,32,114,111,111,116]⟩⟩
theorem stay_fine {hs:List (Int×List Int)} {n:Int} {c:Cor} (h:c.fine):(stayC hs n c).fine:=
 ⟨h.ax,by simpa [stayC] using h.ch,h.pr,h.prb,fun x hx=>by
  simp only [stayC] at hx
  obtain ⟨y,hy,rfl⟩:=List.mem_map.1 hx
  exact h.chs y hy,h.rgs⟩
theorem stay_eq (hs:List (Int×List Int)) (n:Int) (c:Cor):CorEq c (stayC hs n c):=by
 refine ⟨rfl,rfl,?_,rfl⟩
 simp only [stayC,List.map_map]
 rfl
theorem stays_eq (hs:List (Int×List Int)) (n:Int):∀ cs:List Cor,CorsEq cs (cs.map (stayC hs n))
 | []=>.nil
 | c :: cs=>.cons (stay_eq hs n c) (stays_eq hs n cs)
theorem x4b {K:AE→Fr→Prop} (hs:List (Int×List Int)) (n:Int) (cs:List Cor) (w:Int) (ps:List Par) (k:Nat) (hk:k<cs.length) (hcl:cs.length≤3) (a:Nat) (ea:min (hs.length:Int) 3=a) (ha:a≤hs.length) (nm:ByteArray) (ver:Int) (ax:List Axv) (rg:List (List T3)) (gl:Int) (ch:List Ch) (pr:List (Int×Int×Int)) (hd:List (Int×List Int)) (rt:ByteArray) (ex:cs[k]=⟨nm,ver,ax,rg,gl,ch,pr,hd,rt⟩) (hc:Cor.fine ⟨nm,ver,ax,rg,gl,ch,pr,hd,rt⟩)
  (hK:∀ F',(Ghost.keep [1,2,7,8,9,10,24,25,26]).app F'=some ⟨[(1,.p (.sl 2 (hs.map hdRow))),(2,.p (.int .i64 n)),(7,.p (.bool true)),(8,.ptr (8,0) 3 0 0),(9,.p (.sl 9 (cs.map corRow))),(10,.ref (64,k+1) 9 0 (k+1)),(24,.p (.sl 9 (cs.map corRow))),(25,.p (.int .i64 cs.length)),(26,.p (.int .i64 k))],
   [((8,0),.box [.p (.int .i64 w),.p (.sl 3 (cs.map pinRow)),.p (.sl 4 (ps.map parRow))]),((64,k+1),.sl 53 9 (((cs.take (k+1)).map (stayC (hs.take a) n)).map corRow))]⟩→K .normal F') :
 awp Tryz.prog xc4b K ⟨[(1,.p (.sl 2 (hs.map hdRow))),(2,.p (.int .i64 n)),(7,.p (.bool true)),(8,.ptr (8,0) 3 0 0),(9,.p (.sl 9 (cs.map corRow))),(10,.ref (64,k) 9 0 k),(12,.ptr (12,0) 9 0 0),(24,.p (.sl 9 (cs.map corRow))),(25,.p (.int .i64 cs.length)),(26,.p (.int .i64 k))],
  [((8,0),.box [.p (.int .i64 w),.p (.sl 3 (cs.map pinRow)),.p (.sl 4 (ps.map parRow))]),((12,0),.box [.p (.str nm),.p (.int .i64 ver),.p (.sl 5 (ax.map axRow)),.p (.sl 1 (rg.map regRow)),.p (.int .i64 gl),.p (.sl 4 (ch.map chRow)),.p (.sl 3 (pr.map i3Row)),.p (.sl 2 (hd.map hdRow)),.p (.str rt)]),((64,k),.sl 53 9 (((cs.take k).map (stayC (hs.take a) n)).map corRow))]⟩:=by
 have ha3:a≤3:=by omega
 have hch:=hc.ch
 have hs1:(cs.take (k+1)).map (stayC (hs.take a) n)=(cs.take k).map (stayC (hs.take a) n)++[stayC (hs.take a) n ⟨nm,ver,ax,rg,gl,ch,pr,hd,rt⟩]:=by
  rw [List.take_add_one,List.getElem?_eq_getElem hk,ex,List.map_append];rfl
 have hOl:((cs.take k).map (stayC (hs.take a) n)).length=k:=by simp;omega
 rw [hs1] at hK
 obtain ⟨O,eO⟩:∃ O,(cs.take k).map (stayC (hs.take a) n)=O:=⟨_,rfl⟩
 rw [eO] at hK hOl ⊢
 dsimp only at hch
 have m1:a≤maxLen:=by unfold maxLen;omega
 have m2:a*32≤140737488355328:=by omega
 have m3:ch.length≤maxLen:=by unfold maxLen;omega
 have m4:ch.length*48≤140737488355328:=by omega
 have m5:k+1≤maxLen:=by unfold maxLen;omega
 have m6:(k+1)*168≤140737488355328:=by omega
 have hal:((List.take a (hs.map hdRow)).all fun r=>r.all PV.one)=true:=by rw [←List.map_take];exact oneHd _
 have hal2:((ch.map chRow).all fun r=>r.all PV.one)=true:=oneChr _
 simp -dsimp [xc4b,hk,corRow,ea,ha,m1,m2,m3,m4,hal,hal2,List.range,List.range.loop,-List.all_eq_true]
 refine loopC ch.length (fun j=>⟨[(1,.p (.sl 2 (hs.map hdRow))),(2,.p (.int .i64 n)),(7,.p (.bool true)),(8,.ptr (8,0) 3 0 0),(9,.p (.sl 9 (cs.map corRow))),(10,.ref (64,k) 9 0 k),(12,.ptr (12,0) 9 0 0),(13,.p (.int .i64 j)),(24,.p (.sl 9 (cs.map corRow))),(25,.p (.int .i64 cs.length)),(26,.p (.int .i64 k))],
  [((8,0),.box [.p (.int .i64 w),.p (.sl 3 (cs.map pinRow)),.p (.sl 4 (ps.map parRow))]),((12,0),.box [.p (.str nm),.p (.int .i64 n),.p (.sl 5 (ax.map axRow)),.p (.sl 1 (rg.map regRow)),.p (.int .i64 n),.ref (43,1) 4 0 ch.length,.p (.sl 3 (pr.map i3Row)),.ref (30,1) 2 0 a,.p (.str ⟨#[97,110,111,116,104,101,114,32,114,111,111,116]⟩)]),
    ((30,1),.sl 187 2 (List.take a (hs.map hdRow))),((43,1),.sl 56 4 ((chSet n ch j).map chRow)),((64,k),.sl 53 9 (O.map corRow))]⟩) (fun _=>True) (fun j hj _=>?_) trivial (by simp [chSet])
 have hcl2:=chSet_len n ch j
 by_cases h:j<ch.length
 ·have hj2:j<(chSet n ch j).length:=by omega
  have hget:=chSet_get n ch j h hj2
  have hset:=chSet_set n ch j h
  obtain ⟨⟨co,gy,wi,wd⟩,e⟩:∃ x,ch[j]=x:=⟨_,rfl⟩
  rw [e] at hget hset
  have hset2:((chSet n ch j).map chRow).set j (chRow (setG n ⟨co,gy,wi,wd⟩))=(chSet n ch (j+1)).map chRow:=by
   rw [←hset,List.map_set]
  simp only [chRow,setG] at hset2
  have wj:R ((j:Int)+1):=⟨by omega,by omega⟩
  simp -dsimp [h,hcl2,hj2,hget,chRow,wr wj,-List.all_eq_true]
  exact hset2
 ·have:j=ch.length:=by omega
  subst this
  have t1:List.take ch.length ((ch.map (setG n)).map chRow)=(ch.map (setG n)).map chRow:=List.take_of_length_le (by simp)
  have t2:List.take a (List.take a (hs.map hdRow))=List.take a (hs.map hdRow):=List.take_of_length_le (by simp;omega)
  have hallO:((O.map corRow).all fun r=>r.all PV.one)=true:=oneC _
  have hmin:min a hs.length=a:=by omega
  simp -dsimp [h,chSet_end,hmin,t1,t2,hOl,m5,m6,hallO,List.range,List.range.loop,-List.all_eq_true,-List.map_map]
  refine hK _ ?_
  simp [stayC,corRow,-List.map_map,List.map_take,hOl]
theorem x4c (hs:List (Int×List Int)) (n:Int) (cs:List Cor) (hcl:cs.length≤3) (hcs:∀ c∈cs,c.ok) (w:Int) (hw:12≤w∧w<72) (ps:List Par) (hps:ParsOk ps) :
  awp Tryz.prog xc4c (retK [RO.tmp 6] (.p (.bool true))) ⟨[(7,.p (.bool true)),(8,.ptr (8,0) 3 0 0),(9,.p (.sl 9 (cs.map corRow))),(10,.p (.sl 9 ((cs.map (stayC hs n)).map corRow)))],
   [((8,0),.box [.p (.int .i64 w),.p (.sl 3 (cs.map pinRow)),.p (.sl 4 (ps.map parRow))])]⟩:=by
 have hc2:CorsOk2 cs:=⟨by omega,fun c h=>(hcs c h).fine⟩
 have hc3:CorsOk2 (cs.map (stayC hs n)):=⟨by simp;omega,fun c h=>by
  obtain ⟨y,hy,rfl⟩:=List.mem_map.1 h
  exact stay_fine (hcs y hy).fine⟩
 have q15:=b15 cs hc2 w ⟨by omega,by omega⟩ cs ps hps
 have q15':=b15 (cs.map (stayC hs n)) hc3 w ⟨by omega,by omega⟩ cs ps hps
 rw [(stays_eq hs n cs).doc w ps] at q15'
 have hl:=allK_len (cs:=cs) (w:=w) hps ps.length
 have h3:=hps.1
 have hll:(docL cs w ps).length≤36:=by unfold docL;omega
 have hpw:=docL_pw (cs:=cs) (w:=w) hps
 have hl0:∀ x∈docL cs w ps,0≤x.2.l:=fun x hx=>by
  obtain ⟨k,hk,h2⟩:=List.mem_flatMap.1 hx
  have h1:=(paraK_mem hps h2).2.1
  have hk:k<ps.length:=by simpa using hk
  have:=(lineK_b (cs:=cs) (w:=w) hps k (by omega)).1
  omega
 simp only [docRow] at q15 q15'
 obtain ⟨L,eL⟩:∃ L,docL cs w ps=L:=⟨_,rfl⟩
 simp only [eL] at q15 q15' hll hpw hl0
 have q16:=b16 L (by omega)
 obtain ⟨ot,eot⟩:∃ ot,cs.map (stayC hs n)=ot:=⟨_,rfl⟩
 rw [eot] at q15' ⊢
 simp -dsimp [xc4c]
 refine call_p q15 (by simp) (by simp) ?_
 simp -dsimp
 refine loopE L.length (fun k (v:Int)=>⟨[(7,.p (.bool true)),(8,.ptr (8,0) 3 0 0),(10,.p (.sl 9 (ot.map corRow))),(14,.p (.sl 6 (L.map dplRow))),(15,.p (.int .i64 v)),(16,.p (.int .i64 k))],
  [((8,0),.box [.p (.int .i64 w),.p (.sl 3 (cs.map pinRow)),.p (.sl 4 (ps.map parRow))])]⟩) (fun k v=>∀ b:Int,-1≤b→(∀ i (h:i<L.length),i<k→L[i].2.l≤b)→v≤b) (-1) (fun k v hk hv=>?_) (fun b hb _=>hb) (by simp)
 by_cases h:k<L.length
 ·obtain ⟨⟨pk,pi,pf,pl,px,pw⟩,ep⟩:∃ p,L[k]=p:=⟨_,rfl⟩
  have wk:R ((k:Int)+1):=⟨by omega,by omega⟩
  have hmono:∀ b:Int,(∀ i (h:i<L.length),i<k+1→L[i].2.l≤b)→∀ i (h:i<L.length),i<k→L[i].2.l≤b:=fun b q i h hi=>q i h (by omega)
  by_cases h0:0<k
  ·obtain ⟨m,em⟩:∃ m:Nat,(k:Int) - 1=m:=⟨k - 1,by omega⟩
   have hml:m<L.length:=by omega
   have wm:R (m:Int):=⟨by omega,by omega⟩
   obtain ⟨⟨pk',pi',pf',pl',px',pw'⟩,ep'⟩:∃ p,L[m]=p:=⟨_,rfl⟩
   by_cases hpp:pk'<pk
   ·have hlt:∀ i (h:i<L.length),i<k→L[i].2.l≤pl - 1:=by
     intro i hi hik
     have g2:=(List.pairwise_iff_getElem.1 hpw i k hi h hik).2
     have g1:L[i].1≤pk':=by
      rcases Nat.lt_or_ge i m with q | q
      ·have:=(List.pairwise_iff_getElem.1 hpw i m hi hml q).1
       rw [ep'] at this
       exact this
      ·have:i=m:=by omega
       subst this
       rw [ep']
       exact Int.le_refl _
     rw [ep] at g2
     dsimp only at g2
     have:=g2 (by omega)
     omega
    have hpl:=hl0 (pk,⟨pi,pf,pl,px,pw⟩) (by rw [←ep];simp)
    dsimp only at hpl
    simp -dsimp [h,ep,dplRow,h0,em,wr wm,hml,ep',hpp]
    refine loopE k (fun i (v:Int)=>⟨[(7,.p (.bool true)),(8,.ptr (8,0) 3 0 0),(10,.p (.sl 9 (ot.map corRow))),(14,.p (.sl 6 (L.map dplRow))),(15,.p (.int .i64 v)),(16,.p (.int .i64 k)),(17,.p (.int .i64 i))],
     [((8,0),.box [.p (.int .i64 w),.p (.sl 3 (cs.map pinRow)),.p (.sl 4 (ps.map parRow))])]⟩) (fun _ v=>∀ b:Int,-1≤b→(∀ i (h:i<L.length),i<k→L[i].2.l≤b)→v≤b) v (fun i v' hi hv'=>?_) hv (by simp)
    by_cases hik:i<k
    ·have hil:i<L.length:=by omega
     obtain ⟨⟨qk,qi,qf,ql,qx,qw⟩,eq⟩:∃ p,L[i]=p:=⟨_,rfl⟩
     have wi:R ((i:Int)+1):=⟨by omega,by omega⟩
     simp -dsimp [hik,hil,eq,dplRow,wr wi]
     intro b hb hall
     have g1:=hv' b hb hall
     have g2:=hall i hil hik
     rw [eq] at g2
     dsimp only at g2
     omega
    ·have:i=k:=by omega
     subst this
     have g:=hv' (pl - 1) (by omega) hlt
     have g2:¬pl≤v':=by omega
     simp -dsimp [hik,h,ep,dplRow,g2,wr wk]
     exact fun b hb hall=>hv' b hb (hmono b hall)
   ·simp -dsimp [h,ep,dplRow,h0,em,wr wm,hml,ep',hpp,wr wk]
    exact fun b hb hall=>hv b hb (hmono b hall)
  ·simp -dsimp [h,ep,dplRow,h0,wr wk]
   exact fun b hb hall=>hv b hb (hmono b hall)
 ·have:k=L.length:=by omega
  subst this
  simp -dsimp [h]
  refine call_p q15' (by simp) (by simp) ?_
  simp -dsimp
  refine call_p q16 (by simp) (by simp) ?_
  simp -dsimp
theorem law4 (F:List (List (List Int))) (D:List (List Int)) (hF:∀ x∈F,x.length≤9223372036854775807∧∀ y∈x,∀ n∈y,R n) (hD:∀ x∈D,x.length≤9223372036854775807∧∀ n∈x,R n) (hs:List (Int×List Int)) (hsl:hs.length≤9223372036854775807) (n:Int) :
  Best Tryz.prog 4 [.agg [.sl 1 (F.map lllRow),.sl 1 (D.map llRow)],.sl 2 (hs.map hdRow),.int .i64 n] (.p (.bool true)):=by
 obtain ⟨cs,w,ps,⟨hc,hco,hw1,hw2,hps⟩,q10⟩:=b10 F D hF hD
 obtain ⟨a,ea⟩:∃ a:Nat,min (hs.length:Int) 3=a:=⟨min hs.length 3,by omega⟩
 have ha:a≤hs.length:=by omega
 simp only [docRow] at q10
 refine best mixed fn4 ok4 (by simp) ?_
 simp -dsimp [ac4]
 refine call_p b9 (by simp) (by simp) ?_
 simp -dsimp
 refine call_p q10 (by simp) (by simp) ?_
 simp -dsimp
 refine loopC cs.length (fun k=>⟨[(1,.p (.sl 2 (hs.map hdRow))),(2,.p (.int .i64 n)),(7,.p (.bool true)),(8,.ptr (8,0) 3 0 0),(9,.p (.sl 9 (cs.map corRow))),(10,.ref (64,k) 9 0 k),(24,.p (.sl 9 (cs.map corRow))),(25,.p (.int .i64 cs.length)),(26,.p (.int .i64 k))],
  [((8,0),.box [.p (.int .i64 w),.p (.sl 3 (cs.map pinRow)),.p (.sl 4 (ps.map parRow))]),((64,k),.sl 53 9 (((cs.take k).map (stayC (hs.take a) n)).map corRow))]⟩) (fun _=>True) (fun k hk _=>?_) trivial (by simp)
 by_cases h:k<cs.length
 ·obtain ⟨⟨nm,ver,ax,rg,gl,ch,pr,hd,rt⟩,ex⟩:∃ c,cs[k]=c:=⟨_,rfl⟩
  have hcok:=hco ⟨nm,ver,ax,rg,gl,ch,pr,hd,rt⟩ (by rw [←ex];simp)
  have wk:R ((k:Int)+1):=⟨by omega,by omega⟩
  have exr:corRow ⟨nm,ver,ax,rg,gl,ch,pr,hd,rt⟩=[.str nm,.int .i64 ver,.sl 5 (ax.map axRow),.sl 1 (rg.map regRow),.int .i64 gl,.sl 4 (ch.map chRow),.sl 3 (pr.map i3Row),.sl 2 (hd.map hdRow),.str rt]:=rfl
  simp -dsimp [h,ex,exr,↓ awpC_of xc4b,-List.map_map,-List.map_take]
  refine awpC_in ?_
  refine x4b hs n cs w ps k h hc a ea ha nm ver ax rg gl ch pr hd rt ex hcok.fine ?_
  intro F' e
  dsimp only
  rw [awp_ghost,e]
  dsimp only
  simp -dsimp [wr wk,h,-List.map_map,-List.map_take]
 ·have:k=cs.length:=by omega
  subst this
  have rest:=x4c (hs.take a) n cs hc hco w ⟨hw1,hw2⟩ ps hps
  rw [List.take_length]
  have t1:List.take cs.length ((cs.map (stayC (hs.take a) n)).map corRow)=(cs.map (stayC (hs.take a) n)).map corRow:=List.take_of_length_le (by simp)
  simp -dsimp [h,t1,↓ awpC_of xc4c,-List.map_map]
  exact awpC_in rest
end
end Go.Abs.A30
namespace Go.Proofs.YtlkbeomimbohlaaGreat
open Go Go.Abs Go.ChangeShapes Go.WideShapes Go.RowKit Go.Proofs Go.Abs.A30
set_option maxRecDepth 100000
set_option linter.unusedVariables false
theorem pageStays_lifted (os:Os) (started:os.Started) (H:Type) (enc:TypeId×Value→H) :
  ReturnsInHanded {} Tryz.checked os 4 .any (ChangeSpec.pre6 enc Tryz.prog Tryz.f4 Rows.pageStaysSpec [] false)
   (Rows.pageStaysSpec.post enc Tryz.prog Tryz.f4 false true false false):=by
 refine returnsInHanded_of_change (C:=Tryz.checked) own started (by kernel_rfl) Tryz.func4
  (ChangeSpec.witness6_at (enc:=enc) (C:=Tryz.checked) (os:=os) false (restWorld os) #[.agg #[.slice none 0 0,.slice none 0 0],.slice none 0 0,.int .i64 0] 8 rfl (by kernel_rfl) (by kernel_rfl) (by kernel_rfl) (by kernel_rfl) (by kernel_rfl)) ?_
 intro W base args ds gs before hval hW _ _
 have hW':=hW
 obtain ⟨p,q,hA,hV,-,-,-⟩:=hW'
 have hA:DataW.TrodAll enc Tryz.prog W 0 (fun _=>true) true Tryz.f4.params.toList args.toList ds p:=hA
 rw [Tryz.params4] at hA
 have hval:∀ (j:Nat) t v,Tryz.f4.params[j]?=some t→args[j]?=some v→Value.okWide Tryz.prog W .any base t v:=hval
 rw [Tryz.params4] at hval
 obtain ⟨v0,v1,v2,d0,d1,d2,p0,p1,p2,rfl,rfl,rfl,h0,h1,h2⟩:=trodAll_three hA
 obtain ⟨a0,o0,r0⟩:=Rd.argT Tryz.underlying25 rd_case (hval 0 25 v0 rfl rfl) h0
 obtain ⟨a1,o1,r1⟩:=Rd.argS Tryz.underlying47 rd_heads (hval 1 47 v1 rfl rfl) h1
 obtain ⟨a2,o2,r2⟩:=Rd.argI Tryz.underlying3 rd_int (hval 2 3 v2 rfl rfl) h2
 exact law_step rfl rfl hW rfl (by decide +kernel) (law4 a0.1 a0.2 o0.1 o0.2 a1 o1.2 a2) (Ps.cons r0 (Ps.cons r1 (Ps.one r2)))
theorem pageStays_holds:Rows.PageStaysSaid:=
 OpenClaim.holds_of_wide 4 Tryz.f4 rfl rfl rfl rfl rfl rfl rfl ⟨rfl,rfl,rfl,rfl,rfl⟩ rfl rfl rfl rfl rfl (by kernel_rfl) Tryz.func4 (by kernel_rfl)
  (of_decide_eq_true (by kernel_rfl)) (by unfold Func.isWrapper;rw [if_neg (of_decide_eq_false (by kernel_rfl))];exact ⟨rfl,rfl⟩)
  (fun os started H enc _=>pageStays_lifted os started H enc)
end Go.Proofs.YtlkbeomimbohlaaGreat
