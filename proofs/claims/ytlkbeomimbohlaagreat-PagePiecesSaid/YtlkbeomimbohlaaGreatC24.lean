/- A part of the proof: an abstract reading of the model, contracts of functions. -/
import Derived.Test.YtlkbeomimbohlaaGreatC23
import Derived.OpenShut
import Derived.Deep.Slices
import Derived.WideShapes
import Derived.Carry
import Derived.DataElems
import Derived.Test.YtlkbeomimbohlaaGreatRows
import Derived.ChangeSame
import Derived.ChangeVars
import Derived.JoinedOf
import Derived.RowKit
import Derived.RowKitTokens
import Derived.Stop.Joined
import Derived.ProofKit
import Derived.SizedLaws
import Derived.WitnessAt
set_option linter.unusedVariables false
set_option linter.unusedSimpArgs false
namespace Go.Abs.A30
open Go Go.Abs Go.Proofs
set_option maxRecDepth 100000
set_option linter.unusedVariables false
set_option linter.unusedSimpArgs false
attribute [local simp ↓] awp_skip awp_seq awp_cond awp_block awp_exit awp_ret awp_reg awp_draw awp_ghost awp_loop awp_rfun awpR_nil awpR_cons awpX_nil awpX_0 awpX_1 awpX_2 awpI_eq awpI_t awpI_f awpStep_eq
attribute [local simp] condL_true condL_false condL_dec evDel evV evN evS evA initFr Ghost.app Fr.var Fr.blk Fr.ff FF.val Abs.look Fr.app Fr.erase Fr.noSlot AV.noSlot AV.noSlotL Blk.noSlot Fr.spoken AV.fz AV.fzL Blk.fz binV binI shI binS unV fillA FF.parts FF.vals headO intO boundO lenV scalarEq leavesEq AV.aggc AV.cells FF.read FF.rows AV.one PV.one chunk freshB newS pickV retK evRs evRl evR resOf mkTup mkAgg allP cloOf okP_nil okX_p okX okP addN Del.noSlot Del.owners Rnd reify_p normM insM Fr.back Fr.backV Fr.setPs normV insV
attribute [local simp] renF Fr.trim Blk.trim AV.rn AV.rnL Blk.rn AV.among AV.amongL Blk.among okF retM fixS BIG initFF
attribute [local simp] FF.reify FF.reifyL PV.flat
section
attribute [local simp ↓] oneBy
attribute [local simp] bldB cpV
theorem cpS_b {ps:List Par} (hp:ParsOk ps) (fr up:Int) (z:Cp) (p:Dpl) (h1:-1≤z.last) (h2:0≤p.1∧p.1≤1000) :
  (cpS ps fr up z p).n=z.n+1∧-1≤(cpS ps fr up z p).last∧(cpS ps fr up z p).last≤max z.last p.1∧(cpS ps fr up z p).acc.length≤z.acc.length+1100:=by
 unfold cpS
 split
 ·have h3:(if 0≤z.last then List.replicate (p.1 - z.last).toNat (10:UInt8) else []).length≤1000:=by split<;>simp<;>omega
  have h4:(match ps[p.1.toNat]? with | some q=>cluT q.t p.2.i | none=>[]).length≤12:=by
   split
   ·rename_i q hq
    have:=(hp.2 q (List.mem_of_getElem? hq)).1
    simp only [cluT,List.length_drop,List.length_take]
    omega
   ·simp
  refine ⟨rfl,by dsimp only;omega,by dsimp only;omega,?_⟩
  show (z.acc++((if 0≤z.last then List.replicate (p.1 - z.last).toNat (10:UInt8) else [])++(match ps[p.1.toNat]? with | some q=>cluT q.t p.2.i | none=>[]))).length≤_
  simp only [List.length_append]
  omega
 ·exact ⟨rfl,h1,by dsimp only;omega,by dsimp only;omega⟩
theorem cpF_b {ps:List Par} (hp:ParsOk ps) (fr up:Int) (k:Int) (hk:k≤1000):∀ (l:List Dpl) (z:Cp),(∀ p∈l,0≤p.1∧p.1≤k)→-1≤z.last→z.last≤k→(l.foldl (cpS ps fr up) z).n=z.n+l.length∧-1≤(l.foldl (cpS ps fr up) z).last∧(l.foldl (cpS ps fr up) z).last≤k∧(l.foldl (cpS ps fr up) z).acc.length≤z.acc.length+1100*l.length
 | [],z,_,h1,h2=>by simp;omega
 | p :: l,z,h,h1,h2=>by
  have hp1:=h p (by simp)
  obtain ⟨a1,a2,a3,a4⟩:=cpS_b hp fr up z p h1 ⟨hp1.1,by omega⟩
  obtain ⟨b1,b2,b3,b4⟩:=cpF_b hp fr up k hk l (cpS ps fr up z p) (fun q hq=>h q (by simp [hq])) a2 (by omega)
  rw [List.foldl_cons,List.length_cons]
  refine ⟨by rw [b1,a1];push_cast;omega,b2,b3,by omega⟩
theorem paraK_at {cs:List Cor} {w:Int} {ps:List Par} (hp:ParsOk ps) {k:Nat} {q:Par} (hq:ps[k]?=some q) {j:Nat} {p:Dpl} (h:(paraK cs w ps k)[j]?=some p):p.1=k∧p.2.i=j∧j<(splT q.t).length:=by
 have hqo:=hp.2 q (List.mem_of_getElem? hq)
 obtain ⟨X,eX⟩:=placesN_get (cs:=cs) (t:=q.t) (w:=w) hqo.2.1
 unfold paraK at h
 rw [hq] at h
 simp only [parV,eX,List.getElem?_map,Option.map_eq_some_iff] at h
 obtain ⟨y,hy,rfl⟩:=h
 obtain ⟨hl,e⟩:=List.getElem?_eq_some_iff.1 hy
 rw [plcL_get] at e
 rw [plcL_len] at hl
 subst e
 exact ⟨rfl,rfl,hl⟩
theorem b17 (cs:List Cor) (hcs:CorsOk2 cs) (w:Int) (hw:0≤w∧w≤1000) (pn:List Cor) (ps:List Par) (hp:ParsOk ps) (fr up:Int):Best Tryz.prog 17 [.agg (docRow w pn ps),.sl 9 (cs.map corRow),.int .i64 fr,.int .i64 up] (.p (.str (ba (copyN cs w ps fr up)))):=by
 refine best mixed fn17 ok17 (by simp) ?_
 have q:=b41 w pn cs ps
 have hG:=g84 cs hcs w hw pn ps hp
 have h3:=hp.1
 simp only [docRow] at q hG
 simp -dsimp [ac17,docRow]
 refine call_p q (by simp) (by simp) ?_
 simp -dsimp
 refine rfunL_rule rfl rfl hG (fun k F=>k≤ps.length∧∃ u,CpOk (cpF ps fr up (allK cs w ps k)) u∧F=⟨cpV w pn cs ps [] [],cpM w pn ps fr up (cpF ps fr up (allK cs w ps k)) u⟩) ?_ ?_ ⟨by omega,none,by simp [allK,cpF,CpOk],by simp [allK,cpF,cpM]⟩
 ·rintro k z F hz ⟨hk,u,hu,rfl⟩
  have hk2:k<ps.length:=by have:=(List.getElem?_eq_some_iff.1 hz).1;simpa [parsR] using this
  simp only [parsR,List.getElem?_map,List.getElem?_range hk2,Option.map_some,Option.some.injEq] at hz
  subst hz
  obtain ⟨⟨t,s⟩,ex⟩:∃ x,ps[k]=x:=⟨_,rfl⟩
  have hq:ps[k]?=some ⟨t,s⟩:=by rw [List.getElem?_eq_getElem hk2,ex]
  have hpk:=hp.2 ⟨t,s⟩ (by rw [←ex];simp)
  have ht12:=hpk.1
  dsimp only at ht12
  have l1:=paraK_len (cs:=cs) (w:=w) hp k
  have l2:=allK_len (cs:=cs) (w:=w) hp k
  have hs:=allK_succ cs w ps k
  have hat:=fun j p=>@paraK_at cs w ps hp k ⟨t,s⟩ hq j p
  have q23:=b23 t (by omega)
  have hA:∀ p∈allK cs w ps k++paraK cs w ps k,0≤p.1∧p.1≤k:=by
   rw [←hs]
   intro p hp'
   obtain ⟨i,hi,h2⟩:=List.mem_flatMap.1 hp'
   have hi:i<k+1:=by simpa using hi
   have:p.1=i:=by
    unfold paraK at h2
    split at h2
    ·obtain ⟨y,_,rfl⟩:=List.mem_map.1 h2;rfl
    ·simp at h2
   omega
  obtain ⟨A,eA⟩:∃ A,allK cs w ps k=A:=⟨_,rfl⟩
  obtain ⟨B,eB⟩:∃ B,paraK cs w ps k=B:=⟨_,rfl⟩
  rw [eA,eB] at hs hA
  rw [eA] at l2 hu ⊢
  rw [eB] at l1 hat ⊢
  rw [hs]
  dsimp only at hat
  have hbd:∀ j,0≤(cpF ps fr up (A++B.take j)).n∧(cpF ps fr up (A++B.take j)).n≤1000∧(cpF ps fr up (A++B.take j)).acc.length≤1000000∧(cpF ps fr up (A++B.take j)).last≤k:=by
   intro j
   obtain ⟨b1,b2,b3,b4⟩:=cpF_b hp fr up k (by omega) (A++B.take j) ⟨0,-1,[]⟩ (fun p hp'=>hA p (by
    rcases List.mem_append.1 hp' with g | g
    ·exact List.mem_append_left _ g
    ·exact List.mem_append_right _ (List.mem_of_mem_take g))) (Int.le_refl _) (by dsimp only;omega)
   have hl:(A++B.take j).length≤12*k+12:=by simp;omega
   unfold cpF
   rw [b1]
   simp only [List.length_nil] at b4
   refine ⟨by dsimp only;omega,by dsimp only;omega,by omega,b3⟩
  have hstep:∀ j p,B[j]?=some p→cpF ps fr up (A++B.take (j+1))=cpS ps fr up (cpF ps fr up (A++B.take j)) p:=by
   intro j p e
   rw [List.take_add_one,e,←List.append_assoc]
   simp [cpF]
  refine ⟨rfl,?_⟩
  have key:awp Tryz.prog (.loop (.ghost (.keep [4,6,7,9,10,11,12,14,20,30,31,32]) (.seq (.reg [⟨some 33,.bin .lss (.v 32) (.v 31),none,[]⟩])
 (.ghost (.keep [4,6,7,9,10,11,12,14,20,30,31,32,33]) (.seq (.cond (.v 33)
 .skip
 (.exit 2))
 (.ghost (.keep [4,6,7,9,10,11,12,14,20,30,31,32]) xc17b))))))
   (fun e F'=>e=.exit 2∧∃ u',CpOk (cpF ps fr up (A++B)) u'∧F'=⟨cpV w pn cs ps [(12,.p (.int .i64 k)),(14,.p (.sl 2 ((splT t).map spRow)))] [(30,.p (.sl 6 (B.map dplRow))),(31,.p (.int .i64 B.length)),(32,.p (.int .i64 B.length)),(33,.p (.bool false))],cpM w pn ps fr up (cpF ps fr up (A++B)) u'⟩)
   ⟨cpV w pn cs ps [(12,.p (.int .i64 k)),(14,.p (.sl 2 ((splT t).map spRow)))] [(30,.p (.sl 6 (B.map dplRow))),(31,.p (.int .i64 B.length)),(32,.p (.int .i64 0))],cpM w pn ps fr up (cpF ps fr up A) u⟩:=by
   rw [awp_loop]
   refine loopE B.length (fun j u'=>⟨cpV w pn cs ps [(12,.p (.int .i64 k)),(14,.p (.sl 2 ((splT t).map spRow)))] [(30,.p (.sl 6 (B.map dplRow))),(31,.p (.int .i64 B.length)),(32,.p (.int .i64 j))],cpM w pn ps fr up (cpF ps fr up (A++B.take j)) u'⟩) (fun j u'=>CpOk (cpF ps fr up (A++B.take j)) u') u (fun j u' hj hu'=>?_) (by simpa using hu) (by cases u<;>simp [cpM])
   obtain ⟨b1,b2,b3,b4⟩:=hbd j
   by_cases h:j<B.length
   ·obtain ⟨p,ep⟩:∃ p,B[j]?=some p:=⟨_,List.getElem?_eq_getElem h⟩
    obtain ⟨g1,g2,g3⟩:=hat j p ep
    have hst:=hstep j p ep
    obtain ⟨Z,eZ⟩:∃ Z,cpF ps fr up (A++B.take j)=Z:=⟨_,rfl⟩
    rw [eZ] at b1 b2 b3 b4 hst hu' ⊢
    have hx:=@x17b (Rnd (fun F'=>j<B.length∧∃ a',CpOk (cpF ps fr up (A++B.take (j+1))) a'∧(Ghost.keep [4,6,7,9,10,11,12,14,20,30,31,32]).app F'=some ⟨cpV w pn cs ps [(12,.p (.int .i64 k)),(14,.p (.sl 2 ((splT t).map spRow)))] [(30,.p (.sl 6 (B.map dplRow))),(31,.p (.int .i64 B.length)),(32,.p (.int .i64 ((j+1:Nat):Int)))],cpM w pn ps fr up (cpF ps fr up (A++B.take (j+1))) a'⟩)
     (fun e F'=>e=.exit 2∧∃ u',CpOk (cpF ps fr up (A++B)) u'∧F'=⟨cpV w pn cs ps [(12,.p (.int .i64 k)),(14,.p (.sl 2 ((splT t).map spRow)))] [(30,.p (.sl 6 (B.map dplRow))),(31,.p (.int .i64 B.length)),(32,.p (.int .i64 B.length)),(33,.p (.bool false))],cpM w pn ps fr up (cpF ps fr up (A++B)) u'⟩))
     w pn cs ps hp fr up k hk2 t s ex B j p ep g1 j g2 g3 (by omega) Z u' hu' ⟨b1,b2⟩ b3 b4 (fun u2 F' h1 h2=>⟨h,u2,by rw [hst];exact h1,by rw [h2,hst];rfl⟩)
    cases u' with
    | none=>
     simp -dsimp [cpM,h,↓ awpC_of xc17b] at hx ⊢
     exact awpC_in hx
    | some c=>
     simp -dsimp [cpM,h,↓ awpC_of xc17b] at hx ⊢
     exact awpC_in hx
   ·have hjl:j=B.length:=by omega
    subst hjl
    rw [List.take_length] at hu' ⊢
    cases u' with
    | none=>
     simp -dsimp [cpM]
     exact ⟨none,hu',by simp [cpM]⟩
    | some c=>
     simp -dsimp [cpM]
     exact ⟨some c,hu',by simp [cpM]⟩
  have fin:∀ u',CpOk (cpF ps fr up (A++B)) u'→(⟨cpV w pn cs ps [(12,.p (.int .i64 k)),(14,.p (.sl 2 ((splT t).map spRow)))] [(30,.p (.sl 6 (B.map dplRow))),(31,.p (.int .i64 B.length)),(32,.p (.int .i64 B.length)),(33,.p (.bool false))],cpM w pn ps fr up (cpF ps fr up (A++B)) u'⟩:Fr).back [12,13,14,16,17,21,22,23,24,25,26,27,28,29,30,31,32,33,34,35,36,37,38,39,40,41,42,43,44,45,46,47,48,49,50,51,52,53,54,55,56,57,58,59,60,61,62,63,64,65,66,67,68,69,70,71]=⟨cpV w pn cs ps [] [],cpM w pn ps fr up (cpF ps fr up (A++B)) u'⟩:=by
   intro u' hu'
   cases u' with
   | none=>simp [cpM]
   | some c=>simp [cpM]
  cases u with
  | none=>
   simp -dsimp [cpM,hk2,ex,parRow] at key ⊢
   refine call_p q23 (by simp) (by simp) ?_
   simp -dsimp
   unfold loopL at key ⊢
   refine awp_mono (fun e F' h=>?_) key
   obtain ⟨rfl,u',h1,rfl⟩:=h
   exact ⟨hk2,u',h1,fin u' h1⟩
  | some c=>
   simp -dsimp [cpM,hk2,ex,parRow] at key ⊢
   refine call_p q23 (by simp) (by simp) ?_
   simp -dsimp
   unfold loopL at key ⊢
   refine awp_mono (fun e F' h=>?_) key
   obtain ⟨rfl,u',h1,rfl⟩:=h
   exact ⟨hk2,u',h1,fin u' h1⟩
 ·rintro F ⟨hk,u,hu,rfl⟩
  have hl:(parsR cs w ps).length=ps.length:=by simp [parsR]
  rw [hl] at hu ⊢
  have e:cpF ps fr up (allK cs w ps ps.length)=cpF ps fr up (docL cs w ps):=rfl
  rw [e] at hu ⊢
  cases u with
  | none=>
   obtain ⟨h1,h2⟩:=hu
   have q44:=w44a (9,0)
   simp -dsimp [cpM]
   refine call_m q44 (by simp) (by simp) (by simp) ?_
   simp -dsimp
   unfold copyN
   rw [h1]
   rfl
  | some c=>
   obtain ⟨h1,h2,h3⟩:=hu
   have hbd:=(cpF_b hp fr up 1000 (by omega) (docL cs w ps) ⟨0,-1,[]⟩ (fun p hp'=>by
    obtain ⟨i,hi,h2⟩:=List.mem_flatMap.1 hp'
    have hi:i<ps.length:=by simpa using hi
    have:p.1=i:=by
     unfold paraK at h2
     split at h2
     ·obtain ⟨y,_,rfl⟩:=List.mem_map.1 h2;rfl
     ·simp at h2
    omega) (Int.le_refl _) (by dsimp only;omega)).2.2.2
   have hal:=allK_len (cs:=cs) (w:=w) hp ps.length
   have hdl:(docL cs w ps).length≤12*ps.length:=hal
   have ec:cpF ps fr up (docL cs w ps)=(docL cs w ps).foldl (cpS ps fr up) ⟨0,-1,[]⟩:=rfl
   rw [←ec] at hbd
   simp only [List.length_nil] at hbd
   have q44:=w44b (9,0) (999990,c) (by simp) (cpF ps fr up (docL cs w ps)).acc h1 (by omega)
   simp -dsimp [cpM] at q44 ⊢
   refine call_m q44 (by simp) (by simp) (by simp) ?_
   simp -dsimp
   rfl
end
section
def leV (p q:PV):Prop:=∀ S y,PRel S p y→PRel S q y
def leL:List PV→List PV→Prop
 | [],[]=>True
 | a :: l,b :: m=>leV a b∧leL l m
 | _,_=>False
def leR:List (List PV)→List (List PV)→Prop
 | [],[]=>True
 | a :: l,b :: m=>leL a b∧leR l m
 | _,_=>False
theorem leV.refl (p:PV):leV p p:=fun _ _ h=>h
theorem leL.refl:∀ l:List PV,leL l l
 | []=>trivial
 | a :: l=>⟨leV.refl a,leL.refl l⟩
theorem leL.len:∀ {l m:List PV},leL l m→m.length=l.length
 | [],[],_=>rfl
 | a :: l,b :: m,h=>by simp [leL.len h.2]
 | [],b :: m,h=>h.elim
 | a :: l,[],h=>h.elim
theorem leR.len:∀ {l m:List (List PV)},leR l m→m.length=l.length
 | [],[],_=>rfl
 | a :: l,b :: m,h=>by simp [leR.len h.2]
 | [],b :: m,h=>h.elim
 | a :: l,[],h=>h.elim
theorem leL.get:∀ {l m:List PV},leL l m→∀ (j:Nat) (q:PV),m[j]?=some q→∃ p,l[j]?=some p∧leV p q
 | [],[],_,j,q,e=>by simp at e
 | a :: l,b :: m,h,0,q,e=>by simp at e;subst e;exact ⟨a,rfl,h.1⟩
 | a :: l,b :: m,h,j+1,q,e=>by simp at e;simpa using leL.get h.2 j q e
 | [],b :: m,h,_,_,_=>h.elim
 | a :: l,[],h,_,_,_=>h.elim
theorem leR.get:∀ {l m:List (List PV)},leR l m→∀ (j:Nat) (q:List PV),m[j]?=some q→∃ p,l[j]?=some p∧leL p q
 | [],[],_,j,q,e=>by simp at e
 | a :: l,b :: m,h,0,q,e=>by simp at e;subst e;exact ⟨a,rfl,h.1⟩
 | a :: l,b :: m,h,j+1,q,e=>by simp at e;simpa using leR.get h.2 j q e
 | [],b :: m,h,_,_,_=>h.elim
 | a :: l,[],h,_,_,_=>h.elim
theorem leV.nsl (n:Nat):leV .nsl (.sl n []):=fun S y h=>PRel.nsl_sl h n
theorem leV.sl {n:Nat} {l m:List (List PV)} (h:leR l m):leV (.sl n l) (.sl n m):=fun S y q=>by
 cases q with
 | sl _ _ a cap f h1 h2 h3 h4=>
  have hl:=h.len
  have:=PRel.sl (S:=S) n m a cap f (by omega)
   (fun i row e=>by obtain ⟨r,e1,e2⟩:=h.get i row e;rw [e2.len];exact h2 i r e1)
   (fun i row j p e e'=>by
    obtain ⟨r,e1,e2⟩:=h.get i row e
    obtain ⟨p',e3,_⟩:=e2.get j p e'
    exact h3 i r j p' e1 e3)
   (fun i row j p e e'=>by
    obtain ⟨r,e1,e2⟩:=h.get i row e
    obtain ⟨p',e3,e4⟩:=e2.get j p e'
    exact e4 S _ (h4 i r j p' e1 e3))
  rw [hl] at this
  exact this
theorem leV.agg {l m:List PV} (h:leL l m):leV (.agg l) (.agg m):=fun S y q=>by
 cases q with
 | agg _ vs hl hh=>
  exact .agg m vs (by rw [h.len];exact hl) fun j p v e e'=>by
   obtain ⟨p',e3,e4⟩:=h.get j p e
   exact e4 S _ (hh j p' v e3 e')
theorem Best.weak {P:Program} {f:FuncId} {ps:List PV} {v v':PV} (h:Best P f ps (.p v)) (hv:leV v v'):Best P f ps (.p v'):=
 ⟨h.1,fun S w xs hS hx=>(h.2 S w xs hS hx).mono fun e w' ⟨x,S',h1,h2,h3,h4,h5,h6⟩=>⟨x,S',h1,h2,h3,h4,h5,hv _ _ h6⟩⟩
theorem leV.tup {l m:List PV} (h:leL l m):leV (.tup l) (.tup m):=fun S y q=>by
 cases q with
 | tup _ vs hl hh=>
  exact .tup m vs (by rw [h.len];exact hl) fun j p v e e'=>by
   obtain ⟨p',e3,e4⟩:=h.get j p e
   exact e4 S _ (hh j p' v e3 e')
theorem Best.argw {P:Program} {f:FuncId} {ps qs:List PV} {r:Res} (h:Best P f ps r) (hl:leL qs ps):Best P f qs r:=
 ⟨h.1,fun S w xs hS hx=>h.2 S w xs hS ⟨by rw [hx.1,hl.len],fun j p v e1 e2=>by
  obtain ⟨q,e3,e4⟩:=hl.get j p e1
  exact e4 S v (hx.2 j q v e3 e2)⟩⟩
end
section
attribute [local simp ↓] oneD2 oneI oneC onePa onePi oneSp
theorem oneI3 (l:List (Int×Int×Int)):((l.map i3Row).all fun r=>r.all PV.one)=true:=by
 rw [List.all_eq_true];intro r hr;obtain ⟨u,_,rfl⟩:=List.mem_map.1 hr;rfl
theorem b16 (a:List Dpl) (hl:a.length≤1000000):Best Tryz.prog 16 [.sl 6 (a.map dplRow),.sl 6 (a.map dplRow)] (.p (.bool true)):=by
 refine best mixed fn16 ok16 (by simp) ?_
 simp -dsimp [ac16]
 refine loopC a.length (fun k=>⟨[(0,.p (.sl 6 (a.map dplRow))),(1,.p (.sl 6 (a.map dplRow))),(5,.p (.int .i64 k))],[]⟩) (fun _=>True) (fun k hk _=>?_) trivial (by simp)
 by_cases h:k<a.length
 ·have wk:R ((k:Int)+1):=⟨by omega,by omega⟩
  obtain ⟨⟨n,i,f,l,x,w⟩,e⟩:∃ p,a[k]=p:=⟨_,rfl⟩
  simp -dsimp [h,e,dplRow,wr wk]
 ·have:k=a.length:=by omega
  subst this
  simp -dsimp [h]
theorem b11 (a:List (Int×Int×Int)) (hl:a.length≤1000000):Best Tryz.prog 11 [.sl 3 (a.map i3Row),.sl 3 (a.map i3Row)] (.p (.bool true)):=by
 refine best mixed fn11 ok11 (by simp) ?_
 simp -dsimp [ac11]
 refine loopC a.length (fun k=>⟨[(0,.p (.sl 3 (a.map i3Row))),(1,.p (.sl 3 (a.map i3Row))),(5,.p (.int .i64 k))],[]⟩) (fun _=>True) (fun k hk _=>?_) trivial (by simp)
 by_cases h:k<a.length
 ·have wk:R ((k:Int)+1):=⟨by omega,by omega⟩
  obtain ⟨⟨x,y,z⟩,e⟩:∃ p,a[k]=p:=⟨_,rfl⟩
  simp -dsimp [h,e,i3Row,wr wk]
 ·have:k=a.length:=by omega
  subst this
  simp -dsimp [h]
def exA:Cor:=⟨⟨#[]⟩,0,[],[],0,[⟨32,0,16,[]⟩,⟨64,0,32,[]⟩,⟨65,0,40,[]⟩],[(64,65,-8)],[],⟨#[]⟩⟩
def exB:Cor:=⟨⟨#[]⟩,0,[],[],0,[⟨65,0,64,[]⟩,⟨104,0,64,[]⟩],[],[],⟨#[]⟩⟩
def exL:List Cor:=[exA,exB]
theorem ex_fine:∀ c∈exL,c.fine:=by
 intro c hc
 simp only [exL,List.mem_cons,List.not_mem_nil,or_false] at hc
 rcases hc with rfl | rfl
 ·exact ⟨by simp [exA],by simp [exA],by simp [exA],by simp [exA],by simp [exA,R],by simp [exA]⟩
 ·exact ⟨by simp [exB],by simp [exB],by simp [exB],by simp [exB],by simp [exB,R],by simp [exB]⟩
theorem ex_ok2:CorsOk2 exL:=⟨by simp [exL],ex_fine⟩
def exS:Stg:=⟨8,[],0⟩
def exT:List UInt8:=[64,65,32,104,65]
def exPs:List Par:=[⟨exT,exS⟩,⟨[65],exS⟩]
theorem ex_ps:ParsOk exPs:=⟨by simp [exPs],fun p hp=>by
 simp only [exPs,List.mem_cons,List.not_mem_nil,or_false] at hp
 rcases hp with rfl | rfl
 ·exact ⟨by simp [exT],by simp [fitN,exS,CL],by simp [exS]⟩
 ·exact ⟨by simp,by simp [fitN,exS,CL],by simp [exS]⟩⟩
instance:DecidableEq Plc:=fun a b=>decidable_of_iff (a.i=b.i∧a.f=b.f∧a.l=b.l∧a.x=b.x∧a.w=b.w) (by cases a;cases b;simp)
def exD:List Dpl:=[(0,⟨0,0,0,0,4⟩),(0,⟨1,0,0,4,4⟩),(0,⟨2,0,0,8,2⟩),(0,⟨3,1,1,0,8⟩),(0,⟨4,0,2,0,5⟩),(1,⟨0,0,3,0,5⟩)]
theorem ex_doc:docL exL 10 exPs=exD:=by decide +kernel
theorem ex_pcs:piecesN exL exT=[(0,3,0),(3,4,1),(4,5,0)]:=by decide +kernel
theorem ex_cp (fr up:Int):copyN exL 10 exPs fr up=(cpF exPs fr up exD).acc:=by unfold copyN;rw [ex_doc]
theorem ex_c1:copyN exL 10 exPs 0 6=[64,65,32,104,65,10,65]:=by rw [ex_cp];decide +kernel
theorem ex_c2:copyN exL 10 exPs 3 6=[104,65,10,65]:=by rw [ex_cp];decide +kernel
theorem ex_c3:copyN exL 10 exPs (-5) 2=[64,65]:=by rw [ex_cp];decide +kernel
theorem ex_c4:copyN exL 10 exPs 2 2=[]:=by rw [ex_cp];decide +kernel
theorem b28:Best Tryz.prog 28 [] (.p (.tup [.agg (docRow 10 [] exPs),.sl 9 (exL.map corRow)])):=by
 have h:Best Tryz.prog 28 [] (.p (.tup [.agg [.int .i64 10,.nsl,.sl 4 [[.str ⟨#[64,65,32,104,65]⟩,.int .i64 8,.nsl,.int .i64 0],[.str ⟨#[65]⟩,.int .i64 8,.nsl,.int .i64 0]]],
   .sl 9 [[.str ⟨#[]⟩,.int .i64 0,.nsl,.nsl,.int .i64 0,.sl 4 [[.int .i64 32,.int .i64 0,.int .i64 16,.nsl],[.int .i64 64,.int .i64 0,.int .i64 32,.nsl],[.int .i64 65,.int .i64 0,.int .i64 40,.nsl]],.sl 3 [[.int .i64 64,.int .i64 65,.int .i64 (-8)]],.nsl,.str ⟨#[]⟩],
   [.str ⟨#[]⟩,.int .i64 0,.nsl,.nsl,.int .i64 0,.sl 4 [[.int .i64 65,.int .i64 0,.int .i64 64,.nsl],[.int .i64 104,.int .i64 0,.int .i64 64,.nsl]],.nsl,.nsl,.str ⟨#[]⟩]]])):=by
  refine best mixed fn28 ok28 (by simp) ?_
  simp -dsimp [ac28,List.range,List.range.loop,resOf]
 refine Best.weak h (leV.tup ⟨leV.agg ⟨leV.refl _,leV.nsl _,leV.sl ⟨⟨leV.refl _,leV.refl _,leV.nsl _,leV.refl _,trivial⟩,⟨leV.refl _,leV.refl _,leV.nsl _,leV.refl _,trivial⟩,trivial⟩,trivial⟩,leV.sl ?_,trivial⟩)
 refine ⟨⟨leV.refl _,leV.refl _,leV.nsl _,leV.nsl _,leV.refl _,leV.sl ⟨⟨leV.refl _,leV.refl _,leV.refl _,leV.nsl _,trivial⟩,⟨leV.refl _,leV.refl _,leV.refl _,leV.nsl _,trivial⟩,⟨leV.refl _,leV.refl _,leV.refl _,leV.nsl _,trivial⟩,trivial⟩,leV.refl _,leV.nsl _,leV.refl _,trivial⟩,
  ⟨leV.refl _,leV.refl _,leV.nsl _,leV.nsl _,leV.refl _,leV.sl ⟨⟨leV.refl _,leV.refl _,leV.refl _,leV.nsl _,trivial⟩,⟨leV.refl _,leV.refl _,leV.refl _,leV.nsl _,trivial⟩,trivial⟩,leV.nsl _,leV.nsl _,leV.refl _,trivial⟩,trivial⟩
theorem b29 (line x want:Int) (found:Bool):Best Tryz.prog 29 [.int .i64 line,.int .i64 x,.int .i64 want,.bool found] (.p (.bool (decide (max (pickI line x exD) 0=want) && (decide (0≤pickI line x exD) == found)))):=by
 have q:=b18 exL ex_ok2 10 (by decide) [] exPs ex_ps line x
 rw [ex_doc] at q
 have q28:=b28
 simp only [docRow] at q q28
 refine best mixed fn29 ok29 (by simp) ?_
 simp -dsimp [ac29]
 refine call_p q28 (by simp) (by simp) ?_
 simp -dsimp
 refine call_p q (by simp) (by simp) ?_
 by_cases h:max (pickI line x exD) 0=want
 ·simp -dsimp [h]
 ·simp -dsimp [h]
end
section
attribute [local simp ↓] oneD2 oneI oneC onePa onePi oneSp oneI3
theorem b9:Best Tryz.prog 9 [] (.p (.bool true)):=by
 have q15:=b15 exL ex_ok2 10 (by decide) [] exPs ex_ps
 have q12:Best Tryz.prog 12 [.sl 9 (exL.map corRow),.str ⟨#[64,65,32,104,65]⟩] (.p (.sl 3 (([(0,3,0),(3,4,1),(4,5,0)]:List (Int×Int×Int)).map i3Row))):=by
  have:=b12 exL ex_ok2 exT (by decide);rw [ex_pcs] at this;exact this
 have q11:=b11 [(0,3,0),(3,4,1),(4,5,0)] (by decide)
 have p1:Best Tryz.prog 29 [.int .i64 0,.int .i64 4,.int .i64 1,.bool true] (.p (.bool true)):=b29 0 4 1 true
 have p2:Best Tryz.prog 29 [.int .i64 0,.int .i64 8,.int .i64 2,.bool true] (.p (.bool true)):=b29 0 8 2 true
 have p3:Best Tryz.prog 29 [.int .i64 1,.int .i64 7,.int .i64 3,.bool true] (.p (.bool true)):=b29 1 7 3 true
 have p4:Best Tryz.prog 29 [.int .i64 1,.int .i64 8,.int .i64 0,.bool false] (.p (.bool true)):=b29 1 8 0 false
 have p5:Best Tryz.prog 29 [.int .i64 3,.int .i64 (-1),.int .i64 0,.bool false] (.p (.bool true)):=b29 3 (-1) 0 false
 have c1:=b17 exL ex_ok2 10 (by decide) [] exPs ex_ps 0 6
 have c2:=b17 exL ex_ok2 10 (by decide) [] exPs ex_ps 3 6
 have c3:=b17 exL ex_ok2 10 (by decide) [] exPs ex_ps (-5) 2
 have c4:=b17 exL ex_ok2 10 (by decide) [] exPs ex_ps 2 2
 have q28:=b28
 rw [ex_c1] at c1
 rw [ex_c2] at c2
 rw [ex_c3] at c3
 rw [ex_c4] at c4
 rw [ex_doc] at q15
 simp only [docRow] at q15 c1 c2 c3 c4 q28
 refine best mixed fn9 ok9 (by simp) ?_
 simp -dsimp [ac9]
 refine call_p q28 (by simp) (by simp) ?_
 simp -dsimp
 refine call_p q15 (by simp) (by simp) ?_
 have hl:exD.length=6:=rfl
 simp -dsimp [hl]
 refine loopC 6 (fun k=>⟨[(1,.ptr (1,0) 3 0 0),(2,.p (.sl 9 (exL.map corRow))),(3,.p (.sl 6 (exD.map dplRow))),(4,.ptr (4,0) 18 0 0),(5,.p (.int .i64 k))],
  [((1,0),.box [.p (.int .i64 10),.p (.sl 3 []),.p (.sl 4 (exPs.map parRow))]),((4,0),.box [.p (.int .i64 0),.p (.int .i64 0),.p (.int .i64 0),.p (.int .i64 0),.p (.int .i64 1),.p (.int .i64 0),.p (.int .i64 0),.p (.int .i64 2),.p (.int .i64 0),.p (.int .i64 0),.p (.int .i64 3),.p (.int .i64 1),.p (.int .i64 0),.p (.int .i64 4),.p (.int .i64 2),.p (.int .i64 1),.p (.int .i64 0),.p (.int .i64 3)])]⟩) (fun _=>True) (fun k hk _=>?_) trivial (by simp)
 have hk':k=0∨k=1∨k=2∨k=3∨k=4∨k=5∨k=6:=by omega
 have w1:R 1:=⟨by decide,by decide⟩
 have w2:R 2:=⟨by decide,by decide⟩
 have w3:R 3:=⟨by decide,by decide⟩
 have w4:R 4:=⟨by decide,by decide⟩
 have w5:R 5:=⟨by decide,by decide⟩
 have w6:R 6:=⟨by decide,by decide⟩
 rcases hk' with rfl | rfl | rfl | rfl | rfl | rfl | rfl
 ·simp -dsimp [exD,dplRow,wr w1]
 ·simp -dsimp [exD,dplRow,wr w2]
 ·simp -dsimp [exD,dplRow,wr w3]
 ·simp -dsimp [exD,dplRow,wr w4]
 ·simp -dsimp [exD,dplRow,wr w5]
 ·simp -dsimp [exD,dplRow,wr w6]
 ·simp -dsimp
  refine call_p q12 (by simp) (by simp) ?_
  simp -dsimp [List.range,List.range.loop]
  refine call_f q11 (by simp [i3Row]) (by simp) (by simp) ?_
  simp -dsimp
  refine call_p p1 (by simp) (by simp) ?_
  simp -dsimp
  refine call_p p2 (by simp) (by simp) ?_
  simp -dsimp
  refine call_p p3 (by simp) (by simp) ?_
  simp -dsimp
  refine call_p p4 (by simp) (by simp) ?_
  simp -dsimp
  refine call_p p5 (by simp) (by simp) ?_
  simp -dsimp
  refine call_p c1 (by simp) (by simp) ?_
  simp -dsimp [ba]
  refine call_p c2 (by simp) (by simp) ?_
  simp -dsimp [ba]
  refine call_p c3 (by simp) (by simp) ?_
  simp -dsimp [ba]
  refine call_p c4 (by simp) (by simp) ?_
  simp -dsimp [ba]
end
section
theorem foldl_maxL (V:List Plc):∀ m:Int,m≤V.foldl (fun m p=>max m (p.l+1)) m∧∀ q∈V,q.l+1≤V.foldl (fun m p=>max m (p.l+1)) m:=by
 induction V with
 | nil=>intro m;simp
 | cons a V ih=>
  intro m
  obtain ⟨h1,h2⟩:=ih (max m (a.l+1))
  simp only [List.foldl_cons]
  refine ⟨by omega,fun q hq=>?_⟩
  rcases List.mem_cons.1 hq with rfl | hq
  ·omega
  ·exact h2 q hq
theorem maxL_ge (V:List Plc):1≤maxL V∧∀ q∈V,q.l+1≤maxL V:=foldl_maxL V 1
theorem lineK_le (cs:List Cor) (w:Int) (ps:List Par) (a d:Nat):lineK cs w ps a≤lineK cs w ps (a+d):=by
 induction d with
 | zero=>exact Int.le_refl _
 | succ d ih=>
  rw [show a+(d+1)=(a+d)+1 by omega,lineK]
  split
  ·rename_i p _
   have:=(maxL_ge (parV cs w p)).1
   omega
  ·omega
theorem paraK_mem {cs:List Cor} {w:Int} {ps:List Par} (hp:ParsOk ps) {k:Nat} {x:Dpl} (h:x∈paraK cs w ps k):x.1=k∧lineK cs w ps k≤x.2.l∧x.2.l<lineK cs w ps (k+1):=by
 unfold paraK at h
 split at h
 ·rename_i p hq
  obtain ⟨q,hq2,rfl⟩:=List.mem_map.1 h
  have h1:=(parV_b (cs:=cs) (w:=w) (hp.2 p (List.mem_of_getElem? hq))).2 q hq2
  have h2:=(maxL_ge (parV cs w p)).2 q hq2
  simp only [shiftP,lineK,hq]
  exact ⟨trivial,by omega,by omega⟩
 ·simp at h
theorem docL_pw {cs:List Cor} {w:Int} {ps:List Par} (hp:ParsOk ps):(docL cs w ps).Pairwise fun p q=>p.1≤q.1∧(p.1<q.1→p.2.l<q.2.l):=by
 unfold docL allK
 rw [List.pairwise_flatMap]
 refine ⟨fun a _=>?_,?_⟩
 ·refine List.pairwise_of_forall_mem_list fun x hx y hy=>?_
  have h1:=(paraK_mem hp hx).1
  have h2:=(paraK_mem hp hy).1
  exact ⟨by omega,fun h=>by omega⟩
 ·refine List.pairwise_lt_range.imp fun {a b} hab x hx y hy=>?_
  have h1:=paraK_mem hp hx
  have h2:=paraK_mem hp hy
  have h3:=lineK_le cs w ps (a+1) (b - (a+1))
  rw [show a+1+(b - (a+1))=b by omega] at h3
  exact ⟨by omega,fun _=>by omega⟩
theorem docL_dis {cs:List Cor} (hcs:CorsOk2 cs) {w:Int} (hw:0≤w∧w≤1000) {ps:List Par} (hp:ParsOk ps):(docL cs w ps).Pairwise fun p q=>p.2.l=q.2.l→p.2.x+p.2.w≤q.2.x∨q.2.x+q.2.w≤p.2.x:=by
 unfold docL allK
 rw [List.pairwise_flatMap]
 refine ⟨fun a ha=>?_,?_⟩
 ·have ha:a<ps.length:=by simpa using ha
  unfold paraK
  rw [List.getElem?_eq_getElem ha]
  dsimp only
  rw [List.pairwise_iff_getElem]
  intro i k hi hk hik e
  simp only [List.length_map] at hi hk
  simp only [List.getElem_map,shiftP] at e ⊢
  exact (parV_geo hcs hw (hp.2 ps[a] (by simp))).2 i k hi hk (by omega) (by omega)
 ·refine List.pairwise_lt_range.imp fun {a b} hab x hx y hy e=>?_
  have h1:=paraK_mem hp hx
  have h2:=paraK_mem hp hy
  have h3:=lineK_le cs w ps (a+1) (b - (a+1))
  rw [show a+1+(b - (a+1))=b by omega] at h3
  omega
theorem hit_one {cs:List Cor} (hcs:CorsOk2 cs) {w:Int} (hw:0≤w∧w≤1000) {ps:List Par} (hp:ParsOk ps) {line x:Int} {i k:Nat} (hi:i<(docL cs w ps).length) (hk:k<(docL cs w ps).length)
  (h1:hitB line x (docL cs w ps)[i]=true) (h2:hitB line x (docL cs w ps)[k]=true):i=k:=by
 have hd:=List.pairwise_iff_getElem.1 (docL_dis hcs hw hp)
 simp only [hitB,Bool.and_eq_true,decide_eq_true_eq] at h1 h2
 rcases Nat.lt_trichotomy i k with q | q | q
 ·have:=hd i k hi hk q (by omega);omega
 ·exact q
 ·have:=hd k i hk hi q (by omega);omega
theorem pickI_hit {cs:List Cor} (hcs:CorsOk2 cs) {w:Int} (hw:0≤w∧w≤1000) {ps:List Par} (hp:ParsOk ps) {line x:Int} {k:Nat} (hk:k<(docL cs w ps).length) (h:hitB line x (docL cs w ps)[k]=true):pickI line x (docL cs w ps)=k:=
 pickI_at hk h fun j q=>by
  cases e:hitB line x ((docL cs w ps)[j]'(by omega)) with
  | false=>rfl
  | true=>exact absurd (hit_one hcs hw hp (by omega) hk e h) (by omega)
structure CorEq (c d:Cor):Prop where
 ax:d.ax.length=c.ax.length
 rg:d.rg=c.rg
 ch:d.ch.map (fun x=>(x.code,x.width,x.wide))=c.ch.map (fun x=>(x.code,x.width,x.wide))
 pr:d.pr=c.pr
theorem CorEq.find {c d:Cor} (h:CorEq c d) (code:Int):(findN d code).map (fun x=>(x.code,x.width,x.wide))=(findN c code).map (fun x=>(x.code,x.width,x.wide)):=by
 have key:∀ l:List Ch,(l.find? fun x=>decide (x.code=code)).map (fun x=>(x.code,x.width,x.wide))=(l.map fun x=>(x.code,x.width,x.wide)).find? fun y=>decide (y.1=code):=fun l=>by
  rw [List.find?_map];rfl
 unfold findN
 rw [key,key,h.ch]
theorem CorEq.has {c d:Cor} (h:CorEq c d) (code:Int):hasN d code=hasN c code:=by
 have:=congrArg Option.isSome (h.find code)
 simpa [hasN] using this
theorem CorEq.all {c d:Cor} (h:CorEq c d) (codes:List Int):allN codes d=allN codes c:=by
 simp only [allN,h.has]
theorem CorEq.chW {c d:Cor} (h:CorEq c d) (x y:Ch) (hw:x.width=y.width) (hd:x.wide=y.wide) (s:Stg):chW d x s=chW c y s:=by
 simp only [Abs.A30.chW,h.rg,hw,hd]
theorem CorEq.cw {c d:Cor} (h:CorEq c d) (s:Stg) (code:Int):cwN d s code=cwN c s code:=by
 have hf:=h.find code
 unfold cwN widthN
 rw [h.ax]
 cases e1:findN c code with
 | none=>
  rw [e1] at hf
  cases e2:findN d code with
  | none=>rfl
  | some y=>rw [e2] at hf;simp at hf
 | some x=>
  rw [e1] at hf
  cases e2:findN d code with
  | none=>rw [e2] at hf;simp at hf
  | some y=>
   rw [e2] at hf
   simp only [Option.map_some,Option.some.injEq,Prod.mk.injEq] at hf
   dsimp only
   rw [h.chW y x hf.2.1 hf.2.2]
theorem CorEq.betw {c d:Cor} (h:CorEq c d) (l r n:Int):betwN d l r n=betwN c l r n:=by
 simp only [betwN,h.pr]
theorem CorEq.sum {c d:Cor} (h:CorEq c d) (s:Stg):∀ (l:List Int) (b:Int),sumW d s b l=sumW c s b l
 | [],_=>rfl
 | x :: l,b=>by rw [sumW,sumW,h.cw,h.betw,h.sum s l x]
inductive CorsEq:List Cor→List Cor→Prop
 | nil:CorsEq [] []
 | cons {c d:Cor} {l m:List Cor}:CorEq c d→CorsEq l m→CorsEq (c :: l) (d :: m)
theorem CorEq.refl (c:Cor):CorEq c c:=⟨rfl,rfl,rfl,rfl⟩
theorem CorsEq.get {l m:List Cor} (h:CorsEq l m):∀ i,CorEq (l.getD i cor0) (m.getD i cor0):=by
 induction h with
 | nil=>intro i;exact CorEq.refl _
 | cons h1 _ ih=>
  intro i
  cases i with
  | zero=>exact h1
  | succ i=>simpa using ih i
theorem CorsEq.idx {l m:List Cor} (h:CorsEq l m) (codes:List Int):m.findIdx? (allN codes)=l.findIdx? (allN codes):=by
 induction h with
 | nil=>rfl
 | cons h1 _ ih=>simp only [List.findIdx?_cons,h1.all,ih]
theorem CorsEq.font {l m:List Cor} (h:CorsEq l m) (t:List UInt8) (x:Nat×Nat):fontN m t x=fontN l t x:=by
 simp only [fontN,idxS,h.idx]
theorem CorsEq.widths {l m:List Cor} (h:CorsEq l m) (t:List UInt8) (s:Stg):widthsN m t s=widthsN l t s:=by
 have:wdN m t s=wdN l t s:=by
  funext i
  simp only [wdN,befN,h.font,(h.get _).sum]
 simp only [widthsN,this]
theorem CorsEq.places {l m:List Cor} (h:CorsEq l m) (t:List UInt8) (s:Stg) (w:Int):placesN m t s w=placesN l t s w:=by
 have:fontsN m t=fontsN l t:=by
  have e:fontN m t=fontN l t:=funext fun x=>h.font t x
  simp only [fontsN,e]
 simp only [placesN,linesN,this,h.widths]
theorem CorsEq.doc {l m:List Cor} (h:CorsEq l m) (w:Int) (ps:List Par):docL m w ps=docL l w ps:=by
 have e1:parV m w=parV l w:=funext fun p=>h.places p.t p.s w
 have e2:∀ k,lineK m w ps k=lineK l w ps k:=by
  intro k
  induction k with
  | zero=>rfl
  | succ k ih=>simp only [lineK,ih,e1]
 have e3:paraK m w ps=paraK l w ps:=funext fun k=>by simp only [paraK,e1,e2]
 simp only [docL,allK,e3]
end
end Go.Abs.A30
namespace Go.Abs
open Go
set_option linter.unusedSimpArgs false
set_option linter.unusedVariables false
def Rd {α:Type} (P:Program) (w:World) (t:TypeId) (f:α→List PV) (ok:α→Prop):Prop:=
 ∀ (H:Type) (en:TypeId×Value→H) (base:Nat) (sp:Nat→Bool) (hd:Bool) (fuel:Nat) (cs:List Value) (x:DataW H×List MemPlace),DataW.trod en P w base sp hd fuel t cs=some x→∃ a,ok a∧Ps (full w) (f a) cs
variable {P:Program} {w:World} {t:TypeId}
theorem Ps.one {S:Snap} {p:PV} {v:Value} (h:PRel S p v):Ps S [p] [v]:=by
 refine ⟨rfl,fun j q u e1 e2=>?_⟩
 match j with
 | 0=>simp at e1 e2;subst e1 e2;exact h
 | j+1=>simp at e1
theorem Ps.nil {S:Snap}:Ps S [] []:=⟨rfl,fun j q u e1 e2=>by simp at e1⟩
theorem Ps.append {S:Snap} {ps qs:List PV} {vs us:List Value} (h:Ps S ps vs) (k:Ps S qs us):Ps S (ps++qs) (vs++us):=by
 refine ⟨by simp [h.1,k.1],fun j q u e1 e2=>?_⟩
 by_cases hj:j<ps.length
 ·rw [List.getElem?_append_left hj] at e1
  rw [List.getElem?_append_left (by rw [h.1];exact hj)] at e2
  exact h.2 j q u e1 e2
 ·rw [List.getElem?_append_right (by omega)] at e1
  rw [List.getElem?_append_right (by rw [h.1];omega),h.1] at e2
  exact k.2 _ q u e1 e2
theorem Rd.int {k:IntKind} (ht:P.underlying t=some (.int k)):Rd P w t (fun n:Int=>[.int k n]) fun n=>(Lit.int k n).wf=true:=by
 intro H en base sp hd fuel cs x h
 cases fuel with
 | zero=>simp [DataW.trod] at h
 | succ m=>
  unfold DataW.trod at h
  rw [ht] at h
  split at h<;>simp_all
  obtain ⟨⟨rfl,hw⟩,_⟩:=h
  exact ⟨_,hw,Ps.one (.int _ _)⟩
theorem Rd.str (ht:P.underlying t=some .string):Rd P w t (fun s:ByteArray=>[.str s]) fun s=>s.size≤maxLen:=by
 intro H en base sp hd fuel cs x h
 cases fuel with
 | zero=>simp [DataW.trod] at h
 | succ m=>
  unfold DataW.trod at h
  rw [ht] at h
  split at h<;>simp_all
  exact ⟨_,h.1,Ps.one (.str _)⟩
theorem cells_get {base:Nat} {a:Addr} {n:Nat} {cs:List Value} (h:w.cells? base a n=some cs):cs.length=n∧∀ j v,cs[j]?=some v→w.cell? (a.add j)=some v:=by
 unfold World.cells? at h
 split at h
 ·obtain ⟨h1,h2⟩:=mapM_some h
  refine ⟨by simpa using h1,fun j v e=>?_⟩
  obtain ⟨i,e1,e2⟩:=h2 j v e
  have hj:j<n:=by have:=(List.getElem?_eq_some_iff.1 e).1;rw [h1] at this;simpa using this
  rw [List.getElem?_range hj] at e1
  simp at e1;subst e1;exact e2
 ·simp at h
theorem Rd.slice {α:Type} {e:TypeId} {sz:Nat} {f:α→List PV} {ok:α→Prop} (ht:P.underlying t=some (.slice e)) (hc:P.cellsOf e=sz) (hr:Rd P w e f ok) (hf:∀ a,(f a).length=sz) :
  Rd P w t (fun l:List α=>[.sl sz (l.map f)]) fun l=>(∀ a∈l,ok a)∧l.length≤maxLen:=by
 intro H en base sp hd fuel cs x h
 rcases Deep.open_slice ht h with ⟨rfl,_⟩ | ⟨a,len,cap,m,n,D,Pl,rfl,hb,hl,hm,hmm,_,hel⟩
 ·exact ⟨[],⟨by simp,by simp⟩,Ps.one (.sl sz [] none 0 (fun _ _=>undef) (Nat.le_refl _) (by simp) (by simp) (by simp))⟩
 ·have hlm:len≤m:=by rw [hmm];split<;>omega
  have key:∀ k,k≤len→∃ l:List α,l.length=k∧∀ i b,l[i]?=some b→ok b∧∃ cs',w.cells? base (a.add (i*sz)) sz=some cs'∧Ps (full w) (f b) cs':=by
   intro k
   induction k with
   | zero=>intro _;exact ⟨[],rfl,fun i b e=>by simp at e⟩
   | succ k ih=>
    intro hk
    obtain ⟨l,h1,h2⟩:=ih (by omega)
    obtain ⟨cs',g1,g2⟩:=hel k (by omega)
    obtain ⟨b,hb1,hb2⟩:=hr _ _ _ _ _ _ _ _ g2
    rw [hc] at g1
    refine ⟨l++[b],by simp [h1],fun i c e=>?_⟩
    by_cases hi:i<l.length
    ·rw [List.getElem?_append_left hi] at e;exact h2 i c e
    ·have:i=l.length:=by have:=(List.getElem?_eq_some_iff.1 e).1;simp at this;omega
     subst this
     simp at e;subst e
     rw [h1];exact ⟨hb1,cs',g1,hb2⟩
  obtain ⟨l,hl1,hl2⟩:=key len (Nat.le_refl _)
  refine ⟨l,⟨fun b hb=>?_,by omega⟩,Ps.one ?_⟩
  ·obtain ⟨i,hi⟩:=List.getElem?_of_mem hb;exact (hl2 i b hi).1
  ·have cell:∀ (i:Nat) (row:List PV) (j:Nat) (p:PV),(l.map f)[i]?=some row→row[j]?=some p→∃ v,w.cell? (a.add (i*sz+j))=some v∧PRel (full w) p v:=by
    intro i row j p e1 e2
    rw [List.getElem?_map,Option.map_eq_some_iff] at e1
    obtain ⟨b,e1,rfl⟩:=e1
    obtain ⟨_,cs',g1,g2⟩:=hl2 i b e1
    obtain ⟨k1,k2⟩:=cells_get g1
    have hj:j<cs'.length:=by rw [k1,←hf b];exact (List.getElem?_eq_some_iff.1 e2).1
    refine ⟨cs'[j],?_,g2.2 j p _ e2 (List.getElem?_eq_getElem hj)⟩
    rw [←Addr.add_add]
    exact k2 j _ (List.getElem?_eq_getElem hj)
   have hll:(l.map f).length=len:=by simp [hl1]
   have:=PRel.sl (S:=full w) sz (l.map f) (some a) cap (fun i j=>(w.cell? (a.add (i*sz+j))).getD undef) (by omega)
    (fun i row e1=>by
     rw [List.getElem?_map,Option.map_eq_some_iff] at e1
     obtain ⟨b,_,rfl⟩:=e1
     exact hf b)
    (fun i row j p e1 e2=>by
     obtain ⟨v,h1,_⟩:=cell i row j p e1 e2
     exact ⟨a,rfl,by simp [full,h1]⟩)
    (fun i row j p e1 e2=>by
     obtain ⟨v,h1,h2⟩:=cell i row j p e1 e2
     simp only [h1,Option.getD_some];exact h2)
   rwa [hll] at this
def RdF {α:Type} (P:Program) (w:World) (fs:List Field) (f:α→List PV) (ok:α→Prop):Prop:=
 ∀ (H:Type) (en:TypeId×Value→H) (base:Nat) (sp:Nat→Bool) (hd:Bool) (n:Nat) (cs:List Value),(∀ fd∈fs,∃ y,DataW.trod en P w base sp hd n fd.type ((cs.drop fd.offset).take (P.cellsOf fd.type))=some y)→∃ a,ok a∧Ps (full w) (f a) (fs.flatMap fun fd=>(cs.drop fd.offset).take (P.cellsOf fd.type))
theorem RdF.nil:RdF P w [] (fun _:Unit=>[]) fun _=>True:=fun _ _ _ _ _ _ _ _=>⟨(),trivial,Ps.nil⟩
theorem RdF.cons {α β:Type} {fd:Field} {fs:List Field} {f:α→List PV} {g:β→List PV} {ok:α→Prop} {ok':β→Prop} (h:Rd P w fd.type f ok) (k:RdF P w fs g ok'):RdF P w (fd :: fs) (fun x:α×β=>f x.1++g x.2) fun x=>ok x.1∧ok' x.2:=by
 intro H en base sp hd n cs hx
 obtain ⟨y,hy⟩:=hx fd (by simp)
 obtain ⟨a,ha,ha2⟩:=h _ _ _ _ _ _ _ _ hy
 obtain ⟨b,hb,hb2⟩:=k H en base sp hd n cs fun fd' hm=>hx fd' (by simp [hm])
 exact ⟨(a,b),⟨ha,hb⟩,by simpa using ha2.append hb2⟩
def laidOut (P:Program):List Field→Nat→Nat→Bool
 | [],o,n=>o == n
 | fd :: fs,o,n=>fd.offset == o && laidOut P fs (o+P.cellsOf fd.type) n
theorem laidOut_cells {cs:List Value}:∀ {fs:List Field} {o:Nat},laidOut P fs o cs.length=true→(fs.flatMap fun fd=>(cs.drop fd.offset).take (P.cellsOf fd.type))=cs.drop o
 | [],o,h=>by simp [laidOut] at h;subst h;simp
 | fd :: fs,o,h=>by
  simp only [laidOut,Bool.and_eq_true,beq_iff_eq] at h
  rw [List.flatMap_cons,laidOut_cells h.2,h.1,←List.drop_drop,List.take_append_drop]
theorem Rd.struct {α:Type} {fs:List Field} {f:α→List PV} {ok:α→Prop} (ht:P.underlying t=some (.struct fs.toArray)) (ho:laidOut P fs 0 (P.cellsOf t)=true) (hr:RdF P w fs f ok):Rd P w t f ok:=by
 intro H en base sp hd fuel cs x h
 obtain ⟨xs,n,_,rfl,hl,hlen,hfl⟩:=DataW.trod_struct ht h
 obtain ⟨a,ha,ha2⟩:=hr H en base sp hd n cs (fun fd hm=>by
  obtain ⟨i,hi⟩:=List.getElem?_of_mem hm
  have:=hfl i fd (by simpa using hi)
  have hlt:i<xs.length:=by rw [hlen];simpa using (List.getElem?_eq_some_iff.1 hi).1
  rw [this,List.getElem?_eq_getElem hlt]
  exact ⟨_,rfl⟩)
 rw [←hl] at ho
 rw [laidOut_cells ho,List.drop_zero] at ha2
 exact ⟨a,ha,ha2⟩
open Go.WideShapes in
theorem Rd.argS {α:Type} {e:TypeId} {f:α→PV} {ok:α→Prop} {H:Type} {en:TypeId×Value→H} {base b0:Nat} {sp:Nat→Bool} {hd:Bool} {r:Reach} {v:Value} {d:DataW H} {p:List MemPlace} (ht:P.underlying t=some (.slice e)) (h:Rd P w t (fun a=>[f a]) ok) (ho:Value.okWide P w r b0 t v) (hv:DataW.Trod en P w base sp hd t v d p):∃ a,ok a∧PRel (full w) (f a) v:=by
 obtain ⟨a,len,cap,rfl⟩:=okWide_slice ht ho
 obtain ⟨m,hm⟩:=hv
 obtain ⟨x,h1,h2⟩:=h _ _ _ _ _ _ _ _ hm
 exact ⟨x,h1,h2.2 0 _ _ rfl rfl⟩
open Go.WideShapes in
theorem Rd.argI {α:Type} {k:IntKind} {f:α→PV} {ok:α→Prop} {H:Type} {en:TypeId×Value→H} {base b0:Nat} {sp:Nat→Bool} {hd:Bool} {r:Reach} {v:Value} {d:DataW H} {p:List MemPlace} (ht:P.underlying t=some (.int k)) (h:Rd P w t (fun a=>[f a]) ok) (ho:Value.okWide P w r b0 t v) (hv:DataW.Trod en P w base sp hd t v d p):∃ a,ok a∧PRel (full w) (f a) v:=by
 obtain ⟨n,rfl⟩:=okWide_int ht ho
 obtain ⟨m,hm⟩:=hv
 obtain ⟨x,h1,h2⟩:=h _ _ _ _ _ _ _ _ hm
 exact ⟨x,h1,h2.2 0 _ _ rfl rfl⟩
theorem agg_of {S:Snap} {ps:List PV} {cs:Array Value} (h:Ps S ps cs.toList):PRel S (.agg ps) (.agg cs):=by
 have:=PRel.agg (S:=S) ps cs.toList h.1 h.2
 simpa using this
open Go.WideShapes in
theorem Rd.argT {α:Type} {fs:Array Field} {f:α→List PV} {ok:α→Prop} {H:Type} {en:TypeId×Value→H} {base b0:Nat} {sp:Nat→Bool} {hd:Bool} {r:Reach} {v:Value} {d:DataW H} {p:List MemPlace} (ht:P.underlying t=some (.struct fs)) (h:Rd P w t f ok) (ho:Value.okWide P w r b0 t v) (hv:DataW.Trod en P w base sp hd t v d p):∃ a,ok a∧PRel (full w) (.agg (f a)) v:=by
 obtain ⟨cs,rfl,_⟩:=okWide_struct ht ho
 obtain ⟨m,hm⟩:=hv
 obtain ⟨x,h1,h2⟩:=h _ _ _ _ _ _ _ _ hm
 exact ⟨x,h1,agg_of h2⟩
theorem Rd.argA {α:Type} {n:Nat} {e:TypeId} {f:α→List PV} {ok:α→Prop} {H:Type} {en:TypeId×Value→H} {base b0:Nat} {sp:Nat→Bool} {hd:Bool} {r:Reach} {v:Value} {d:DataW H} {p:List MemPlace} (ht:P.underlying t=some (.array n e)) (h:Rd P w t f ok) (ho:Value.okWide P w r b0 t v) (hv:DataW.Trod en P w base sp hd t v d p):∃ a,ok a∧PRel (full w) (.agg (f a)) v:=by
 unfold Value.okWide at ho
 rw [ht] at ho
 obtain ⟨cs,rfl,_⟩:=ho
 obtain ⟨m,hm⟩:=hv
 obtain ⟨x,h1,h2⟩:=h _ _ _ _ _ _ _ _ hm
 exact ⟨x,h1,agg_of h2⟩
theorem Ps.cons {S:Snap} {p:PV} {v:Value} {ps:List PV} {vs:List Value} (h:PRel S p v) (k:Ps S ps vs):Ps S (p :: ps) (v :: vs):=(Ps.one h).append k
theorem Rd.arr2 {α:Type} {e:TypeId} {sz:Nat} {f:α→List PV} {ok:α→Prop} (ht:P.underlying t=some (.array 2 e)) (hc:P.cellsOf e=sz) (hs:P.cellsOf t=2*sz) (hr:Rd P w e f ok):Rd P w t (fun x:α×α=>f x.1++f x.2) fun x=>ok x.1∧ok x.2:=by
 intro H en base sp hd fuel cs x h
 obtain ⟨xs,m,_,rfl,hl,hlen,hfl⟩:=DataW.trod_array ht h
 have get:∀ i,i<2→∃ a,ok a∧Ps (full w) (f a) ((cs.drop (i*sz)).take sz):=fun i hi=>by
  have h0:=hfl i hi
  rw [hc,List.getElem?_eq_getElem (by omega)] at h0
  exact hr _ _ _ _ _ _ _ _ h0
 obtain ⟨a,ha,ha2⟩:=get 0 (by omega)
 obtain ⟨b,hb,hb2⟩:=get 1 (by omega)
 refine ⟨(a,b),⟨ha,hb⟩,?_⟩
 have:=ha2.append hb2
 have e:(cs.drop (0*sz)).take sz++(cs.drop (1*sz)).take sz=cs:=by
  apply List.ext_getElem?
  intro i
  simp only [Nat.zero_mul,List.drop_zero,Nat.one_mul]
  have l0:(cs.take sz).length=sz:=by simp;omega
  by_cases h1:i<sz
  ·rw [List.getElem?_append_left (by omega),List.getElem?_take,if_pos h1]
  ·rw [List.getElem?_append_right (by omega),l0]
   by_cases h2:i - sz<sz
   ·rw [List.getElem?_take,if_pos h2,List.getElem?_drop];congr 1;omega
   ·rw [List.getElem?_take,if_neg h2,List.getElem?_eq_none (by omega)]
 rwa [e] at this
end Go.Abs
namespace Go.Proofs.YtlkbeomimbohlaaGreat
open Go Go.Abs Go.ChangeShapes Go.WideShapes Go.RowKit Go.Proofs
set_option maxRecDepth 100000
set_option linter.unusedVariables false
theorem own:ownKnob Tryz.prog.godebug=none:=by kernel_rfl
theorem outB:laidOutB Tryz.prog=true:=by kernel_rfl
noncomputable def restWorld (os:Os):World:=World.holding Tryz.prog os ⟨#[],#[],[]⟩
theorem args_stay {H:Type} {enc:TypeId×Value→H} {W W':World} (hb:Below W.heap.size W W'):∀ {ts:List TypeId} {vs:List Value} {ds:List (DataW H)} {ps:List MemPlace},
  (∀ t∈ts,Tryz.prog.readableRec t=true∧t<Tryz.prog.types.size)→DataW.TrodAll enc Tryz.prog W 0 (fun _=>true) true ts vs ds ps→(∀ x∈ps,x.block<W.heap.size)→DataW.TrodAll enc Tryz.prog W' 0 (fun b=>decide (b<W.heap.size)) true ts vs ds ps
 | [],vs,ds,ps,_,h,_=>by
  obtain ⟨rfl,rfl,rfl⟩:=trodAll_nil h
  exact trodAll_mk0
 | t :: ts,vs,ds,ps,ht,h,hlt=>by
  obtain ⟨v,vs',d,ds',p,q,rfl,rfl,rfl,h1,h2⟩:=trodAll_cons h
  refine trodAll_cons_mk ?_ ?_
  ·exact Below.trod outB (ht t (by simp)).1 (ht t (by simp)).2 h1 hb fun x hx=>hlt x (by simp [hx])
  ·exact args_stay hb (fun t' h'=>ht t' (by simp [h'])) h2 fun x hx=>hlt x (by simp [hx])
theorem keep_below {W W':World} (h:Keep W W'):Below W.heap.size W W':=⟨h.os,h.tape,h.output,h.size,h.heap⟩
theorem law_step {H:Type} {enc:TypeId×Value→H} {fn:Func} {spec:ChangeSpec} {W:World} {args:Array Value} {ds gs:List (DataW H)} {before:List MemPlace} {f:FuncId} {ps:List PV}
  (hvars:spec.vars=[]) (hfn:fn.resultTypes=#[4]) (hW:DataW.Whole enc Tryz.prog fn.params.toList spec.vars false W args.toList ds gs before)
  (hspec:spec.fn H (ds++[])={ results:=[.lit (.bool true)],args:=ds })
  (hread:∀ t∈fn.params.toList,Tryz.prog.readableRec t=true∧t<Tryz.prog.types.size)
  (hb:Best Tryz.prog f ps (.p (.bool true))) (hps:Ps (full W) ps args.toList) :
  Calls Tryz.prog f args W fun e W'=>∃ v,e=.returned v∧spec.post enc Tryz.prog fn false true false false W args v W':=by
 have hc:=hb.2 (full W) W args.toList (fun a v h=>h) hps
 rw [Array.toArray_toList] at hc
 refine hc.mono ?_
 rintro e W' ⟨x,S',rfl,hk,_,_,_,hres⟩
 have hx:x=.bool true:=by
  cases hres;rfl
 subst hx
 have hW':=hW
 obtain ⟨p,q,hA,hV,rfl,_,_⟩:=hW
 rw [hvars] at hV
 obtain ⟨rfl,rfl⟩:=trodVars_none hV
 have hbel:=keep_below hk
 refine ⟨_,rfl,ds,[],_,[],p,[],hW',?_,?_,?_,hbel.frame _,fun h=>by cases h⟩
 ·rw [hspec,hfn]
  exact trodAll_mk1 (shut_bool Tryz.underlying4 true)
 ·rw [hspec]
  exact args_stay hbel hread hA fun y hy=>hW'.lt y (by simp [hy])
 ·rw [hspec,hvars];rfl
end Go.Proofs.YtlkbeomimbohlaaGreat
namespace Go.Proofs.YtlkbeomimbohlaaGreat
open Go Go.Abs Go.ChangeShapes Go.WideShapes Go.RowKit Go.Proofs Go.Abs.A30
set_option maxRecDepth 100000
set_option linter.unusedVariables false
theorem Rd.to {P:Program} {w:World} {t:TypeId} {α β:Type} {f:α→List PV} {g:β→List PV} {ok:α→Prop} {ok':β→Prop} (h:α→β) (hf:∀ a,ok a→f a=g (h a)) (hk:∀ a,ok a→ok' (h a)) (r:Rd P w t f ok):Rd P w t g ok':=by
 intro H en base sp hd fuel cs x hx
 obtain ⟨a,ha,h2⟩:=r H en base sp hd fuel cs x hx
 exact ⟨h a,hk a ha,by rw [←hf a ha];exact h2⟩
theorem wfR {n:Int} (h:(Lit.int .i64 n).wf=true):R n:=by
 simp [Lit.wf,IntKind.min,IntKind.max,IntKind.bits,IntKind.signed] at h
 exact ⟨by omega,by omega⟩
theorem wf8N {n:Int} (h:(Lit.int .u8 n).wf=true):0≤n∧n<256:=by
 simp [Lit.wf,IntKind.min,IntKind.max,IntKind.bits,IntKind.signed] at h
 omega
theorem wf8S {n:Int} (h:(Lit.int .i8 n).wf=true):-128≤n∧n<128:=by
 simp [Lit.wf,IntKind.min,IntKind.max,IntKind.bits,IntKind.signed] at h
 omega
variable {w:World}
theorem rd_int:Rd Tryz.prog w 3 (fun n:Int=>[.int .i64 n]) fun n=>R n:=Rd.to id (fun _ _=>rfl) (fun _ h=>wfR h) (Rd.int Tryz.underlying3)
theorem rd_u8:Rd Tryz.prog w 5 (fun n:Nat=>[.int .u8 n]) fun n=>n<256:=
 Rd.to Int.toNat (fun n h=>by have:=wf8N h;rw [Int.toNat_of_nonneg this.1]) (fun n h=>by have:=wf8N h;omega) (Rd.int Tryz.underlying5)
theorem rd_i8:Rd Tryz.prog w 27 (fun n:Int=>[.int .i8 n]) fun n=>-128≤n∧n<128:=Rd.to id (fun _ _=>rfl) (fun _ h=>wf8S h) (Rd.int Tryz.underlying27)
theorem rd_ints:Rd Tryz.prog w 37 (fun l:List Int=>[.sl 1 (l.map intRow)]) fun l=>(∀ a∈l,R a)∧l.length≤maxLen:=
 Rd.slice Tryz.underlying37 (by kernel_rfl) rd_int fun _=>rfl
theorem rd_ll:Rd Tryz.prog w 23 (fun l:List (List Int)=>[.sl 1 (l.map llRow)]) fun l=>(∀ x∈l,(∀ a∈x,R a)∧x.length≤maxLen)∧l.length≤maxLen:=
 Rd.slice Tryz.underlying23 (by kernel_rfl) rd_ints fun _=>rfl
theorem rd_lll:Rd Tryz.prog w 22 (fun l:List (List (List Int))=>[.sl 1 (l.map lllRow)]) fun l=>(∀ y∈l,(∀ x∈y,(∀ a∈x,R a)∧x.length≤maxLen)∧y.length≤maxLen)∧l.length≤maxLen:=
 Rd.slice Tryz.underlying22 (by kernel_rfl) rd_ll fun _=>rfl
abbrev CaseA:=List (List (List Int))×List (List Int)
def caseRow (x:CaseA):List PV:=[.sl 1 (x.1.map lllRow),.sl 1 (x.2.map llRow)]
def CaseOk (x:CaseA):Prop:=(∀ y∈x.1,y.length≤9223372036854775807∧∀ z∈y,∀ n∈z,R n)∧(∀ y∈x.2,y.length≤9223372036854775807∧∀ n∈y,R n)
theorem rd_case:Rd Tryz.prog w 25 caseRow CaseOk:=by
 have h:RdF Tryz.prog w [{ name:= "Fonts",type:=22,offset:=0,embedded:=false,tag:= "",pkgPath:= "",byteOffset:=0 },{ name:= "Doc",type:=23,offset:=1,embedded:=false,tag:= "",pkgPath:= "",byteOffset:=24 }] _ _:=RdF.cons rd_lll (RdF.cons rd_ll RdF.nil)
 refine Rd.to (fun (x:List (List (List Int))×List (List Int)×Unit)=>(x.1,x.2.1)) (fun x hx=>rfl) (fun x hx=>?_) (Rd.struct (t:=25) Tryz.underlying25 (by kernel_rfl) h)
 obtain ⟨h1,h2,_⟩:=hx
 exact ⟨fun y hy=>⟨(h1.1 y hy).2,fun z hz=>((h1.1 y hy).1 z hz).1⟩,fun y hy=>⟨(h2.1 y hy).2,(h2.1 y hy).1⟩⟩
theorem rd_b2:Rd Tryz.prog w 28 (fun x:Int×Int=>[.int .i8 x.1,.int .i8 x.2]) fun x=>(-128≤x.1∧x.1<128)∧(-128≤x.2∧x.2<128):=
 Rd.arr2 Tryz.underlying28 (sz:=1) (by kernel_rfl) (by kernel_rfl) rd_i8
theorem rd_head:Rd Tryz.prog w 187 hdRow fun x=>R x.1∧(∀ a∈x.2,R a)∧x.2.length≤maxLen:=by
 have h:RdF Tryz.prog w [{ name:= "Feature",type:=3,offset:=0,embedded:=false,tag:= "",pkgPath:= "",byteOffset:=0 },{ name:= "First",type:=37,offset:=1,embedded:=false,tag:= "",pkgPath:= "",byteOffset:=8 }] _ _:=RdF.cons rd_int (RdF.cons rd_ints RdF.nil)
 exact Rd.to (fun (x:Int×List Int×Unit)=>(x.1,x.2.1)) (fun x hx=>rfl) (fun x hx=>⟨hx.1,hx.2.1⟩) (Rd.struct (t:=187) Tryz.underlying187 (by kernel_rfl) h)
theorem rd_heads:Rd Tryz.prog w 47 (fun l:List (Int×List Int)=>[.sl 2 (l.map hdRow)]) fun l=>(∀ x∈l,R x.1∧(∀ a∈x.2,R a)∧x.2.length≤maxLen)∧l.length≤maxLen:=
 Rd.slice Tryz.underlying47 (by kernel_rfl) rd_head fun _=>rfl
end Go.Proofs.YtlkbeomimbohlaaGreat
