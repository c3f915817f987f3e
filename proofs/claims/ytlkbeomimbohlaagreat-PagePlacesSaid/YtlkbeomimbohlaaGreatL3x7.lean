/- A part of the proof: an abstract reading of the model, contracts of functions. -/
import Derived.Test.YtlkbeomimbohlaaGreatL3x6
set_option linter.unusedVariables false
set_option linter.unusedSimpArgs false
namespace Go.Abs.A30
open Go Go.Abs Go.Proofs
set_option maxRecDepth 100000
set_option linter.unusedVariables false
set_option linter.unusedSimpArgs false
def byR (b:UInt8):List PV:=[.int .u8 b.toNat]
theorem inv_ptr {ι:Inj} {S:Snap} {s:Slot} {size row off:Nat} {x:Value} (h:AVRel ι S (.ptr s size row off) x):∃ b t,ι s=some (b,t)∧x=.pointer (some ⟨b,row*size+off,none⟩):=by
 cases h with
 | ptr _ _ _ _ b t hi=>exact ⟨b,t,hi,rfl⟩
theorem inv_ref {ι:Inj} {S:Snap} {s:Slot} {size off len:Nat} {x:Value} (h:AVRel ι S (.ref s size off len) x):(∃ b total cap a,x=.slice (some a) len cap∧ι s=some (b,total)∧off+cap≤total∧len≤cap∧(cap=0∨a=⟨b,off*size,none⟩))∨len=0:=by
 cases h with
 | ref _ _ _ _ b total cap a hi hc hl ha=>exact .inl ⟨b,total,cap,a,rfl,hi,hc,hl,ha⟩
 | refnil=>exact .inr rfl
theorem cell_blk {w w':World} {a:Addr} (h:w'.heap[a.block]?=w.heap[a.block]?):w'.cell? a=w.cell? a:=by unfold World.cell?;rw [h]
theorem kx_keep {b:Nat} {r:Option Nat} {w w':World} {M:Nat→Prop} (h:Kx b r w w') (hb:M b) (hr:∀ g,r=some g→M g):KeepX M w w':=
 ⟨h.os,h.tape,h.output,h.size,fun k hk hm=>h.block k hk (fun e=>hm (e ▸ hb)) (fun e=>hm (hr k e))⟩
theorem kx_snap {b:Nat} {r:Option Nat} {w w':World} {S:Snap} (h:Kx b r w w') (hS:S.holds w) (hb:∀ x:Addr,x.block=b→S x=none) (hr:∀ g,r=some g→∀ x:Addr,x.block=g→S x=none):S.holds w':=by
 intro a v q;have hlt:=World.block_lt_of_cell? w a (hS a v q);rw [cell_blk (h.block a.block hlt (fun e=>by rw [hb a e] at q;simp at q) (fun e=>by rw [hr _ e a rfl] at q;simp at q))];exact hS a v q
theorem strCells_ba (s:List UInt8):Lib.strCells ⟨s.toArray⟩=s.map fun b=>Value.int .u8 b.toNat:=by simp [Lib.strCells]
theorem row_brel {ι:Inj} {S:Snap} {w:World} {sg:Slot} {v:Value} {l:List UInt8} (hl:l≠[]) (h:OwnR w 5 v l.length (l.map fun b=>Value.int .u8 b.toNat)) :
  ∃ g cap cur,v=.slice (some ⟨g,0,none⟩) l.length cap∧w.heap[g]?=some (.cells cur 5 (0,0))∧∀ ι:Inj,ι sg=some (g,cur.size)→AVRel ι S (.ref sg 1 0 l.length) v∧BRel ι S w sg (.sl 5 1 (l.map byR)):=by
 obtain ⟨h1,h2⟩:=h;rcases h2 with ⟨_,h3⟩ | ⟨g,cap,cur,rfl,hg,hn,hc,hm,ht⟩
 ·exact absurd (List.length_eq_zero_iff.1 h3) hl
 ·refine ⟨g,cap,cur,rfl,hg,fun ι hi=>⟨.ref sg 1 0 l.length g cur.size cap _ hi (by omega) hn (.inr rfl),?_,.inr ⟨g,cur.size,5,cur,hi,hg,rfl,by simp [Blk.size],by simp [Blk.nrows];omega,hm,fun i j av q=>?_⟩⟩⟩
  ·intro i row q;obtain ⟨b,_,rfl⟩:=List.mem_map.1 (List.mem_of_getElem? q);rfl
  ·obtain ⟨p,q1,rfl⟩:=Option.map_eq_some_iff.1 q;obtain ⟨row,q2,q3⟩:=Option.bind_eq_some_iff.1 q1;rw [List.getElem?_map] at q2;obtain ⟨b,q4,rfl⟩:=Option.map_eq_some_iff.1 q2
   cases j with
   | succ j=>simp [byR] at q3
   | zero=>
    simp [byR] at q3;subst q3;refine ⟨.int .u8 b.toNat,?_,.p _ _ (.int _ _)⟩;have e:(l.map fun b=>Value.int .u8 b.toNat)[i]?=some (.int .u8 b.toNat):=by rw [List.getElem?_map,q4];rfl
    rw [←ht,List.getElem?_take] at e;split at e
    ·simpa [Blk.size] using e
    ·simp at e
theorem fn42x:∃ fn,Tryz.prog.funcs[42]?=some fn∧fn.body.isSome=true∧(fn.name == "runtime.NumGoroutine")=false:=⟨_,Tryz.func42,by kernel_rfl,by kernel_rfl⟩
theorem fn44x:∃ fn,Tryz.prog.funcs[44]?=some fn∧fn.body.isSome=true∧(fn.name == "runtime.NumGoroutine")=false:=⟨_,Tryz.func44,by kernel_rfl,by kernel_rfl⟩
theorem inv_nptr {ι:Inj} {S:Snap} {x:Value} (h:AVRel ι S (.p .nptr) x):x=.pointer none:=by cases h.inv_p;rfl
theorem inv_nsl {ι:Inj} {S:Snap} {x:Value} (h:AVRel ι S (.p .nsl) x):x=.slice none 0 0:=by cases h.inv_p;rfl
def bldB (sb sg:Slot) (n:Nat):Blk:=.box [.ptr sb 2 0 0,.ref sg 1 0 n]
theorem bld_pl {ι:Inj} {S:Snap} {w':World} {sb sg':Slot} (hne:sg'≠sb) {b t:Nat} (hi:ι sb=some (b,t)) {T:TypeId} {c':Array Value} (hb':w'.heap[b]?=some (.cells c' T (0,0))) (hcs:c'.size=t*2) (ht:1≤t) (htm:t≤maxLen)
  {v':Value} (h0:c'[0]?=some (.pointer (some ⟨b,0,none⟩))) (h1:c'[1]?=some v') {l:List UInt8} (hl:l≠[]) (hown:OwnR w' 5 v' l.length (l.map fun b=>Value.int .u8 b.toNat)) (hnb:v'.ownBlock≠some b) (hSb:∀ x:Addr,x.block=b→S x=none) (hSg:∀ g,v'.ownBlock=some g→∀ x:Addr,x.block=g→S x=none) :
  ∃ ι':Inj,(∀ s,s≠sg'→ι' s=ι s)∧(∃ g m,v'.ownBlock=some g∧ι' sg'=some (g,m))∧Pl ι' S w' [(sb,bldB sb sg' l.length),(sg',.sl 5 1 (l.map byR))]:=by
 obtain ⟨g,cap,cur,rfl,hg,hrel⟩:=row_brel (ι:=ι) (S:=S) (sg:=sg') hl hown;have hgb:g≠b:=fun e=>hnb (by rw [←e];rfl)
 refine ⟨setι ι sg' (some (g,cur.size)),fun s hs=>setι_ne hs,⟨g,cur.size,rfl,setι_eq⟩,?_⟩;obtain ⟨r1,r2⟩:=hrel (setι ι sg' (some (g,cur.size))) setι_eq;have hi':setι ι sg' (some (g,cur.size)) sb=some (b,t):=by rw [setι_ne (fun e=>hne e.symm),hi]
 have two:∀ s k,look s [(sb,bldB sb sg' l.length),(sg',Blk.sl 5 1 (l.map byR))]=some k→(s=sb∧k=bldB sb sg' l.length)∨(s=sg'∧k=.sl 5 1 (l.map byR)):=by
  intro s k q;simp only [look] at q
  by_cases e:s=sb
  ·rw [if_pos e] at q;simp at q;exact .inl ⟨e,q.symm⟩
  ·rw [if_neg e] at q
   by_cases e2:s=sg'
   ·rw [if_pos e2] at q;simp at q;exact .inr ⟨e2,q.symm⟩
   ·rw [if_neg e2] at q;simp at q
 refine ⟨fun s k q=>?_,fun s k q b' t' q2 x hx=>?_,fun s s' k k' q q' hss b1 t1 b2 t2 e1 e2=>?_⟩
 ·rcases two s k q with ⟨rfl,rfl⟩ | ⟨rfl,rfl⟩
  ·refine ⟨trivial,.inr ⟨b,t,T,c',hi',hb',trivial,by simp [bldB,Blk.size,hcs],by simpa [bldB,Blk.nrows] using ht,htm,fun i j av q=>?_⟩⟩;simp only [bldB,Blk.cell] at q;split at q
   ·subst_vars
    match j,q with
    | 0,q=>simp at q;subst q;exact ⟨_,by simpa using h0,by have:=AVRel.ptr (S:=S) s 2 0 0 b t hi';simpa using this⟩
    | 1,q=>simp at q;subst q;exact ⟨_,by simpa using h1,r1⟩
    | j+2,q=>simp at q
   ·simp at q
  ·exact r2
 ·rcases two s k q with ⟨rfl,rfl⟩ | ⟨rfl,rfl⟩
  ·rw [hi'] at q2;simp at q2;exact hSb x (by rw [hx];exact q2.1.symm)
  ·rw [setι_eq] at q2;simp at q2;exact hSg g rfl x (by rw [hx];exact q2.1.symm)
 ·rcases two s k q with ⟨rfl,rfl⟩ | ⟨rfl,rfl⟩<;>rcases two s' k' q' with ⟨rfl,rfl⟩ | ⟨rfl,rfl⟩
  ·exact absurd rfl hss
  ·rw [hi'] at e1;rw [setι_eq] at e2;simp at e1 e2;omega
  ·rw [hi'] at e2;rw [setι_eq] at e1;simp at e1 e2;omega
  ·exact absurd rfl hss
theorem tup_rel (S:Snap) (n:Int):PRel S (.tup [.int .i64 n,.nif]) (.tuple #[.int .i64 n,.nilIface]):=
 PRel.tup [.int .i64 n,.nif] [.int .i64 n,.nilIface] rfl (fun j p v h1 h2=>by
  match j,h1,h2 with
  | 0,h1,h2=>simp at h1 h2;subst h1 h2;exact .int _ _
  | 1,h1,h2=>simp at h1 h2;subst h1 h2;exact .nif
  | j+2,h1,h2=>simp at h1)
theorem w42a (sb sg:Slot) (hne:sg≠sb) (s:List UInt8) (hs:s≠[]) (hl:s.length≤140737488355328) :
  BestF Tryz.prog 42 [(sb,.sl 98 2 [[.nptr,.nsl]])] [.ptr sb 2 0 0,.p (.str ⟨s.toArray⟩)] [sb] (.p (.tup [.int .i64 s.length,.nif])) [(sb,bldB sb sg s.length),(sg,.sl 5 1 (s.map byR))]:=by
 refine ⟨fn42x,fun ι S w xs hS hP hx=>?_⟩;obtain ⟨x0,xs1,rfl,hx0,hxs⟩:=hx.uncons;obtain ⟨x1,xs2,rfl,hx1,hx2⟩:=hxs.uncons;have hnil:xs2=[]:=List.length_eq_zero_iff.1 hx2.1;subst hnil;obtain ⟨b,t,hi,rfl⟩:=inv_ptr hx0;have e1:=inv_str hx1;subst e1;have hlk:look sb [(sb,Blk.sl 98 2 [[PV.nptr,PV.nsl]])]=some (.sl 98 2 [[.nptr,.nsl]]):=by simp [look]
 obtain ⟨_,hm⟩:=hP.mem sb _ hlk;have hSb:∀ x:Addr,x.block=b→S x=none:=hP.own sb _ hlk b t hi;rcases hm with ⟨q,_⟩ | ⟨b2,t2,e,c,hi2,hlies,he,hcs,hnr,htm,hcell⟩
 ·rw [hi] at q;simp at q
 rw [hi] at hi2;simp only [Option.some.injEq,Prod.mk.injEq] at hi2;obtain ⟨rfl,rfl⟩:=hi2
 have he':(98:TypeId)=e:=he;subst he';obtain ⟨u0,g0,r0⟩:=hcell 0 0 (.p .nptr) rfl;obtain ⟨u1,g1,r1⟩:=hcell 0 1 (.p .nsl) rfl;have f0:=inv_nptr r0;have f1:=inv_nsl r1;subst f0 f1;have ht1:1≤t:=hnr;refine (Tryz.writeString b (.pointer none) (.slice none 0 0) 98 c [] ⟨s.toArray⟩ w hlies (by simpa using g0) (by simpa [Blk.size] using g1) (.inl ⟨rfl,rfl⟩) ⟨rfl,.inl ⟨rfl,rfl⟩⟩ (by simp [Value.ownBlock]) (by simpa [ByteArray.size] using hl)).mono ?_
 rintro e w' ⟨rfl,v',c',hb',hcs',h0',h1',hown',hnb,hfr,hkx⟩
 have hown2:OwnR w' 5 v' s.length (s.map fun b=>Value.int .u8 b.toNat):=by
  have:=hown';rw [strCells_ba] at this;simpa [ByteArray.size] using this
 have hSg:∀ g,v'.ownBlock=some g→∀ x:Addr,x.block=g→S x=none:=fun g hg x hxb=>by
  rcases hfr g hg with q | q
  ·simp [Value.ownBlock] at q
  ·cases hq:S x with
   | none=>rfl
   | some v=>
    have:=World.block_lt_of_cell? w x (hS x v hq);omega
 obtain ⟨ι',hι,⟨g,m,hg,hgi⟩,hPl⟩:=bld_pl hne hi hb' (by rw [hcs',hcs];rfl) ht1 htm h0' h1' hs hown2 hnb hSb hSg;have hL:Lent ι [(sb,Blk.sl 98 2 [[PV.nptr,PV.nsl]])] b:=⟨sb,_,t,hlk,hi⟩;refine ⟨_,ι',S,rfl,kx_keep hkx hL (fun g q=>by simp [Value.ownBlock] at q),fun _ _ q=>q,kx_snap hkx hS hSb (fun g q=>by simp [Value.ownBlock] at q),fun _ _ q=>.inl q,?_,hPl,fun s' hs'=>?_,fun s' k' q b' t' q2=>?_⟩
 ·have:(⟨s.toArray⟩:ByteArray).size=s.length:=by simp [ByteArray.size]
  rw [this];exact .p _ _ (tup_rel S _)
 ·rw [List.mem_singleton.1 hs'];exact hι sb (fun e=>hne e.symm)
 ·simp only [look] at q
  by_cases e:s'=sb
  ·subst e;rw [hι s' (fun e=>hne e.symm),hi] at q2;simp at q2;exact .inr (q2.1 ▸ hL)
  ·rw [if_neg e] at q
   by_cases e2:s'=sg
   ·subst e2;rw [hgi] at q2;simp at q2;rcases hfr g hg with q3 | q3
    ·simp [Value.ownBlock] at q3
    ·exact .inl (by omega)
   ·rw [if_neg e2] at q;simp at q
theorem w42b (sb sg sg':Slot) (hne:sg≠sb) (hne':sg'≠sb) (l s:List UInt8) (hl0:l≠[]) (hl:l.length+s.length≤140737488355328) :
  BestF Tryz.prog 42 [(sb,bldB sb sg l.length),(sg,.sl 5 1 (l.map byR))] [.ptr sb 2 0 0,.p (.str ⟨s.toArray⟩)] [sb] (.p (.tup [.int .i64 s.length,.nif])) [(sb,bldB sb sg' (l++s).length),(sg',.sl 5 1 ((l++s).map byR))]:=by
 refine ⟨fn42x,fun ι S w xs hS hP hx=>?_⟩;obtain ⟨x0,xs1,rfl,hx0,hxs⟩:=hx.uncons;obtain ⟨x1,xs2,rfl,hx1,hx2⟩:=hxs.uncons;have hnil:xs2=[]:=List.length_eq_zero_iff.1 hx2.1;subst hnil;obtain ⟨b,t,hi,rfl⟩:=inv_ptr hx0;have e1:=inv_str hx1;subst e1;have hlk:look sb [(sb,bldB sb sg l.length),(sg,Blk.sl 5 1 (l.map byR))]=some (bldB sb sg l.length):=by simp [look]
 have hlk2:look sg [(sb,bldB sb sg l.length),(sg,Blk.sl 5 1 (l.map byR))]=some (.sl 5 1 (l.map byR)):=by simp [look,hne]
 obtain ⟨_,hm⟩:=hP.mem sb _ hlk;have hSb:∀ x:Addr,x.block=b→S x=none:=hP.own sb _ hlk b t hi;rcases hm with ⟨q,_⟩ | ⟨b2,t2,e,c,hi2,hlies,he,hcs,hnr,htm,hcell⟩
 ·rw [hi] at q;simp at q
 rw [hi] at hi2;simp only [Option.some.injEq,Prod.mk.injEq] at hi2;obtain ⟨rfl,rfl⟩:=hi2
 obtain ⟨u0,g0,r0⟩:=hcell 0 0 (.ptr sb 2 0 0) rfl;obtain ⟨u1,g1,r1⟩:=hcell 0 1 (.ref sg 1 0 l.length) rfl;obtain ⟨b3,t3,hi3,rfl⟩:=inv_ptr r0;rw [hi] at hi3;simp only [Option.some.injEq,Prod.mk.injEq] at hi3;obtain ⟨rfl,rfl⟩:=hi3
 have ht1:1≤t:=hnr;obtain ⟨_,hm2⟩:=hP.mem sg _ hlk2;have hlen0:l.length≠0:=by simpa using hl0
 rcases hm2 with ⟨_,q⟩ | ⟨g,tg,e2,cur,hig,hlg,heg,hcg,hng,htg,hcellg⟩
 ·simp [Blk.nrows] at q;exact absurd q hl0
 have heg':(5:TypeId)=e2:=heg;subst heg';have hgb:g≠b:=hP.sep sg sb _ _ hlk2 hlk hne g tg b t hig hi;have hSg0:∀ x:Addr,x.block=g→S x=none:=hP.own sg _ hlk2 g tg hig;obtain ⟨cap,rfl,hcap,hoc⟩:∃ cap,u1=.slice (some ⟨g,0,none⟩) l.length cap∧l.length≤cap∧cap≤tg:=by
  rcases inv_ref r1 with ⟨b4,t4,cap,a,rfl,hi4,hc,hl2,ha⟩ | q
  ·rw [hig] at hi4;simp only [Option.some.injEq,Prod.mk.injEq] at hi4;obtain ⟨rfl,rfl⟩:=hi4
   rcases ha with h0 | h0
   ·omega
   ·exact ⟨cap,by rw [h0],hl2,by omega⟩
  ·omega
 have hcur:cur.size=tg:=by simpa [Blk.size] using hcg
 have hown:OwnR w 5 (.slice (some ⟨g,0,none⟩) l.length cap) l.length (l.map fun b=>Value.int .u8 b.toNat):=by
  refine ⟨by simp,.inr ⟨g,cap,cur,rfl,hlg,hcap,by omega,by omega,?_⟩⟩
  apply List.ext_getElem?
  intro i;rw [List.getElem?_take];split
  ·rename_i hil;obtain ⟨v,q1,q2⟩:=hcellg i 0 (.p (.int .u8 l[i].toNat)) (by simp [Blk.cell,hil,byR]);have:v=.int .u8 l[i].toNat:=inv_int q2;subst this;have q1':cur[i]?=some (Value.int .u8 l[i].toNat):=by simpa [Blk.size] using q1
   simp [q1',hil]
  ·rw [List.getElem?_eq_none (by simp;omega)]
 refine (Tryz.writeString b _ (.slice (some ⟨g,0,none⟩) l.length cap) e c (l.map fun b=>Value.int .u8 b.toNat) ⟨s.toArray⟩ w hlies (by simpa using g0) (by simpa [bldB,Blk.size] using g1) (.inr (by simp)) (by simpa using hown) (by simp [Value.ownBlock,hgb]) (by simpa [ByteArray.size] using hl)).mono ?_
 rintro e' w' ⟨rfl,v',c',hb',hcs',h0',h1',hown',hnb,hfr,hkx⟩
 have hown2:OwnR w' 5 v' (l++s).length ((l++s).map fun b=>Value.int .u8 b.toNat):=by
  have:=hown';rw [strCells_ba] at this;simpa [ByteArray.size] using this
 have hSg:∀ g',v'.ownBlock=some g'→∀ x:Addr,x.block=g'→S x=none:=fun g' hg x hxb=>by
  rcases hfr g' hg with q | q
  ·simp [Value.ownBlock] at q;exact hSg0 x (by omega)
  ·cases hq:S x with
   | none=>rfl
   | some v=>
    have:=World.block_lt_of_cell? w x (hS x v hq);omega
 obtain ⟨ι',hι,⟨g',m,hg,hgi⟩,hPl⟩:=bld_pl hne' hi hb' (by rw [hcs',hcs];rfl) ht1 htm h0' h1' (by simp [hl0]) hown2 hnb hSb hSg;have hL:Lent ι [(sb,bldB sb sg l.length),(sg,Blk.sl 5 1 (l.map byR))] b:=⟨sb,_,t,hlk,hi⟩;have hL2:Lent ι [(sb,bldB sb sg l.length),(sg,Blk.sl 5 1 (l.map byR))] g:=⟨sg,_,tg,hlk2,hig⟩;refine ⟨_,ι',S,rfl,kx_keep hkx hL (fun g' q=>by simp [Value.ownBlock] at q;exact q ▸ hL2),fun _ _ q=>q,kx_snap hkx hS hSb (fun g' q=>by simp [Value.ownBlock] at q;exact q ▸ hSg0),fun _ _ q=>.inl q,?_,hPl,fun s' hs'=>?_,fun s' k' q b' t' q2=>?_⟩
 ·have:(⟨s.toArray⟩:ByteArray).size=s.length:=by simp [ByteArray.size]
  rw [this];exact .p _ _ (tup_rel S _)
 ·rw [List.mem_singleton.1 hs'];exact hι sb (fun e=>hne' e.symm)
 ·simp only [look] at q
  by_cases e:s'=sb
  ·subst e;rw [hι s' (fun e=>hne' e.symm),hi] at q2;simp at q2;exact .inr (q2.1 ▸ hL)
  ·rw [if_neg e] at q
   by_cases e2:s'=sg'
   ·subst e2;rw [hgi] at q2;simp at q2;rcases hfr g' hg with q3 | q3
    ·simp [Value.ownBlock] at q3;exact .inr (by rw [←q2.1,←q3];exact hL2)
    ·exact .inl (by omega)
   ·rw [if_neg e2] at q;simp at q
end Go.Abs.A30
namespace Go.Proofs
open Go.Shelf
def Tryz.lays105_ren:Go.Shelf.Ren:=⟨fun | 105=>43 | 212=>86 | 99=>87 | 165=>88 | 166=>42 | 170=>89 | 169=>44 | 263=>136 | 264=>137 | 206=>138 | 240=>85 | 241=>139 | 276=>135 | 277=>173 | n=>n,fun | 9=>9 | 3=>3 | 4=>4 | 20=>20 | 0=>0 | 46=>150 | 109=>151 | 5=>5 | 72=>98 | 76=>101 | 51=>193 | 146=>194 | 53=>196 | 148=>197 | 70=>95 | 37=>96 | 75=>100 | 127=>156 | 164=>191 | 80=>104 | n=>n,fun | n=>n⟩
theorem Tryz.lays105:Go.Proofs.Lays.n105 Tryz.prog Tryz.lays105_ren:={
 mixed:=by kernel_rfl
 f99:=Tryz.func87.trans (congrArg some (by kernel_rfl))
 f105:=Tryz.func43.trans (congrArg some (by kernel_rfl))
 f165:=Tryz.func88.trans (congrArg some (by kernel_rfl))
 f166:=Tryz.func42.trans (congrArg some (by kernel_rfl))
 f169:=Tryz.func44.trans (congrArg some (by kernel_rfl))
 f170:=Tryz.func89.trans (congrArg some (by kernel_rfl))
 f206:=Tryz.func138.trans (congrArg some (by kernel_rfl))
 f212:=Tryz.func86.trans (congrArg some (by kernel_rfl))
 f240:=Tryz.func85.trans (congrArg some (by kernel_rfl))
 f241:=Tryz.func139.trans (congrArg some (by kernel_rfl))
 f263:=Tryz.func136.trans (congrArg some (by kernel_rfl))
 f264:=Tryz.func137.trans (congrArg some (by kernel_rfl))
 f276:=Tryz.func135.trans (congrArg some (by kernel_rfl))
 f277:=Tryz.func173.trans (congrArg some (by kernel_rfl))
 t0:=Tryz.underlying0
 a0:=Tryz.isAgg0
 z0:=Tryz.sizeOf0
 v0:=Tryz.zeroValue0
 t3:=Tryz.underlying3
 a3:=Tryz.isAgg3
 z3:=Tryz.sizeOf3
 v3:=Tryz.zeroValue3
 t4:=Tryz.underlying4
 a4:=Tryz.isAgg4
 z4:=Tryz.sizeOf4
 v4:=Tryz.zeroValue4
 t5:=Tryz.underlying5
 a5:=Tryz.isAgg5
 z5:=Tryz.sizeOf5
 v5:=Tryz.zeroValue5
 t9:=Tryz.underlying9
 a9:=Tryz.isAgg9
 z9:=Tryz.sizeOf9
 v9:=Tryz.zeroValue9
 t20:=Tryz.underlying20
 a20:=Tryz.isAgg20
 z20:=Tryz.sizeOf20
 v20:=Tryz.zeroValue20
 t37:=Tryz.underlying96
 a37:=Tryz.isAgg96
 z37:=Tryz.sizeOf96
 v37:=Tryz.zeroValue96
 t46:=Tryz.underlying150
 a46:=Tryz.isAgg150
 z46:=Tryz.sizeOf150
 v46:=Tryz.zeroValue150
 t51:=Tryz.underlying193
 a51:=Tryz.isAgg193
 z51:=Tryz.sizeOf193
 v51:=Tryz.zeroValue193
 t53:=Tryz.underlying196
 a53:=Tryz.isAgg196
 z53:=Tryz.sizeOf196
 v53:=Tryz.zeroValue196
 t70:=Tryz.underlying95
 a70:=Tryz.isAgg95
 z70:=Tryz.sizeOf95
 v70:=Tryz.zeroValue95
 t72:=Tryz.underlying98
 a72:=Tryz.isAgg98
 z72:=Tryz.sizeOf98
 v72:=Tryz.zeroValue98
 t75:=Tryz.underlying100
 a75:=Tryz.isAgg100
 z75:=Tryz.sizeOf100
 v75:=Tryz.zeroValue100
 t76:=Tryz.underlying101
 a76:=Tryz.isAgg101
 z76:=Tryz.sizeOf101
 v76:=Tryz.zeroValue101
 t109:=Tryz.underlying151
 a109:=Tryz.isAgg151
 z109:=Tryz.sizeOf151
 v109:=Tryz.zeroValue151
 t127:=Tryz.underlying156
 a127:=Tryz.isAgg156
 z127:=Tryz.sizeOf156
 v127:=Tryz.zeroValue156
 t146:=Tryz.underlying194
 a146:=Tryz.isAgg194
 z146:=Tryz.sizeOf194
 v146:=Tryz.zeroValue194
 t148:=Tryz.underlying197
 a148:=Tryz.isAgg197
 z148:=Tryz.sizeOf197
 v148:=Tryz.zeroValue197
 t164:=Tryz.underlying191
 a164:=Tryz.isAgg191
 z164:=Tryz.sizeOf191
 v164:=Tryz.zeroValue191 }
theorem Tryz.Builder_Extra_105:Builder.Extra Tryz.prog Tryz.lays105_ren:={
 sizeBuilder:=by kernel_rfl
 liesBuilder:=by kernel_rfl
 t5:=Tryz.underlying5
 a5:=Tryz.isAgg5
 z5:=Tryz.sizeOf5
 v5:=Tryz.zeroValue5
 infoByte:=by kernel_rfl
 cellsByte:=by kernel_rfl
 sizeByte:=by kernel_rfl
 neB5:=by decide }
open Go.RowKit Go.Lib in
theorem Tryz.strings_Repeat (s:ByteArray) (c:Nat) (w:World) (hc:c≤9223372036854775807) (hlen:s.size*c≤140737488355328) :
  Calls Tryz.prog 43 #[.string s,.int .i64 c] w fun e w'=>e=.returned (.string ⟨(Lib.repeatL s.data.toList c).toArray⟩)∧Below w.heap.size w w':=Any.strings_Repeat Tryz.lays105 Tryz.Builder_Extra_105 s c w hc hlen
end Go.Proofs
namespace Go.Abs.A30
open Go Go.Abs Go.Proofs
set_option maxRecDepth 100000
set_option linter.unusedVariables false
set_option linter.unusedSimpArgs false
theorem w44a (sb:Slot):BestF Tryz.prog 44 [(sb,.sl 98 2 [[.nptr,.nsl]])] [.ptr sb 2 0 0] [] (.p (.str ⟨#[]⟩)) []:=by
 refine ⟨fn44x,fun ι S w xs hS hP hx=>?_⟩;obtain ⟨x0,xs1,rfl,hx0,hxs⟩:=hx.uncons;have hnil:xs1=[]:=List.length_eq_zero_iff.1 hxs.1;subst hnil;obtain ⟨b,t,hi,rfl⟩:=inv_ptr hx0;have hlk:look sb [(sb,Blk.sl 98 2 [[PV.nptr,PV.nsl]])]=some (.sl 98 2 [[.nptr,.nsl]]):=by simp [look]
 obtain ⟨_,hm⟩:=hP.mem sb _ hlk;rcases hm with ⟨q,_⟩ | ⟨b2,t2,e,c,hi2,hlies,he,hcs,hnr,htm,hcell⟩
 ·rw [hi] at q;simp at q
 rw [hi] at hi2;simp only [Option.some.injEq,Prod.mk.injEq] at hi2;obtain ⟨rfl,rfl⟩:=hi2
 obtain ⟨u1,g1,r1⟩:=hcell 0 1 (.p .nsl) rfl;have f1:=inv_nsl r1;subst f1;refine (Tryz.str_nil b c e w hlies (by simpa [Blk.size] using g1)).mono ?_
 rintro e' w' ⟨rfl,rfl⟩
 exact ⟨_,ι,S,rfl,⟨rfl,rfl,rfl,Nat.le_refl _,fun _ _ _=>rfl⟩,fun _ _ q=>q,hS,fun _ _ q=>.inl q,.p _ _ (.str _),⟨fun s k q=>by simp [look] at q,fun s k q=>by simp [look] at q,fun s s' k k' q=>by simp [look] at q⟩,by simp,fun s k q=>by simp [look] at q⟩
theorem w44b (sb sg:Slot) (hne:sg≠sb) (l:List UInt8) (hl0:l≠[]) (hl:l.length≤140737488355328) :
  BestF Tryz.prog 44 [(sb,bldB sb sg l.length),(sg,.sl 5 1 (l.map byR))] [.ptr sb 2 0 0] [] (.p (.str ⟨l.toArray⟩)) []:=by
 refine ⟨fn44x,fun ι S w xs hS hP hx=>?_⟩;obtain ⟨x0,xs1,rfl,hx0,hxs⟩:=hx.uncons;have hnil:xs1=[]:=List.length_eq_zero_iff.1 hxs.1;subst hnil;obtain ⟨b,t,hi,rfl⟩:=inv_ptr hx0;have hlk:look sb [(sb,bldB sb sg l.length),(sg,Blk.sl 5 1 (l.map byR))]=some (bldB sb sg l.length):=by simp [look]
 have hlk2:look sg [(sb,bldB sb sg l.length),(sg,Blk.sl 5 1 (l.map byR))]=some (.sl 5 1 (l.map byR)):=by simp [look,hne]
 obtain ⟨_,hm⟩:=hP.mem sb _ hlk;rcases hm with ⟨q,_⟩ | ⟨b2,t2,e,c,hi2,hlies,he,hcs,hnr,htm,hcell⟩
 ·rw [hi] at q;simp at q
 rw [hi] at hi2;simp only [Option.some.injEq,Prod.mk.injEq] at hi2;obtain ⟨rfl,rfl⟩:=hi2
 obtain ⟨u1,g1,r1⟩:=hcell 0 1 (.ref sg 1 0 l.length) rfl;obtain ⟨_,hm2⟩:=hP.mem sg _ hlk2;have hlen0:l.length≠0:=by simpa using hl0
 rcases hm2 with ⟨_,q⟩ | ⟨g,tg,e2,cur,hig,hlg,heg,hcg,hng,htg,hcellg⟩
 ·simp [Blk.nrows] at q;exact absurd q hl0
 have heg':(5:TypeId)=e2:=heg;subst heg';have hSg0:∀ x:Addr,x.block=g→S x=none:=hP.own sg _ hlk2 g tg hig;obtain ⟨cap,rfl,hcap,hoc⟩:∃ cap,u1=.slice (some ⟨g,0,none⟩) l.length cap∧l.length≤cap∧cap≤tg:=by
  rcases inv_ref r1 with ⟨b4,t4,cap,a,rfl,hi4,hc,hl2,ha⟩ | q
  ·rw [hig] at hi4;simp only [Option.some.injEq,Prod.mk.injEq] at hi4;obtain ⟨rfl,rfl⟩:=hi4
   rcases ha with h0 | h0
   ·omega
   ·exact ⟨cap,by rw [h0],hl2,by omega⟩
  ·omega
 have hcur:cur.size=tg:=by simpa [Blk.size] using hcg
 refine (Tryz.str_row b g cap c e cur l w hlies (by simpa [bldB,Blk.size] using g1) hlg hl0 (by omega) (by omega) (by omega) (fun j x hx=>?_)).mono ?_
 ·obtain ⟨v,q1,q2⟩:=hcellg j 0 (.p (.int .u8 x.toNat)) (by simp [Blk.cell,hx,byR]);have:v=.int .u8 x.toNat:=inv_int q2;subst this;simpa [Blk.size] using q1
 rintro e' w' ⟨rfl,rfl⟩
 have hL2:Lent ι [(sb,bldB sb sg l.length),(sg,Blk.sl 5 1 (l.map byR))] g:=⟨sg,_,tg,hlk2,hig⟩;have hh:∀ k,k≠g→(w.drew.freeze ⟨g,0,none⟩ l.length).heap[k]?=w.heap[k]?:=fun k hk=>by
  have hk':g≠k:=fun e=>hk e.symm
  unfold World.freeze;split
  ·rfl
  ·simp only [Array.getElem?_modify,hk',if_false];rfl
 have hsz:w.heap.size≤(w.drew.freeze ⟨g,0,none⟩ l.length).heap.size:=by
  unfold World.freeze;rw [if_neg hlen0];simp
 refine ⟨_,ι,S,rfl,⟨by unfold World.freeze;rw [if_neg hlen0];rfl,by unfold World.freeze;rw [if_neg hlen0];rfl,by unfold World.freeze;rw [if_neg hlen0];rfl,hsz,fun k _ hm=>hh k (fun e=>hm (e ▸ hL2))⟩,fun _ _ q=>q,fun a v q=>?_,fun _ _ q=>.inl q,.p _ _ (.str _),⟨fun s k q=>by simp [look] at q,fun s k q=>by simp [look] at q,fun s s' k k' q=>by simp [look] at q⟩,by simp,fun s k q=>by simp [look] at q⟩;rw [cell_blk (hh a.block (fun e=>by rw [hSg0 a e] at q;simp at q))];exact hS a v q
theorem fn43x:∃ fn,Tryz.prog.funcs[43]?=some fn∧fn.body.isSome=true∧(fn.name == "runtime.NumGoroutine")=false:=⟨_,Tryz.func43,by kernel_rfl,by kernel_rfl⟩
theorem rep10 (c:Nat):Lib.repeatL [10] c=List.replicate c 10:=by
 induction c with
 | zero=>rfl
 | succ c ih=>rw [Lib.repeatL,ih];rfl
theorem b43 (c:Nat) (hc:c≤1000):Bt 43 [.str ⟨#[10]⟩,.int .i64 c] (.p (.str ⟨(List.replicate c 10).toArray⟩)):=by
 refine ⟨fn43x,fun S w xs hS hx=>?_⟩;obtain ⟨x0,xs1,rfl,hx0,hxs⟩:=(Ps.toRs (ι:=fun _=>none) hx).uncons;obtain ⟨x1,xs2,rfl,hx1,hx2⟩:=hxs.uncons;have hnil:xs2=[]:=List.length_eq_zero_iff.1 hx2.1;subst hnil;have e0:=inv_str hx0;have e1:=inv_int hx1;subst e0 e1;have h:=Tryz.strings_Repeat ⟨#[10]⟩ c w (by omega) (by
  have:(⟨#[10]⟩:ByteArray).size=1:=rfl;rw [this];omega)
 have e:(⟨#[10]⟩:ByteArray).data.toList=[10]:=rfl;rw [e,rep10] at h;refine h.mono ?_
 rintro e' w' ⟨rfl,hb⟩
 have hk:Keep w w':=⟨hb.os,hb.tape,hb.output,hb.size,fun k hk=>hb.block k hk⟩;exact ⟨_,S,rfl,hk,fun _ _ q=>q,fun a v q=>hk.cell (hS a v q),fun _ _ q=>.inl q,.str _⟩
end Go.Abs.A30
namespace Go.Abs.A30
open Go Go.Abs Go.Proofs
set_option maxRecDepth 100000
set_option linter.unusedVariables false
set_option linter.unusedSimpArgs false
attribute [local simp ↓] awp_skip awp_seq awp_cond awp_block awp_exit awp_ret awp_reg awp_draw awp_ghost awp_loop awp_rfun awpR_nil awpR_cons awpX_nil awpX_0 awpX_1 awpX_2 awpI_eq awpI_t awpI_f awpStep_eq
attribute [local simp] condL_true condL_false condL_dec evDel evV evN evS evA initFr Ghost.app Fr.var Fr.blk Fr.ff FF.val Abs.look Fr.app Fr.erase Fr.noSlot AV.noSlot AV.noSlotL Blk.noSlot Fr.spoken AV.fz AV.fzL Blk.fz binV binI shI binS unV fillA FF.parts FF.vals headO intO boundO lenV scalarEq leavesEq AV.aggc AV.cells FF.read FF.rows AV.one PV.one chunk freshB newS pickV retK evRs evRl evR resOf mkTup mkAgg allP cloOf okP_nil okX_p okX okP addN Del.noSlot Del.owners Rnd reify_p normM insM Fr.back Fr.backV Fr.setPs normV insV
attribute [local simp] renF Fr.trim Blk.trim AV.rn AV.rnL Blk.rn AV.among AV.amongL Blk.among okF retM fixS BIG initFF
attribute [local simp] FF.reify FF.reifyL PV.flat
section
attribute [local simp ↓] awp_scope awp_label
set_option maxHeartbeats 2000000
attribute [local simp] evC
attribute [local simp ↓] oneI oneS oneSS oneK oneF oneC oneLl onePa onePi onePl oneD2 oneSp
attribute [local simp] ba_size
theorem oneBy (l:List UInt8):((l.map byR).all fun r=>r.all PV.one)=true:=by
 rw [List.all_eq_true];intro r hr;obtain ⟨u,_,rfl⟩:=List.mem_map.1 hr;rfl
attribute [local simp ↓] oneBy
attribute [local simp] bldB
theorem ba_cut (t:List UInt8) (a b:Nat) (h:b≤t.length):(ba t).extract a b=ba ((t.take b).drop a):=by
 apply ByteArray.ext
 simp [ba,ByteArray.data_extract];rw [List.drop_take]
structure Cp where
 n:Int
 last:Int
 acc:List UInt8
def cluT (t:List UInt8) (i:Int):List UInt8:=(t.take ((splT t).getD i.toNat (0,0)).2).drop ((splT t).getD i.toNat (0,0)).1
def cpS (ps:List Par) (fr up:Int) (z:Cp) (p:Dpl):Cp:=
 if fr≤z.n∧z.n<up then ⟨z.n+1,p.1,z.acc++((if 0≤z.last then List.replicate (p.1 - z.last).toNat 10 else [])++(match ps[p.1.toNat]? with | some q=>cluT q.t p.2.i | none=>[]))⟩ else ⟨z.n+1,z.last,z.acc⟩
def cpF (ps:List Par) (fr up:Int) (l:List Dpl):Cp:=l.foldl (cpS ps fr up) ⟨0,-1,[]⟩
noncomputable def copyN (cs:List Cor) (w:Int) (ps:List Par) (fr up:Int):List UInt8:=(cpF ps fr up (docL cs w ps)).acc
def cpM (w:Int) (pn:List Cor) (ps:List Par) (fr up:Int) (z:Cp):Option Nat→List (Slot×Blk)
 | none=>[((4,0),.box [.p (.int .i64 w),.p (.sl 3 (pn.map pinRow)),.p (.sl 4 (ps.map parRow))]),((6,0),.box [.p (.int .i64 fr)]),((7,0),.box [.p (.int .i64 up)]),((9,0),.sl 98 2 [[.nptr,.nsl]]),((10,0),.box [.p (.int .i64 z.n)]),((11,0),.box [.p (.int .i64 z.last)])]
 | some c=>[((4,0),.box [.p (.int .i64 w),.p (.sl 3 (pn.map pinRow)),.p (.sl 4 (ps.map parRow))]),((6,0),.box [.p (.int .i64 fr)]),((7,0),.box [.p (.int .i64 up)]),((9,0),.box [.ptr (9,0) 2 0 0,.ref (999990,c) 1 0 z.acc.length]),((10,0),.box [.p (.int .i64 z.n)]),((11,0),.box [.p (.int .i64 z.last)]),((999990,c),.sl 5 1 (z.acc.map byR))]
def CpOk (z:Cp):Option Nat→Prop
 | none=>z.acc=[]∧z.last=-1
 | some _=>z.acc≠[]∧0≤z.last∧z.last≤1000
def cpV (w:Int) (pn cs:List Cor) (ps:List Par) (vs:List (Nat×AV)) (ws:List (Nat×AV)):List (Nat×AV):=[(4,.ptr (4,0) 3 0 0),(6,.ptr (6,0) 1 0 0),(7,.ptr (7,0) 1 0 0),(9,.ptr (9,0) 2 0 0),(10,.ptr (10,0) 1 0 0),(11,.ptr (11,0) 1 0 0)]++vs++[(20,.p (.clo (.func 84) [] [.ro [.int .i64 w,.sl 3 (pn.map pinRow),.sl 4 (ps.map parRow)],.ro [.sl 9 (cs.map corRow)]]))]++ws
attribute [local simp] cpV
theorem x17b {K:AE→Fr→Prop} (w:Int) (pn cs:List Cor) (ps:List Par) (hp:ParsOk ps) (fr up:Int) (k:Nat) (hk:k<ps.length) (t:List UInt8) (s:Stg) (ex:ps[k]=⟨t,s⟩) (B:List Dpl) (j:Nat) (p:Dpl) (ep:B[j]?=some p) (hp1:p.1=k) (i:Nat) (hpi:p.2.i=i) (hi:i<(splT t).length) (hB:B.length≤1000)
  (z:Cp) (u:Option Nat) (hz:CpOk z u) (hzn:0≤z.n∧z.n≤1000) (hza:z.acc.length≤1000000) (hzl:z.last≤k)
  (hK:∀ u' F',CpOk (cpS ps fr up z p) u'→(Ghost.keep [4,6,7,9,10,11,12,14,20,30,31,32]).app F'=some ⟨cpV w pn cs ps [(12,.p (.int .i64 k)),(14,.p (.sl 2 ((splT t).map spRow)))] [(30,.p (.sl 6 (B.map dplRow))),(31,.p (.int .i64 B.length)),(32,.p (.int .i64 ((j:Int)+1)))],cpM w pn ps fr up (cpS ps fr up z p) u'⟩→K .normal F') :
  awp Tryz.prog xc17b K ⟨cpV w pn cs ps [(12,.p (.int .i64 k)),(14,.p (.sl 2 ((splT t).map spRow)))] [(30,.p (.sl 6 (B.map dplRow))),(31,.p (.int .i64 B.length)),(32,.p (.int .i64 j))],cpM w pn ps fr up z u⟩:=by
 obtain ⟨hjl,ep2⟩:=List.getElem?_eq_some_iff.1 ep;obtain ⟨p1,pi,pf,pl,px,pw⟩:=p;dsimp only at hp1 hpi;subst hp1 hpi;obtain ⟨n,last,acc⟩:=z
 dsimp only at hzn hza hzl;obtain ⟨⟨a,b⟩,ec⟩:=gn ((splT t)[i])
 obtain ⟨hab,hb,h6⟩:=splT_mem (t:=t) (a:=a) (b:=b) (by rw [←ec];simp);have exd:(splT t).getD i (0,0)=(a,b):=by simp [hi,ec]
 have wj:R ((j:Int)+1):=rO (by omega);have wn:R (n+1):=rO (by omega);have ht12:=(hp.2 ⟨t,s⟩ (by rw [←ex];simp)).1;dsimp only at ht12;have hcut:=ba_cut t a b hb
 have h3:=hp.1;have hcl:cluT t i=(t.take b).drop a:=by simp only [cluT,Int.toNat_natCast,exd]
 have hgk:ps[((k:Nat):Int).toNat]?=some ⟨t,s⟩:=by simp [List.getElem?_eq_getElem hk,ex]
 have hcl0:(t.take b).drop a≠[]:=by
  intro e;have:=congrArg List.length e;simp at this;omega
 have hcll:((t.take b).drop a).length≤12:=by simp;omega
 have hab':a≤b:=by omega
 obtain ⟨X,eX⟩:=gn ((t.take b).drop a);rw [eX] at hcut hcl hcl0 hcll
 by_cases c1:fr≤n∧n<up
 ·have hS:cpS ps fr up ⟨n,last,acc⟩ (k,⟨i,pf,pl,px,pw⟩)=⟨n+1,k,acc++((if 0≤last then List.replicate ((k:Int) - last).toNat 10 else [])++X)⟩:=by
   simp only [cpS,if_pos c1,hgk,hcl]
  rw [hS] at hK;cases u with
  | none=>
   obtain ⟨q1,q2⟩:=hz;dsimp only at q1 q2;subst q1 q2;have hq:BestF Tryz.prog 42 [((9,0),.sl 98 2 [[.nptr,.nsl]])] [.ptr (9,0) 2 0 0,.p (.str (ba X))] [(9,0)] (.p (.tup [.int .i64 X.length,.nif])) [((9,0),.box [.ptr (9,0) 2 0 0,.ref (999990,1) 1 0 X.length]),((999990,1),.sl 5 1 (X.map byR))]:=w42a (9,0) (999990,1) (by simp) X hcl0 (by omega)
   have hK':=fun F'=>hK (some 1) F' ⟨by simpa using hcl0,by dsimp only;omega,by dsimp only;omega⟩
   simp only [Int.reduceNeg,Int.reduceLE,if_false,List.nil_append] at hK';simp -dsimp [xc17b,cpM,hjl,ep2,dplRow,c1.1,c1.2,hi,ec,spRow,hk,ex,parRow,hb,hab',hcut];refine call_m hq (by simp) (by simp) (by simp) ?_;simp -dsimp [wr wn,wr wj];exact hK' _ (by simp [cpM,spRow,parRow])
  | some c=>
   obtain ⟨q1,q2,q3⟩:=hz;dsimp only at q1 q2 q3;obtain ⟨m,em⟩:∃ m:Nat,(k:Int) - last=m:=⟨((k:Int) - last).toNat,by omega⟩
   have hm:m≤1000:=by omega
   have wm:R (m:Int):=rO (by omega);have em2:((k:Int) - last).toNat=m:=by omega
   rw [em2,if_pos q2] at hK;have q43:Bt 43 [.str ⟨#[10]⟩,.int .i64 m] (.p (.str (ba (List.replicate m 10)))):=b43 m hm
   obtain ⟨Y,eY⟩:∃ Y:List UInt8,List.replicate m 10=Y:=⟨_,rfl⟩;have hY:Y.length≤1000:=by rw [←eY];simpa using hm
   rw [eY] at q43 hK;have hq:BestF Tryz.prog 42 [((9,0),.box [.ptr (9,0) 2 0 0,.ref (999990,c) 1 0 acc.length]),((999990,c),.sl 5 1 (acc.map byR))] [.ptr (9,0) 2 0 0,.p (.str (ba Y))] [(9,0)] (.p (.tup [.int .i64 Y.length,.nif])) [((9,0),.box [.ptr (9,0) 2 0 0,.ref (999990,c+1) 1 0 (acc++Y).length]),((999990,c+1),.sl 5 1 ((acc++Y).map byR))]:=w42b (9,0) (999990,c) (999990,c+1) (by simp) (by simp) acc Y q1 (by omega)
   have hq2:BestF Tryz.prog 42 [((9,0),.box [.ptr (9,0) 2 0 0,.ref (999990,c+1) 1 0 (acc++Y).length]),((999990,c+1),.sl 5 1 ((acc++Y).map byR))] [.ptr (9,0) 2 0 0,.p (.str (ba X))] [(9,0)] (.p (.tup [.int .i64 X.length,.nif])) [((9,0),.box [.ptr (9,0) 2 0 0,.ref (999990,c+2) 1 0 (acc++Y++X).length]),((999990,c+2),.sl 5 1 ((acc++Y++X).map byR))]:=w42b (9,0) (999990,c+1) (999990,c+2) (by simp) (by simp) (acc++Y) X (by simp [q1]) (by simp;omega);have hK':=fun F'=>hK (some (c+2)) F' ⟨by simp [q1],by dsimp only;omega,by dsimp only;omega⟩
   obtain ⟨A,eA⟩:=gn (acc++Y);rw [eA] at hq hq2;rw [←List.append_assoc,eA] at hK';obtain ⟨A2,eA2⟩:=gn (A++X)
   rw [eA2] at hq2 hK';simp -dsimp [xc17b,cpM,hjl,ep2,dplRow,c1.1,c1.2,q2,em,wr wm];refine cP q43 ?_;simp -dsimp;refine call_m hq (by simp) (by simp) (by simp) ?_;simp -dsimp [hi,ec,spRow,hk,ex,parRow,hb,hab',hcut];refine call_m hq2 (by simp) (by simp) (by simp) ?_;simp -dsimp [wr wn,wr wj];exact hK' _ (by simp [cpM,spRow,parRow])
 ·have hS:cpS ps fr up ⟨n,last,acc⟩ (k,⟨i,pf,pl,px,pw⟩)=⟨n+1,last,acc⟩:=by
   simp only [cpS,if_neg c1]
  rw [hS] at hK;have hK':=fun F'=>hK u F' (by cases u<;>exact hz)
  by_cases c2:fr≤n
  ·have c3:¬n<up:=fun q=>c1 ⟨c2,q⟩
   cases u with
   | none=>
    simp -dsimp [xc17b,cpM,hjl,ep2,dplRow,c2,c3,wr wn,wr wj];exact hK' _ (by simp [cpM])
   | some c=>
    simp -dsimp [xc17b,cpM,hjl,ep2,dplRow,c2,c3,wr wn,wr wj];exact hK' _ (by simp [cpM])
  ·cases u with
   | none=>
    simp -dsimp [xc17b,cpM,hjl,ep2,dplRow,c2,wr wn,wr wj];exact hK' _ (by simp [cpM])
   | some c=>
    simp -dsimp [xc17b,cpM,hjl,ep2,dplRow,c2,wr wn,wr wj];exact hK' _ (by simp [cpM])
end
section
attribute [local simp ↓] oneBy
attribute [local simp] bldB cpV
theorem cpS_b {ps:List Par} (hp:ParsOk ps) (fr up:Int) (z:Cp) (p:Dpl) (h1:-1≤z.last) (h2:0≤p.1∧p.1≤1000) :
  (cpS ps fr up z p).n=z.n+1∧-1≤(cpS ps fr up z p).last∧(cpS ps fr up z p).last≤max z.last p.1∧(cpS ps fr up z p).acc.length≤z.acc.length+1100:=by
 unfold cpS;split
 ·have h3:(if 0≤z.last then List.replicate (p.1 - z.last).toNat (10:UInt8) else []).length≤1000:=by split<;>simp<;>omega
  have h4:(match ps[p.1.toNat]? with | some q=>cluT q.t p.2.i | none=>[]).length≤12:=by
   split
   ·rename_i q hq;have:=(hp.2 q (List.mem_of_getElem? hq)).1;simp only [cluT,List.length_drop,List.length_take];omega
   ·simp
  refine ⟨rfl,by dsimp only;omega,by dsimp only;omega,?_⟩;show (z.acc++((if 0≤z.last then List.replicate (p.1 - z.last).toNat (10:UInt8) else [])++(match ps[p.1.toNat]? with | some q=>cluT q.t p.2.i | none=>[]))).length≤_;simp only [List.length_append];omega
 ·exact ⟨rfl,h1,by dsimp only;omega,by dsimp only;omega⟩
theorem cpF_b {ps:List Par} (hp:ParsOk ps) (fr up:Int) (k:Int) (hk:k≤1000):∀ (l:List Dpl) (z:Cp),(∀ p∈l,0≤p.1∧p.1≤k)→-1≤z.last→z.last≤k→(l.foldl (cpS ps fr up) z).n=z.n+l.length∧-1≤(l.foldl (cpS ps fr up) z).last∧(l.foldl (cpS ps fr up) z).last≤k∧(l.foldl (cpS ps fr up) z).acc.length≤z.acc.length+1100*l.length
 | [],z,_,h1,h2=>by simp;omega
 | p :: l,z,h,h1,h2=>by
  have hp1:=h p (by simp);obtain ⟨a1,a2,a3,a4⟩:=cpS_b hp fr up z p h1 ⟨hp1.1,by omega⟩;obtain ⟨b1,b2,b3,b4⟩:=cpF_b hp fr up k hk l (cpS ps fr up z p) (fun q hq=>h q (by simp [hq])) a2 (by omega);rw [List.foldl_cons,List.length_cons];refine ⟨by rw [b1,a1];push_cast;omega,b2,b3,by omega⟩
theorem paraK_at {cs:List Cor} {w:Int} {ps:List Par} (hp:ParsOk ps) {k:Nat} {q:Par} (hq:ps[k]?=some q) {j:Nat} {p:Dpl} (h:(paraK cs w ps k)[j]?=some p):p.1=k∧p.2.i=j∧j<(splT q.t).length:=by
 have hqo:=hp.2 q (List.mem_of_getElem? hq);obtain ⟨X,eX⟩:=placesN_get (cs:=cs) (t:=q.t) (w:=w) hqo.2.1;unfold paraK at h;rw [hq] at h;simp only [parV,eX,List.getElem?_map,Option.map_eq_some_iff] at h;obtain ⟨y,hy,rfl⟩:=h
 obtain ⟨hl,e⟩:=List.getElem?_eq_some_iff.1 hy;rw [plcL_get] at e;rw [plcL_len] at hl;subst e;exact ⟨rfl,rfl,hl⟩
theorem b17 (cs:List Cor) (hcs:CorsOk2 cs) (w:Int) (hw:0≤w∧w≤1000) (pn:List Cor) (ps:List Par) (hp:ParsOk ps) (fr up:Int):Bt 17 [.agg (docRow w pn ps),.sl 9 (cs.map corRow),.int .i64 fr,.int .i64 up] (.p (.str (ba (copyN cs w ps fr up)))):=by
 refine best mixed fn17 ok17 (by simp) ?_;have q:=b41 w pn cs ps;have hG:=g84 cs hcs w hw pn ps hp;have h3:=hp.1;simp only [docRow] at q hG;simp -dsimp [ac17,docRow];refine cP q ?_;simp -dsimp;refine rfunL_rule rfl rfl hG (fun k F=>k≤ps.length∧∃ u,CpOk (cpF ps fr up (allK cs w ps k)) u∧F=⟨cpV w pn cs ps [] [],cpM w pn ps fr up (cpF ps fr up (allK cs w ps k)) u⟩) ?_ ?_ ⟨by omega,none,by simp [allK,cpF,CpOk],by simp [allK,cpF,cpM]⟩
 ·rintro k z F hz ⟨hk,u,hu,rfl⟩
  have hk2:k<ps.length:=by have:=(List.getElem?_eq_some_iff.1 hz).1;simpa [parsR] using this
  simp only [parsR,List.getElem?_map,List.getElem?_range hk2,Option.map_some,Option.some.injEq] at hz;subst hz;obtain ⟨⟨t,s⟩,ex⟩:=gn ps[k]
  have hq:ps[k]?=some ⟨t,s⟩:=by rw [List.getElem?_eq_getElem hk2,ex]
  have hpk:=hp.2 ⟨t,s⟩ (by rw [←ex];simp);have ht12:=hpk.1;dsimp only at ht12;have l1:=paraK_len (cs:=cs) (w:=w) hp k
  have l2:=allK_len (cs:=cs) (w:=w) hp k;have hs:=allK_succ cs w ps k;have hat:=fun j p=>@paraK_at cs w ps hp k ⟨t,s⟩ hq j p
  have q23:=b23 t (by omega);have hA:∀ p∈allK cs w ps k++paraK cs w ps k,0≤p.1∧p.1≤k:=by
   rw [←hs];intro p hp';obtain ⟨i,hi,h2⟩:=List.mem_flatMap.1 hp';have hi:i<k+1:=by simpa using hi
   have:p.1=i:=by
    unfold paraK at h2;split at h2
    ·obtain ⟨y,_,rfl⟩:=List.mem_map.1 h2;rfl
    ·simp at h2
   omega
  obtain ⟨A,eA⟩:=gn (allK cs w ps k);obtain ⟨B,eB⟩:=gn (paraK cs w ps k);rw [eA,eB] at hs hA;rw [eA] at l2 hu ⊢;rw [eB] at l1 hat ⊢;rw [hs];dsimp only at hat;have hbd:∀ j,0≤(cpF ps fr up (A++B.take j)).n∧(cpF ps fr up (A++B.take j)).n≤1000∧(cpF ps fr up (A++B.take j)).acc.length≤1000000∧(cpF ps fr up (A++B.take j)).last≤k:=by
   intro j;obtain ⟨b1,b2,b3,b4⟩:=cpF_b hp fr up k (by omega) (A++B.take j) ⟨0,-1,[]⟩ (fun p hp'=>hA p (by
    rcases List.mem_append.1 hp' with g | g
    ·exact List.mem_append_left _ g
    ·exact List.mem_append_right _ (List.mem_of_mem_take g))) (Int.le_refl _) (by dsimp only;omega)
   have hl:(A++B.take j).length≤12*k+12:=by simp;omega
   unfold cpF;rw [b1];simp only [List.length_nil] at b4;refine ⟨by dsimp only;omega,by dsimp only;omega,by omega,b3⟩
  have hstep:∀ j p,B[j]?=some p→cpF ps fr up (A++B.take (j+1))=cpS ps fr up (cpF ps fr up (A++B.take j)) p:=by
   intro j p e;rw [List.take_add_one,e,←List.append_assoc];simp [cpF]
  refine ⟨rfl,?_⟩;have key:awp Tryz.prog (.loop (.ghost (.keep [4,6,7,9,10,11,12,14,20,30,31,32]) (.seq (.reg [⟨some 33,.bin .lss (.v 32) (.v 31),none,[]⟩])
 (.ghost (.keep [4,6,7,9,10,11,12,14,20,30,31,32,33]) (.seq (.cond (.v 33)
 .skip
 (.exit 2))
 (.ghost (.keep [4,6,7,9,10,11,12,14,20,30,31,32]) xc17b))))))
   (fun e F'=>e=.exit 2∧∃ u',CpOk (cpF ps fr up (A++B)) u'∧F'=⟨cpV w pn cs ps [(12,.p (.int .i64 k)),(14,.p (.sl 2 ((splT t).map spRow)))] [(30,.p (.sl 6 (B.map dplRow))),(31,.p (.int .i64 B.length)),(32,.p (.int .i64 B.length)),(33,.p (.bool false))],cpM w pn ps fr up (cpF ps fr up (A++B)) u'⟩)
   ⟨cpV w pn cs ps [(12,.p (.int .i64 k)),(14,.p (.sl 2 ((splT t).map spRow)))] [(30,.p (.sl 6 (B.map dplRow))),(31,.p (.int .i64 B.length)),(32,.p (.int .i64 0))],cpM w pn ps fr up (cpF ps fr up A) u⟩:=by
   rw [awp_loop];refine loopE B.length (fun j u'=>⟨cpV w pn cs ps [(12,.p (.int .i64 k)),(14,.p (.sl 2 ((splT t).map spRow)))] [(30,.p (.sl 6 (B.map dplRow))),(31,.p (.int .i64 B.length)),(32,.p (.int .i64 j))],cpM w pn ps fr up (cpF ps fr up (A++B.take j)) u'⟩) (fun j u'=>CpOk (cpF ps fr up (A++B.take j)) u') u (fun j u' hj hu'=>?_) (by simpa using hu) (by cases u<;>simp [cpM]);obtain ⟨b1,b2,b3,b4⟩:=hbd j
   by_cases h:j<B.length
   ·obtain ⟨p,ep⟩:∃ p,B[j]?=some p:=⟨_,List.getElem?_eq_getElem h⟩;obtain ⟨g1,g2,g3⟩:=hat j p ep;have hst:=hstep j p ep;obtain ⟨Z,eZ⟩:=gn (cpF ps fr up (A++B.take j));rw [eZ] at b1 b2 b3 b4 hst hu' ⊢;have hx:=@x17b (Rnd (fun F'=>j<B.length∧∃ a',CpOk (cpF ps fr up (A++B.take (j+1))) a'∧(Ghost.keep [4,6,7,9,10,11,12,14,20,30,31,32]).app F'=some ⟨cpV w pn cs ps [(12,.p (.int .i64 k)),(14,.p (.sl 2 ((splT t).map spRow)))] [(30,.p (.sl 6 (B.map dplRow))),(31,.p (.int .i64 B.length)),(32,.p (.int .i64 ((j+1:Nat):Int)))],cpM w pn ps fr up (cpF ps fr up (A++B.take (j+1))) a'⟩)
     (fun e F'=>e=.exit 2∧∃ u',CpOk (cpF ps fr up (A++B)) u'∧F'=⟨cpV w pn cs ps [(12,.p (.int .i64 k)),(14,.p (.sl 2 ((splT t).map spRow)))] [(30,.p (.sl 6 (B.map dplRow))),(31,.p (.int .i64 B.length)),(32,.p (.int .i64 B.length)),(33,.p (.bool false))],cpM w pn ps fr up (cpF ps fr up (A++B)) u'⟩))
     w pn cs ps hp fr up k hk2 t s ex B j p ep g1 j g2 g3 (by omega) Z u' hu' ⟨b1,b2⟩ b3 b4 (fun u2 F' h1 h2=>⟨h,u2,by rw [hst];exact h1,by rw [h2,hst];rfl⟩)
    cases u' with
    | none=>
     simp -dsimp [cpM,h,↓ awpC_of xc17b] at hx ⊢;exact awpC_in hx
    | some c=>
     simp -dsimp [cpM,h,↓ awpC_of xc17b] at hx ⊢;exact awpC_in hx
   ·have hjl:j=B.length:=by omega
    subst hjl;rw [List.take_length] at hu' ⊢;cases u' with
    | none=>
     simp -dsimp [cpM];exact ⟨none,hu',by simp [cpM]⟩
    | some c=>
     simp -dsimp [cpM];exact ⟨some c,hu',by simp [cpM]⟩
  have fin:∀ u',CpOk (cpF ps fr up (A++B)) u'→(⟨cpV w pn cs ps [(12,.p (.int .i64 k)),(14,.p (.sl 2 ((splT t).map spRow)))] [(30,.p (.sl 6 (B.map dplRow))),(31,.p (.int .i64 B.length)),(32,.p (.int .i64 B.length)),(33,.p (.bool false))],cpM w pn ps fr up (cpF ps fr up (A++B)) u'⟩:Fr).back [12,13,14,16,17,21,22,23,24,25,26,27,28,29,30,31,32,33,34,35,36,37,38,39,40,41,42,43,44,45,46,47,48,49,50,51,52,53,54,55,56,57,58,59,60,61,62,63,64,65,66,67,68,69,70,71]=⟨cpV w pn cs ps [] [],cpM w pn ps fr up (cpF ps fr up (A++B)) u'⟩:=by
   intro u' hu';cases u' with
   | none=>simp [cpM]
   | some c=>simp [cpM]
  cases u with
  | none=>
   simp -dsimp [cpM,hk2,ex,parRow] at key ⊢;refine cP q23 ?_;simp -dsimp;unfold loopL at key ⊢;refine awp_mono (fun e F' h=>?_) key;obtain ⟨rfl,u',h1,rfl⟩:=h
   exact ⟨hk2,u',h1,fin u' h1⟩
  | some c=>
   simp -dsimp [cpM,hk2,ex,parRow] at key ⊢;refine cP q23 ?_;simp -dsimp;unfold loopL at key ⊢;refine awp_mono (fun e F' h=>?_) key;obtain ⟨rfl,u',h1,rfl⟩:=h
   exact ⟨hk2,u',h1,fin u' h1⟩
 ·rintro F ⟨hk,u,hu,rfl⟩
  have hl:(parsR cs w ps).length=ps.length:=by simp [parsR]
  rw [hl] at hu ⊢;have e:cpF ps fr up (allK cs w ps ps.length)=cpF ps fr up (docL cs w ps):=rfl
  rw [e] at hu ⊢;cases u with
  | none=>
   obtain ⟨h1,h2⟩:=hu;have q44:=w44a (9,0);simp -dsimp [cpM];refine call_m q44 (by simp) (by simp) (by simp) ?_;simp -dsimp;unfold copyN;rw [h1];rfl
  | some c=>
   obtain ⟨h1,h2,h3⟩:=hu;have hbd:=(cpF_b hp fr up 1000 (by omega) (docL cs w ps) ⟨0,-1,[]⟩ (fun p hp'=>by
    obtain ⟨i,hi,h2⟩:=List.mem_flatMap.1 hp';have hi:i<ps.length:=by simpa using hi
    have:p.1=i:=by
     unfold paraK at h2;split at h2
     ·obtain ⟨y,_,rfl⟩:=List.mem_map.1 h2;rfl
     ·simp at h2
    omega) (Int.le_refl _) (by dsimp only;omega)).2.2.2
   have hal:=allK_len (cs:=cs) (w:=w) hp ps.length;have hdl:(docL cs w ps).length≤12*ps.length:=hal;have ec:cpF ps fr up (docL cs w ps)=(docL cs w ps).foldl (cpS ps fr up) ⟨0,-1,[]⟩:=rfl;rw [←ec] at hbd;simp only [List.length_nil] at hbd;have q44:=w44b (9,0) (999990,c) (by simp) (cpF ps fr up (docL cs w ps)).acc h1 (by omega)
   simp -dsimp [cpM] at q44 ⊢;refine call_m q44 (by simp) (by simp) (by simp) ?_;simp -dsimp;rfl
end
section
def leV (p q:PV):Prop:=∀ S y,PRel S p y→PRel S q y
def leL:List PV→List PV→Prop
 | [],[]=>True
 | a :: l,b :: m=>leV a b∧leL l m
 | _,_=>False
def leR:List (List PV)→List (List PV)→Prop
 | [],[]=>True
 | a :: l,b :: m=>leL a b∧leR l m
 | _,_=>False
theorem leV.refl (p:PV):leV p p:=fun _ _ h=>h
theorem leL.refl:∀ l:List PV,leL l l
 | []=>trivial
 | a :: l=>⟨leV.refl a,leL.refl l⟩
theorem leL.len:∀ {l m:List PV},leL l m→m.length=l.length
 | [],[],_=>rfl
 | a :: l,b :: m,h=>by simp [leL.len h.2]
 | [],b :: m,h=>h.elim
 | a :: l,[],h=>h.elim
theorem leR.len:∀ {l m:List (List PV)},leR l m→m.length=l.length
 | [],[],_=>rfl
 | a :: l,b :: m,h=>by simp [leR.len h.2]
 | [],b :: m,h=>h.elim
 | a :: l,[],h=>h.elim
theorem leL.get:∀ {l m:List PV},leL l m→∀ (j:Nat) (q:PV),m[j]?=some q→∃ p,l[j]?=some p∧leV p q
 | [],[],_,j,q,e=>by simp at e
 | a :: l,b :: m,h,0,q,e=>by simp at e;subst e;exact ⟨a,rfl,h.1⟩
 | a :: l,b :: m,h,j+1,q,e=>by simp at e;simpa using leL.get h.2 j q e
 | [],b :: m,h,_,_,_=>h.elim
 | a :: l,[],h,_,_,_=>h.elim
theorem leR.get:∀ {l m:List (List PV)},leR l m→∀ (j:Nat) (q:List PV),m[j]?=some q→∃ p,l[j]?=some p∧leL p q
 | [],[],_,j,q,e=>by simp at e
 | a :: l,b :: m,h,0,q,e=>by simp at e;subst e;exact ⟨a,rfl,h.1⟩
 | a :: l,b :: m,h,j+1,q,e=>by simp at e;simpa using leR.get h.2 j q e
 | [],b :: m,h,_,_,_=>h.elim
 | a :: l,[],h,_,_,_=>h.elim
theorem leV.nsl (n:Nat):leV .nsl (.sl n []):=fun S y h=>PRel.nsl_sl h n
theorem leV.sl {n:Nat} {l m:List (List PV)} (h:leR l m):leV (.sl n l) (.sl n m):=fun S y q=>by
 cases q with
 | sl _ _ a cap f h1 h2 h3 h4=>
  have hl:=h.len;have:=PRel.sl (S:=S) n m a cap f (by omega)
   (fun i row e=>by obtain ⟨r,e1,e2⟩:=h.get i row e;rw [e2.len];exact h2 i r e1)
   (fun i row j p e e'=>by
    obtain ⟨r,e1,e2⟩:=h.get i row e;obtain ⟨p',e3,_⟩:=e2.get j p e';exact h3 i r j p' e1 e3)
   (fun i row j p e e'=>by
    obtain ⟨r,e1,e2⟩:=h.get i row e;obtain ⟨p',e3,e4⟩:=e2.get j p e';exact e4 S _ (h4 i r j p' e1 e3))
  rw [hl] at this;exact this
theorem leV.agg {l m:List PV} (h:leL l m):leV (.agg l) (.agg m):=fun S y q=>by
 cases q with
 | agg _ vs hl hh=>
  exact .agg m vs (by rw [h.len];exact hl) fun j p v e e'=>by
   obtain ⟨p',e3,e4⟩:=h.get j p e;exact e4 S _ (hh j p' v e3 e')
theorem Best.weak {P:Program} {f:FuncId} {ps:List PV} {v v':PV} (h:Best P f ps (.p v)) (hv:leV v v'):Best P f ps (.p v'):=
 ⟨h.1,fun S w xs hS hx=>(h.2 S w xs hS hx).mono fun e w' ⟨x,S',h1,h2,h3,h4,h5,h6⟩=>⟨x,S',h1,h2,h3,h4,h5,hv _ _ h6⟩⟩
theorem leV.tup {l m:List PV} (h:leL l m):leV (.tup l) (.tup m):=fun S y q=>by
 cases q with
 | tup _ vs hl hh=>
  exact .tup m vs (by rw [h.len];exact hl) fun j p v e e'=>by
   obtain ⟨p',e3,e4⟩:=h.get j p e;exact e4 S _ (hh j p' v e3 e')
end
section
attribute [local simp ↓] oneD2 oneI oneC onePa onePi oneSp
theorem oneI3 (l:List (Int×Int×Int)):((l.map i3Row).all fun r=>r.all PV.one)=true:=by
 rw [List.all_eq_true];intro r hr;obtain ⟨u,_,rfl⟩:=List.mem_map.1 hr;rfl
theorem b16 (a:List Dpl) (hl:a.length≤1000000):Bt 16 [.sl 6 (a.map dplRow),.sl 6 (a.map dplRow)] (.p (.bool true)):=by
 refine best mixed fn16 ok16 (by simp) ?_;simp -dsimp [ac16];refine loopC a.length (fun k=>⟨[(0,.p (.sl 6 (a.map dplRow))),(1,.p (.sl 6 (a.map dplRow))),(5,.p (.int .i64 k))],[]⟩) (fun _=>True) (fun k hk _=>?_) trivial (by simp)
 by_cases h:k<a.length
 ·have wk:R ((k:Int)+1):=rO (by omega);obtain ⟨⟨n,i,f,l,x,w⟩,e⟩:=gn a[k];simp -dsimp [h,e,dplRow,wr wk]
 ·have:k=a.length:=by omega
  subst this;simp -dsimp [h]
theorem b11 (a:List (Int×Int×Int)) (hl:a.length≤1000000):Bt 11 [.sl 3 (a.map i3Row),.sl 3 (a.map i3Row)] (.p (.bool true)):=by
 refine best mixed fn11 ok11 (by simp) ?_;simp -dsimp [ac11];refine loopC a.length (fun k=>⟨[(0,.p (.sl 3 (a.map i3Row))),(1,.p (.sl 3 (a.map i3Row))),(5,.p (.int .i64 k))],[]⟩) (fun _=>True) (fun k hk _=>?_) trivial (by simp)
 by_cases h:k<a.length
 ·have wk:R ((k:Int)+1):=rO (by omega);obtain ⟨⟨x,y,z⟩,e⟩:=gn a[k];simp -dsimp [h,e,i3Row,wr wk]
 ·have:k=a.length:=by omega
  subst this;simp -dsimp [h]
def exA:Cor:=⟨⟨#[]⟩,0,[],[],0,[⟨32,0,16,[]⟩,⟨64,0,32,[]⟩,⟨65,0,40,[]⟩],[(64,65,-8)],[],⟨#[]⟩⟩
def exB:Cor:=⟨⟨#[]⟩,0,[],[],0,[⟨65,0,64,[]⟩,⟨104,0,64,[]⟩],[],[],⟨#[]⟩⟩
def exL:List Cor:=[exA,exB]
theorem ex_fine:∀ c∈exL,c.fine:=by
 intro c hc;simp only [exL,List.mem_cons,List.not_mem_nil,or_false] at hc;rcases hc with rfl | rfl
 ·exact ⟨by simp [exA],by simp [exA],by simp [exA],by simp [exA],by simp [exA,R],by simp [exA]⟩
 ·exact ⟨by simp [exB],by simp [exB],by simp [exB],by simp [exB],by simp [exB,R],by simp [exB]⟩
theorem ex_ok2:CorsOk2 exL:=⟨by simp [exL],ex_fine⟩
def exS:Stg:=⟨8,[],0⟩
def exT:List UInt8:=[64,65,32,104,65]
def exPs:List Par:=[⟨exT,exS⟩,⟨[65],exS⟩]
theorem ex_ps:ParsOk exPs:=⟨by simp [exPs],fun p hp=>by
 simp only [exPs,List.mem_cons,List.not_mem_nil,or_false] at hp;rcases hp with rfl | rfl
 ·exact ⟨by simp [exT],by simp [fitN,exS,CL],by simp [exS]⟩
 ·exact ⟨by simp,by simp [fitN,exS,CL],by simp [exS]⟩⟩
instance:DecidableEq Plc:=fun a b=>decidable_of_iff (a.i=b.i∧a.f=b.f∧a.l=b.l∧a.x=b.x∧a.w=b.w) (by cases a;cases b;simp)
def exD:List Dpl:=[(0,⟨0,0,0,0,4⟩),(0,⟨1,0,0,4,4⟩),(0,⟨2,0,0,8,2⟩),(0,⟨3,1,1,0,8⟩),(0,⟨4,0,2,0,5⟩),(1,⟨0,0,3,0,5⟩)]
theorem ex_doc:docL exL 10 exPs=exD:=by decide +kernel
theorem ex_pcs:piecesN exL exT=[(0,3,0),(3,4,1),(4,5,0)]:=by decide +kernel
theorem ex_cp (fr up:Int):copyN exL 10 exPs fr up=(cpF exPs fr up exD).acc:=by unfold copyN;rw [ex_doc]
theorem ex_c1:copyN exL 10 exPs 0 6=[64,65,32,104,65,10,65]:=by rw [ex_cp];decide +kernel
theorem ex_c2:copyN exL 10 exPs 3 6=[104,65,10,65]:=by rw [ex_cp];decide +kernel
theorem ex_c3:copyN exL 10 exPs (-5) 2=[64,65]:=by rw [ex_cp];decide +kernel
theorem ex_c4:copyN exL 10 exPs 2 2=[]:=by rw [ex_cp];decide +kernel
theorem b28:Bt 28 [] (.p (.tup [.agg (docRow 10 [] exPs),.sl 9 (exL.map corRow)])):=by
 have h:Bt 28 [] (.p (.tup [.agg [.int .i64 10,.nsl,.sl 4 [[.str ⟨#[64,65,32,104,65]⟩,.int .i64 8,.nsl,.int .i64 0],[.str ⟨#[65]⟩,.int .i64 8,.nsl,.int .i64 0]]],
   .sl 9 [[.str ⟨#[]⟩,.int .i64 0,.nsl,.nsl,.int .i64 0,.sl 4 [[.int .i64 32,.int .i64 0,.int .i64 16,.nsl],[.int .i64 64,.int .i64 0,.int .i64 32,.nsl],[.int .i64 65,.int .i64 0,.int .i64 40,.nsl]],.sl 3 [[.int .i64 64,.int .i64 65,.int .i64 (-8)]],.nsl,.str ⟨#[]⟩],
   [.str ⟨#[]⟩,.int .i64 0,.nsl,.nsl,.int .i64 0,.sl 4 [[.int .i64 65,.int .i64 0,.int .i64 64,.nsl],[.int .i64 104,.int .i64 0,.int .i64 64,.nsl]],.nsl,.nsl,.str ⟨#[]⟩]]])):=by
  refine best mixed fn28 ok28 (by simp) ?_;simp -dsimp [ac28,List.range,List.range.loop,resOf]
 refine Best.weak h (leV.tup ⟨leV.agg ⟨leV.refl _,leV.nsl _,leV.sl ⟨⟨leV.refl _,leV.refl _,leV.nsl _,leV.refl _,trivial⟩,⟨leV.refl _,leV.refl _,leV.nsl _,leV.refl _,trivial⟩,trivial⟩,trivial⟩,leV.sl ?_,trivial⟩);refine ⟨⟨leV.refl _,leV.refl _,leV.nsl _,leV.nsl _,leV.refl _,leV.sl ⟨⟨leV.refl _,leV.refl _,leV.refl _,leV.nsl _,trivial⟩,⟨leV.refl _,leV.refl _,leV.refl _,leV.nsl _,trivial⟩,⟨leV.refl _,leV.refl _,leV.refl _,leV.nsl _,trivial⟩,trivial⟩,leV.refl _,leV.nsl _,leV.refl _,trivial⟩,
  ⟨leV.refl _,leV.refl _,leV.nsl _,leV.nsl _,leV.refl _,leV.sl ⟨⟨leV.refl _,leV.refl _,leV.refl _,leV.nsl _,trivial⟩,⟨leV.refl _,leV.refl _,leV.refl _,leV.nsl _,trivial⟩,trivial⟩,leV.nsl _,leV.nsl _,leV.refl _,trivial⟩,trivial⟩
theorem b29 (line x want:Int) (found:Bool):Bt 29 [.int .i64 line,.int .i64 x,.int .i64 want,.bool found] (.p (.bool (decide (max (pickI line x exD) 0=want) && (decide (0≤pickI line x exD) == found)))):=by
 have q:=b18 exL ex_ok2 10 (by decide) [] exPs ex_ps line x;rw [ex_doc] at q;have q28:=b28
 simp only [docRow] at q q28;refine best mixed fn29 ok29 (by simp) ?_;simp -dsimp [ac29];refine cP q28 ?_;simp -dsimp;refine cP q ?_
 by_cases h:max (pickI line x exD) 0=want
 ·simp -dsimp [h]
 ·simp -dsimp [h]
end
section
attribute [local simp ↓] oneD2 oneI oneC onePa onePi oneSp oneI3
theorem b9:Bt 9 [] (.p (.bool true)):=by
 have q15:=b15 exL ex_ok2 10 (by decide) [] exPs ex_ps;have q12:Bt 12 [.sl 9 (exL.map corRow),.str ⟨#[64,65,32,104,65]⟩] (.p (.sl 3 (([(0,3,0),(3,4,1),(4,5,0)]:List (Int×Int×Int)).map i3Row))):=by
  have:=b12 exL ex_ok2 exT (by decide);rw [ex_pcs] at this;exact this
 have q11:=b11 [(0,3,0),(3,4,1),(4,5,0)] (by decide);have p1:Bt 29 [.int .i64 0,.int .i64 4,.int .i64 1,.bool true] (.p (.bool true)):=b29 0 4 1 true;have p2:Bt 29 [.int .i64 0,.int .i64 8,.int .i64 2,.bool true] (.p (.bool true)):=b29 0 8 2 true;have p3:Bt 29 [.int .i64 1,.int .i64 7,.int .i64 3,.bool true] (.p (.bool true)):=b29 1 7 3 true;have p4:Bt 29 [.int .i64 1,.int .i64 8,.int .i64 0,.bool false] (.p (.bool true)):=b29 1 8 0 false;have p5:Bt 29 [.int .i64 3,.int .i64 (-1),.int .i64 0,.bool false] (.p (.bool true)):=b29 3 (-1) 0 false;have c1:=b17 exL ex_ok2 10 (by decide) [] exPs ex_ps 0 6;have c2:=b17 exL ex_ok2 10 (by decide) [] exPs ex_ps 3 6;have c3:=b17 exL ex_ok2 10 (by decide) [] exPs ex_ps (-5) 2;have c4:=b17 exL ex_ok2 10 (by decide) [] exPs ex_ps 2 2;have q28:=b28;rw [ex_c1] at c1;rw [ex_c2] at c2;rw [ex_c3] at c3;rw [ex_c4] at c4;rw [ex_doc] at q15;simp only [docRow] at q15 c1 c2 c3 c4 q28;refine best mixed fn9 ok9 (by simp) ?_;simp -dsimp [ac9];refine cP q28 ?_;simp -dsimp;refine cP q15 ?_;have hl:exD.length=6:=rfl
 simp -dsimp [hl];refine loopC 6 (fun k=>⟨[(1,.ptr (1,0) 3 0 0),(2,.p (.sl 9 (exL.map corRow))),(3,.p (.sl 6 (exD.map dplRow))),(4,.ptr (4,0) 18 0 0),(5,.p (.int .i64 k))],
  [((1,0),.box [.p (.int .i64 10),.p (.sl 3 []),.p (.sl 4 (exPs.map parRow))]),((4,0),.box [.p (.int .i64 0),.p (.int .i64 0),.p (.int .i64 0),.p (.int .i64 0),.p (.int .i64 1),.p (.int .i64 0),.p (.int .i64 0),.p (.int .i64 2),.p (.int .i64 0),.p (.int .i64 0),.p (.int .i64 3),.p (.int .i64 1),.p (.int .i64 0),.p (.int .i64 4),.p (.int .i64 2),.p (.int .i64 1),.p (.int .i64 0),.p (.int .i64 3)])]⟩) (fun _=>True) (fun k hk _=>?_) trivial (by simp)
 have hk':k=0∨k=1∨k=2∨k=3∨k=4∨k=5∨k=6:=by omega
 have w1:R 1:=⟨by decide,by decide⟩;have w2:R 2:=⟨by decide,by decide⟩;have w3:R 3:=⟨by decide,by decide⟩;have w4:R 4:=⟨by decide,by decide⟩;have w5:R 5:=⟨by decide,by decide⟩;have w6:R 6:=⟨by decide,by decide⟩;rcases hk' with rfl | rfl | rfl | rfl | rfl | rfl | rfl
 ·simp -dsimp [exD,dplRow,wr w1]
 ·simp -dsimp [exD,dplRow,wr w2]
 ·simp -dsimp [exD,dplRow,wr w3]
 ·simp -dsimp [exD,dplRow,wr w4]
 ·simp -dsimp [exD,dplRow,wr w5]
 ·simp -dsimp [exD,dplRow,wr w6]
 ·simp -dsimp;refine cP q12 ?_;simp -dsimp [List.range,List.range.loop];refine call_f q11 (by simp [i3Row]) (by simp) (by simp) ?_;simp -dsimp;refine cP p1 ?_;simp -dsimp;refine cP p2 ?_;simp -dsimp;refine cP p3 ?_;simp -dsimp;refine cP p4 ?_;simp -dsimp;refine cP p5 ?_;simp -dsimp;refine cP c1 ?_;simp -dsimp [ba];refine cP c2 ?_;simp -dsimp [ba];refine cP c3 ?_;simp -dsimp [ba];refine cP c4 ?_;simp -dsimp [ba]
end
section
theorem foldl_maxL (V:List Plc):∀ m:Int,m≤V.foldl (fun m p=>max m (p.l+1)) m∧∀ q∈V,q.l+1≤V.foldl (fun m p=>max m (p.l+1)) m:=by
 induction V with
 | nil=>intro m;simp
 | cons a V ih=>
  intro m;obtain ⟨h1,h2⟩:=ih (max m (a.l+1));simp only [List.foldl_cons];refine ⟨by omega,fun q hq=>?_⟩;rcases List.mem_cons.1 hq with rfl | hq
  ·omega
  ·exact h2 q hq
theorem maxL_ge (V:List Plc):1≤maxL V∧∀ q∈V,q.l+1≤maxL V:=foldl_maxL V 1
theorem paraK_mem {cs:List Cor} {w:Int} {ps:List Par} (hp:ParsOk ps) {k:Nat} {x:Dpl} (h:x∈paraK cs w ps k):x.1=k∧lineK cs w ps k≤x.2.l∧x.2.l<lineK cs w ps (k+1):=by
 unfold paraK at h;split at h
 ·rename_i p hq;obtain ⟨q,hq2,rfl⟩:=List.mem_map.1 h;have h1:=(parV_b (cs:=cs) (w:=w) (hp.2 p (List.mem_of_getElem? hq))).2 q hq2;have h2:=(maxL_ge (parV cs w p)).2 q hq2;simp only [shiftP,lineK,hq];exact ⟨trivial,by omega,by omega⟩
 ·simp at h
structure CorEq (c d:Cor):Prop where
 ax:d.ax.length=c.ax.length
 rg:d.rg=c.rg
 ch:d.ch.map (fun x=>(x.code,x.width,x.wide))=c.ch.map (fun x=>(x.code,x.width,x.wide))
 pr:d.pr=c.pr
theorem CorEq.find {c d:Cor} (h:CorEq c d) (code:Int):(findN d code).map (fun x=>(x.code,x.width,x.wide))=(findN c code).map (fun x=>(x.code,x.width,x.wide)):=by
 have key:∀ l:List Ch,(l.find? fun x=>decide (x.code=code)).map (fun x=>(x.code,x.width,x.wide))=(l.map fun x=>(x.code,x.width,x.wide)).find? fun y=>decide (y.1=code):=fun l=>by
  rw [List.find?_map];rfl
 unfold findN;rw [key,key,h.ch]
theorem CorEq.has {c d:Cor} (h:CorEq c d) (code:Int):hasN d code=hasN c code:=by
 have:=congrArg Option.isSome (h.find code);simpa [hasN] using this
theorem CorEq.all {c d:Cor} (h:CorEq c d) (codes:List Int):allN codes d=allN codes c:=by
 simp only [allN,h.has]
theorem CorEq.chW {c d:Cor} (h:CorEq c d) (x y:Ch) (hw:x.width=y.width) (hd:x.wide=y.wide) (s:Stg):chW d x s=chW c y s:=by
 simp only [Abs.A30.chW,h.rg,hw,hd]
theorem CorEq.cw {c d:Cor} (h:CorEq c d) (s:Stg) (code:Int):cwN d s code=cwN c s code:=by
 have hf:=h.find code;unfold cwN widthN;rw [h.ax];cases e1:findN c code with
 | none=>
  rw [e1] at hf;cases e2:findN d code with
  | none=>rfl
  | some y=>rw [e2] at hf;simp at hf
 | some x=>
  rw [e1] at hf;cases e2:findN d code with
  | none=>rw [e2] at hf;simp at hf
  | some y=>
   rw [e2] at hf;simp only [Option.map_some,Option.some.injEq,Prod.mk.injEq] at hf;dsimp only;rw [h.chW y x hf.2.1 hf.2.2]
theorem CorEq.betw {c d:Cor} (h:CorEq c d) (l r n:Int):betwN d l r n=betwN c l r n:=by
 simp only [betwN,h.pr]
theorem CorEq.sum {c d:Cor} (h:CorEq c d) (s:Stg):∀ (l:List Int) (b:Int),sumW d s b l=sumW c s b l
 | [],_=>rfl
 | x :: l,b=>by rw [sumW,sumW,h.cw,h.betw,h.sum s l x]
inductive CorsEq:List Cor→List Cor→Prop
 | nil:CorsEq [] []
 | cons {c d:Cor} {l m:List Cor}:CorEq c d→CorsEq l m→CorsEq (c :: l) (d :: m)
theorem CorEq.refl (c:Cor):CorEq c c:=⟨rfl,rfl,rfl,rfl⟩
theorem CorsEq.get {l m:List Cor} (h:CorsEq l m):∀ i,CorEq (l.getD i cor0) (m.getD i cor0):=by
 induction h with
 | nil=>intro i;exact CorEq.refl _
 | cons h1 _ ih=>
  intro i;cases i with
  | zero=>exact h1
  | succ i=>simpa using ih i
end
end Go.Abs.A30
namespace Go.Abs
open Go
set_option linter.unusedSimpArgs false
set_option linter.unusedVariables false
def Rd {α:Type} (P:Program) (w:World) (t:TypeId) (f:α→List PV) (ok:α→Prop):Prop:=
 ∀ (H:Type) (en:TypeId×Value→H) (base:Nat) (sp:Nat→Bool) (hd:Bool) (fuel:Nat) (cs:List Value) (x:DataW H×List MemPlace),DataW.trod en P w base sp hd fuel t cs=some x→∃ a,ok a∧Ps (full w) (f a) cs
variable {P:Program} {w:World} {t:TypeId}
theorem Ps.one {S:Snap} {p:PV} {v:Value} (h:PRel S p v):Ps S [p] [v]:=by
 refine ⟨rfl,fun j q u e1 e2=>?_⟩
 match j with
 | 0=>simp at e1 e2;subst e1 e2;exact h
 | j+1=>simp at e1
theorem Ps.nil {S:Snap}:Ps S [] []:=⟨rfl,fun j q u e1 e2=>by simp at e1⟩
theorem Ps.append {S:Snap} {ps qs:List PV} {vs us:List Value} (h:Ps S ps vs) (k:Ps S qs us):Ps S (ps++qs) (vs++us):=by
 refine ⟨by simp [h.1,k.1],fun j q u e1 e2=>?_⟩
 by_cases hj:j<ps.length
 ·rw [List.getElem?_append_left hj] at e1
  rw [List.getElem?_append_left (by rw [h.1];exact hj)] at e2
  exact h.2 j q u e1 e2
 ·rw [List.getElem?_append_right (by omega)] at e1
  rw [List.getElem?_append_right (by rw [h.1];omega),h.1] at e2
  exact k.2 _ q u e1 e2
theorem Rd.int {k:IntKind} (ht:P.underlying t=some (.int k)):Rd P w t (fun n:Int=>[.int k n]) fun n=>(Lit.int k n).wf=true:=by
 intro H en base sp hd fuel cs x h
 cases fuel with
 | zero=>simp [DataW.trod] at h
 | succ m=>
  unfold DataW.trod at h
  rw [ht] at h
  split at h<;>simp_all
  obtain ⟨⟨rfl,hw⟩,_⟩:=h
  exact ⟨_,hw,Ps.one (.int _ _)⟩
theorem Rd.str (ht:P.underlying t=some .string):Rd P w t (fun s:ByteArray=>[.str s]) fun s=>s.size≤maxLen:=by
 intro H en base sp hd fuel cs x h
 cases fuel with
 | zero=>simp [DataW.trod] at h
 | succ m=>
  unfold DataW.trod at h
  rw [ht] at h
  split at h<;>simp_all
  exact ⟨_,h.1,Ps.one (.str _)⟩
theorem cells_get {base:Nat} {a:Addr} {n:Nat} {cs:List Value} (h:w.cells? base a n=some cs):cs.length=n∧∀ j v,cs[j]?=some v→w.cell? (a.add j)=some v:=by
 unfold World.cells? at h
 split at h
 ·obtain ⟨h1,h2⟩:=mapM_some h
  refine ⟨by simpa using h1,fun j v e=>?_⟩
  obtain ⟨i,e1,e2⟩:=h2 j v e
  have hj:j<n:=by have:=(List.getElem?_eq_some_iff.1 e).1;rw [h1] at this;simpa using this
  rw [List.getElem?_range hj] at e1
  simp at e1;subst e1;exact e2
 ·simp at h
theorem Rd.slice {α:Type} {e:TypeId} {sz:Nat} {f:α→List PV} {ok:α→Prop} (ht:P.underlying t=some (.slice e)) (hc:P.cellsOf e=sz) (hr:Rd P w e f ok) (hf:∀ a,(f a).length=sz) :
  Rd P w t (fun l:List α=>[.sl sz (l.map f)]) fun l=>(∀ a∈l,ok a)∧l.length≤maxLen:=by
 intro H en base sp hd fuel cs x h
 rcases Deep.open_slice ht h with ⟨rfl,_⟩ | ⟨a,len,cap,m,n,D,Pl,rfl,hb,hl,hm,hmm,_,hel⟩
 ·exact ⟨[],⟨by simp,by simp⟩,Ps.one (.sl sz [] none 0 (fun _ _=>undef) (Nat.le_refl _) (by simp) (by simp) (by simp))⟩
 ·have hlm:len≤m:=by rw [hmm];split<;>omega
  have key:∀ k,k≤len→∃ l:List α,l.length=k∧∀ i b,l[i]?=some b→ok b∧∃ cs',w.cells? base (a.add (i*sz)) sz=some cs'∧Ps (full w) (f b) cs':=by
   intro k
   induction k with
   | zero=>intro _;exact ⟨[],rfl,fun i b e=>by simp at e⟩
   | succ k ih=>
    intro hk
    obtain ⟨l,h1,h2⟩:=ih (by omega)
    obtain ⟨cs',g1,g2⟩:=hel k (by omega)
    obtain ⟨b,hb1,hb2⟩:=hr _ _ _ _ _ _ _ _ g2
    rw [hc] at g1
    refine ⟨l++[b],by simp [h1],fun i c e=>?_⟩
    by_cases hi:i<l.length
    ·rw [List.getElem?_append_left hi] at e;exact h2 i c e
    ·have:i=l.length:=by have:=(List.getElem?_eq_some_iff.1 e).1;simp at this;omega
     subst this
     simp at e;subst e
     rw [h1];exact ⟨hb1,cs',g1,hb2⟩
  obtain ⟨l,hl1,hl2⟩:=key len (Nat.le_refl _)
  refine ⟨l,⟨fun b hb=>?_,by omega⟩,Ps.one ?_⟩
  ·obtain ⟨i,hi⟩:=List.getElem?_of_mem hb;exact (hl2 i b hi).1
  ·have cell:∀ (i:Nat) (row:List PV) (j:Nat) (p:PV),(l.map f)[i]?=some row→row[j]?=some p→∃ v,w.cell? (a.add (i*sz+j))=some v∧PRel (full w) p v:=by
    intro i row j p e1 e2
    rw [List.getElem?_map,Option.map_eq_some_iff] at e1
    obtain ⟨b,e1,rfl⟩:=e1
    obtain ⟨_,cs',g1,g2⟩:=hl2 i b e1
    obtain ⟨k1,k2⟩:=cells_get g1
    have hj:j<cs'.length:=by rw [k1,←hf b];exact (List.getElem?_eq_some_iff.1 e2).1
    refine ⟨cs'[j],?_,g2.2 j p _ e2 (List.getElem?_eq_getElem hj)⟩
    rw [←Addr.add_add]
    exact k2 j _ (List.getElem?_eq_getElem hj)
   have hll:(l.map f).length=len:=by simp [hl1]
   have:=PRel.sl (S:=full w) sz (l.map f) (some a) cap (fun i j=>(w.cell? (a.add (i*sz+j))).getD undef) (by omega)
    (fun i row e1=>by
     rw [List.getElem?_map,Option.map_eq_some_iff] at e1
     obtain ⟨b,_,rfl⟩:=e1
     exact hf b)
    (fun i row j p e1 e2=>by
     obtain ⟨v,h1,_⟩:=cell i row j p e1 e2
     exact ⟨a,rfl,by simp [full,h1]⟩)
    (fun i row j p e1 e2=>by
     obtain ⟨v,h1,h2⟩:=cell i row j p e1 e2
     simp only [h1,Option.getD_some];exact h2)
   rwa [hll] at this
def RdF {α:Type} (P:Program) (w:World) (fs:List Field) (f:α→List PV) (ok:α→Prop):Prop:=
 ∀ (H:Type) (en:TypeId×Value→H) (base:Nat) (sp:Nat→Bool) (hd:Bool) (n:Nat) (cs:List Value),(∀ fd∈fs,∃ y,DataW.trod en P w base sp hd n fd.type ((cs.drop fd.offset).take (P.cellsOf fd.type))=some y)→∃ a,ok a∧Ps (full w) (f a) (fs.flatMap fun fd=>(cs.drop fd.offset).take (P.cellsOf fd.type))
theorem RdF.nil:RdF P w [] (fun _:Unit=>[]) fun _=>True:=fun _ _ _ _ _ _ _ _=>⟨(),trivial,Ps.nil⟩
theorem RdF.cons {α β:Type} {fd:Field} {fs:List Field} {f:α→List PV} {g:β→List PV} {ok:α→Prop} {ok':β→Prop} (h:Rd P w fd.type f ok) (k:RdF P w fs g ok'):RdF P w (fd :: fs) (fun x:α×β=>f x.1++g x.2) fun x=>ok x.1∧ok' x.2:=by
 intro H en base sp hd n cs hx
 obtain ⟨y,hy⟩:=hx fd (by simp)
 obtain ⟨a,ha,ha2⟩:=h _ _ _ _ _ _ _ _ hy
 obtain ⟨b,hb,hb2⟩:=k H en base sp hd n cs fun fd' hm=>hx fd' (by simp [hm])
 exact ⟨(a,b),⟨ha,hb⟩,by simpa using ha2.append hb2⟩
def laidOut (P:Program):List Field→Nat→Nat→Bool
 | [],o,n=>o == n
 | fd :: fs,o,n=>fd.offset == o && laidOut P fs (o+P.cellsOf fd.type) n
theorem laidOut_cells {cs:List Value}:∀ {fs:List Field} {o:Nat},laidOut P fs o cs.length=true→(fs.flatMap fun fd=>(cs.drop fd.offset).take (P.cellsOf fd.type))=cs.drop o
 | [],o,h=>by simp [laidOut] at h;subst h;simp
 | fd :: fs,o,h=>by
  simp only [laidOut,Bool.and_eq_true,beq_iff_eq] at h
  rw [List.flatMap_cons,laidOut_cells h.2,h.1,←List.drop_drop,List.take_append_drop]
theorem Rd.struct {α:Type} {fs:List Field} {f:α→List PV} {ok:α→Prop} (ht:P.underlying t=some (.struct fs.toArray)) (ho:laidOut P fs 0 (P.cellsOf t)=true) (hr:RdF P w fs f ok):Rd P w t f ok:=by
 intro H en base sp hd fuel cs x h
 obtain ⟨xs,n,_,rfl,hl,hlen,hfl⟩:=DataW.trod_struct ht h
 obtain ⟨a,ha,ha2⟩:=hr H en base sp hd n cs (fun fd hm=>by
  obtain ⟨i,hi⟩:=List.getElem?_of_mem hm
  have:=hfl i fd (by simpa using hi)
  have hlt:i<xs.length:=by rw [hlen];simpa using (List.getElem?_eq_some_iff.1 hi).1
  rw [this,List.getElem?_eq_getElem hlt]
  exact ⟨_,rfl⟩)
 rw [←hl] at ho
 rw [laidOut_cells ho,List.drop_zero] at ha2
 exact ⟨a,ha,ha2⟩
theorem agg_of {S:Snap} {ps:List PV} {cs:Array Value} (h:Ps S ps cs.toList):PRel S (.agg ps) (.agg cs):=by
 have:=PRel.agg (S:=S) ps cs.toList h.1 h.2
 simpa using this
open Go.WideShapes in
theorem Rd.argT {α:Type} {fs:Array Field} {f:α→List PV} {ok:α→Prop} {H:Type} {en:TypeId×Value→H} {base b0:Nat} {sp:Nat→Bool} {hd:Bool} {r:Reach} {v:Value} {d:DataW H} {p:List MemPlace} (ht:P.underlying t=some (.struct fs)) (h:Rd P w t f ok) (ho:Value.okWide P w r b0 t v) (hv:DataW.Trod en P w base sp hd t v d p):∃ a,ok a∧PRel (full w) (.agg (f a)) v:=by
 obtain ⟨cs,rfl,_⟩:=okWide_struct ht ho
 obtain ⟨m,hm⟩:=hv
 obtain ⟨x,h1,h2⟩:=h _ _ _ _ _ _ _ _ hm
 exact ⟨x,h1,agg_of h2⟩
theorem Rd.argA {α:Type} {n:Nat} {e:TypeId} {f:α→List PV} {ok:α→Prop} {H:Type} {en:TypeId×Value→H} {base b0:Nat} {sp:Nat→Bool} {hd:Bool} {r:Reach} {v:Value} {d:DataW H} {p:List MemPlace} (ht:P.underlying t=some (.array n e)) (h:Rd P w t f ok) (ho:Value.okWide P w r b0 t v) (hv:DataW.Trod en P w base sp hd t v d p):∃ a,ok a∧PRel (full w) (.agg (f a)) v:=by
 unfold Value.okWide at ho
 rw [ht] at ho
 obtain ⟨cs,rfl,_⟩:=ho
 obtain ⟨m,hm⟩:=hv
 obtain ⟨x,h1,h2⟩:=h _ _ _ _ _ _ _ _ hm
 exact ⟨x,h1,agg_of h2⟩
theorem Ps.cons {S:Snap} {p:PV} {v:Value} {ps:List PV} {vs:List Value} (h:PRel S p v) (k:Ps S ps vs):Ps S (p :: ps) (v :: vs):=(Ps.one h).append k
theorem Rd.arr2 {α:Type} {e:TypeId} {sz:Nat} {f:α→List PV} {ok:α→Prop} (ht:P.underlying t=some (.array 2 e)) (hc:P.cellsOf e=sz) (hs:P.cellsOf t=2*sz) (hr:Rd P w e f ok):Rd P w t (fun x:α×α=>f x.1++f x.2) fun x=>ok x.1∧ok x.2:=by
 intro H en base sp hd fuel cs x h
 obtain ⟨xs,m,_,rfl,hl,hlen,hfl⟩:=DataW.trod_array ht h
 have get:∀ i,i<2→∃ a,ok a∧Ps (full w) (f a) ((cs.drop (i*sz)).take sz):=fun i hi=>by
  have h0:=hfl i hi
  rw [hc,List.getElem?_eq_getElem (by omega)] at h0
  exact hr _ _ _ _ _ _ _ _ h0
 obtain ⟨a,ha,ha2⟩:=get 0 (by omega)
 obtain ⟨b,hb,hb2⟩:=get 1 (by omega)
 refine ⟨(a,b),⟨ha,hb⟩,?_⟩
 have:=ha2.append hb2
 have e:(cs.drop (0*sz)).take sz++(cs.drop (1*sz)).take sz=cs:=by
  apply List.ext_getElem?
  intro i
  simp only [Nat.zero_mul,List.drop_zero,Nat.one_mul]
  have l0:(cs.take sz).length=sz:=by simp;omega
  by_cases h1:i<sz
  ·rw [List.getElem?_append_left (by omega),List.getElem?_take,if_pos h1]
  ·rw [List.getElem?_append_right (by omega),l0]
   by_cases h2:i - sz<sz
   ·rw [List.getElem?_take,if_pos h2,List.getElem?_drop];congr 1;omega
   ·rw [List.getElem?_take,if_neg h2,List.getElem?_eq_none (by omega)]
 rwa [e] at this
end Go.Abs
