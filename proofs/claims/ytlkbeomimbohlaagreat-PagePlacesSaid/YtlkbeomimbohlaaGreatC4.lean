/- A part of the proof: an abstract reading of the model, contracts of functions. -/
import Derived.Test.YtlkbeomimbohlaaGreatC3
import Derived.Lib.ConvBytes
import Derived.Laws.BytesArg
namespace Go.Abs
open Go
set_option linter.unusedSimpArgs false
set_option linter.unusedVariables false
section
variable {P:Program} {N:Nat} {w0:Base} {ι:Inj} {S:Snap} {F:FF} {a:Act} {w:World}
theorem St.rows_ok (h:St N w0 ι S F a w) {x:AV} {v:Value} {size:Nat} {rows:List (List PV)} (hx:AVRel ι S x v) (e:F.rows size x=some rows) (hs:0<size) :
  (∀ (i:Nat) (row:List PV),rows[i]?=some row→row.length=size)∧∃ p cap,v=.slice p rows.length cap ∧
  (rows≠[]→∃ (q:Addr) (news:List Value),p=some q∧news.length=rows.length*size∧(∀ j u,news[j]?=some u→w.cell? (q.add j)=some u) ∧
   ∀ (i:Nat) (row:List PV) (j:Nat) (pv:PV),rows[i]?=some row→row[j]?=some pv→∃ u,news[i*size+j]?=some u∧PRel S pv u):=by
 -- enough: each cell is there
 have main:∀ (q:Addr),(∀ (i:Nat) (row:List PV),rows[i]?=some row→row.length=size)→(∀ (i:Nat) (row:List PV) (j:Nat) (pv:PV),rows[i]?=some row→row[j]?=some pv→∃ u,w.cell? (q.add (i*size+j))=some u∧PRel S pv u) →
   ∃ (q':Addr) (news:List Value),some q=some q'∧news.length=rows.length*size∧(∀ j u,news[j]?=some u→w.cell? (q'.add j)=some u) ∧
   ∀ (i:Nat) (row:List PV) (j:Nat) (pv:PV),rows[i]?=some row→row[j]?=some pv→∃ u,news[i*size+j]?=some u∧PRel S pv u:=by
  intro q hlen hc
  have hall:∀ j,j<rows.length*size→∃ u,w.cell? (q.add j)=some u:=by
   intro j hj
   have hi:j / size<rows.length:=Nat.div_lt_of_lt_mul (by rw [Nat.mul_comm];exact hj)
   have hrow:rows[j / size]?=some rows[j / size]:=by simp [hi]
   have hl:=hlen _ _ hrow
   have hm:j % size<size:=Nat.mod_lt _ hs
   obtain ⟨u,hu,_⟩:=hc _ _ (j % size) ((rows[j / size])[j % size]'(by omega)) hrow (by simp)
   refine ⟨u,?_⟩
   rw [←hu]
   congr 2
   have:=Nat.div_add_mod j size
   rw [Nat.mul_comm] at this
   exact this.symm
  refine ⟨q,(List.range (rows.length*size)).map fun j=>(w.cell? (q.add j)).getD undef,rfl,by simp,fun j u hu=>?_,fun i row j pv e1 e2=>?_⟩
  ·simp only [List.getElem?_map,Option.map_eq_some_iff] at hu
   obtain ⟨j',h1,rfl⟩:=hu
   have hj:j<rows.length*size:=by have:=(List.getElem?_eq_some_iff.1 h1).1;simpa using this
   simp [hj] at h1;subst h1
   obtain ⟨u,hu⟩:=hall j hj
   simp [hu]
  ·obtain ⟨u,h1,h2⟩:=hc i row j pv e1 e2
   refine ⟨u,?_,h2⟩
   have hi:=(List.getElem?_eq_some_iff.1 e1).1
   have hj:=(List.getElem?_eq_some_iff.1 e2).1
   have hl:=hlen i row e1
   have hlt:i*size+j<rows.length*size:=by
    have:(i+1)*size≤rows.length*size:=Nat.mul_le_mul_right _ hi
    rw [Nat.add_mul] at this;omega
   simp [hlt,h1]
 unfold FF.rows at e
 split at e
 ·simp at e;subst e
  cases hx.inv_p
  exact ⟨by simp,none,0,rfl,by simp⟩
 ·rename_i sz rows'
  split at e
  ·rename_i hsz;subst hsz
   simp at e;subst e
   cases hx.inv_p with
   | sl _ _ p cap f hcap hsz hcell hr=>
    refine ⟨hsz,p,cap,rfl,fun hne=>?_⟩
    cases rows' with
    | nil=>simp at hne
    | cons r rs=>
     have hr0:=hsz 0 r rfl
     obtain ⟨b,rfl,_⟩:=hcell 0 r 0 (r[0]'(by omega)) rfl (by simp)
     exact main b hsz (fun i row j pv e1 e2=>by
      obtain ⟨b',q,hS⟩:=hcell i row j pv e1 e2
      simp at q;subst q
      exact ⟨_,h.snap _ _ hS,hr i row j pv e1 e2⟩)
  ·simp at e
 ·rename_i s sz off len
  split at e
  ·rename_i e0 sz' rows' hb
   split at e
   ·rename_i hc
    obtain ⟨rfl,rfl,hle⟩:=hc
    simp at e;subst e
    obtain ⟨hwf,hm⟩:=h.mem s _ hb
    have hget:∀ i,((rows'.drop off).take len)[i]?=if i<len then rows'[off+i]? else none:=by
     intro i;simp [List.getElem?_take,List.getElem?_drop]
    have hlen:((rows'.drop off).take len).length=len:=by simp;omega
    have hwf':∀ (i:Nat) (row:List PV),((rows'.drop off).take len)[i]?=some row→row.length=sz':=fun i row e1=>by
     rw [hget] at e1
     split at e1
     ·exact hwf _ row e1
     ·simp at e1
    refine ⟨hwf',?_⟩
    cases hx with
    | ref _ _ _ _ b total cap p hi hct hl ha=>
     refine ⟨some p,cap,by rw [hlen],fun hne=>?_⟩
     have hl0:0<len:=by
      rcases Nat.eq_zero_or_pos len with h0 | h0
      ·subst h0;simp at hne
      ·exact h0
     have hp:p=⟨b,off*sz',none⟩:=by
      rcases ha with h0 | h0
      ·omega
      ·exact h0
     subst hp
     refine main _ hwf' (fun i row j pv e1 e2=>?_)
     rw [hget] at e1
     split at e1
     ·rcases hm with ⟨q,_⟩ | ⟨b',t',e',c,q1,q2,q3,q4,q5,q6,q7⟩
      ·rw [hi] at q;simp at q
      ·rw [hi] at q1;simp at q1;obtain ⟨rfl,rfl⟩:=q1
       obtain ⟨u,u1,u2⟩:=q7 (off+i) j (.p pv) (by simp [Blk.cell,e1,e2])
       refine ⟨u,?_,u2.inv_p⟩
       rw [addr_add,q2.cell,←u1]
       congr 1
       simp only [Blk.size,Nat.add_mul,Nat.add_assoc]
     ·simp at e1
    | refnil _ _ hi=>
     exact ⟨none,0,by simp,by simp⟩
   ·simp at e
  ·simp at e
 ·simp at e
theorem FF.app_append {dst:Option Nat} {s s1:Slot} {k:Blk} {v:AV} {del:List Slot} (hs:s1 ∉ del) :
  F.app dst ⟨v,[(s1,k)],del⟩={ F with var:=fun t=>if dst=some t then some v else F.var t,blk:=fun s'=>if s'=s1 then some k else if s'∈del then none else F.blk s' }:=by
 unfold FF.app
 congr 1
 funext s'
 simp only [Del.blk,look]
 by_cases h1:s'=s1
 ·simp [h1]
 ·by_cases h2:s'∈del<;>simp [h1,h2]
theorem row_append {size:Nat} {r1 r2:List (List PV)} {xs ys:List Value} (hl:xs.length=r1.length*size)
  (h1:∀ (i:Nat) (row:List PV) (j:Nat) (pv:PV),r1[i]?=some row→row[j]?=some pv→∃ u,xs[i*size+j]?=some u∧PRel S pv u)
  (h2:∀ (i:Nat) (row:List PV) (j:Nat) (pv:PV),r2[i]?=some row→row[j]?=some pv→∃ u,ys[i*size+j]?=some u∧PRel S pv u) :
  ∀ (i:Nat) (row:List PV) (j:Nat) (pv:PV),(r1++r2)[i]?=some row→row[j]?=some pv→∃ u,(xs++ys)[i*size+j]?=some u∧PRel S pv u:=by
 intro i row j pv e1 e2
 rw [List.getElem?_append] at e1
 split at e1
 ·obtain ⟨u,q1,q2⟩:=h1 i row j pv e1 e2
  refine ⟨u,?_,q2⟩
  rw [List.getElem?_append,if_pos (List.getElem?_eq_some_iff.1 q1).1]
  exact q1
 ·rename_i hge
  obtain ⟨u,q1,q2⟩:=h2 _ row j pv e1 e2
  refine ⟨u,?_,q2⟩
  have hm:i*size=r1.length*size+(i - r1.length)*size:=by rw [←Nat.add_mul];congr 1;omega
  rw [List.getElem?_append,if_neg (by rw [hl,hm];omega),hl]
  rw [←q1]
  congr 1
  rw [hm];omega
theorem evA_ok (h:St N w0 ι S F a w) {o:Oper} {ao:AOp} {d:Nat} {v:AV} {s1:Slot} {k:Blk} {del:List Slot} (hr:resolveOp P o.op=some ao) (he:evA F d ao=some (v,s1,k,del)) (hd:F.noSlot s1) (hdb:d<BIG) (hdst:∀ d,o.dst=some d→d<N) :
  ∃ x w' ι',(execOp a.eval o).run P w=.ok (.value x) w'∧St N w0 ι' S (F.app o.dst ⟨v,[(s1,k)],del⟩) (a.put o.dst x) w':=by
 have hop:∃ t e i sO xO os ox ty z,o.op=.call { callee:=.builtin .append,args:=#[sO,xO],argTypes:=#[t,t] }∧P.underlying t=some (.slice e)∧P.info? e=some i∧i.zero=some z∧z.cells.size=i.size∧0<i.size∧rO sO=some os∧rO xO=some ox∧ao=.app e i.size i.bytes os ox∧ty=o.type:=by
  cases hop:o.op with
  | call c=>
   obtain ⟨callee,args,argTypes⟩:=c
   simp only [hop,resolveOp,resolveCall] at hr
   split at hr
   ·repeat' split at hr
    all_goals (try (simp at hr;done))
    simp only [Option.map_eq_some_iff] at hr
    obtain ⟨q,h1,rfl⟩:=hr
    simp [evA] at he
   ·split at hr
    ·simp at hr;subst hr;simp [evA] at he
    ·simp at hr
   ·repeat' split at hr
    all_goals first
    | (simp at hr;done)
    | (simp only [Option.map_eq_some_iff] at hr;obtain ⟨q,h1,rfl⟩:=hr;first | (simp [evA] at he;done) | (unfold allocOf at he;split at he<;>simp [evA] at he;done))
   ·split at hr
    ·simp at hr;subst hr;simp [evA] at he
    ·simp at hr
   ·split at hr
    ·simp at hr;subst hr;simp [evA] at he
    ·simp at hr
   ·split at hr
    ·simp at hr;subst hr;simp [evA] at he
    ·simp at hr
   ·split at hr
    ·simp at hr;subst hr;simp [evA] at he
    ·simp at hr
   ·repeat' split at hr
    all_goals first
    | (simp at hr;done)
    | (simp at hr;subst hr;simp [evA] at he;done)
   ·rename_i sO xO t u ea et
    obtain rfl:args=#[sO,xO]:=by apply Array.ext';simpa using ea
    obtain rfl:argTypes=#[t,u]:=by apply Array.ext';simpa using et
    split at hr
    ·rename_i e hu
     split at hr
     ·rename_i i os ox h1 h2 h3
      split at hr
      ·rename_i hc
       obtain ⟨rfl,hz,hpos⟩:=hc
       simp only [Option.map_eq_some_iff] at hz
       obtain ⟨z,z1,z2⟩:=hz
       simp only [Option.some.injEq] at hr
       exact ⟨t,e,i,sO,xO,os,ox,o.type,z,rfl,hu,h1,z1,z2,hpos,h2,h3,hr.symm,rfl⟩
      ·simp at hr
     ·simp at hr
    ·simp at hr
   ·simp at hr
  | slice t x lo hi mx=>
   exfalso
   cases mx with
   | some m=>simp [hop,resolveOp] at hr
   | none=>
    simp only [hop,resolveOp] at hr
    repeat' split at hr
    all_goals first
    | (simp at hr;done)
    | (simp only [Option.some.injEq] at hr;subst hr;simp [evA] at he;done)
  | _=>
   exfalso
   simp only [hop,resolveOp] at hr
   first
   | (simp at hr;done)
   | (simp only [Option.map_eq_some_iff] at hr;obtain ⟨q,h1,rfl⟩:=hr;first | (simp [evA] at he;done) | (unfold allocOf at he;split at he<;>simp [evA] at he;done))
   | (repeat' split at hr
      all_goals first
      | (simp at hr;done)
      | (simp only [Option.some.injEq] at hr;subst hr;simp [evA] at he;done)
      | (simp only [Option.map_eq_some_iff] at hr;obtain ⟨q,h1,rfl⟩:=hr;first | (simp [evA] at he;done) | (unfold allocOf at he;split at he<;>simp [evA] at he;done)))
 obtain ⟨t,e,i,sO,xO,os,ox,ty,z,hop,hu,hinfo,hz,hzs,hpos,hs,hx,rfl,rfl⟩:=hop
 have hexec:∀ {y:Value} {w':World},(Builtin.append_ #[t,t] o.type #[a.eval sO,a.eval xO]).run P w=.ok y w'→(execOp a.eval o).run P w=.ok (.value y) w':=by
  intro y w' hq
  simp [execOp,hop,resolve,invoke,builtin,hq]
 -- nothing is appended
 have none_:∀ (p:Option Addr) (n cap:Nat) (p':Option Addr) (c:Nat),a.eval sO=.slice p n cap→a.eval xO=.slice p' 0 c→n≤cap→(Builtin.append_ #[t,t] o.type #[a.eval sO,a.eval xO]).run P w=.ok (.slice p n cap) w:=by
  intro p n cap p' c e1 e2 hle
  rw [e1,e2]
  cases p<;>cases p'<;>simp [Builtin.append_,run_underlying hu,sizeOf,typeInfo,hinfo,Builtin.lenOf,hle,Builtin.firstCells,loadCells,loadCellsFrom,storeCells]
 simp only [evA] at he
 split at he
 ·-- a nil slice
  rename_i new g1 g2
  split at he
  ·rename_i hc
   obtain ⟨c1,c2,c3⟩:=hc
   simp only [Option.some.injEq,Prod.mk.injEq] at he
   obtain ⟨rfl,rfl,rfl,rfl⟩:=he
   simp only [Option.bind_eq_some_iff] at g2
   obtain ⟨xv,g2,g3⟩:=g2
   have hsv:a.eval sO=.slice none 0 0:=by
    have:=(h.val hs g1).inv_p
    generalize a.eval sO=y at this
    cases this;rfl
   obtain ⟨hwf,p,cap,hxv,hnews⟩:=h.rows_ok (h.val hx g2) g3 hpos
   by_cases hne:new=[]
   ·subst hne
    have hrun:=none_ none 0 0 p cap hsv (by simpa using hxv) (Nat.le_refl _)
    refine ⟨_,w,setι ι (d,0) none,hexec hrun,?_⟩
    have h1:=h.step (ι':=setι ι (d,0) none) (d,0) (Keep.refl w) (fun _ _ q=>q) h.snap (fun x v q=>.inl q) (fun s hs=>setι_ne hs) hd (not_fix hdb)
    have h2:=h1.lay (d,0) (.sl e i.size []) ⟨by intro i row q;simp at q,.inl ⟨setι_eq,rfl⟩⟩ (fun b t q=>by rw [setι_eq] at q;simp at q)
    have h3:=h2.put (dst:=o.dst) (v:=.ref (d,0) i.size 0 0) (x:=.slice none 0 0) (.refnil _ _ setι_eq) hdst
    have e1:=FF.app_append (F:=F) (dst:=o.dst) (s:=(d,0)) (s1:=(d,0)) (k:=.sl e i.size []) (v:=.ref (d,0) i.size 0 ([]:List (List PV)).length) (del:=[]) (by simp)
    rw [e1]
    simpa using h3
   ·obtain ⟨q,news,rfl,n1,n2,n3⟩:=hnews hne
    have hlen:0<new.length:=List.length_pos_iff.2 hne
    have hrun:=run_append_nil (P:=P) w t o.type e i z hu hinfo hz q new.length cap news n1 n2 hlen (by unfold maxLen at c1;omega) (by omega)
    have hge:=grownCap_ge w new.length 0 e
    have hcm:=grownCap_le_maxLen w new.length 0 e c1
    have hdr:St N w0 ι S F a w.drew:=h.step0 (Keep.drew w) (fun _ _ q=>q) (fun x v q=>h.snap x v q) (fun x v q=>.inl q)
    have hst:=hdr.new (d:=(d,0)) hd (not_fix hdb) (e:=e) (c:=news.toArray++Builtin.zeroCells z.cells (grownCap w new.length 0 e - new.length)) (total:=grownCap w new.length 0 e) (k:=.sl e i.size new) hwf rfl
     (by simp only [Array.size_append,List.size_toArray,size_zeroCells,hzs,n1,Blk.size,←Nat.add_mul];congr 1;omega) (by simpa [Blk.nrows] using hge) hcm rfl (fun i' j av q=>by
      simp only [Blk.cell,Option.map_eq_some_iff,Option.bind_eq_some_iff] at q
      obtain ⟨pv,⟨r,q1,q2⟩,rfl⟩:=q
      obtain ⟨u,u1,u2⟩:=n3 i' r j pv q1 q2
      refine ⟨u,?_,.p _ _ u2⟩
      simp only [Blk.size]
      rw [Array.getElem?_append,if_pos (by have:=(List.getElem?_eq_some_iff.1 u1).1;simpa using this)]
      simpa using u1)
    refine ⟨_,_,setι ι (d,0) (some (w.heap.size,grownCap w new.length 0 e)),hexec (by rw [hsv,hxv];exact hrun),?_⟩
    have h3:=hst.put (dst:=o.dst) (v:=.ref (d,0) i.size 0 new.length) (x:=.slice (some ⟨w.heap.size,0,none⟩) new.length (grownCap w new.length 0 e)) (.ref (d,0) i.size 0 new.length w.heap.size (grownCap w new.length 0 e) _ _ (by exact setι_eq) (by omega) hge (.inr (by simp))) hdst
    have e1:=FF.app_append (F:=F) (dst:=o.dst) (s:=(d,0)) (s1:=(d,0)) (k:=.sl e i.size new) (v:=.ref (d,0) i.size 0 new.length) (del:=[]) (by simp)
    rw [e1]
    simpa using h3
  ·simp at he
 ·-- a slice of the frame's own
  rename_i s0 sz n new g1 g2
  split at he
  ·rename_i e0 sz' rows hb
   split at he
   ·rename_i hc
    obtain ⟨rfl,rfl,rfl,rfl,c1,c2,c3⟩:=hc
    simp only [Option.some.injEq,Prod.mk.injEq] at he
    obtain ⟨rfl,rfl,rfl,rfl⟩:=he
    simp only [Option.bind_eq_some_iff] at g2
    obtain ⟨xv,g2,g3⟩:=g2
    have hsrel:=h.val hs g1
    obtain ⟨hwf0,hm0⟩:=h.mem s0 _ hb
    obtain ⟨hwf,p,cap,hxv,hnews⟩:=h.rows_ok (h.val hx g2) g3 hpos
    have hne01:(s0.1,s0.2+1)≠s0:=by intro q;have:=congrArg Prod.snd q;simp at this
    have hwf2:∀ (i':Nat) (row:List PV),(rows++new)[i']?=some row→row.length=i.size:=by
     intro i' row q
     rw [List.getElem?_append] at q
     split at q
     ·exact hwf0 i' row q
     ·exact hwf _ row q
    have e1:∀ v,F.app o.dst ⟨v,[((s0.1,s0.2+1),.sl e0 i.size (rows++new))],[s0]⟩=_:=fun v=>FF.app_append (F:=F) (dst:=o.dst) (s:=s0) (s1:=(s0.1,s0.2+1)) (k:=.sl e0 i.size (rows++new)) (v:=v) (del:=[s0]) (by simpa using hne01)
    -- the frame without the slice that is used up
    have hle:∀ (s':Slot) (k':Blk),(if s'=s0 then none else F.blk s')=some k'→F.blk s'=some k':=by
     intro s' k' q
     split at q
     ·simp at q
     ·exact q
    have hdel:St N w0 ι S { F with blk:=fun s'=>if s'=s0 then none else F.blk s' } a w:=St.weaken (F:={ F with blk:=fun s'=>if s'=s0 then none else F.blk s' }) (G:=F) ⟨fun _ _ q=>q,hle⟩ h
    have hd':FF.noSlot (s0.1,s0.2+1) { F with blk:=fun s'=>if s'=s0 then none else F.blk s' }:=⟨hd.1,fun s' k' q=>hd.2 s' k' (hle s' k' q)⟩
    have hfun:(fun s'=>if s'=(s0.1,s0.2+1) then some (Blk.sl e0 i.size (rows++new)) else if s'=s0 then none else F.blk s')=(fun s'=>if s'=(s0.1,s0.2+1) then some (Blk.sl e0 i.size (rows++new)) else if s'∈[s0] then none else F.blk s'):=by funext s';simp
    -- a block laid anew behind a draw
    have grown:∀ (xs news:List Value) (g:Nat),xs.length=rows.length*i.size→news.length=new.length*i.size→(∀ (i':Nat) (row:List PV) (j:Nat) (pv:PV),rows[i']?=some row→row[j]?=some pv→∃ u,xs[i'*i.size+j]?=some u∧PRel S pv u) →
      (∀ (i':Nat) (row:List PV) (j:Nat) (pv:PV),new[i']?=some row→row[j]?=some pv→∃ u,news[i'*i.size+j]?=some u∧PRel S pv u)→rows.length+new.length≤g→g≤maxLen →
      (Builtin.append_ #[t,t] o.type #[a.eval sO,a.eval xO]).run P w=.ok (.slice (some ⟨w.heap.size,0,none⟩) (rows.length+new.length) g) (w.drew.alloc (.cells (xs.toArray++news.toArray++Builtin.zeroCells z.cells (g - (rows.length+new.length))) e0)) →
      ∃ x w' ι',(execOp a.eval o).run P w=.ok (.value x) w'∧St N w0 ι' S (F.app o.dst ⟨.ref (s0.1,s0.2+1) i.size 0 (rows.length+new.length),[((s0.1,s0.2+1),.sl e0 i.size (rows++new))],[s0]⟩) (a.put o.dst x) w':=by
     intro xs news g l1 l2 r1 r2 hg hgm hrun
     have hdr:=hdel.step0 (Keep.drew w) (fun _ _ q=>q) (fun x v q=>h.snap x v q) (fun x v q=>.inl q)
     have hcells:=row_append l1 r1 r2
     have hst:=hdr.new (d:=(s0.1,s0.2+1)) hd' not_fix' (e:=e0) (c:=xs.toArray++news.toArray++Builtin.zeroCells z.cells (g - (rows.length+new.length))) (total:=g) (k:=.sl e0 i.size (rows++new)) hwf2 rfl
      (by simp only [Array.size_append,List.size_toArray,size_zeroCells,hzs,l1,l2,Blk.size,←Nat.add_mul];congr 1;omega) (by simp [Blk.nrows];omega) hgm rfl (fun i' j av q=>by
       simp only [Blk.cell,Option.map_eq_some_iff,Option.bind_eq_some_iff] at q
       obtain ⟨pv,⟨r,q1,q2⟩,rfl⟩:=q
       obtain ⟨u,u1,u2⟩:=hcells i' r j pv q1 q2
       refine ⟨u,?_,.p _ _ u2⟩
       simp only [Blk.size]
       rw [Array.getElem?_append,if_pos (by have:=(List.getElem?_eq_some_iff.1 u1).1;simpa using this)]
       simpa using u1)
     refine ⟨_,_,setι ι (s0.1,s0.2+1) (some (w.heap.size,g)),hexec hrun,?_⟩
     have h3:=hst.put (dst:=o.dst) (v:=.ref (s0.1,s0.2+1) i.size 0 (rows.length+new.length)) (x:=.slice (some ⟨w.heap.size,0,none⟩) (rows.length+new.length) g) (.ref _ i.size 0 _ w.heap.size g _ _ setι_eq (by omega) hg (.inr (by simp))) hdst
     rw [e1,←hfun]
     exact h3
    generalize hsv:a.eval sO=sv at hsrel
    generalize hnn:rows.length=nn at hsrel
    cases hsrel with
    | ref _ _ _ _ b total cap0 ps hi hct hl ha=>
     subst hnn
     rcases hm0 with ⟨q,_⟩ | ⟨b',t',e',c,q1,q2,q3,q4,q5,q6,q7⟩
     ·rw [hi] at q;simp at q
     ·rw [hi] at q1;simp at q1;obtain ⟨rfl,rfl⟩:=q1
      simp only [Blk.elem] at q3;subst q3
      simp only [Blk.size,Blk.nrows] at q4 q5
      have hxs:∀ (i':Nat) (row:List PV) (j:Nat) (pv:PV),rows[i']?=some row→row[j]?=some pv→∃ u,(c.toList.take (rows.length*i.size))[i'*i.size+j]?=some u∧PRel S pv u:=by
       intro i' row j pv e2 e3
       obtain ⟨u,u1,u2⟩:=q7 i' j (.p pv) (by simp [Blk.cell,e2,e3])
       refine ⟨u,?_,u2.inv_p⟩
       have hi':=(List.getElem?_eq_some_iff.1 e2).1
       have hj:=(List.getElem?_eq_some_iff.1 e3).1
       have hlr:=hwf0 i' row e2
       have hlt:i'*i.size+j<rows.length*i.size:=by
        have:(i'+1)*i.size≤rows.length*i.size:=Nat.mul_le_mul_right _ hi'
        rw [Nat.add_mul] at this;omega
       rw [List.getElem?_take,if_pos hlt]
       simpa [Blk.size] using u1
      have hfit:rows.length*i.size≤c.size:=by rw [q4];exact Nat.mul_le_mul_right _ q5
      have hxl:(c.toList.take (rows.length*i.size)).length=rows.length*i.size:=by simp;omega
      by_cases hne:new=[]
      ·subst hne
       have hrun:=none_ (some ps) rows.length cap0 p cap hsv (by simpa using hxv) hl
       have h1:=hdel.step (ι':=setι ι (s0.1,s0.2+1) (some (b,total))) (s0.1,s0.2+1) (Keep.refl w) (fun _ _ q=>q) h.snap (fun x v q=>.inl q) (fun s hs=>setι_ne hs) hd' not_fix'
       have h2:=h1.lay (s0.1,s0.2+1) (.sl e0 i.size (rows++[])) ⟨hwf2,.inr ⟨b,total,e0,c,setι_eq,q2,rfl,q4,by simpa [Blk.nrows] using q5,q6,fun i' j av q=>by
        simp only [Blk.cell,List.append_nil,Option.map_eq_some_iff,Option.bind_eq_some_iff] at q
        obtain ⟨pv,⟨r,g4,g5⟩,rfl⟩:=q
        obtain ⟨u,u1,u2⟩:=q7 i' j (.p pv) (by simp [Blk.cell,g4,g5])
        exact ⟨u,u1,.p _ _ u2.inv_p⟩⟩⟩ (fun b2 t2 q=>by
        rw [setι_eq] at q;simp at q;obtain ⟨rfl,rfl⟩:=q
        refine ⟨(h.own s0 _ hb b total hi).1,(h.own s0 _ hb b total hi).2,fun s' k' g4 g5 b3 t3 g6=>?_⟩
        dsimp only at g4
        split at g4
        ·simp at g4
        ·rename_i g7
         rw [setι_ne g5] at g6
         exact h.sep s' s0 k' _ g4 hb g7 b3 t3 b total g6 hi)
       refine ⟨_,w,setι ι (s0.1,s0.2+1) (some (b,total)),hexec hrun,?_⟩
       have h3:=h2.put (dst:=o.dst) (v:=.ref (s0.1,s0.2+1) i.size 0 (rows.length+([]:List (List PV)).length)) (x:=.slice (some ps) rows.length cap0) (by
        simpa using AVRel.ref (ι:=setι ι (s0.1,s0.2+1) (some (b,total))) (S:=S) (s0.1,s0.2+1) i.size 0 rows.length b total cap0 ps setι_eq hct hl ha) hdst
       rw [e1,←hfun]
       exact h3
      ·obtain ⟨q,news,rfl,n1,n2,n3⟩:=hnews hne
       have hnp:0<new.length:=List.length_pos_iff.2 hne
       have holds:cap0=0∨ps=⟨b,0,none⟩:=by simpa using ha
       by_cases hroom:rows.length+new.length≤cap0
       ·have hps:ps=⟨b,0,none⟩:=by rcases holds with h0 | h0;omega;exact h0
        subst hps
        have hones:∀ u∈news,u.oneCell'=true:=by
         intro u hu
         obtain ⟨j,hj,hjv⟩:=List.mem_iff_getElem.1 hu
         have hi':j / i.size<new.length:=Nat.div_lt_of_lt_mul (by rw [Nat.mul_comm];omega)
         have hm:j % i.size<i.size:=Nat.mod_lt _ hpos
         have hrow:new[j / i.size]?=some new[j / i.size]:=by simp [hi']
         have hrl:=hwf _ _ hrow
         have hcell:(new[j / i.size])[j % i.size]?=some ((new[j / i.size])[j % i.size]'(by omega)):=by simp
         obtain ⟨u',u1,u2⟩:=n3 _ _ _ _ hrow hcell
         have hdm:j / i.size*i.size+j % i.size=j:=by have:=Nat.div_add_mod j i.size;rw [Nat.mul_comm] at this;exact this
         rw [hdm,List.getElem?_eq_getElem hj,hjv] at u1
         simp at u1;subst u1
         refine u2.one ?_
         have:=List.all_eq_true.1 c3 _ (List.getElem_mem hi')
         exact List.all_eq_true.1 this _ (List.getElem_mem _)
        have hfit2:rows.length*i.size+news.length≤c.size:=by
         rw [n1,←Nat.add_mul,q4];exact Nat.mul_le_mul_right _ (by omega)
        have hrun:=run_append_room (P:=P) w t o.type e0 i hu hinfo b rows.length cap0 c q2 q new.length cap news n1 n2 hones hroom hfit2
        refine ⟨_,_,setι ι (s0.1,s0.2+1) (some (b,total)),hexec (by rw [hsv,hxv];exact hrun),?_⟩
        have ht:=h.touch (w':=w.setRow b (c.toList.take (rows.length*i.size)++news++c.toList.drop (rows.length*i.size+news.length)).toArray) hb hi rfl rfl rfl (by simp) (fun k _ hk=>setRow_other w b k _ hk)
        have hlies:Lies (w.setRow b (c.toList.take (rows.length*i.size)++news++c.toList.drop (rows.length*i.size+news.length)).toArray) b e0 (c.toList.take (rows.length*i.size)++news++c.toList.drop (rows.length*i.size+news.length)).toArray:=setRow_heap w b c _ e0 _ q2
        have h1:=ht.step (ι':=setι ι (s0.1,s0.2+1) (some (b,total))) (s0.1,s0.2+1) (Keep.refl _) (fun _ _ q=>q) ht.snap (fun x v q=>.inl q) (fun s hs=>setι_ne hs) hd' not_fix'
        have hcells:=row_append hxl hxs n3
        have h2:=h1.lay (s0.1,s0.2+1) (.sl e0 i.size (rows++new)) ⟨hwf2,.inr ⟨b,total,e0,_,setι_eq,hlies,rfl,by simp only [List.size_toArray,List.length_append,List.length_take,List.length_drop,Array.length_toList,Blk.size];omega,by simp [Blk.nrows];omega,q6,fun i' j av g4=>by
         simp only [Blk.cell,Option.map_eq_some_iff,Option.bind_eq_some_iff] at g4
         obtain ⟨pv,⟨r,g5,g6⟩,rfl⟩:=g4
         obtain ⟨u,u1,u2⟩:=hcells i' r j pv g5 g6
         refine ⟨u,?_,.p _ _ u2⟩
         simp only [Blk.size,List.getElem?_toArray]
         rw [List.getElem?_append,if_pos (List.getElem?_eq_some_iff.1 u1).1]
         exact u1⟩⟩ (fun b2 t2 g4=>by
         rw [setι_eq] at g4;simp at g4;obtain ⟨rfl,rfl⟩:=g4
         refine ⟨(h.own s0 _ hb b total hi).1,(h.own s0 _ hb b total hi).2,fun s' k' g4 g5 b3 t3 g6=>?_⟩
         dsimp only at g4
         split at g4
         ·simp at g4
         ·rename_i g7
          rw [setι_ne g5] at g6
          exact h.sep s' s0 k' _ g4 hb g7 b3 t3 b total g6 hi)
        have h3:=h2.put (dst:=o.dst) (v:=.ref (s0.1,s0.2+1) i.size 0 (rows.length+new.length)) (x:=.slice (some ⟨b,0,none⟩) (rows.length+new.length) cap0)
         (.ref _ i.size 0 _ b total cap0 _ setι_eq hct hroom (.inr (by simp))) hdst
        rw [e1,←hfun]
        exact h3
       ·have hold2:∀ j u,(c.toList.take (rows.length*i.size))[j]?=some u→w.cell? (ps.add j)=some u:=by
         intro j u hj
         rcases holds with h0 | rfl
         ·have:rows.length=0:=by omega
          simp [this] at hj
         ·rw [addr_add,q2.cell]
          rw [List.getElem?_take] at hj
          split at hj
          ·simpa using hj
          ·simp at hj
        have hrun:=run_append_grow (P:=P) w t o.type e0 i z hu hinfo hz ps rows.length cap0 _ hxl hold2 q new.length cap news n1 n2 (by omega) (by unfold maxLen at c1;omega) (growslice_fits (by omega) c2)
        exact grown _ _ _ hxl n1 hxs n3 (grownCap_ge w _ _ _) (grownCap_le_maxLen w _ _ _ c1) (by rw [hsv,hxv];exact hrun)
    | refnil _ _ hi=>
     have hrows:rows=[]:=by
      rcases hm0 with ⟨_,q⟩ | ⟨b',t',e',c,q1,_⟩
      ·exact List.eq_nil_of_length_eq_zero (by simpa [Blk.nrows] using q)
      ·rw [hi] at q1;simp at q1
     subst hrows
     by_cases hne:new=[]
     ·subst hne
      have hrun:=none_ none 0 0 p cap hsv (by simpa using hxv) (Nat.le_refl _)
      have h1:=hdel.step (ι':=setι ι (s0.1,s0.2+1) none) (s0.1,s0.2+1) (Keep.refl w) (fun _ _ q=>q) h.snap (fun x v q=>.inl q) (fun s hs=>setι_ne hs) hd' not_fix'
      have h2:=h1.lay (s0.1,s0.2+1) (.sl e0 i.size ([]++[])) ⟨hwf2,.inl ⟨setι_eq,rfl⟩⟩ (fun b t q=>by rw [setι_eq] at q;simp at q)
      have h3:=h2.put (dst:=o.dst) (v:=.ref (s0.1,s0.2+1) i.size 0 0) (x:=.slice none 0 0) (.refnil _ _ setι_eq) hdst
      refine ⟨_,w,setι ι (s0.1,s0.2+1) none,hexec hrun,?_⟩
      rw [e1,←hfun]
      exact h3
     ·obtain ⟨q,news,rfl,n1,n2,n3⟩:=hnews hne
      have hlen:0<new.length:=List.length_pos_iff.2 hne
      simp only [List.length_nil,Nat.zero_add] at c1 c2
      have hrun:=run_append_nil (P:=P) w t o.type e0 i z hu hinfo hz q new.length cap news n1 n2 hlen (by unfold maxLen at c1;omega) (by omega)
      exact grown [] news (grownCap w new.length 0 e0) (by simp) n1 (by simp) n3 (by simpa using grownCap_ge w new.length 0 e0) (grownCap_le_maxLen w _ _ _ c1) (by rw [hsv,hxv];simpa using hrun)
   ·simp at he
  ·simp at he
 ·simp at he
end
end Go.Abs
namespace Go.Abs
open Go
set_option linter.unusedSimpArgs false
set_option linter.unusedVariables false
def bytesO:List (List PV)→Option (List Int)
 | []=>some []
 | [.int .u8 n] :: l=>(bytesO l).map (n :: ·)
 | _=>none
def byteRow (b:UInt8):List PV:=[.int .u8 b.toNat]
def strB (ns:List Int):ByteArray:=⟨(ns.map fun n=>UInt8.ofNat n.toNat).toArray⟩
def evC (F:FF):AOp→Option (AV×List (Slot×Blk))
 | .b2s x=>(((F.val x).bind (F.rows 1)).bind bytesO).map fun ns=>(.p (.str (strB ns)),[])
 | .s2b e x=>match F.val x with
  | some (.p (.str s))=>if s.size≤9223372036854775807 then some (.p (.sl 1 (s.data.toList.map byteRow)),[]) else none
  | _=>none
 | .cpy n x y=>match F.val x,(F.val y).bind (F.rows n) with
  | some (.ref s sz 0 m),some new=>match F.blk s with
   | some (.sl e sz' rows)=>if sz=n∧sz'=n∧m=rows.length∧(new.all fun r=>r.all PV.one)=true then some (.p (.int .i64 ((min new.length m:Nat):Int)),[(s,.sl e n (new.take m++rows.drop new.length))]) else none
   | _=>none
  | _,_=>none
 | _=>none
section
variable {P:Program} {N:Nat} {w0:Base} {ι:Inj} {S:Snap} {F:FF} {a:Act} {w:World}
theorem bytesO_get:∀ {rows:List (List PV)} {ns:List Int},bytesO rows=some ns→ns.length=rows.length∧∀ (i:Nat) (n:Int),ns[i]?=some n→rows[i]?=some [.int .u8 n]
 | [],ns,h=>by simp [bytesO] at h;subst h;simp
 | r :: l,ns,h=>by
  unfold bytesO at h
  split at h
  ·simp at *
  ·rename_i n l' e
   simp only [List.cons.injEq] at e
   obtain ⟨rfl,rfl⟩:=e
   simp only [Option.map_eq_some_iff] at h
   obtain ⟨ms,h1,rfl⟩:=h
   obtain ⟨g1,g2⟩:=bytesO_get h1
   refine ⟨by simp [g1],fun i m e=>?_⟩
   cases i with
   | zero=>simp at e;subst e;rfl
   | succ i=>simp at e ⊢;exact g2 i m e
  ·simp at h
theorem FF.app_kv {dst:Option Nat} {s:Slot} {k:Blk} {v:AV}:F.app dst ⟨v,[(s,k)],[]⟩={ F with var:=fun t=>if dst=some t then some v else F.var t,blk:=fun s'=>if s'=s then some k else F.blk s' }:=FF.app_store
theorem FF.app_v {dst:Option Nat} {v:AV}:F.app dst ⟨v,[],[]⟩={ F with var:=fun t=>if dst=some t then some v else F.var t }:=by
 unfold FF.app;congr 1
theorem copy_run {t u e:TypeId} {n:Nat} (hu:P.underlying t=some (.slice e)) (hn:sizeO P e=some n) {p q:Option Addr} {m c l c':Nat} {vs:List Value} {w':World} (ty:TypeId)
  (hf:(Builtin.firstCells n (Nat.min l m) (.slice q l c')).run P w=.ok vs.toArray w) (hs:∀ a,p=some a→(storeCells a vs).run P w=.ok () w') (hs0:p=none→w'=w) :
  (Builtin.copy_ #[t,u] ty #[.slice p m c,.slice q l c']).run P w=.ok (goInt (Nat.min l m)) w':=by
 have hn':=sizeO_run (P:=P) (w:=w) hn
 cases p with
 | none=>
  rw [hs0 rfl]
  simp [Builtin.copy_,run_underlying hu,Builtin.lenOf,hn',hf]
 | some a=>
  simp [Builtin.copy_,run_underlying hu,Builtin.lenOf,hn',hf,hs a rfl]
theorem evC_ok (h:St N w0 ι S F a w) {o:Oper} {ao:AOp} {v:AV} {ks:List (Slot×Blk)} (hr:resolveOp P o.op=some ao) (he:evC F ao=some (v,ks)) (hdst:∀ d,o.dst=some d→d<N) :
  ∃ x w' S',(execOp a.eval o).run P w=.ok (.value x) w'∧St N w0 ι S' (F.app o.dst ⟨v,ks,[]⟩) (a.put o.dst x) w':=by
 cases hop:o.op with
 | convert s t x=>
  simp only [hop,resolveOp] at hr
  split at hr
  ·simp at hr;subst hr;simp [evC] at he
  ·rename_i e ox hs ht hx
   split at hr
   ·rename_i hue
    split at hr
    ·rename_i hsz
     simp at hr;subst hr
     simp only [evC,Option.map_eq_some_iff,Option.bind_eq_some_iff,Prod.mk.injEq] at he
     obtain ⟨ns,⟨rows,⟨xv,g1,g2⟩,g3⟩,rfl,rfl⟩:=he
     obtain ⟨n1,n2⟩:=bytesO_get g3
     obtain ⟨hwf,p,cap,hxv,hnews⟩:=h.rows_ok (h.val hx g1) g2 (by omega)
     refine ⟨.string (strB ns),w,S,?_,?_⟩
     ·by_cases hne:rows=[]
      ·subst hne
       have:ns=[]:=by simpa using n1
       subst this
       rw [execOp,hop]
       dsimp only
       rw [hxv]
       cases p with
       | none=>
        have:=run_convert_bytes_nil (P:=P) w s e hs hue ([]:List (List PV)).length cap t ht
        simp only [Sem.run_bind,this,Result.andThen_ok,Sem.run_pure]
        rfl
       | some q=>
        have h1:=run_convert_bytes_string (P:=P) w s t e (some q) ([]:List (List PV)).length cap hs hue ht
        have h2:=run_bytesToString (P:=P) w q 0 cap [] (by simpa using run_loadCells_list (P:=P) w q [] (by simp))
        have h3:(convert s t (.slice (some q) ([]:List (List PV)).length cap)).run P w=.ok (.string ByteArray.empty) w:=by rw [h1];simpa using h2
        simp only [Sem.run_bind,h3,Result.andThen_ok,Sem.run_pure]
        rfl
      ·obtain ⟨q,news,rfl,m1,m2,m3⟩:=hnews hne
       have hnw:news=ns.map (Value.int .u8):=by
        apply List.ext_getElem?
        intro i
        by_cases hi:i<rows.length
        ·have hi':i<ns.length:=by omega
         have hrow:=n2 i ns[i] (by simp)
         obtain ⟨u,u1,u2⟩:=m3 i _ 0 (.int .u8 ns[i]) hrow (by simp)
         simp only [Nat.mul_one,Nat.add_zero] at u1
         cases u2
         rw [u1];simp [hi']
        ·rw [List.getElem?_eq_none (by omega),List.getElem?_eq_none (by simp;omega)]
       have h1:=run_convert_bytes_string (P:=P) w s t e (some q) rows.length cap hs hue ht
       have hld:(loadCells q rows.length).run P w=.ok (ns.map (Value.int .u8)).toArray w:=by
        have:=run_loadCells_list (P:=P) w q news m2
        rw [m1,Nat.mul_one] at this
        rw [this,hnw]
       have h2:=run_bytesToString (P:=P) w q rows.length cap ns hld
       have h3:(convert s t (.slice (some q) rows.length cap)).run P w=.ok (.string (strB ns)) w:=by
        rw [h1,h2,foldl_push_bytes]
        simp [strB,ByteArray.empty,ByteArray.emptyWithCapacity]
        rfl
       rw [execOp,hop]
       dsimp only
       rw [hxv]
       simp only [Sem.run_bind,h3,Result.andThen_ok,Sem.run_pure]
     ·rw [FF.app_v]
      exact h.put (rel_str _) hdst
    ·simp at hr
   ·simp at hr
  ·rename_i e ox hs ht hx
   split at hr
   ·rename_i hue
    simp at hr;subst hr
    simp only [evC] at he
    split at he
    ·rename_i st g1
     split at he
     ·rename_i hmx
      simp only [Option.some.injEq,Prod.mk.injEq] at he
      obtain ⟨rfl,rfl⟩:=he
      have hxv:=inv_str (h.val hx g1)
      have hrun:=Lib.run_convert_string_bytes (P:=P) w s t e st hs ht hue
      obtain ⟨S',hS'⟩:∃ S':Snap,S'=fun x=>if x.block=w.heap.size∧x.spot=none∧x.off<st.size then some (.int .u8 (st.data.toList.getD x.off 0).toNat) else S x:=⟨_,rfl⟩
      have hle:S.le S':=by
       intro x v hv
       have:=World.block_lt_of_cell? w x (h.snap x v hv)
       rw [hS']
       dsimp only
       rw [if_neg (by intro q;omega)]
       exact hv
      have hholds:S'.holds (Lib.bytesWorld w e st):=by
       intro x v hv
       rw [hS'] at hv
       dsimp only at hv
       split at hv
       ·rename_i hc
        obtain ⟨c1,c2,c3⟩:=hc
        simp only [Option.some.injEq] at hv;subst hv
        obtain ⟨b,f,sp⟩:=x
        simp only at c1 c2 c3
        subst c1 c2
        exact Lib.bytesWorld_cell w e st f c3
       ·have:=World.block_lt_of_cell? w x (h.snap x v hv)
        rw [Lib.bytesWorld_old w e st x this]
        exact h.snap x v hv
      have hkeep:Keep w (Lib.bytesWorld w e st):=⟨rfl,rfl,rfl,by rw [Lib.bytesWorld_size];omega,fun k hk=>Lib.bytesWorld_at_old w e st k hk⟩
      have hst:=h.step0 hkeep hle hholds (fun x v hv=>by
       rw [hS'] at hv
       dsimp only at hv
       split at hv
       ·rename_i hc;exact .inr (by omega)
       ·exact .inl hv)
      refine ⟨.slice (some ⟨w.heap.size,0,none⟩) st.size (grownCap w st.size 0 e),Lib.bytesWorld w e st,S',?_,?_⟩
      ·rw [execOp,hop]
       dsimp only
       rw [hxv]
       simp only [Sem.run_bind,hrun,Result.andThen_ok,Sem.run_pure]
      ·rw [FF.app_v]
       refine hst.put (.p _ _ ?_) hdst
       have hrl:(st.data.toList.map byteRow).length=st.size:=by rw [List.length_map];exact Array.length_toList
       have key:=PRel.sl (S:=S') 1 (st.data.toList.map byteRow) (some ⟨w.heap.size,0,none⟩) (grownCap w st.size 0 e) (fun i _=>.int .u8 (st.data.toList.getD i 0).toNat)
        (by rw [hrl];exact grownCap_ge w st.size 0 e)
        (fun i row q=>by
         simp only [List.getElem?_map,Option.map_eq_some_iff] at q
         obtain ⟨b,-,rfl⟩:=q;rfl)
        (fun i row j p q1 q2=>by
         refine ⟨_,rfl,?_⟩
         have hi:=(List.getElem?_eq_some_iff.1 q1).1
         rw [hrl] at hi
         simp only [List.getElem?_map,Option.map_eq_some_iff] at q1
         obtain ⟨b,q3,rfl⟩:=q1
         have hj:j=0:=by
          have:=(List.getElem?_eq_some_iff.1 q2).1
          simp [byteRow] at this;exact this
         subst hj
         rw [hS']
         have:(⟨w.heap.size,0,none⟩:Addr).add (i*1+0)=⟨w.heap.size,i,none⟩:=by
          unfold Addr.add;split<;>simp_all
         rw [this]
         dsimp only
         rw [if_pos ⟨rfl,rfl,hi⟩])
        (fun i row j p q1 q2=>by
         simp only [List.getElem?_map,Option.map_eq_some_iff] at q1
         obtain ⟨b,q3,rfl⟩:=q1
         have hj:j=0:=by
          have:=(List.getElem?_eq_some_iff.1 q2).1
          simp [byteRow] at this;exact this
         subst hj
         simp [byteRow] at q2;subst q2
         have:st.data.toList.getD i 0=b:=by rw [List.getD_eq_getElem?_getD,q3];rfl
         rw [this]
         exact .int _ _)
       rw [hrl] at key
       exact key
     ·simp at he
    ·simp at he
   ·simp at hr
  ·simp at hr
 | call c=>
  obtain ⟨callee,args,argTypes⟩:=c
  simp only [hop,resolveOp,resolveCall] at hr
  have non:∀ {l:Option AOp},l=some ao→(∀ q,l=some q→evC F q=none)→False:=fun e q=>by rw [q ao e] at he;simp at he
  split at hr
  case h_8=>
   rename_i x y t u ea et
   obtain rfl:args=#[x,y]:=by apply Array.ext';simpa using ea
   obtain rfl:argTypes=#[t,u]:=by apply Array.ext';simpa using et
   split at hr
   ·rename_i e e' ox oy hut huu hx hy
    split at hr
    ·rename_i n hn
     split at hr
     ·rename_i hc
      obtain ⟨rfl,hpos⟩:=hc
      simp at hr;subst hr
      simp only [evC] at he
      split at he
      ·rename_i s0 sz m new g1 g2
       split at he
       ·rename_i e0 sz' rows hb
        split at he
        ·rename_i hc
         obtain ⟨rfl,rfl,rfl,hone⟩:=hc
         simp only [Option.some.injEq,Prod.mk.injEq] at he
         obtain ⟨rfl,rfl⟩:=he
         simp only [Option.bind_eq_some_iff] at g2
         obtain ⟨yv,g2,g3⟩:=g2
         obtain ⟨hwf,p,cap,hyv,hnews⟩:=h.rows_ok (h.val hy g2) g3 hpos
         obtain ⟨hwf0,hm0⟩:=h.mem s0 _ hb
         have hxr:=h.val hx g1
         obtain ⟨k,hk⟩:∃ k,Nat.min new.length rows.length=k:=⟨_,rfl⟩
         have hk':min new.length rows.length=k:=hk
         -- what is copied
         have hvs:∃ vs:List Value,(Builtin.firstCells sz' k (.slice p new.length cap)).run P w=.ok vs.toArray w∧vs.length=k*sz'∧(∀ u∈vs,u.oneCell'=true) ∧
           ∀ (i:Nat) (row:List PV) (j:Nat) (pv:PV),i<k→new[i]?=some row→row[j]?=some pv→∃ u,vs[i*sz'+j]?=some u∧PRel S pv u:=by
          by_cases hne:new=[]
          ·subst hne
           have hk0:k=0:=by rw [←hk];exact Nat.zero_min _
           subst hk0
           refine ⟨[],?_,by simp,by simp,fun i row j pv hi=>by omega⟩
           cases p with
           | none=>simp [Builtin.firstCells]
           | some q=>simpa [Builtin.firstCells] using run_loadCells_list (P:=P) w q [] (by simp)
          ·obtain ⟨q,news,rfl,m1,m2,m3⟩:=hnews hne
           have hkn:k*sz'≤news.length:=by rw [m1];exact Nat.mul_le_mul_right _ (by omega)
           have hvl:(news.take (k*sz')).length=k*sz':=by simp;omega
           refine ⟨news.take (k*sz'),?_,hvl,fun u hu=>?_,fun i row j pv hi e1 e2=>?_⟩
           ·have:=run_loadCells_list (P:=P) w q (news.take (k*sz')) (fun j v hj=>m2 j v (by
             rw [List.getElem?_take] at hj
             split at hj
             ·exact hj
             ·simp at hj))
            rw [hvl] at this
            simp only [Builtin.firstCells]
            exact this
           ·have hu:=List.mem_of_mem_take hu
            obtain ⟨j,hj,hjv⟩:=List.mem_iff_getElem.1 hu
            have hi':j / sz'<new.length:=Nat.div_lt_of_lt_mul (by rw [Nat.mul_comm];omega)
            have hm:j % sz'<sz':=Nat.mod_lt _ hpos
            have hrow:new[j / sz']?=some new[j / sz']:=by simp [hi']
            have hrl:=hwf _ _ hrow
            have hcell:(new[j / sz'])[j % sz']?=some ((new[j / sz'])[j % sz']'(by omega)):=by simp
            obtain ⟨u',u1,u2⟩:=m3 _ _ _ _ hrow hcell
            have hdm:j / sz'*sz'+j % sz'=j:=by have:=Nat.div_add_mod j sz';rw [Nat.mul_comm] at this;exact this
            rw [hdm,List.getElem?_eq_getElem hj,hjv] at u1
            simp at u1;subst u1
            refine u2.one ?_
            have:=List.all_eq_true.1 hone _ (List.getElem_mem hi')
            exact List.all_eq_true.1 this _ (List.getElem_mem _)
           ·obtain ⟨u,u1,u2⟩:=m3 i row j pv e1 e2
            refine ⟨u,?_,u2⟩
            have hj:=(List.getElem?_eq_some_iff.1 e2).1
            have hl:=hwf i row e1
            have hlt:i*sz'+j<k*sz':=by
             have:(i+1)*sz'≤k*sz':=Nat.mul_le_mul_right _ hi
             rw [Nat.add_mul] at this;omega
            rw [List.getElem?_take,if_pos hlt]
            exact u1
         obtain ⟨vs,v1,v2,v3,v4⟩:=hvs
         have hrow:∀ i,i<rows.length→(new.take rows.length++rows.drop new.length)[i]?=if i<k then new[i]? else rows[i]?:=by
          intro i hi
          rw [List.getElem?_append,List.length_take,List.getElem?_take,List.getElem?_drop]
          by_cases hik:i<k
          ·rw [if_pos (by omega),if_pos hi,if_pos hik]
          ·rw [if_neg (by omega),if_neg hik]
           congr 1;omega
         have hrl:(new.take rows.length++rows.drop new.length).length=rows.length:=by simp;omega
         have hexec:∀ {w':World},(Builtin.copy_ #[t,u] o.type #[a.eval x,a.eval y]).run P w=.ok (goInt k) w'→(execOp a.eval o).run P w=.ok (.value (.int .i64 (k:Int))) w':=by
          intro w' hq
          simp [execOp,hop,resolve,invoke,builtin,hq,goInt]
         have hsame:∀ (p0:Option Addr) (c0:Nat),a.eval x=.slice p0 0 c0→rows.length=0→∃ x w' S',(execOp a.eval o).run P w=.ok (.value x) w'∧St N w0 ι S' (F.app o.dst ⟨.p (.int .i64 ((min new.length rows.length:Nat):Int)),[(s0,.sl e0 sz' (new.take rows.length++rows.drop new.length))],[]⟩) (a.put o.dst x) w':=by
          intro p0 c0 hx0 h0
          have hr0:rows=[]:=List.length_eq_zero_iff.1 h0
          have hk0:k=0:=by omega
          have hv0:vs=[]:=List.length_eq_zero_iff.1 (by rw [v2,hk0,Nat.zero_mul])
          rw [hv0,hk0] at v1
          have hrun:=copy_run (P:=P) (w:=w) (w':=w) (t:=t) (u:=u) (p:=p0) (q:=p) (m:=0) (c:=c0) (l:=new.length) (c':=cap) hut hn o.type (vs:=[]) (by simpa using v1) (fun a' ea=>by simp [storeCells]) (fun _=>rfl)
          have hrun':(Builtin.copy_ #[t,u] o.type #[a.eval x,a.eval y]).run P w=.ok (goInt k) w:=by rw [hx0,hyv,hrun,hk0,show Nat.min new.length 0=0 from Nat.min_zero _]
          refine ⟨_,w,S,hexec hrun',?_⟩
          rw [FF.app_kv,hk']
          have:(fun s2=>if s2=s0 then some (Blk.sl e0 sz' (new.take rows.length++rows.drop new.length)) else F.blk s2)=F.blk:=by
           funext s2
           by_cases q:s2=s0
           ·subst q;rw [if_pos rfl,hb,hr0];simp
           ·rw [if_neg q]
          rw [this]
          exact h.put (rel_int _ _) hdst
         generalize hxv:a.eval x=xv at hxr
         generalize hnn:rows.length=nn at hxr
         cases hxr with
         | refnil _ _ hi=>have g:=hsame none 0 hxv hnn;simp only [hnn] at g;exact g
         | ref _ _ _ _ b total cap0 ps hi hct hl ha=>
          subst hnn
          by_cases h0:rows.length=0
          ·exact hsame (some ps) cap0 (by rw [hxv,h0]) h0
          rcases hm0 with ⟨q,_⟩ | ⟨b',t',e',c,q1,q2,q3,q4,q5,q6,q7⟩
          ·rw [hi] at q;simp at q
          ·rw [hi] at q1;simp at q1;obtain ⟨rfl,rfl⟩:=q1
           simp only [Blk.elem] at q3;subst q3
           simp only [Blk.size,Blk.nrows] at q4 q5
           have hps:ps=⟨b,0,none⟩:=by
            have:cap0=0∨ps=⟨b,0,none⟩:=by simpa using ha
            rcases this with h1 | h1
            ·omega
            ·exact h1
           subst hps
           have hkc:vs.length≤c.size:=by rw [v2,q4];exact Nat.mul_le_mul_right _ (by omega)
           have hst:=run_storeCells_at P b 0 e0 vs 0 c w q2 (by simpa using hkc) v3
           simp only [Nat.add_zero,Nat.zero_add,List.take_zero,List.nil_append] at hst
           have hrun:=copy_run (P:=P) (w:=w) (t:=t) (u:=u) (p:=some ⟨b,0,none⟩) (q:=p) (m:=rows.length) (c:=cap0) (l:=new.length) (c':=cap) hut hn o.type (by rw [hk];exact v1) (fun a' ea=>by simp at ea;subst ea;exact hst) (fun q=>by simp at q)
           rw [hk] at hrun
           refine ⟨.int .i64 (k:Int),_,S,hexec (by rw [hxv,hyv];exact hrun),?_⟩
           have ht:=h.touch (w':=w.setRow b (vs++c.toList.drop vs.length).toArray) hb hi rfl rfl rfl (by simp) (fun k _ hk=>setRow_other w b k _ hk)
           have hlies:Lies (w.setRow b (vs++c.toList.drop vs.length).toArray) b e0 (vs++c.toList.drop vs.length).toArray:=setRow_heap w b c _ e0 _ q2
           have hlay:=ht.lay s0 (.sl e0 sz' (new.take rows.length++rows.drop new.length)) ⟨fun i row q=>by
             have hi':=(List.getElem?_eq_some_iff.1 q).1
             rw [hrl] at hi'
             rw [hrow i hi'] at q
             split at q
             ·exact hwf i row q
             ·exact hwf0 i row q,.inr ⟨b,total,e0,_,hi,hlies,rfl,by simp only [List.size_toArray,List.length_append,List.length_drop,Array.length_toList,Blk.size];omega,by simp only [Blk.nrows,hrl];exact q5,q6,fun i j av q=>by
             simp only [Blk.cell,Option.map_eq_some_iff,Option.bind_eq_some_iff] at q
             obtain ⟨pv,⟨r,g4,g5⟩,rfl⟩:=q
             have hi':=(List.getElem?_eq_some_iff.1 g4).1
             rw [hrl] at hi'
             rw [hrow i hi'] at g4
             simp only [Blk.size,List.getElem?_toArray]
             by_cases hik:i<k
             ·rw [if_pos hik] at g4
              obtain ⟨u,u1,u2⟩:=v4 i r j pv hik g4 g5
              refine ⟨u,?_,.p _ _ u2⟩
              rw [List.getElem?_append,if_pos (List.getElem?_eq_some_iff.1 u1).1]
              exact u1
             ·rw [if_neg hik] at g4
              obtain ⟨u,u1,u2⟩:=q7 i j (.p pv) (by simp [Blk.cell,g4,g5])
              refine ⟨u,?_,u2⟩
              have:k*sz'≤i*sz':=Nat.mul_le_mul_right _ (by omega)
              rw [List.getElem?_append,if_neg (by omega),List.getElem?_drop]
              rw [show vs.length+(i*sz'+j - vs.length)=i*sz'+j by omega]
              simpa [Blk.size] using u1⟩⟩ (fun b2 t2 g4=>by
            rw [hi] at g4;simp at g4;obtain ⟨rfl,rfl⟩:=g4
            refine ⟨(h.own s0 _ hb b total hi).1,(h.own s0 _ hb b total hi).2,fun s' k' g4 g5 b3 t3 g6=>?_⟩
            dsimp only at g4
            rw [if_neg g5] at g4
            exact h.sep s' s0 k' _ g4 hb g5 b3 t3 b total g6 hi)
           have hput:=hlay.put (dst:=o.dst) (v:=.p (.int .i64 (k:Int))) (x:=.int .i64 (k:Int)) (rel_int _ _) hdst
           rw [FF.app_kv,hk']
           have:(fun s2=>if s2=s0 then some (Blk.sl e0 sz' (new.take rows.length++rows.drop new.length)) else if s2=s0 then none else F.blk s2)=fun s2=>if s2=s0 then some (Blk.sl e0 sz' (new.take rows.length++rows.drop new.length)) else F.blk s2:=by
            funext s2;by_cases q:s2=s0<;>simp [q]
           simp only [this] at hput
           exact hput
        ·simp at he
       ·simp at he
      ·simp at he
     ·simp at hr
    ·simp at hr
   ·simp at hr
  all_goals
   exfalso
   repeat' split at hr
   all_goals first
   | (simp at hr;done)
   | (simp only [Option.some.injEq] at hr;subst hr;simp [evC] at he;done)
   | (simp only [Option.map_eq_some_iff] at hr;obtain ⟨q,h1,rfl⟩:=hr;first | (simp [evC] at he;done) | (unfold allocOf at he;split at he<;>simp [evC] at he;done))
 | slice t x lo hi mx=>
  exfalso
  cases mx with
  | some m=>simp [hop,resolveOp] at hr
  | none=>
   simp only [hop,resolveOp] at hr
   repeat' split at hr
   all_goals first
   | (simp at hr;done)
   | (simp only [Option.some.injEq] at hr;subst hr;simp [evC] at he;done)
 | _=>
  exfalso
  simp only [hop,resolveOp] at hr
  first
  | (simp at hr;done)
  | (simp only [Option.map_eq_some_iff] at hr;obtain ⟨q,h1,rfl⟩:=hr;first | (simp [evC] at he;done) | (unfold allocOf at he;split at he<;>simp [evC] at he;done))
  | (repeat' split at hr
     all_goals first
     | (simp at hr;done)
     | (simp only [Option.some.injEq] at hr;subst hr;simp [evC] at he;done)
     | (simp only [Option.map_eq_some_iff] at hr;obtain ⟨q,h1,rfl⟩:=hr;first | (simp [evC] at he;done) | (unfold allocOf at he;split at he<;>simp [evC] at he;done)))
end
end Go.Abs
