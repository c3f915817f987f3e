/- A part of the proof: an abstract reading of the model, contracts of functions. -/
import Derived.Test.YtlkbeomimbohlaaGreatC2
import Derived.WalkSpells
namespace Go.Abs
open Go
set_option linter.unusedSimpArgs false
set_option linter.unusedVariables false
section
variable {P:Program} {N:Nat} {w0:Base} {ι:Inj} {S:Snap} {F:FF} {a:Act} {w:World}
theorem eqs_ok {us vs:List PV} {xs ys:List Value} {t:TypeId} {ls:List (Nat×Nat)} {r:Bool} {x y:Operand} (hx:Ps S us xs) (hy:Ps S vs ys) (hb:aggB P t=some true) (hg:P.eqGuardType P.depth t=false)
  (hl:leaves P 20 t 0=some ls) (hn:sizeO P t=some xs.length) (hn':sizeO P t=some ys.length) (he:leavesEq us vs ls=some r) (neg:Bool) :
  (do eqGuard (if neg then .neq else .eql) t x y (.agg xs.toArray) (.agg ys.toArray);binOp (if neg then .neq else .eql) t (.agg xs.toArray) (.agg ys.toArray):Sem Value).run P w=.ok (.bool (if neg then !r else r)) w:=by
 have hq:(Op.equalIn 10000 t (.agg xs.toArray) (.agg ys.toArray)).run P w=.ok r w:=by
  refine leaves_ok hx hy 20 w 10000 t 0 xs.length ls _ _ r (by omega) hl hn (by omega) ?_ ?_ ?_ he
  ·rw [hn] at hn';simp at hn';omega
  ·exact .inr ⟨hb,xs.length,hn,by simp⟩
  ·exact .inr ⟨hb,ys.length,hn',by simp⟩
 cases neg
 ·simp only [Bool.false_eq_true,if_false,Sem.run_bind,run_eqGuard_agg w .eql t x y _ _ hg,Result.andThen_ok,run_eql_struct,hq]
 ·simp only [if_true,Sem.run_bind,run_eqGuard_agg w .neq t x y _ _ hg,Result.andThen_ok,run_neq_struct,hq]
theorem nil_run {t:TypeId} {e:TypeId} {x y:Operand} {p:Option Addr} {n c:Nat} (neg:Bool) (hu:P.underlying t=some (.slice e)):(do eqGuard (if neg then .neq else .eql) t x y (.slice p n c) (.slice none 0 0);binOp (if neg then .neq else .eql) t (.slice p n c) (.slice none 0 0):Sem Value).run P w=.ok (.bool (if neg then !p.isNone else p.isNone)) w:=by
 have hg:(eqGuard (if neg then .neq else .eql) t x y (.slice p n c) (.slice none 0 0)).run P w=.ok () w:=by cases neg<;>simp [eqGuard]
 simp only [Sem.run_bind,hg,Result.andThen_ok]
 cases neg
 ·exact Lib.run_eql_slice_nil w t e p n c 0 0 hu
 ·exact run_neq_slice_nil_any w t e p n c 0 0 hu
theorem evV_ok (h:St N w0 ι S F a w) {o:Oper} {ao:AOp} {v:AV} (hr:resolveOp P o.op=some ao) (he:evV F ao=some v):∃ x,(execOp a.eval o).run P w=.ok (.value x) w∧AVRel ι S v x:=by
 have fin:∀ (s:Sem Value),(∃ x,s.run P w=.ok x w∧AVRel ι S v x)→∃ x,(do pure (.value (←s)):Sem Next).run P w=.ok (.value x) w∧AVRel ι S v x:=by
  rintro s ⟨x,h1,h2⟩
  exact ⟨x,by simp [h1],h2⟩
 unfold execOp
 cases hop:o.op with
 | move x=>
  simp only [hop,resolveOp,Option.map_eq_some_iff] at hr
  obtain ⟨q,h1,rfl⟩:=hr
  exact ⟨_,rfl,h.val h1 he⟩
 | assign x=>
  simp only [hop,resolveOp,Option.map_eq_some_iff] at hr
  obtain ⟨q,h1,rfl⟩:=hr
  exact ⟨_,rfl,h.val h1 he⟩
 | pick c x y=>
  simp only [hop,resolveOp] at hr
  split at hr
  ·rename_i c' x' y' h1 h2 h3
   simp at hr;subst hr
   simp only [evV] at he
   split at he
   ·rename_i t va vb g1 g2 g3
    simp at he;subst he
    have:=inv_bool (h.val h1 g1)
    refine ⟨_,?_,pick_rel (h.val h2 g2) (h.val h3 g3)⟩
    simp [this,asBool]
   ·simp at he
  ·simp at hr
 | alloc t=>
  simp only [hop,resolveOp,Option.map_eq_some_iff] at hr
  obtain ⟨q,h1,rfl⟩:=hr
  unfold allocOf at he
  split at he<;>simp [evV] at he
 | box t x=>
  simp only [hop,resolveOp,Option.map_eq_some_iff] at hr
  obtain ⟨q,h1,rfl⟩:=hr
  simp [evV] at he
 | build t parts=>
  rw [hop] at hr
  exact fin _ (build_ok h hr he)
 | buildSlice t len parts=>
  simp only [hop,resolveOp] at hr
  repeat' split at hr
  all_goals (try (simp at hr;done))
  simp only [Option.map_eq_some_iff] at hr
  obtain ⟨q,h1,rfl⟩:=hr
  simp [evV] at he
 | insert t m k x=>simp [hop,resolveOp] at hr
 | load t x=>
  simp only [hop,resolveOp] at hr
  split at hr
  ·rename_i b n o' h1 h2 h3
   simp at hr;subst hr
   simp only [evV,Option.bind_eq_some_iff] at he
   obtain ⟨u,g1,cs,g2,g3⟩:=he
   exact fin _ (load_ok h h1 h2 (h.val h3 g1) g2 g3)
  ·simp at hr
 | store t x y=>
  simp only [hop,resolveOp] at hr
  split at hr
  ·simp at hr;subst hr;simp [evV] at he
  ·simp at hr
 | ready g=>simp [hop,resolveOp] at hr
 | waits g=>simp [hop,resolveOp] at hr
 | nilCheck x=>
  simp only [hop,resolveOp,Option.map_eq_some_iff] at hr
  obtain ⟨q,h1,rfl⟩:=hr
  simp only [evV] at he
  split at he
  ·rename_i s b c d g
   simp at he;subst he
   have hrel:=h.val h1 g
   refine ⟨a.eval x,?_,hrel⟩
   dsimp only
   generalize a.eval x=y at hrel
   cases hrel;rfl
  ·rename_i cs g
   simp at he;subst he
   have hrel:=h.val h1 g
   refine ⟨a.eval x,?_,hrel⟩
   dsimp only
   generalize a.eval x=y at hrel
   cases hrel.inv_p;rfl
  ·simp at he
 | binOp op t x y t2=>
  simp only [hop,resolveOp] at hr
  split at hr
  ·rename_i o1 o2 h1 h2
   have binc:∀ {d},P.underlying t=some d→evV F (.bin op o1 o2)=some v→∃ z,(do eqGuard op t x y (a.eval x) (a.eval y);binOp op t (a.eval x) (a.eval y):Sem Value).run P w=.ok z w∧AVRel ι S v z:=by
    intro d hu he
    simp only [evV] at he
    split at he
    ·rename_i u1 u2 g1 g2
     have r1:=h.val h1 g1
     have r2:=h.val h2 g2
     obtain ⟨z,z1,z2⟩:=bin_ok (P:=P) (w:=w) (t:=t) r1 r2 he
     have hguard:(eqGuard op t x y (a.eval x) (a.eval y)).run P w=.ok () w:=by
      unfold binV at he
      split at he
      ·rw [inv_int r1,inv_int r2];exact guard_int
      ·rw [inv_str r1,inv_str r2];exact guard_str
      ·simp at he
     exact ⟨z,by simp only [Sem.run_bind,hguard,Result.andThen_ok,z1],z2⟩
    ·simp at he
   have eqc:∀ neg,P.underlying t=some .bool→evV F (.eqb neg o1 o2)=some v→∃ z,(do eqGuard (if neg then .neq else .eql) t x y (a.eval x) (a.eval y);binOp (if neg then .neq else .eql) t (a.eval x) (a.eval y):Sem Value).run P w=.ok z w∧AVRel ι S v z:=by
    intro neg hu he
    simp only [evV] at he
    split at he
    ·rename_i m n g1 g2
     simp only [Option.some.injEq] at he;subst he
     have r1:=inv_bool (h.val h1 g1)
     have r2:=inv_bool (h.val h2 g2)
     refine ⟨_,?_,rel_bool _⟩
     rw [r1,r2]
     simp only [Sem.run_bind,guard_bool,Result.andThen_ok]
     exact eqb_ok hu
    ·simp at he
   have nilc:∀ neg e,P.underlying t=some (.slice e)→rO y=some (.c .nsl)→evV F (.nilsl neg o1)=some v→∃ z,(do eqGuard (if neg then .neq else .eql) t x y (a.eval x) (a.eval y);binOp (if neg then .neq else .eql) t (a.eval x) (a.eval y):Sem Value).run P w=.ok z w∧AVRel ι S v z:=by
    intro neg e hu h2 he
    have r2:a.eval y=.slice none 0 0:=by
     have:=(h.val (v:=.p .nsl) h2 rfl).inv_p
     generalize a.eval y=z at this
     cases this;rfl
    have run:∀ (p:Option Addr) (n c:Nat),a.eval x=.slice p n c→(do eqGuard (if neg then .neq else .eql) t x y (a.eval x) (a.eval y);binOp (if neg then .neq else .eql) t (a.eval x) (a.eval y):Sem Value).run P w=.ok (.bool (if neg then !p.isNone else p.isNone)) w:=by
     intro p n c e1
     rw [e1,r2]
     exact nil_run neg hu
    simp only [evV] at he
    split at he
    ·rename_i g1
     simp at he;subst he
     have:=(h.val h1 g1).inv_p
     generalize hx:a.eval x=z at this
     cases this
     exact ⟨_,by rw [←hx];exact run none 0 0 hx,by cases neg<;>exact rel_bool _⟩
    ·rename_i sz rows g1
     split at he
     ·rename_i hl
      simp at he;subst he
      have:=(h.val h1 g1).inv_p
      generalize hx:a.eval x=z at this
      cases this with
      | sl _ _ p cap f hcap hsz hcell hrel=>
       have hsome:p.isNone=false:=by
        have h0:rows[0]?=some (rows[0]'hl.1):=by simp [hl.1]
        have h1:=hsz 0 _ h0
        obtain ⟨b,hb,_⟩:=hcell 0 _ 0 ((rows[0]'hl.1)[0]'(by omega)) h0 (by simp)
        rw [hb];rfl
       refine ⟨_,by rw [←hx];exact run p _ _ hx,?_⟩
       rw [hsome];cases neg<;>exact rel_bool _
     ·simp at he
    ·rename_i s sz off len g1
     split at he
     ·rename_i hl
      simp at he;subst he
      have:=h.val h1 g1
      generalize hx:a.eval x=z at this
      cases this with
      | ref _ _ _ _ b total cap q hi hct hl' ha=>
       refine ⟨_,by rw [←hx];exact run (some q) _ _ hx,?_⟩
       cases neg<;>exact rel_bool _
      | refnil=>omega
     ·simp at he
    ·simp at he
   split at hr
   ·rename_i k hu;simp at hr;subst hr;exact fin _ (binc hu he)
   ·rename_i hu;simp at hr;subst hr;exact fin _ (binc hu he)
   ·rename_i hu
    split at hr
    ·simp at hr;subst hr;have:=eqc false hu he;simp only [Bool.false_eq_true,if_false] at this;exact fin _ this
    ·simp at hr;subst hr;have:=eqc true hu he;simp only [if_true] at this;exact fin _ this
    ·simp at hr
   ·rename_i e hu
    split at hr
    ·simp at hr;subst hr;have:=nilc false e hu h2 he;simp only [Bool.false_eq_true,if_false] at this;exact fin _ this
    ·simp at hr;subst hr;have:=nilc true e hu h2 he;simp only [if_true] at this;exact fin _ this
    ·simp at hr
   all_goals
    first
    | (simp at hr;done)
    | (rename_i hu
       split at hr
       ·rename_i hg
        have eqd:∀ neg n ls,aggB P t=some true→sizeO P t=some n→leaves P 20 t 0=some ls→evV F (.eqs neg n ls o1 o2)=some v→∃ z,(do eqGuard (if neg then .neq else .eql) t x y (a.eval x) (a.eval y);binOp (if neg then .neq else .eql) t (a.eval x) (a.eval y):Sem Value).run P w=.ok z w∧AVRel ι S v z:=by
         intro neg n ls hag hn hls he
         simp only [evV] at he
         split at he
         ·rename_i us vs g1 g2
          split at he
          ·rename_i hlen
           simp only [Option.map_eq_some_iff] at he
           obtain ⟨r,hr,rfl⟩:=he
           have r1:=(h.val h1 g1).inv_p
           have r2:=(h.val h2 g2).inv_p
           refine ⟨_,?_,rel_bool _⟩
           generalize a.eval x=x1 at r1
           generalize a.eval y=y1 at r2
           cases r1 with
           | agg _ xs hl hh=>
            cases r2 with
            | agg _ ys hl' hh'=>
             exact eqs_ok ⟨hl,hh⟩ ⟨hl',hh'⟩ hag hg hls (by rw [hl,hlen.1];exact hn) (by rw [hl',hlen.2];exact hn) hr neg
          ·simp at he
         ·simp at he
        split at hr
        ·rename_i ls n hls hn;simp at hr;subst hr;have:=eqd false n ls (aggB_some hu) hn hls he;simp only [Bool.false_eq_true,if_false] at this;exact fin _ this
        ·rename_i ls n hls hn;simp at hr;subst hr;have:=eqd true n ls (aggB_some hu) hn hls he;simp only [if_true] at this;exact fin _ this
        ·simp at hr
       ·simp at hr)
  ·simp at hr
 | unOp op t x=>
  simp only [hop,resolveOp,Option.map_eq_some_iff] at hr
  obtain ⟨q,h1,rfl⟩:=hr
  simp only [evV,Option.bind_eq_some_iff] at he
  obtain ⟨u,g1,g2⟩:=he
  exact fin _ (un_ok (h.val h1 g1) g2)
 | convert s t x=>
  simp only [hop,resolveOp] at hr
  split at hr
  ·rename_i d k o' h1 h2 h3
   simp at hr;subst hr
   simp only [evV] at he
   split at he
   ·rename_i k' n g
    simp at he;subst he
    have r1:=inv_int (h.val h3 g)
    refine fin _ ⟨.int k (k.wrap n),?_,rel_int _ _⟩
    rw [r1]
    simp only [convert,Sem.run_bind,run_underlying h1,run_underlying h2,Result.andThen_ok]
    rfl
   ·simp at he
  ·repeat' split at hr
   all_goals (try (simp at hr;done))
   simp at hr;subst hr;simp [evV] at he
  ·repeat' split at hr
   all_goals (try (simp at hr;done))
   simp at hr;subst hr;simp [evV] at he
  ·simp at hr
 | sliceToArrayPointer t x=>simp [hop,resolveOp] at hr
 | makeInterface t x=>simp [hop,resolveOp] at hr
 | makeFunc fn first captured=>
  simp only [hop,resolveOp] at hr
  split at hr
  ·rename_i f c h1 h2
   simp at hr;subst hr
   simp only [evV] at he
   split at he
   ·rename_i f' c' g1 g2
    simp only [Option.some.injEq] at he;subst he
    refine fin _ ⟨_,rfl,?_⟩
    have r1:=h.vals h1 g1
    have r2:=h.vals h2 g2
    have:=mkfn_rel (fn:=fn) r1 r2
    rw [show (List.map a.eval first.toList).toArray=first.map a.eval from by apply Array.ext';simp,show (List.map a.eval captured.toList).toArray=captured.map a.eval from by apply Array.ext';simp] at this
    exact this
   ·simp at he
  ·simp at hr
 | makeMap t r=>simp [hop,resolveOp] at hr
 | makeChan t s=>simp [hop,resolveOp] at hr
 | makeSlice t l c=>
  simp only [hop,resolveOp] at hr
  repeat' split at hr
  all_goals (try (simp at hr;done))
  simp at hr;subst hr
  simp [evV] at he
 | slice t x lo hi mx=>
  cases mx with
  | some m=>simp [hop,resolveOp] at hr
  | none=>
   simp only [hop,resolveOp] at hr
   split at hr
   ·rename_i o1 o2 o3 h1 h2 h3 h4
    simp at hr;subst hr
    exact fin _ (slcS_ok h h1 h2 h3 h4 he)
   ·rename_i e o1 o2 o3 h1 h2 h3 h4
    split at hr
    ·rename_i n hn
     simp at hr;subst hr
     exact fin _ (slcV_ok h h1 hn h2 h3 h4 he)
    ·simp at hr
   ·simp at hr
 | fieldAddr s x f=>
  simp only [hop,resolveOp] at hr
  split at hr
  ·rename_i fs o1 h1 h2
   split at hr
   ·rename_i fd h3
    split at hr
    ·rename_i n h4
     split at hr
     ·simp at hr
     ·rename_i h5
      simp at hr;subst hr
      exact fin _ (faddr_ok h h1 h3 h4 h5 h2 he)
    ·simp at hr
   ·simp at hr
  ·simp at hr
 | field t x f=>
  simp only [hop,resolveOp] at hr
  split at hr
  ·rename_i fs o1 h1 h2
   split at hr
   ·rename_i fd h3
    split at hr
    ·rename_i b n h4 h5
     simp only [Option.some.injEq] at hr;subst hr
     exact fin _ (field_ok h h1 h3 h4 h5 h2 he)
    ·simp at hr
   ·simp at hr
  ·simp at hr
 | indexAddr t x i=>
  simp only [hop,resolveOp] at hr
  split at hr
  ·rename_i e o1 o2 h1 h2 h3
   split at hr
   ·rename_i n hn
    split at hr
    ·simp at hr
    ·rename_i h5
     simp at hr;subst hr
     exact fin _ (iaddr_ok h h1 hn h5 h2 h3 he)
   ·simp at hr
  ·rename_i len e o1 o2 h1 h2 h3
   split at hr
   ·rename_i n hn
    simp at hr;subst hr
    exact fin _ (iaddrA_ok h h1 hn h2 h3 he)
   ·simp at hr
  ·simp at hr
 | index t x i=>
  simp only [hop,resolveOp] at hr
  split at hr
  ·rename_i o1 o2 h1 h2 h3
   simp at hr;subst hr
   exact fin _ (idxS_ok h h1 h2 h3 he)
  ·rename_i len e o1 o2 h1 h2 h3
   split at hr
   ·rename_i b n hb hn
    simp at hr;subst hr
    exact fin _ (idxA_ok h h1 hb hn h2 h3 he)
   ·simp at hr
  ·simp at hr
 | lookup t x i ok=>simp [hop,resolveOp] at hr
 | mapUpdate t m k x=>simp [hop,resolveOp] at hr
 | mapEntry t m k=>simp [hop,resolveOp] at hr
 | entryStore t m s x=>simp [hop,resolveOp] at hr
 | range t x=>simp [hop,resolveOp] at hr
 | next it s=>simp [hop,resolveOp] at hr
 | entry it=>simp [hop,resolveOp] at hr
 | typeAssert x t u ok=>simp [hop,resolveOp] at hr
 | extract x i=>
  simp only [hop,resolveOp,Option.map_eq_some_iff] at hr
  obtain ⟨q,h1,rfl⟩:=hr
  exact fin _ (ext_ok h h1 he)
 | call c=>
  obtain ⟨callee,args,argTypes⟩:=c
  simp only [hop,resolveOp,resolveCall] at hr
  split at hr
  ·repeat' split at hr
   all_goals (try (simp at hr;done))
   simp only [Option.map_eq_some_iff] at hr
   obtain ⟨q,h1,rfl⟩:=hr
   simp [evV] at he
  ·split at hr
   ·simp at hr;subst hr;simp [evV] at he
   ·simp at hr
  ·rename_i x t ea et
   obtain rfl:args=#[x]:=by apply Array.ext';simpa using ea
   obtain rfl:argTypes=#[t]:=by apply Array.ext';simpa using et
   split at hr
   ·rename_i hu
    simp only [Option.map_eq_some_iff] at hr
    obtain ⟨q,h1,rfl⟩:=hr
    simp only [evV,Option.map_eq_some_iff,Option.bind_eq_some_iff] at he
    obtain ⟨n,⟨u,g1,g2⟩,rfl⟩:=he
    refine ⟨.int .i64 n,?_,rel_int _ _⟩
    have:=lenV_ok (P:=P) (w:=w) (t:=t) (by simpa using hu) (h.val h1 g1) g2 o.type
    simp [resolve,invoke,builtin,this]
   ·rename_i e hu
    simp only [Option.map_eq_some_iff] at hr
    obtain ⟨q,h1,rfl⟩:=hr
    simp only [evV,Option.map_eq_some_iff,Option.bind_eq_some_iff] at he
    obtain ⟨n,⟨u,g1,g2⟩,rfl⟩:=he
    refine ⟨.int .i64 n,?_,rel_int _ _⟩
    have:=lenV_ok (P:=P) (w:=w) (t:=t) (by simpa using ⟨e,hu⟩) (h.val h1 g1) g2 o.type
    simp [resolve,invoke,builtin,this]
   ·simp at hr
  ·rename_i x y ea
   obtain rfl:args=#[x,y]:=by apply Array.ext';simpa using ea
   split at hr
   ·rename_i o1 o2 h1 h2
    simp at hr;subst hr
    simp only [evV] at he
    split at he
    ·rename_i k m k' n g1 g2
     simp at he;subst he
     refine ⟨.int k (max m n),?_,rel_int _ _⟩
     have:=mm_ok (P:=P) (w:=w) (mx:=true) (k:=k) (k':=k') (m:=m) (n:=n) argTypes o.type
     simp at this
     simp [resolve,invoke,builtin,inv_int (h.val h1 g1),inv_int (h.val h2 g2),this]
    ·simp at he
   ·simp at hr
  ·rename_i x y ea
   obtain rfl:args=#[x,y]:=by apply Array.ext';simpa using ea
   split at hr
   ·rename_i o1 o2 h1 h2
    simp at hr;subst hr
    simp only [evV] at he
    split at he
    ·rename_i k m k' n g1 g2
     simp at he;subst he
     refine ⟨.int k (min m n),?_,rel_int _ _⟩
     have:=mm_ok (P:=P) (w:=w) (mx:=false) (k:=k) (k':=k') (m:=m) (n:=n) argTypes o.type
     simp at this
     simp [resolve,invoke,builtin,inv_int (h.val h1 g1),inv_int (h.val h2 g2),this]
    ·simp at he
   ·simp at hr
  ·rename_i x y z ea
   obtain rfl:args=#[x,y,z]:=by apply Array.ext';simpa using ea
   split at hr
   ·rename_i o1 o2 o3 h1 h2 h3
    simp at hr;subst hr
    simp only [evV] at he
    split at he
    ·rename_i k m k' n k'' l g1 g2 g3
     simp at he;subst he
     refine ⟨.int k (max (max m n) l),?_,by have:=rel_int (ι:=ι) (S:=S) k (max (max m n) l);simpa using this⟩
     have:=mm3_ok (P:=P) (w:=w) (mx:=true) (k:=k) (k':=k') (k'':=k'') (m:=m) (n:=n) (l:=l) argTypes o.type
     simp only [if_true] at this
     simp only [resolve,invoke,builtin,Sem.run_bind,Sem.run_pure,Result.andThen_ok,Act.eval]
     simp [inv_int (h.val h1 g1),inv_int (h.val h2 g2),inv_int (h.val h3 g3),this]
    ·simp at he
   ·simp at hr
  ·rename_i x y z ea
   obtain rfl:args=#[x,y,z]:=by apply Array.ext';simpa using ea
   split at hr
   ·rename_i o1 o2 o3 h1 h2 h3
    simp at hr;subst hr
    simp only [evV] at he
    split at he
    ·rename_i k m k' n k'' l g1 g2 g3
     simp at he;subst he
     refine ⟨.int k (min (min m n) l),?_,by have:=rel_int (ι:=ι) (S:=S) k (min (min m n) l);simpa using this⟩
     have:=mm3_ok (P:=P) (w:=w) (mx:=false) (k:=k) (k':=k') (k'':=k'') (m:=m) (n:=n) (l:=l) argTypes o.type
     simp only [Bool.false_eq_true,if_false] at this
     simp only [resolve,invoke,builtin,Sem.run_bind,Sem.run_pure,Result.andThen_ok,Act.eval]
     simp [inv_int (h.val h1 g1),inv_int (h.val h2 g2),inv_int (h.val h3 g3),this]
    ·simp at he
   ·simp at hr
  ·repeat' split at hr
   all_goals (try (simp at hr;done))
   simp at hr;subst hr;simp [evV] at he
  ·repeat' split at hr
   all_goals (try (simp at hr;done))
   simp at hr;subst hr;simp [evV] at he
  ·simp at hr
 | go c=>simp [hop,resolveOp] at hr
 | defer c=>simp [hop,resolveOp] at hr
 | panic x=>simp [hop,resolveOp] at hr
 | send c x=>simp [hop,resolveOp] at hr
 | recv t c ok=>simp [hop,resolveOp] at hr
 | select cs b=>simp [hop,resolveOp] at hr
end
end Go.Abs
namespace Go.Abs
open Go
set_option linter.unusedSimpArgs false
set_option linter.unusedVariables false
def chunk (size len:Nat) (ps:List PV):List (List PV):=(List.range len).map fun i=>(ps.drop (i*size)).take size
def evN (F:FF) (d:Nat):AOp→Option (AV×Blk)
 | .alloc zero=>some (.ptr (d,0) zero.length 0 0,.box (zero.map .p))
 | .allocR e zero=>some (.ptr (d,0) zero.length 0 0,.sl e zero.length [zero])
 | .box x=>((F.val x).bind AV.cells).map fun cs=>(.ptr (d,0) cs.length 0 0,.box cs)
 | .bslice e size len zero parts=>(F.parts parts).bind fun ps=>((fillA (zero.map .p) ps).bind allP).map fun ps=>(.ref (d,0) size 0 len,.sl e size (chunk size len ps))
 | .mksl e size bytes zero l c=>match F.val l,F.val c with
  | some (.p (.int _ l)),some (.p (.int _ c))=>if 0≤l∧l≤c∧(bytes:Int)*c≤281474976710656∧c≤9223372036854775807 then some (.ref (d,0) size 0 l.toNat,.sl e size (List.replicate l.toNat zero)) else none
  | _,_=>none
 | _=>none
def PV.one:PV→Bool
 | .agg _ | .tup _=>false
 | _=>true
def AV.one:AV→Bool
 | .p v=>v.one
 | .ref .. | .ptr .. | .clo ..=>true
 | _=>false
def evS (F:FF):AOp→Option (Slot×Blk)
 | .store n x v=>match F.val x,(F.val v).bind AV.cells with
  | some (.ptr s size row off),some cs=>if cs.length=n∧cs.all AV.one=true then
    match F.blk s with
    | some (.sl e sz rows)=>match rows[row]?,allP cs with
     | some r,some ps=>if sz=size∧off+n≤size then some (s,.sl e sz (rows.set row (r.take off++ps++r.drop (off+n)))) else none
     | _,_=>none
    | some (.box cells)=>if row=0∧off+n≤cells.length then some (s,.box (cells.take off++cs++cells.drop (off+n))) else none
    | none=>none
   else none
  | _,_=>none
 | _=>none
def FF.rows (F:FF) (size:Nat):AV→Option (List (List PV))
 | .p .nsl=>some []
 | .p (.sl sz rows)=>if sz=size then some rows else none
 | .ref s sz off len=>match F.blk s with
  | some (.sl _ sz' rows)=>if sz=size∧sz'=size∧off+len≤rows.length then some ((rows.drop off).take len) else none
  | _=>none
 | _=>none
def evA (F:FF) (d:Nat):AOp→Option (AV×Slot×Blk×List Slot)
 | .app e size bytes s x=>match F.val s,(F.val x).bind (F.rows size) with
  | some (.p .nsl),some new=>if new.length≤maxLen∧new.length*bytes≤140737488355328∧(new.all fun r=>r.all PV.one)=true then some (.ref (d,0) size 0 new.length,(d,0),.sl e size new,[]) else none
  | some (.ref s0 sz 0 n),some new=>match F.blk s0 with
   | some (.sl e0 sz' rows)=>if e0=e∧sz=size∧sz'=size∧n=rows.length∧rows.length+new.length≤maxLen∧(rows.length+new.length)*bytes≤140737488355328∧(new.all fun r=>r.all PV.one)=true then
     some (.ref (s0.1,s0.2+1) size 0 (rows.length+new.length),(s0.1,s0.2+1),.sl e size (rows++new),[s0]) else none
   | _=>none
  | _,_=>none
 | _=>none
section
variable {P:Program} {N:Nat} {w0:Base} {ι:Inj} {S:Snap} {F:FF} {a:Act} {w:World}
theorem AV.cells_noSlot {v:AV} {cs:List AV} {d:Slot} (h:v.noSlot d=true) (e:v.cells=some cs):AV.noSlotL d cs=true:=by
 unfold AV.cells at e
 split at e<;>try (simp at e;done)
 ·simp at e;subst e
  rename_i l
  clear h
  induction l with
  | nil=>rfl
  | cons q l ih=>simp [AV.noSlotL,AV.noSlot,ih]
 ·simp at e;subst e;simpa [AV.noSlot] using h
 ·simp at e;subst e;simp [AV.noSlotL,h]
theorem AV.noSlotL_map_p {d:Slot}:∀ l:List PV,AV.noSlotL d (l.map .p)=true
 | []=>rfl
 | q :: l=>by simp [AV.noSlotL,AV.noSlot,AV.noSlotL_map_p l]
theorem FF.val_noSlot {d:Slot} (h:F.noSlot d) {o:Opd} {v:AV} (e:F.val o=some v):v.noSlot d=true:=by
 cases o with
 | v t=>exact h.1 t v e
 | c p=>simp [FF.val] at e;subst e;rfl
def setι (ι:Inj) (s:Slot) (x:Option (Nat×Nat)):Inj:=fun s'=>if s'=s then x else ι s'
theorem setι_ne {ι:Inj} {s s':Slot} {x:Option (Nat×Nat)} (h:s'≠s):setι ι s x s'=ι s':=if_neg h
theorem setι_eq {ι:Inj} {s:Slot} {x:Option (Nat×Nat)}:setι ι s x s=x:=if_pos rfl
theorem not_fix {d k:Nat} (h:d<BIG):¬fixS (d,k):=fun q=>by have:=q.1;dsimp only at this;omega
theorem not_fix' {d k:Nat}:¬fixS (d,k+1):=fun q=>by have:=q.2;simp at this
theorem St.new (h:St N w0 ι S F a w) {d:Slot} (hd:F.noSlot d) (hf:¬fixS d) {e:TypeId} {c:Array Value} {total:Nat} {k:Blk} (hwf:k.wf) (he:k.elem e) (hc:c.size=total*k.size) (hr:k.nrows≤total) (ht:total≤maxLen)
  (hn:k.noSlot d=true) (hk:∀ i j av,k.cell i j=some av→∃ v,c[i*k.size+j]?=some v∧AVRel ι S av v) :
  St N w0 (setι ι d (some (w.heap.size,total))) S { F with blk:=fun s'=>if s'=d then some k else F.blk s' } a (w.alloc (.cells c e)):=by
 have hi:∀ s:Slot,s≠d→setι ι d (some (w.heap.size,total)) s=ι s:=fun s hs=>setι_ne hs
 have h1:=h.step d (Keep.alloc w (.cells c e)) (fun _ _ q=>q) (fun x v q=>(Keep.alloc w _).cell (h.snap x v q)) (fun x v q=>.inl q) hi hd hf
 refine h1.lay d k ⟨hwf,.inr ⟨w.heap.size,total,e,c,setι_eq,heap_alloc_new w _,he,hc,hr,ht,fun i j av q=>?_⟩⟩ ?_
 ·obtain ⟨v,q1,q2⟩:=hk i j av q
  exact ⟨v,q1,q2.inj hi (Blk.cell_noSlot hn q)⟩
 ·intro b t q
  rw [setι_eq] at q
  simp at q
  obtain ⟨rfl,rfl⟩:=q
  refine ⟨.inl h.keep.size,fun x hx=>?_,fun s' k' q1 q2 b' t' q3=>?_⟩
  ·cases hq:S x with
   | none=>rfl
   | some v=>
    have:=World.block_lt_of_cell? w x (h.snap x v hq)
    omega
  ·rw [hi s' q2] at q3
   rcases (h.mem s' k' q1).2 with ⟨q4,_⟩ | ⟨b2,t2,e2,c2,q4,q5,_⟩
   ·rw [q3] at q4;simp at q4
   ·rw [q3] at q4;simp at q4
    have:=q5.lt
    omega
theorem box_cells {cs:List AV} {us:List Value} (h:Rs ι S cs us):∀ i j av,(Blk.box cs).cell i j=some av→∃ v,us.toArray[i*(Blk.box cs).size+j]?=some v∧AVRel ι S av v:=by
 intro i j av e
 simp only [Blk.cell] at e
 split at e
 ·rename_i hi;subst hi
  obtain ⟨v,hv⟩:∃ v,us[j]?=some v:=⟨us[j]'(by have:=(List.getElem?_eq_some_iff.1 e).1;have:=h.1;omega),by simp⟩
  exact ⟨v,by simpa using hv,h.2 j av v e hv⟩
 ·simp at e
theorem chunk_len {size len:Nat} {ps:List PV}:(chunk size len ps).length=len:=by simp [chunk]
theorem chunk_row {size len i:Nat} {ps:List PV} {r:List PV} (e:(chunk size len ps)[i]?=some r):i<len∧r=(ps.drop (i*size)).take size:=by
 simp only [chunk,List.getElem?_map,Option.map_eq_some_iff] at e
 obtain ⟨x,h1,h2⟩:=e
 have hlt:i<len:=by have:=(List.getElem?_eq_some_iff.1 h1).1;simpa using this
 simp [hlt] at h1
 subst h1
 exact ⟨hlt,h2.symm⟩
theorem sl_cells {e:TypeId} {size len:Nat} {ps:List PV} {us:List Value} (h:Ps S ps us) (hl:ps.length=len*size):∀ i j av,(Blk.sl e size (chunk size len ps)).cell i j=some av→∃ v,us.toArray[i*size+j]?=some v∧AVRel ι S av v:=by
 intro i j av q
 simp only [Blk.cell,Option.map_eq_some_iff,Option.bind_eq_some_iff] at q
 obtain ⟨p,⟨r,h1,h2⟩,rfl⟩:=q
 obtain ⟨h3,rfl⟩:=chunk_row h1
 simp only [List.getElem?_take,List.getElem?_drop] at h2
 split at h2
 ·obtain ⟨v,hv⟩:∃ v,us[i*size+j]?=some v:=⟨us[i*size+j]'(by have:=(List.getElem?_eq_some_iff.1 h2).1;have:=h.1;omega),by simp⟩
  exact ⟨v,by simpa using hv,.p _ _ (h.2 _ p v h2 hv)⟩
 ·simp at h2
theorem fillA_len:∀ {ps:List (Nat×List AV)} {cells cells':List AV},fillA cells ps=some cells'→cells'.length=cells.length
 | [],cells,cells',h=>by simp [fillA] at h;rw [h]
 | (off,cs) :: l,cells,cells',h=>by
  simp only [fillA] at h
  split at h
  ·rename_i hl
   rw [fillA_len h];simp;omega
  ·simp at h
theorem evN_ok (h:St N w0 ι S F a w) {o:Oper} {ao:AOp} {d:Nat} {v:AV} {k:Blk} (hr:resolveOp P o.op=some ao) (he:evN F d ao=some (v,k)) (hd:F.noSlot (d,0)) (hdb:d<BIG) (hdst:∀ d,o.dst=some d→d<N) :
  ∃ x w' ι',(execOp a.eval o).run P w=.ok (.value x) w'∧St N w0 ι' S (F.app o.dst ⟨v,[((d,0),k)],[]⟩) (a.put o.dst x) w':=by
 have fin:∀ {x:Value} {w':World} {ι':Inj},(execOp a.eval o).run P w=.ok (.value x) w'→St N w0 ι' S { F with blk:=fun s'=>if s'=(d,0) then some k else F.blk s' } a w'→AVRel ι' S v x →
   ∃ x w' ι',(execOp a.eval o).run P w=.ok (.value x) w'∧St N w0 ι' S (F.app o.dst ⟨v,[((d,0),k)],[]⟩) (a.put o.dst x) w':=by
  intro x w' ι' h1 h2 h3
  refine ⟨x,w',ι',h1,?_⟩
  have:=h2.put (dst:=o.dst) h3 hdst
  have e:F.app o.dst ⟨v,[((d,0),k)],[]⟩={ F with var:=fun t=>if o.dst=some t then some v else F.var t,blk:=fun s'=>if s'=(d,0) then some k else F.blk s' }:=by
   unfold FF.app
   congr 1
   funext s
   simp only [Del.blk,look]
   by_cases hs:s=(d,0)<;>simp [hs]
  rw [e]
  exact this
 have hmax:(1:Nat)≤maxLen:=by unfold maxLen;omega
 cases hop:o.op with
 | alloc t=>
  simp only [hop,resolveOp,Option.map_eq_some_iff] at hr
  obtain ⟨z,h1,rfl⟩:=hr
  obtain ⟨zv,z1,z2,_⟩:=zeroO_run (P:=P) (S:=S) (w:=w) h1
  have hrel:=z2.toRs (ι:=ι)
  unfold allocOf at he
  split at he
  ·simp only [evN,Option.some.injEq,Prod.mk.injEq] at he
   obtain ⟨rfl,rfl⟩:=he
   have hbc:=box_cells hrel
   have hst:=h.new (d:=(d,0)) hd (not_fix hdb) (e:=t) (c:=zv.cells) (total:=1) (k:=.sl t [PV.nptr,PV.nsl].length [[.nptr,.nsl]]) (fun i row q=>by cases i with
    | zero=>simp at q;subst q;rfl
    | succ i=>simp at q) rfl (by have:=hrel.1;simp at this;simp [Blk.size,this]) (Nat.le_refl _) hmax rfl (fun i j av q=>by
     cases i with
     | zero=>
      obtain ⟨y,q1,q2⟩:=Option.map_eq_some_iff.1 q
      refine hbc 0 j av ?_
      have q1':[PV.nptr,PV.nsl][j]?=some y:=q1
      show (if (0:Nat)=0 then ([PV.nptr,PV.nsl].map AV.p)[j]? else none)=some av
      rw [if_pos rfl,List.getElem?_map,q1',←q2];rfl
     | succ i=>simp [Blk.cell] at q)
   refine fin (x:=.pointer (some ⟨w.heap.size,0,none⟩)) ?_ hst ?_
   ·simp [execOp,hop,Instr.alloc,z1,newVar,newRow]
   ·have:=AVRel.ptr (ι:=setι ι (d,0) (some (w.heap.size,1))) (S:=S) (d,0) [PV.nptr,PV.nsl].length 0 0 w.heap.size 1 setι_eq
    simpa using this
  simp only [evN,Option.some.injEq,Prod.mk.injEq] at he
  obtain ⟨rfl,rfl⟩:=he
  have hst:=h.new (d:=(d,0)) hd (not_fix hdb) (e:=t) (c:=zv.cells) (total:=1) (k:=.box (z.map .p)) trivial trivial (by have:=hrel.1;simp at this;simp [Blk.size,this]) (Nat.le_refl _) hmax (AV.noSlotL_map_p z) (by have:=box_cells hrel;simpa using this)
  refine fin (x:=.pointer (some ⟨w.heap.size,0,none⟩)) ?_ hst ?_
  ·simp [execOp,hop,Instr.alloc,z1,newVar,newRow]
  ·have:=AVRel.ptr (ι:=setι ι (d,0) (some (w.heap.size,1))) (S:=S) (d,0) z.length 0 0 w.heap.size 1 setι_eq
   simpa using this
 | box t x=>
  simp only [hop,resolveOp,Option.map_eq_some_iff] at hr
  obtain ⟨q,h1,rfl⟩:=hr
  simp only [evN,Option.map_eq_some_iff,Option.bind_eq_some_iff,Prod.mk.injEq] at he
  obtain ⟨cs,⟨u,g1,g2⟩,rfl,rfl⟩:=he
  have hrel:=AV.cells_rel (h.val h1 g1) g2
  have hst:=h.new (d:=(d,0)) hd (not_fix hdb) (e:=t) (c:=(a.eval x).cells) (total:=1) (k:=.box cs) trivial trivial (by have:=hrel.1;simp at this;simp [Blk.size,this]) (Nat.le_refl _) hmax (AV.cells_noSlot (FF.val_noSlot hd g1) g2) (by have:=box_cells hrel;simpa using this)
  refine fin (x:=.pointer (some ⟨w.heap.size,0,none⟩)) ?_ hst ?_
  ·simp [execOp,hop,Instr.box,newVar,newRow]
  ·have:=AVRel.ptr (ι:=setι ι (d,0) (some (w.heap.size,1))) (S:=S) (d,0) cs.length 0 0 w.heap.size 1 setι_eq
   simpa using this
 | buildSlice t len parts=>
  simp only [hop,resolveOp] at hr
  split at hr
  ·rename_i e hu
   split at hr
   ·rename_i n z h1 h2
    split at hr
    ·rename_i hc
     simp only [Option.map_eq_some_iff] at hr
     obtain ⟨q,h3,rfl⟩:=hr
     simp only [evN,Option.bind_eq_some_iff,Option.map_eq_some_iff,Prod.mk.injEq] at he
     obtain ⟨ps,g1,qs,⟨cs,g2,g3⟩,rfl,rfl⟩:=he
     obtain ⟨zv,z1,z2,_⟩:=zeroO_run (P:=P) (S:=S) (w:=w) h2
     have hzs:zv.cells.size=n:=by have:=z2.1;simp at this;omega
     have hz:Rs ι S (((List.range (len*n)).map fun j=>z.getD (j % n) .nif).map .p) ((List.range (len*n)).map fun j=>zv.cells[j % zv.cells.size]!):=by
      refine ⟨by simp,fun j p u e1 e2=>?_⟩
      simp only [List.getElem?_map,Option.map_eq_some_iff] at e1 e2
      obtain ⟨p',⟨x,e3,rfl⟩,rfl⟩:=e1
      obtain ⟨x',e4,rfl⟩:=e2
      rw [e3] at e4;simp at e4;subst e4
      have hlt:x % n<n:=Nat.mod_lt _ hc.2.2
      refine .p _ _ (z2.2 (x % n) _ _ ?_ ?_)
      ·simp [List.getD,List.getElem?_eq_getElem (show x % n<z.length by omega)]
      ·rw [hzs]
       simp [Array.getElem!_eq_getD,Array.getD,hzs,hlt]
     obtain ⟨us,g4,g5⟩:=parts_ok h h3 g1 g2 hz
     have hps:=g5.toPs g3
     have hlen:qs.length=len*n:=by
      have:=allP_eq g3
      have l2:=fillA_len g2
      rw [this] at l2
      simpa using l2
     have hus:us.toArray.size=len*n:=by have:=hps.1;simp;omega
     have hst:=h.new (d:=(d,0)) hd (not_fix hdb) (e:=e) (c:=us.toArray) (total:=len) (k:=.sl e n (chunk n len qs))
      (fun i row q=>by
       obtain ⟨q1,rfl⟩:=chunk_row q
       have:(i+1)*n≤len*n:=Nat.mul_le_mul_right _ q1
       rw [Nat.add_mul] at this
       simp;omega) rfl hus (by simp [Blk.nrows,chunk_len]) (by
        have:=hc.1
        have h3:len≤len*n:=Nat.le_mul_of_pos_right _ hc.2.2
        unfold maxLen;omega) rfl (sl_cells hps hlen)
     refine fin (x:=.slice (some ⟨w.heap.size,0,none⟩) len len) ?_ hst ?_
     ·have hnot:¬(len*n > 2 ^ 24):=by have:=hc.1;omega
      simp only [execOp,hop,Instr.buildSlice,Sem.run_bind,run_underlying hu,Result.andThen_ok,sizeO_run h1,if_neg hnot,Sem.run_pure]
      have harr0:len*n=0→((Array.range (len*n)).map fun x=>(#[]:Array Value)[x % (#[]:Array Value).size]!)=((List.range (len*n)).map fun j=>zv.cells[j % zv.cells.size]!).toArray:=by
       intro h0
       apply Array.ext'
       simp [h0]
      have harr1:((Array.range (len*n)).map fun x=>zv.cells[x % zv.cells.size]!)=((List.range (len*n)).map fun j=>zv.cells[j % zv.cells.size]!).toArray:=by
       apply Array.ext'
       simp
      rw [Sem.run_ite]
      split
      ·rename_i h0
       simp only [Sem.run_bind,Sem.run_pure,Result.andThen_ok]
       rw [harr0 h0]
       simp only [Array.toList_map]
       rw [g4]
       simp [newRow]
      ·simp only [Sem.run_bind,Sem.run_pure,z1,Result.andThen_ok]
       rw [harr1]
       simp only [Array.toList_map]
       rw [g4]
       simp [newRow]
     ·exact .ref (d,0) n 0 len w.heap.size len len _ setι_eq (by omega) (Nat.le_refl _) (.inr (by simp))
    ·simp at hr
   ·simp at hr
  ·simp at hr
 | makeSlice t l c=>
  simp only [hop,resolveOp] at hr
  split at hr
  ·rename_i e hu
   split at hr
   ·rename_i i z o1 o2 h1 h2 h3 h4
    split at hr
    ·rename_i hc
     simp at hr;subst hr
     simp only [evN] at he
     split at he
     ·rename_i k1 l' k2 c' g1 g2
      split at he
      ·rename_i hb
       simp only [Option.some.injEq,Prod.mk.injEq] at he
       obtain ⟨rfl,rfl⟩:=he
       obtain ⟨zv,z1,z2,z3⟩:=zeroO_run (P:=P) (S:=S) (w:=w) h2
       simp only [h1,Option.bind_some] at z3
       have hzs:zv.cells.size=i.size:=by have:=z2.1;simp at this;omega
       have hrun:=run_make (P:=P) w t e i zv hu h1 z3 k1 k2 l' c' hb.1 hb.2.1 hb.2.2.1 hb.2.2.2
       have hsz:(madeCells zv.cells (c'.toNat*i.size)).size=c'.toNat*i.size:=size_madeCells _ _
       have hst:=h.new (d:=(d,0)) hd (not_fix hdb) (e:=e) (c:=madeCells zv.cells (c'.toNat*i.size)) (total:=c'.toNat) (k:=.sl e i.size (List.replicate l'.toNat z))
        (fun j row q=>by
         have:=List.getElem?_eq_some_iff.1 q
         obtain ⟨q1,q2⟩:=this
         simp at q2;subst q2;omega) rfl hsz (by simp [Blk.nrows];omega) (by unfold maxLen;omega) rfl (fun p q av e1=>by
         simp only [Blk.cell,Option.map_eq_some_iff,Option.bind_eq_some_iff] at e1
         obtain ⟨pv,⟨r,e2,e3⟩,rfl⟩:=e1
         obtain ⟨e4,e5⟩:=List.getElem?_eq_some_iff.1 e2
         simp at e4 e5;subst e5
         have hq:q<i.size:=by have:=(List.getElem?_eq_some_iff.1 e3).1;omega
         have hlt:p*i.size+q<c'.toNat*i.size:=by
          have:(p+1)*i.size≤c'.toNat*i.size:=Nat.mul_le_mul_right _ (by omega)
          rw [Nat.add_mul] at this;omega
         refine ⟨zv.cells[q]'(by omega),?_,.p _ _ (z2.2 q pv _ e3 (by simp [hzs,hq]))⟩
         simp only [Blk.size,madeCells,Array.getElem?_map]
         rw [Array.getElem?_range,if_pos hlt]
         simp only [Option.map_some,hzs]
         have hm:(p*i.size+q) % i.size=q:=by rw [Nat.mul_comm,Nat.mul_add_mod];exact Nat.mod_eq_of_lt hq
         simp [hm,Array.getElem!_eq_getD,Array.getD,hzs,hq])
       refine fin (x:=.slice (some ⟨w.heap.size,0,none⟩) l'.toNat c'.toNat) ?_ hst ?_
       ·simp [execOp,hop,inv_int (h.val h3 g1),inv_int (h.val h4 g2),hrun]
       ·exact .ref (d,0) i.size 0 l'.toNat w.heap.size c'.toNat c'.toNat _ setι_eq (by omega) (by omega) (.inr (by simp))
      ·simp at he
     ·simp at he
    ·simp at hr
   ·simp at hr
  ·simp at hr
 | slice t x lo hi mx=>
  exfalso
  cases mx with
  | some m=>simp [hop,resolveOp] at hr
  | none=>
   simp only [hop,resolveOp] at hr
   repeat' split at hr
   all_goals first
   | (simp at hr;done)
   | (simp only [Option.some.injEq] at hr;subst hr;simp [evN] at he;done)
 | call c=>
  exfalso
  simp only [hop,resolveOp,resolveCall] at hr
  repeat' split at hr
  all_goals first
  | (simp at hr;done)
  | (simp only [Option.some.injEq] at hr;subst hr;simp [evN] at he;done)
  | (simp only [Option.map_eq_some_iff] at hr;obtain ⟨q,h1,rfl⟩:=hr;simp [evN] at he;done)
 | _=>
  exfalso
  simp only [hop,resolveOp] at hr
  first
  | (simp at hr;done)
  | (repeat' split at hr
     all_goals first
     | (simp at hr;done)
     | (simp only [Option.some.injEq] at hr;subst hr;simp [evN] at he;done)
     | (simp only [Option.map_eq_some_iff] at hr;obtain ⟨q,h1,rfl⟩:=hr;simp [evN] at he;done))
end
end Go.Abs
namespace Go.Abs
open Go
set_option linter.unusedSimpArgs false
set_option linter.unusedVariables false
section
variable {P:Program} {N:Nat} {w0:Base} {ι:Inj} {S:Snap} {F:FF} {a:Act} {w:World}
theorem AVRel.one {v:AV} {x:Value} (h:AVRel ι S v x) (e:v.one=true):x.oneCell'=true:=by
 cases h with
 | p p x hp=>cases hp<;>first | rfl | (simp [AV.one,PV.one] at e)
 | _=>first | rfl | (simp [AV.one] at e)
theorem PRel.one {v:PV} {x:Value} (h:PRel S v x) (e:v.one=true):x.oneCell'=true:=by
 cases h<;>first | rfl | (simp [PV.one] at e)
theorem splice_get {α:Type} {l vs:List α} {o j:Nat} (hl:o+vs.length≤l.length) :
  (l.take o++vs++l.drop (o+vs.length))[j]?=if o≤j∧j<o+vs.length then vs[j - o]? else l[j]?:=by
 simp only [List.getElem?_append,List.length_append,List.length_take,List.getElem?_take,List.getElem?_drop]
 have m:min o l.length=o:=by omega
 rw [m]
 by_cases c1:j<o
 ·have:¬(o≤j∧j<o+vs.length):=by omega
  have c2:j<o+vs.length:=by omega
  rw [if_neg this]
  simp [c1,c2]
 ·by_cases c2:j<o+vs.length
  ·have:o≤j∧j<o+vs.length:=by omega
   simp [c1,c2,this]
  ·have:¬(o≤j∧j<o+vs.length):=by omega
   rw [if_neg c2,if_neg this]
   congr 1
   omega
theorem FF.app_store {dst:Option Nat} {s:Slot} {k:Blk} {v:AV}:F.app dst ⟨v,[(s,k)],[]⟩={ F with var:=fun t=>if dst=some t then some v else F.var t,blk:=fun s'=>if s'=s then some k else F.blk s' }:=by
 unfold FF.app
 congr 1
 funext s'
 simp only [Del.blk,look]
 by_cases hs:s'=s<;>simp [hs]
theorem evS_ok (h:St N w0 ι S F a w) {o:Oper} {ao:AOp} {s:Slot} {k:Blk} (hr:resolveOp P o.op=some ao) (he:evS F ao=some (s,k)) (hdst:∀ d,o.dst=some d→d<N) :
  ∃ w',(execOp a.eval o).run P w=.ok .skip w'∧St N w0 ι S (F.app o.dst ⟨.top,[(s,k)],[]⟩) (a.put o.dst undef) w':=by
 have hop:∃ t x y n o1 o2,o.op=.store t x y∧sizeO P t=some n∧rO x=some o1∧rO y=some o2∧ao=.store n o1 o2:=by
  cases hop:o.op with
  | store t x y=>
   simp only [hop,resolveOp] at hr
   split at hr
   ·rename_i n o1 o2 h1 h2 h3;simp at hr;exact ⟨t,x,y,n,o1,o2,rfl,h1,h2,h3,hr.symm⟩
   ·simp at hr
  | slice t x lo hi mx=>
   exfalso
   cases mx with
   | some m=>simp [hop,resolveOp] at hr
   | none=>
    simp only [hop,resolveOp] at hr
    repeat' split at hr
    all_goals first
    | (simp at hr;done)
    | (simp only [Option.some.injEq] at hr;subst hr;simp [evS] at he;done)
  | call c=>
   exfalso
   simp only [hop,resolveOp,resolveCall] at hr
   repeat' split at hr
   all_goals first
   | (simp at hr;done)
   | (simp only [Option.some.injEq] at hr;subst hr;simp [evS] at he;done)
   | (simp only [Option.map_eq_some_iff] at hr;obtain ⟨q,h1,rfl⟩:=hr;first | (simp [evS] at he;done) | (unfold allocOf at he;split at he<;>simp [evS] at he;done))
  | _=>
   exfalso
   simp only [hop,resolveOp] at hr
   first
   | (simp at hr;done)
   | (simp only [Option.map_eq_some_iff] at hr;obtain ⟨q,h1,rfl⟩:=hr;first | (simp [evS] at he;done) | (unfold allocOf at he;split at he<;>simp [evS] at he;done))
   | (repeat' split at hr
      all_goals first
      | (simp at hr;done)
      | (simp only [Option.some.injEq] at hr;subst hr;simp [evS] at he;done)
      | (simp only [Option.map_eq_some_iff] at hr;obtain ⟨q,h1,rfl⟩:=hr;first | (simp [evS] at he;done) | (unfold allocOf at he;split at he<;>simp [evS] at he;done)))
 obtain ⟨t,x,y,n,o1,o2,hop,h1,h2,h3,rfl⟩:=hop
 simp only [evS] at he
 split at he
 ·rename_i s' size row off cs g1 g2
  split at he
  ·rename_i hcs
   obtain ⟨hcl,hone⟩:=hcs
   simp only [Option.bind_eq_some_iff] at g2
   obtain ⟨u,g2,g3⟩:=g2
   have hcells:=AV.cells_rel (h.val h3 g2) g3
   have hvn:(a.eval y).cells.size=n:=by have:=hcells.1;simp at this;omega
   have hptr:=h.val h2 g1
   generalize hx:a.eval x=xv at hptr
   cases hptr with
   | ptr _ _ _ _ b total hi=>
    have hones:∀ v∈(a.eval y).cells.toList,v.oneCell'=true:=by
     intro v hv
     obtain ⟨j,hj,hjv⟩:=List.mem_iff_getElem.1 hv
     have hj':j<cs.length:=by rw [←hcells.1];exact hj
     have e1:cs[j]?=some cs[j]:=by simp
     have e2:(a.eval y).cells.toList[j]?=some v:=by rw [List.getElem?_eq_getElem hj,hjv]
     exact (hcells.2 j _ v e1 e2).one (List.all_eq_true.1 hone _ (List.getElem_mem hj'))
    -- the run,once the block is seen
    have fin:∀ {k0:Blk} {e:TypeId} {c:Array Value},F.blk s'=some k0→Lies w b e c→row*size+off+n≤c.size→s'=s→k.wf→k.elem e→c.size=total*k.size→k.nrows≤total→total≤maxLen →
      (∀ i j av,k.cell i j=some av→∃ v,(c.toList.take (row*size+off)++(a.eval y).cells.toList++c.toList.drop (row*size+off+(a.eval y).cells.toList.length))[i*k.size+j]?=some v∧AVRel ι S av v) →
      ∃ w',(execOp a.eval o).run P w=.ok .skip w'∧St N w0 ι S (F.app o.dst ⟨.top,[(s,k)],[]⟩) (a.put o.dst undef) w':=by
     intro k0 e c hk0 hl hfit hs hwf hel hsz hnr hmx hrel
     subst hs
     have hst:=run_storeCells_at P b (row*size+off) e (a.eval y).cells.toList 0 c w hl (by simp;omega) hones
     simp only [Nat.add_zero] at hst
     refine ⟨w.setRow b (c.toList.take (row*size+off)++(a.eval y).cells.toList++c.toList.drop (row*size+off+(a.eval y).cells.toList.length)).toArray,?_,?_⟩
     ·simp only [execOp,hop,hx,Instr.storeAt,Instr.sureAddr,storeVar,Sem.run_bind,Sem.run_pure,Result.andThen_ok,sizeO_run h1]
      rw [if_neg (by simp [hvn])]
      rw [hst]
      rfl
     ·have ht:=h.touch (w':=w.setRow b (c.toList.take (row*size+off)++(a.eval y).cells.toList++c.toList.drop (row*size+off+(a.eval y).cells.toList.length)).toArray) hk0 hi rfl rfl rfl (by simp) (fun k _ hk=>setRow_other w b k _ hk)
      have hlies:Lies (w.setRow b (c.toList.take (row*size+off)++(a.eval y).cells.toList++c.toList.drop (row*size+off+(a.eval y).cells.toList.length)).toArray) b e (c.toList.take (row*size+off)++(a.eval y).cells.toList++c.toList.drop (row*size+off+(a.eval y).cells.toList.length)).toArray:=setRow_heap w b c _ e _ hl
      have hlay:=ht.lay s' k ⟨hwf,.inr ⟨b,total,e,_,hi,hlies,hel,by simp only [List.size_toArray,List.length_append,List.length_take,List.length_drop,Array.length_toList];omega,hnr,hmx,fun i j av q=>by simpa using hrel i j av q⟩⟩ (fun b' t' q=>by
       rw [hi] at q;simp at q;obtain ⟨rfl,rfl⟩:=q
       refine ⟨(h.own s' k0 hk0 b total hi).1,(h.own s' k0 hk0 b total hi).2,fun s2 k2 q1 q2 b2 t2 q3=>?_⟩
       dsimp only at q1
       rw [if_neg q2] at q1
       exact h.sep s2 s' k2 k0 q1 hk0 q2 b2 t2 b total q3 hi)
      have hput:=hlay.put (dst:=o.dst) (v:=.top) (x:=undef) (.top _) hdst
      rw [FF.app_store]
      have:(fun s2=>if s2=s' then some k else if s2=s' then none else F.blk s2)=fun s2=>if s2=s' then some k else F.blk s2:=by
       funext s2;by_cases q:s2=s'<;>simp [q]
      simp only [this] at hput
      exact hput
    split at he
    ·rename_i e sz rows hb
     split at he
     ·rename_i r ps hrow hps
      split at he
      ·rename_i hc
       obtain ⟨rfl,hoff⟩:=hc
       simp only [Option.some.injEq,Prod.mk.injEq] at he
       obtain ⟨rfl,rfl⟩:=he
       obtain ⟨hwf,hm⟩:=h.mem s' _ hb
       have hrl:=hwf row r hrow
       have hrlt:=(List.getElem?_eq_some_iff.1 hrow).1
       have hcs:=allP_eq hps
       have hpl:ps.length=n:=by rw [hcs] at hcl;simpa using hcl
       rcases hm with ⟨q,_⟩ | ⟨b',total',e',c,q1,q2,q3,q4,q5,q6,q7⟩
       ·rw [hi] at q;simp at q
       ·rw [hi] at q1;simp at q1;obtain ⟨rfl,rfl⟩:=q1
        simp only [Blk.size,Blk.nrows,Blk.elem] at q3 q4 q5
        have hfit:row*sz+sz≤c.size:=by
         rw [q4]
         have:(row+1)*sz≤total*sz:=Nat.mul_le_mul_right _ (by omega)
         rw [Nat.add_mul] at this;omega
        refine fin hb q2 (by omega) rfl ?_ q3 q4 (by simpa [Blk.nrows] using q5) q6 ?_
        ·intro i row' e1
         rw [List.getElem?_set] at e1
         by_cases hri:row=i
         ·rw [if_pos hri] at e1
          first
          | (rw [if_pos hrlt] at e1;simp at e1;subst e1;simp;omega)
          | (simp at e1;subst e1;simp;omega)
         ·rw [if_neg hri] at e1;exact hwf i row' e1
        ·intro i j av e1
         have hspl:=splice_get (l:=c.toList) (vs:=(a.eval y).cells.toList) (o:=row*sz+off) (j:=i*sz+j) (by simp;omega)
         simp only [Blk.size]
         rw [hspl]
         simp only [Blk.cell,Option.map_eq_some_iff,Option.bind_eq_some_iff] at e1
         obtain ⟨p,⟨r',e2,e3⟩,rfl⟩:=e1
         rw [List.getElem?_set] at e2
         have hlen:(a.eval y).cells.toList.length=n:=by simpa using hvn
         rw [hlen]
         by_cases hi':row=i
         ·subst hi'
          rw [if_pos rfl,if_pos hrlt] at e2
          simp at e2;subst e2
          have hsp:=splice_get (l:=r) (vs:=ps) (o:=off) (j:=j) (by omega)
          rw [hpl] at hsp
          simp only [List.append_assoc] at hsp e3
          rw [hsp] at e3
          by_cases hj:off≤j∧j<off+n
          ·rw [if_pos hj] at e3
           rw [if_pos (by omega)]
           have:row*sz+j - (row*sz+off)=j - off:=by omega
           rw [this]
           obtain ⟨v,hv⟩:∃ v,(a.eval y).cells.toList[j - off]?=some v:=⟨(a.eval y).cells.toList[j - off]'(by omega),by simp⟩
           exact ⟨v,hv,hcells.2 _ _ v (by rw [hcs];simp [e3]) hv⟩
          ·rw [if_neg hj] at e3
           rw [if_neg (by omega)]
           obtain ⟨v,v1,v2⟩:=q7 row j (.p p) (by simp [Blk.cell,hrow,e3])
           exact ⟨v,by simpa [Blk.size] using v1,v2⟩
         ·rw [if_neg hi'] at e2
          have hjs:j<sz:=by have:=(List.getElem?_eq_some_iff.1 e3).1;have:=hwf i r' e2;omega
          rw [if_neg (by
           rcases Nat.lt_or_ge i row with hlt | hge
           ·have:(i+1)*sz≤row*sz:=Nat.mul_le_mul_right _ hlt
            rw [Nat.add_mul] at this;omega
           ·have:(row+1)*sz≤i*sz:=Nat.mul_le_mul_right _ (by omega)
            rw [Nat.add_mul] at this;omega)]
          obtain ⟨v,v1,v2⟩:=q7 i j (.p p) (by simp [Blk.cell,e2,e3])
          exact ⟨v,by simpa [Blk.size] using v1,v2⟩
      ·simp at he
     ·simp at he
    ·rename_i cells hb
     split at he
     ·rename_i hc
      obtain ⟨rfl,hoff⟩:=hc
      simp only [Option.some.injEq,Prod.mk.injEq] at he
      obtain ⟨rfl,rfl⟩:=he
      obtain ⟨hwf,hm⟩:=h.mem s' _ hb
      rcases hm with ⟨_,q⟩ | ⟨b',total',e',c,q1,q2,q3,q4,q5,q6,q7⟩
      ·simp [Blk.nrows] at q
      ·rw [hi] at q1;simp at q1;obtain ⟨rfl,rfl⟩:=q1
       simp only [Blk.size,Blk.nrows] at q4 q5
       have hcsz:cells.length≤c.size:=by
        rw [q4];exact Nat.le_mul_of_pos_left _ (by omega)
       have hlen:(a.eval y).cells.toList.length=n:=by simpa using hvn
       refine fin hb q2 (by omega) rfl trivial trivial ?_ q5 q6 ?_
       ·simp only [Blk.size,List.length_append,List.length_take,List.length_drop]
        rw [q4];congr 1;omega
       ·intro i j av e1
        simp only [Blk.cell] at e1
        split at e1
        ·rename_i hi0;subst hi0
         have hsp:=splice_get (l:=cells) (vs:=cs) (o:=off) (j:=j) (by omega)
         rw [hcl] at hsp
         rw [hsp] at e1
         have hspl:=splice_get (l:=c.toList) (vs:=(a.eval y).cells.toList) (o:=0*size+off) (j:=0*(Blk.box (cells.take off++cs++cells.drop (off+n))).size+j) (by simp;omega)
         rw [hspl,hlen]
         simp only [Nat.zero_mul,Nat.zero_add]
         by_cases hj:off≤j∧j<off+n
         ·rw [if_pos hj] at e1 ⊢
          obtain ⟨v,hv⟩:∃ v,(a.eval y).cells.toList[j - off]?=some v:=⟨(a.eval y).cells.toList[j - off]'(by omega),by simp⟩
          exact ⟨v,hv,hcells.2 _ _ v e1 hv⟩
         ·rw [if_neg hj] at e1 ⊢
          obtain ⟨v,v1,v2⟩:=q7 0 j av (by simp [Blk.cell,e1])
          exact ⟨v,by simpa using v1,v2⟩
        ·simp at e1
     ·simp at he
    ·simp at he
  ·simp at he
 ·simp at he
end
end Go.Abs
