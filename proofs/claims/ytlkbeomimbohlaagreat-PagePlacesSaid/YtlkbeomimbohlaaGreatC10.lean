/- A part of the proof: an abstract reading of the model, contracts of functions. -/
import Derived.Test.YtlkbeomimbohlaaGreatC9
import Derived.Test.YtlkbeomimbohlaaGreatProg
set_option linter.unusedVariables false
set_option linter.unusedSimpArgs false
namespace Go.Abs
open Go
set_option linter.unusedSimpArgs false
set_option linter.unusedVariables false
section
variable {P:Program} {N:Nat} {J:Nat→Snap→World→Prop} {E:Snap→World→Prop} {l:Nat} {xs:List (List PV)}
theorem yield_draw {ops:Array Oper} {pre:List AI} {y:AB} {post:List AB} {Q:Exit→Act→World→Prop} {a:Act} {w:World} {n:Nat} (hn:NoDefer ops)
  (hr:resolveIs P N ops ops.toList=some (pre.map (·.b)++y :: post)) (hm:okMarks pre=true) (hk:okPre pre y post=true)
  {F:Fr} {ι:Inj} {S:Snap} {b:Base} {K:Fr→Prop} (h:awpD P F 0 [] pre K F) (hst:St N b ι S F.ff a w)
  (hX:∀ F' ι' S' a' w',K F'→St N b ι' S' F'.ff a' w'→wpOpsIn (Fz none) n P ops Q (pre.length :: List.range' (pre.length+1) post.length) a' w') :
  wpAnyIn (Fz none) n P .any ops Q ops.size (Array.replicate ops.size false) a w:=by
 obtain ⟨q1,q2⟩:=resolveIs_get hr
 have hsz:ops.size=pre.length+(post.length+1):=by have:=q1;simp at this;omega
 simp only [okPre,Bool.and_eq_true] at hk
 obtain ⟨⟨⟨k1,k2⟩,k3⟩,k4⟩:=hk
 have getP:∀ k,k<pre.length→∃ o,ops[k]?=some o∧resolveI P N ops o=some (pre.getD k default).b:=by
  intro k hk
  obtain ⟨o,h1,h2⟩:=q2 k (pre.getD k default).b (by rw [List.getElem?_append_left (by simpa using hk)];simp [hk])
  exact ⟨o,by simpa using h1,h2⟩
 have getQ:∀ k,k<post.length→∃ o,ops[pre.length+1+k]?=some o∧resolveI P N ops o=some (post.getD k default):=by
  intro k hk
  obtain ⟨o,h1,h2⟩:=q2 (pre.length+1+k) (post.getD k default) (by
   rw [List.getElem?_append_right (by simp;omega)]
   have:pre.length+1+k - (pre.map (·.b)).length=k+1:=by simp;omega
   rw [this];simp [hk])
  exact ⟨o,by simpa using h1,h2⟩
 obtain ⟨oy,hy1,hy2⟩:∃ o,ops[pre.length]?=some o∧resolveI P N ops o=some y:=by
  obtain ⟨o,h1,h2⟩:=q2 pre.length y (by rw [List.getElem?_append_right (by simp)];simp)
  exact ⟨o,by simpa using h1,h2⟩
 have hmk:=List.all_eq_true.1 hm
 have hafter:∀ k,k<pre.length→∀ e∈(pre.getD k default).b.after,e<k:=by
  intro k hk e he
  have:=hmk k (by simpa using hk)
  simp only [Bool.and_eq_true] at this
  have:=List.all_eq_true.1 this.1 e he
  simpa using this
 -- the operations ahead of it
 let opsP:=ops.extract 0 pre.length
 have hPs:opsP.size=pre.length:=by simp only [opsP,Array.size_extract];omega
 have hPg:∀ (k:Nat) (o:Oper),opsP[k]?=some o→k<pre.length∧ops[k]?=some o:=by
  intro k o e
  have hlt:k<pre.length:=by have:=(Array.getElem?_eq_some_iff.1 e).1;omega
  refine ⟨hlt,?_⟩
  simp only [opsP,Array.getElem?_extract] at e
  rw [if_pos (by omega)] at e
  simpa using e
 have hPg':∀ k,k<pre.length→opsP[k]?=ops[k]?:=by
  intro k hk
  simp only [opsP,Array.getElem?_extract]
  rw [if_pos (by omega)]
  simp
 have hguard:∀ k,k<pre.length→∀ o,ops[k]?=some o→∀ j w,o.guard=some (j,w)→j<pre.length:=by
  intro k hk o ho j wt hg
  obtain ⟨o',h1,h2⟩:=getP k hk
  rw [ho] at h1;simp at h1;subst h1
  obtain ⟨_,_,_,_,g5⟩:=resolveI_inv h2
  rcases g5 with ⟨g6,_⟩ | ⟨j',w',t,g6,g7,g8⟩
  ·rw [g6] at hg;simp at hg
  ·rw [g6] at hg;simp at hg
   obtain ⟨rfl,rfl⟩:=hg
   have k4':=List.all_eq_true.1 k4 (pre.getD k default) (by simp [List.getD,hk])
   rw [g8] at k4'
   simp only [List.all_cons,Bool.and_eq_true,Bool.not_eq_true',List.all_eq_true] at k4'
   simp only [Option.bind_eq_some_iff] at g7
   obtain ⟨oj,g9,g10⟩:=g7
   rcases Nat.lt_trichotomy j' pre.length with h3 | h3 | h3
   ·exact h3
   ·subst h3
    rw [hy1] at g9;simp at g9;subst g9
    have:=(resolveI_inv hy2).2.1
    have h4:=k4'.1
    rw [this,g10] at h4;simp at h4
   ·have hlt:j'<ops.size:=(Array.getElem?_eq_some_iff.1 g9).1
    obtain ⟨o3,h4,h5⟩:=getQ (j' - (pre.length+1)) (by omega)
    have:pre.length+1+(j' - (pre.length+1))=j':=by omega
    rw [this,g9] at h4;simp at h4;subst h4
    have h6:=(resolveI_inv h5).2.1
    have h7:=k4'.2 (post.getD (j' - (pre.length+1)) default) (by
     have hlt':j' - (pre.length+1)<post.length:=by omega
     simp [List.getD,hlt'])
    rw [h6,g10] at h7;simp at h7
 have hresP:∀ (k:Nat) (i:AI),pre[k]?=some i→∃ o,opsP[k]?=some o∧resolveI P N opsP o=some i.b:=by
  intro k i e
  have hlt:=(List.getElem?_eq_some_iff.1 e).1
  obtain ⟨o,h1,h2⟩:=getP k hlt
  have hi:pre.getD k default=i:=by simp [List.getD,e]
  rw [hi] at h2
  refine ⟨o,by rw [hPg' k hlt];exact h1,?_⟩
  rw [←h2]
  unfold resolveI
  cases hg:o.guard with
  | none=>rfl
  | some q=>
   obtain ⟨j,wt⟩:=q
   simp only [hPg' j (hguard k hlt o h1 j wt hg)]
 have hany:=awpD_ok (Q:=Qn (fun a' w'=>∃ F' ι' S',K F'∧St N b ι' S' F'.ff a' w')) (ops:=opsP) (by rw [hPs]) hresP hm h hst (fun F' ι' S' a' w' hk hst'=>⟨F',ι',S',hk,hst'⟩)
 rw [hPs] at hany
 have:=preIn (r:=none) (n:=n) (D:=fun _=>True) (a0:=a) (m:=post.length+1) (Q:=Q) (fun _ _ _ _ _=>trivial) hn hPs hsz (by omega) ?_ ?_ ?_ ?_ pre.length (Array.replicate pre.length false) a w (by simp) ?_ ?_ hany (.refl _ _)
 ·rw [hsz]
  have e:Array.replicate (pre.length+(post.length+1)) false=Array.replicate pre.length false++Array.replicate (post.length+1) false:=by simp
  rw [e];exact this
 ·intro k o e
  obtain ⟨h1,h2⟩:=hPg k o e
  refine ⟨h2,?_,hguard k h1 o h2⟩
  obtain ⟨o',h3,h4⟩:=getP k h1
  rw [h2] at h3;simp at h3;subst h3
  rw [←(resolveI_inv h4).2.2.2.1]
  exact hafter k h1
 ·intro listed hls hcl o ho hre j hj
  rw [hy1] at ho;simp at ho;subst ho
  rw [←(resolveI_inv hy2).2.2.2.1] at hre
  have h1:=List.all_eq_true.1 k1 j (by simpa using hj)
  rw [List.any_eq_true] at h1
  obtain ⟨e,he,h2⟩:=h1
  simp only [Bool.or_eq_true,beq_iff_eq] at h2
  rcases h2 with rfl | h2
  ·exact hre _ he
  ·have hspec:=masks_spec (pre.map (·.b.after)) [] [] rfl (by simp) (by
    intro k hk e he
    simp only [List.nil_append,List.length_map] at hk he
    exact hafter k hk e (by simpa [List.getD,hk] using he))
   simp only [List.nil_append,List.length_map] at hspec
   have hlt:=List.all_eq_true.1 k2 e he
   have hlt:e<pre.length:=by simpa using hlt
   have hdep:∀ k,k<pre.length→listed.getD k false=true→∀ j,((masks (pre.map (·.b.after)) []).getD k 0).testBit j=true→listed.getD j false=true:=by
    intro k
    induction k using Nat.strongRecOn with
    | _ k ih=>
     intro hk hlk j hj
     obtain ⟨e',h3,h4⟩:=hspec.2 k hk j hj
     have h3:e'∈(pre.getD k default).b.after:=by simpa [List.getD,hk] using h3
     obtain ⟨o2,g1,g2⟩:=getP k hk
     have h5:listed.getD e' false=true:=hcl k o2 (by rw [hPg' k hk];exact g1) hlk e' (by rw [←(resolveI_inv g2).2.2.2.1];exact h3)
     rcases h4 with rfl | ⟨h4,h6⟩
     ·exact h5
     ·exact ih e' h4 (by omega) h5 j h6
   exact hdep e hlt (hre e he) j h2
 ·intro k o hck ho
  have hlt:k<ops.size:=(Array.getElem?_eq_some_iff.1 ho).1
  obtain ⟨o',h1,h2⟩:=getQ (k - (pre.length+1)) (by omega)
  have e:pre.length+1+(k - (pre.length+1))=k:=by omega
  rw [e,ho] at h1;simp at h1;subst h1
  rw [←(resolveI_inv h2).2.2.2.1]
  have h3:=List.all_eq_true.1 k3 (k - (pre.length+1)) (by simp;omega)
  simp only [Bool.and_eq_true,List.contains_iff_mem] at h3
  have e2:pre.length+(k - (pre.length+1))=k - 1:=by omega
  rw [e2] at h3
  exact h3.2
 ·rintro a' w' ⟨F',ι',S',hk,hst'⟩ _
  refine chainIn (c:=pre.length) (fun k o hck ho=>?_) (post.length+1) pre.length (Nat.le_refl _) (by omega) a' w' ?_
  ·have hlt:k<ops.size:=(Array.getElem?_eq_some_iff.1 ho).1
   rcases Nat.eq_or_lt_of_le hck with h1 | h1
   ·subst h1
    rw [hy1] at ho;simp at ho;subst ho
    rw [←(resolveI_inv hy2).2.2.2.1]
    exact ⟨fun e he=>by have:=List.all_eq_true.1 k2 e he;simpa using this,fun q=>by omega⟩
   ·obtain ⟨o',h2,h3⟩:=getQ (k - (pre.length+1)) (by omega)
    have e:pre.length+1+(k - (pre.length+1))=k:=by omega
    rw [e,ho] at h2;simp at h2;subst h2
    rw [←(resolveI_inv h3).2.2.2.1]
    have h4:=List.all_eq_true.1 k3 (k - (pre.length+1)) (by simp;omega)
    simp only [Bool.and_eq_true,List.contains_iff_mem] at h4
    have e2:pre.length+(k - (pre.length+1))=k - 1:=by omega
    rw [e2,e] at h4
    exact ⟨fun e' he'=>by have:=List.all_eq_true.1 h4.1 e' he';simpa using this,fun _=>h4.2⟩
  ·rw [List.range'_succ]
   exact hX F' ι' S' a' w' hk hst'
 ·have:((List.range pre.length).filter fun j=>!((Array.replicate pre.length false).getD j false))=List.range pre.length:=by
   rw [List.filter_eq_self]
   intro j hj
   have hj':j<pre.length:=by simpa using hj
   simp [Array.getD,hj']
  rw [this];simp
 ·intro k o e hl
  have:k<pre.length:=(hPg k o e).1
  simp [Array.getD,this] at hl
theorem awpY_ok (hm:P.follows .mixedOrders=true) (hJ:∀ k,Stab (J k)) (hround:∀ k x S1 w1 vs,xs[k]?=some x→S1.holds w1→J k S1 w1→Ps S1 x vs→Round P l vs w1 S1 fun b S2 w2=>if b then J (k+1) S2 w2 else E S2 w2) :
  ∀ (ay:AY) (c:Code),resolveC P N c=some ay.strip→ay.okAll=true→SoundY P N J E (awpY P l xs ay) c:=by
 intro ay
 induction ay with
 | ghost g x ih=>
  intro c hr ho n K F p a w Q h hst hQ
  simp only [awpY] at h
  split at h
  ·rename_i F' hF
   obtain ⟨b,ι,S,hD,hst,hpos⟩:=hst
   obtain ⟨ι',S',hst'⟩:=ghost_ok hst hF
   exact ih c hr ho n K F' p a w Q h ⟨b,ι',S',hD,hst',hpos⟩ hQ
  ·exact h.elim
 | skip=>
  intro c hr ho n K F p a w Q h hst hQ
  cases c<;>simp only [resolveC,AY.strip] at hr
  ·exact wpIn_skip (hQ .normal F p a w h hst)
  all_goals (try simp only [Option.map_eq_some_iff] at hr)
  all_goals (repeat' split at hr)
  all_goals (simp at hr)
 | seq x y ihx ihy=>
  intro c hr ho n K F p a w Q h hst hQ
  simp only [AY.okAll,Bool.and_eq_true] at ho
  cases c<;>simp only [resolveC,AY.strip] at hr
  case seq a' b'=>
   split at hr
   ·rename_i x' y' h1 h2
    simp at hr
    obtain ⟨rfl,rfl⟩:=hr
    refine wpIn_seq (ihx _ h1 ho.1 n _ F p a w _ h hst fun e F' p' a' w' hk hst'=>?_)
    cases e with
    | normal=>exact ihy _ h2 ho.2 n K F' p' a' w' Q hk hst' hQ
    | exit id=>exact hQ (.exit id) F' p' a' w' hk hst'
    | ret=>exact hQ .ret F' p' a' w' hk hst'
   ·simp at hr
  all_goals (try simp only [Option.map_eq_some_iff] at hr)
  all_goals (repeat' split at hr)
  all_goals (simp at hr)
 | cond c' x y ihx ihy=>
  intro c hr ho n K F p a w Q h hst hQ
  simp only [AY.okAll,Bool.and_eq_true] at ho
  cases c<;>simp only [resolveC,AY.strip] at hr
  case cond c'' a' b'=>
   split at hr
   ·rename_i q x' y' h1 h2 h3
    simp at hr
    obtain ⟨rfl,rfl,rfl⟩:=hr
    simp only [awpY] at h
    split at h
    ·rename_i b hbv
     obtain ⟨b0,ι,S,hD,hst1,hpos⟩:=id hst
     have:=inv_bool (hst1.val h1 hbv)
     refine wpIn_cond_split this (fun ht=>?_) (fun hf=>?_)
     ·exact ihx _ h2 ho.1 n K F p a w Q (h.1 ht) hst hQ
     ·exact ihy _ h3 ho.2 n K F p a w Q (h.2 hf) hst hQ
    ·exact h.elim
   ·simp at hr
  all_goals (try simp only [Option.map_eq_some_iff] at hr)
  all_goals (repeat' split at hr)
  all_goals (simp at hr)
 | block id x ih=>
  intro c hr ho n K F p a w Q h hst hQ
  cases c<;>simp only [resolveC,AY.strip] at hr
  case block id' a'=>
   simp only [Option.map_eq_some_iff,AC.block.injEq] at hr
   obtain ⟨x',h1,rfl,rfl⟩:=hr
   refine wpIn_block (ih _ h1 ho n _ F p a w _ h hst fun e F' p' a' w' hk hst'=>?_)
   cases e with
   | normal=>exact hQ .normal F' p' a' w' hk hst'
   | exit i=>
    simp only [AE.toExit,Exit.inBlock]
    dsimp only at hk
    split
    ·rename_i hi;rw [if_pos hi] at hk;exact hQ .normal F' p' a' w' hk hst'
    ·rename_i hi;rw [if_neg hi] at hk;exact hQ (.exit i) F' p' a' w' hk hst'
   | ret=>exact hQ .ret F' p' a' w' hk hst'
  all_goals (try simp only [Option.map_eq_some_iff] at hr)
  all_goals (repeat' split at hr)
  all_goals (simp at hr)
 | loop x ih=>
  intro c hr ho n K F p a w Q h hst hQ
  cases c<;>simp only [resolveC,AY.strip] at hr
  case loop a0=>
   simp only [Option.map_eq_some_iff,AC.loop.injEq] at hr
   obtain ⟨x',h1,rfl⟩:=hr
   let I:Act→World→Nat→Prop:=fun a' w' n=>∃ F p,lpY (awpY P l xs x) n K F p∧GSt N J E F p a' w'
   refine wpIn_loop (fun a w=>∃ n,I a w n) (fun a w=>leastOf (I a w)) ?_ ?_
   ·obtain ⟨n,hn⟩:=h;exact ⟨n,F,p,hn,hst⟩
   ·intro a1 w1 hI
    obtain ⟨⟨F1,p1,hlp,hst1⟩,hmin⟩:=leastOf_spec hI
    generalize hn:leastOf (I a1 w1)=n' at *
    cases n' with
    | zero=>exact hlp.elim
    | succ m=>
     refine ih _ h1 ho n _ F1 p1 a1 w1 _ hlp hst1 fun e F' p' a' w' hk hst'=>?_
     cases e with
     | normal=>
      have hJ':I a' w' m:=⟨F',p',hk,hst'⟩
      refine ⟨⟨m,hJ'⟩,?_⟩
      have:=(leastOf_spec ⟨m,hJ'⟩).2 m hJ'
      omega
     | exit id=>exact hQ (.exit id) F' p' a' w' hk hst'
     | ret=>exact hQ .ret F' p' a' w' hk hst'
  all_goals (try simp only [Option.map_eq_some_iff] at hr)
  all_goals (repeat' split at hr)
  all_goals (simp at hr)
 | scope x ih=>
  intro c hr ho n K F p a w Q h hst hQ
  cases c<;>simp only [resolveC,AY.strip] at hr
  case scope a0=>
   simp only [Option.map_eq_some_iff,AC.scope.injEq] at hr
   obtain ⟨x',h1,rfl⟩:=hr
   refine wpIn_scope (ih _ h1 ho n _ F p a w _ h hst fun e F' p' a' w' hk hst'=>?_)
   cases e with
   | normal=>exact hQ .normal F' p' a' w' hk hst'
   | exit i=>exact hQ (.exit i) F' p' a' w' hk hst'
   | ret=>exact hQ .ret F' p' a' w' hk hst'
  all_goals (try simp only [Option.map_eq_some_iff] at hr)
  all_goals (repeat' split at hr)
  all_goals (simp at hr)
 | label l'=>
  intro c hr ho n K F p a w Q h hst hQ
  cases c<;>simp only [resolveC,AY.strip] at hr
  case label l''=>exact wpIn_label (hQ .normal F p a w h hst)
  all_goals (try simp only [Option.map_eq_some_iff] at hr)
  all_goals (repeat' split at hr)
  all_goals (simp at hr)
 | exit id=>
  intro c hr ho n K F p a w Q h hst hQ
  cases c<;>simp only [resolveC,AY.strip] at hr
  case exit id'=>
   simp at hr;subst hr
   exact wpIn_exit (hQ (.exit id') F p a w h hst)
  all_goals (try simp only [Option.map_eq_some_iff] at hr)
  all_goals (repeat' split at hr)
  all_goals (simp at hr)
 | ret=>
  intro c hr ho n K F p a w Q h hst hQ
  cases c<;>simp only [resolveC,AY.strip] at hr
  case ret=>exact wpIn_ret (hQ .ret F p a w h hst)
  all_goals (try simp only [Option.map_eq_some_iff] at hr)
  all_goals (repeat' split at hr)
  all_goals (simp at hr)
 | reg ops0=>
  intro c hr ho n K F p a w Q h hst hQ
  cases c<;>simp only [resolveC,AY.strip] at hr
  case region id ops d=>
   split at hr
   ·rename_i l' h1
    cases d with
    | true=>simp at hr
    | false=>
     simp at hr;subst hr
     obtain ⟨q1,q2⟩:=resolveIs_get h1
     obtain ⟨q3,q4⟩:=resolveIs_ops h1
     obtain ⟨b,ι,S,hD,hst,hpos⟩:=hst
     refine wpIn_region ?_
     have:List.range ops.size=List.range' 0 l'.length:=by rw [q1,List.range_eq_range'];simp
     rw [this]
     refine toIn (D:=fun _=>True) (a0:=a) (X:=fun a' w'=>∃ F' ι' S',K .normal F' p∧St N b ι' S' F'.ff a' w') (fun _ _ _ _ _=>trivial) q3 ?_ _ a w ?_ (.refl _ _)
     ·rintro a' w' ⟨F',ι',S',g1,g2⟩ g3
      exact hQ .normal F' p a' w' g1 ⟨b,ι',S',hD,g2,hpos⟩
     ·exact awpR_ok (Q:=Qn _) l' 0 F ι S a w (fun j i hj=>by simpa using q2 j i hj) h hst (fun F' ι' S' a' w' hk hst'=>⟨F',ι',S',hk,hst'⟩)
   ·simp at hr
  all_goals (try simp only [Option.map_eq_some_iff] at hr)
  all_goals (repeat' split at hr)
  all_goals (simp at hr)
 | draw ops0=>
  intro c hr ho n K F p a w Q h hst hQ
  cases c<;>simp only [resolveC,AY.strip] at hr
  case region id ops d=>
   split at hr
   ·rename_i l' h1
    cases d with
    | false=>simp at hr
    | true=>
     simp only [if_true,Option.some.injEq,AC.draw.injEq] at hr
     obtain ⟨q1,q2⟩:=resolveIs_get h1
     obtain ⟨q3,q4⟩:=resolveIs_ops h1
     have hb':l'=ops0.map (·.b):=by
      have:=congrArg (List.map (·.b)) hr
      simpa [List.map_map,Function.comp_def,bare] using this
     obtain ⟨b,ι,S,hD,hst,hpos⟩:=hst
     refine wpIn_region_any hm ?_
     refine toAny (D:=fun _=>True) (a0:=a) (X:=fun a' w'=>∃ F' ι' S',K .normal F' p∧St N b ι' S' F'.ff a' w') (fun _ _ _ _ _=>trivial) q3 ?_ _ _ a _ ?_ (.refl _ _)
     ·rintro a' w' ⟨F',ι',S',g1,g2⟩ g3
      exact hQ .normal F' p a' w' g1 ⟨b,ι',S',hD,g2,hpos⟩
     refine awpD_ok (Q:=Qn _) (F0:=F) (l:=ops0) ?_ (fun k i hk=>?_) (Bool.and_eq_true _ _ ▸ ho).1 (awpX_D (Bool.and_eq_true _ _ ▸ ho).2 h) (hst.step0 (S':=S) (Keep.drew w) (fun _ _ q=>q) (fun x v q=>hst.snap x v q) (fun x v q=>.inl q)) (fun F' ι' S' a' w' hk hst'=>⟨F',ι',S',hk,hst'⟩)
     ·rw [hb'] at q1;simpa using q1
     ·obtain ⟨o,h2,h3⟩:=q2 k i.b (by rw [hb'];simp [hk])
      exact ⟨o,by simpa using h2,h3⟩
   ·simp at hr
  all_goals (try simp only [Option.map_eq_some_iff] at hr)
  all_goals (repeat' split at hr)
  all_goals (simp at hr)
 | yield dr pre y post=>
  intro c hr ho n K F p a w Q h hst hQ
  simp only [AY.strip] at hr
  cases c
  case region id ops d=>
   simp only [resolveC] at hr
   split at hr
   ·rename_i l' h1
    obtain ⟨q3,q4⟩:=resolveIs_ops h1
    cases dr with
    | false=>
     cases d with
     | true=>simp at hr
     | false=>
      simp only [Bool.false_eq_true,if_false,Option.some.injEq,AC.reg.injEq] at hr
      subst hr
      obtain ⟨q1,q2⟩:=resolveIs_get h1
      obtain ⟨b,ι,S,hD,hst,hpos⟩:=hst
      refine wpIn_region ?_
      have hlist:List.range ops.size=List.range' 0 (pre.map (·.b)).length++(pre.length :: List.range' (pre.length+1) post.length):=by
       have:ops.size=pre.length+(post.length+1):=by have:=q1;simp at this;omega
       rw [this,List.range_eq_range',←List.range'_append_1,Nat.zero_add,List.range'_succ]
       simp
      rw [hlist]
      simp only [awpY,Bool.false_eq_true,if_false] at h
      refine toInT (D:=fun _=>True) (a0:=a) (X:=fun a' w'=>∃ F' ι' S',stepY P l xs y post (K .normal) F' p∧St N b ι' S' F'.ff a' w') (fun _ _ _ _ _=>trivial) q3 ?_ _ a w ?_ (.refl _ _)
      ·rintro a' w' ⟨F',ι',S',g1,g2⟩ _
       obtain ⟨oy,hy1,hy2⟩:=q2 pre.length y (by rw [List.getElem?_append_right (by simp)];simp)
       refine stepY_ok hJ hround q3 (by simpa using hy1) hy2 (fun j i hj=>?_) g1 ⟨b,ι',S',hD,g2,hpos⟩ (fun F' p' a' w' k1 k2=>hQ .normal F' p' a' w' k1 k2)
       obtain ⟨o,h2,h3⟩:=q2 (pre.length+1+j) i (by
        rw [List.getElem?_append_right (by simp;omega)]
        have:pre.length+1+j - (pre.map (·.b)).length=j+1:=by simp;omega
        rw [this];simpa using hj)
       exact ⟨o,by simpa using h2,h3⟩
      ·exact awpR_ok (Q:=Qn (fun a' w'=>∃ F' ι' S',stepY P l xs y post (K .normal) F' p∧St N b ι' S' F'.ff a' w')) (pre.map (·.b)) 0 F ι S a w (fun j i hj=>by
        obtain ⟨o,h2,h3⟩:=q2 j i (by rw [List.getElem?_append_left (List.getElem?_eq_some_iff.1 hj).1];exact hj)
        exact ⟨o,by simpa using h2,h3⟩) h hst (fun F' ι' S' a' w' hk hst'=>⟨F',ι',S',hk,hst'⟩)
    | true=>
     cases d with
     | false=>simp at hr
     | true=>
      simp only [if_true,Option.some.injEq,AC.draw.injEq] at hr
      have hb':l'=pre.map (·.b)++y :: post:=by
       have:=congrArg (List.map (·.b)) hr
       simpa [List.map_map,Function.comp_def,bare] using this
      subst hb'
      obtain ⟨q1,q2⟩:=resolveIs_get h1
      simp only [AY.okAll,Bool.not_true,Bool.false_or,Bool.and_eq_true] at ho
      obtain ⟨b,ι,S,hD,hst,hpos⟩:=hst
      simp only [awpY,if_true] at h
      refine wpIn_region_any hm ?_
      refine yield_draw (N:=N) q3 h1 ho.1.1 ho.2 (awpX_D ho.1.2 h) (hst.step0 (S':=S) (Keep.drew w) (fun _ _ q=>q) (fun x v q=>hst.snap x v q) (fun x v q=>.inl q)) fun F' ι' S' a' w' g1 g2=>?_
      obtain ⟨oy,hy1,hy2⟩:=q2 pre.length y (by rw [List.getElem?_append_right (by simp)];simp)
      refine stepY_ok hJ hround q3 (by simpa using hy1) hy2 (fun j i hj=>?_) g1 ⟨b,ι',S',hD,g2,hpos⟩ (fun F' p' a' w' k1 k2=>hQ .normal F' p' a' w' k1 k2)
      obtain ⟨o,h2,h3⟩:=q2 (pre.length+1+j) i (by
       rw [List.getElem?_append_right (by simp;omega)]
       have:pre.length+1+j - (pre.map (·.b)).length=j+1:=by simp;omega
       rw [this];simpa using hj)
      exact ⟨o,by simpa using h2,h3⟩
   ·simp at hr
  all_goals (exfalso;cases dr<;>simp only [resolveC] at hr)
  all_goals (try simp only [Option.map_eq_some_iff] at hr)
  all_goals (repeat' split at hr)
  all_goals (simp at hr)
theorem gens (hm:P.follows .mixedOrders=true) {f:FuncId} {ay:AY} {n:Nat} (hf:factOf P f=some (ay.strip,[],n)) (ho:ay.okAll=true) {fi ca:List PV} {xs:List (List PV)} (hl:fi.length+1+ca.length≤n)
  (h:∀ l,awpY P l xs ay (fun e _ p=>(match e with | .exit _=>False | _=>True)∧(p=none∨p=some xs.length)) (initFr (fi++[.clo (.yield l) [] []]++ca)) (some 0)):Gens P f fi ca xs:=by
 unfold factOf at hf
 split at hf
 ·rename_i fn h1
  split at hf
  ·rename_i h2
   split at hf
   ·rename_i ac' rs' h3 h4
    simp only [Option.some.injEq,Prod.mk.injEq] at hf
    obtain ⟨rfl,rfl,rfl⟩:=hf
    simp only [Option.bind_eq_some_iff] at h3
    obtain ⟨c,h5,h6⟩:=h3
    refine ⟨⟨fn,h1,by simp [h5],h2.1⟩,fun S w fs cs hS hfs hcs l J E sJ sE hround h0=>?_⟩
    refine callsIn_fz' (r:=none) (n:=0) (callsIn_of_wp_marks (F:=Fence.wide) (n:=0) h1 h5 trivial ?_)
    have hargs:Ps S (fi++[.clo (.yield l) [] []]++ca) (fs++[Value.func (.yield l) #[] #[]]++cs):=by
     have app:∀ {p1 p2:List PV} {v1 v2:List Value},Ps S p1 v1→Ps S p2 v2→Ps S (p1++p2) (v1++v2):=by
      intro p1 p2 v1 v2 q1 q2
      refine ⟨by simp [q1.1,q2.1],fun j p v g1 g2=>?_⟩
      rw [List.getElem?_append] at g1 g2
      have hl:=q1.1
      by_cases hj:j<p1.length
      ·rw [if_pos hj] at g1;rw [if_pos (by omega)] at g2;exact q1.2 j p v g1 g2
      ·rw [if_neg hj] at g1;rw [if_neg (by omega),hl] at g2;exact q2.2 _ p v g1 g2
     have hone:Ps S [.clo (.yield l) [] []] [Value.func (.yield l) #[] #[]]:=by
      refine ⟨rfl,fun j p v g1 g2=>?_⟩
      cases j with
      | zero=>simp at g1 g2;subst g1;subst g2;exact .clo (.yield l) [] [] [] [] rfl rfl (by simp) (by simp)
      | succ j=>simp at g1
     exact app (app hfs hone) hcs
    generalize hA:fi++[.clo (.yield l) [] []]++ca=args at hargs
    generalize hX:fs++[Value.func (.yield l) #[] #[]]++cs=vals at hargs
    have hlen:=hargs.1
    have hlen2:args.length≤fn.ntmps:=by rw [←hA];simp;omega
    have hst:St fn.ntmps { w:=w,S:=S } (fun _=>none) S (initFr args).ff { tmps:=vals.toArray++Array.replicate (fn.ntmps - vals.toArray.size) undef,defers:=[] } w:=by
     refine ⟨by simp;omega,h2.2,fun _ _=>rfl,rfl,fun r o e=>by simp at e,(Keep.refl w).toX,fun _ _ q=>q,fun _ _ q=>.inl q,hS,fun t v e=>?_,fun s k e=>by simp [initFr,Fr.ff,Fr.blk,look] at e,fun s k e=>by simp [initFr,Fr.ff,Fr.blk,look] at e,fun s s' k k' e=>by simp [initFr,Fr.ff,Fr.blk,look] at e⟩
     obtain ⟨p,rfl,_,h2⟩:=look_zipIdx args 0 t v e
     simp only [Nat.sub_zero] at h2
     have hlt:t<vals.length:=by have:=(List.getElem?_eq_some_iff.1 h2).1;omega
     refine ⟨vals[t],by simp [Array.getElem?_append,hlt],.p _ _ (hargs.2 t p _ h2 (by simp))⟩
    have hrun:=h l
    rw [hA] at hrun
    refine awpY_ok hm sJ hround ay c h6 ho 0 _ (initFr args) (some 0) _ w _ hrun (show GSt fn.ntmps J E (initFr args) (some 0) _ w from ⟨{ w:=w,S:=S },_,S,PB.new w S,hst,h0⟩) fun e F' p' a' w' hk hst'=>?_
    obtain ⟨he,hp⟩:=hk
    obtain ⟨b,ι,S',hD,hst2,hpos⟩:=hst'
    have hres:∃ v,(results fn a'.tmps).run P w'=.ok v w':=by
     obtain ⟨x,h7,_⟩:=results_ok (P:=P) hst2 h4 (u:=.p (.tup [])) (by simp [evRs,evRl,mkTup,allP])
     exact ⟨x,h7⟩
    have fin:LeavesInM Fence.wide 0 P fn a'.tmps (fun e w'=>(∃ v,e=.returned v)∧∃ S',S'.holds w'∧(J xs.length S' w'∨E S' w')) a'.defers .returning w':=by
     rw [hst2.df,hD.1]
     obtain ⟨v,hv⟩:=hres
     refine ⟨v,hv,⟨v,rfl⟩,S',hst2.snap,?_⟩
     rcases hp with rfl | rfl
     ·exact .inr (sE _ _ S' w' hpos hst2.sle hst2.snap (hD.keep hst2) (hD.snew hst2))
     ·exact .inl (sJ _ _ _ S' w' hpos hst2.sle hst2.snap (hD.keep hst2) (hD.snew hst2))
    cases e with
    | normal=>exact fin
    | exit id=>exact he.elim
    | ret=>exact fin
   ·simp at hf
  ·simp at hf
 ·simp at hf
end
end Go.Abs
namespace Go.Abs
open Go
def bitsA:Nat→Nat→List Nat→List Nat
 | 0,_,acc=>acc
 | f+1,m,acc=>match m with
  | 0=>acc
  | m+1=>let k:=Nat.log2 (m+1);bitsA f (m+1 - 2 ^ k) (k :: acc)
def bitsOf (m:Nat):List Nat:=bitsA 400 m []
def maskL:List Nat→Nat
 | []=>0
 | t :: l=>2 ^ t ||| maskL l
def AB.rd (i:AB):Nat:=maskL (i.op.reads++(i.guard.map (·.1)).toList)
def offB (s d:Nat):Nat:=s - (s &&& 2 ^ d)
def linR:List AB→Nat→Nat
 | [],o=>o
 | i :: l,o=>(match i.dst with | some d=>offB (linR l o) d | none=>linR l o) ||| i.rd
def lookN (k:Nat):List (Nat×Nat)→Nat
 | []=>0
 | x :: l=>if x.1 == k then x.2 else lookN k l
def abs1 (l:List AI):List AB:=l.map (·.b)
def lin (rets:Nat):AC→Nat→List (Nat×Nat)→Nat
 | .skip,o,_=>o
 | .seq x y,o,e=>lin rets x (lin rets y o e) e
 | .cond c x y,o,e=>lin rets x o e ||| (lin rets y o e ||| maskL c.reads)
 | .block id x,o,e=>lin rets x o ((id,o) :: e)
 | .loop x,_,e=>lin rets x 0 e
 | .exit id,_,e=>lookN id e
 | .ret,_,_=>rets
 | .reg l,o,_=>linR l o
 | .draw l,o,_=>linR (abs1 l) o
 | .ghost _ x,o,e=>lin rets x o e
 | .rfun g ps _ x y,o,e=>let m:=maskL ps;let f:=lin rets x (lin rets y (maskL g.reads ||| o) e) e;(f - (f &&& m)) ||| (maskL g.reads ||| o)
 | .scope x,o,e=>lin rets x o e
 | .label _,o,_=>o
def AC.ins:AC→List AB
 | .seq x y=>x.ins++y.ins
 | .cond _ x y=>x.ins++y.ins
 | .block _ x=>x.ins
 | .loop x=>x.ins
 | .scope x=>x.ins
 | .reg l=>l
 | .draw l=>abs1 l
 | .ghost _ x=>x.ins
 | .rfun _ _ _ x y=>x.ins++y.ins
 | _=>[]
def ownsOf (own:List (Nat×Nat)):List Nat→Nat
 | []=>0
 | t :: l=>lookN t own ||| ownsOf own l
def orIn (d s:Nat):List (Nat×Nat)→List (Nat×Nat)
 | []=>[(d,s)]
 | x :: l=>if x.1 == d then (d,x.2 ||| s) :: l else x :: orIn d s l
def stepOwn (prod:Nat) (own:List (Nat×Nat)) (i:AB):List (Nat×Nat):=
 match i.dst with
 | none=>own
 | some d=>match i.op with
  | .alloc _ | .allocR _ _ | .box _ | .bslice _ _ _ _ _ | .mksl _ _ _ _ _ _ | .call _ _ | .callv _ _=>orIn d (2 ^ d) own
  | .app _ _ _ s _=>orIn d (2 ^ d ||| ownsOf own s.reads) own
  | .mov _ | .pick _ _ _ | .faddr _ _ | .iaddr _ _ _ | .iaddrA _ _ _ _ | .slcV _ _ _ _ | .nilck _ | .ext _ _=>match ownsOf own i.op.reads with
   | 0=>own
   | s+1=>orIn d (s+1) own
  | .load false _ _=>match prod with
   | 0=>own
   | s+1=>orIn d (s+1) own
  | _=>own
def passOwn (prod:Nat):List AB→List (Nat×Nat)→List (Nat×Nat)
 | [],o=>o
 | i :: l,o=>passOwn prod l (stepOwn prod o i)
def fixOwn (prod:Nat) (l:List AB):Nat→List (Nat×Nat)→List (Nat×Nat)
 | 0,o=>o
 | n+1,o=>let o':=passOwn prod l o;if o' == o then o else fixOwn prod l n o'
def prodOf:List AB→Nat
 | []=>0
 | i :: l=>match i.dst,i.op with
  | some d,.app _ _ _ _ _ | some d,.bslice _ _ _ _ _ | some d,.mksl _ _ _ _ _ _ | some d,.call _ _ | some d,.callv _ _=>2 ^ d ||| prodOf l
  | _,_=>prodOf l
def keyOf (mu:List Nat) (own:List (Nat×Nat)) (i:AB):Nat:=
 match i.op,i.dst with
 | .call f _,d=>(match d with | some d=>2 ^ d | none=>0) ||| (if mu.contains f then ownsOf own i.op.reads else 0)
 | .alloc _,some d | .allocR _ _,some d | .box _,some d | .bslice _ _ _ _ _,some d | .mksl _ _ _ _ _ _,some d | .callv _ _,some d=>2 ^ d
 | .app _ _ _ s _,some d=>2 ^ d ||| ownsOf own s.reads
 | .store _ x _,_=>ownsOf own x.reads
 | .cpy _ x _,_=>ownsOf own x.reads
 | _,_=>0
def rowsM (mu:List Nat) (own:List (Nat×Nat)):List AB→List Nat→List (Nat×Nat×Nat)
 | [],_=>[]
 | i :: l,acc=>let m:=i.after.foldl (fun m e=>m ||| 2 ^ e ||| acc.getD e 0) 0
  (m,(match i.dst with | some d=>2 ^ d | none=>0),keyOf mu own i) :: rowsM mu own l (acc++[m])
def aiGo (k mk:Nat):List (Nat×Nat×Nat)→Nat→Nat→Nat→Nat→Nat×Nat×Nat
 | [],_,dr,ds,na=>(dr,ds,na)
 | (mj,d,ks) :: l,j,dr,ds,na=>
  if j == k || mk.testBit j then aiGo k mk l (j+1) dr ds na
  else let na':=if j<k then na ||| 2 ^ j else na
   if mj.testBit k then aiGo k mk l (j+1) dr ds na' else aiGo k mk l (j+1) (dr ||| d) (ds ||| ks) na'
def mapB (xs:List (Nat×Nat)):List Nat→List Nat
 | []=>[]
 | t :: l=>(match lookN t xs with | 0=>t | s+1=>s+1) :: mapB xs l
def mkAI (xs:List (Nat×Nat)) (i:AB) (k mk ks:Nat) (rows:List (Nat×Nat×Nat)):AI:=
 match aiGo k mk rows 0 0 0 0 with
 | (dr,ds,na)=>
  let cl:=(i.rd &&& dr) == 0
  let pl:=if cl && (i.op.plain || (i.op.load? && ds == 0)) then 2 else if cl && ds == 0 then 1 else 0
  ⟨i,bitsOf dr,mapB xs (bitsOf ds),mapB xs (bitsOf ks),bitsOf na,pl⟩
def mkAIs (xs:List (Nat×Nat)) (rows:List (Nat×Nat×Nat)):List AB→Nat→List (Nat×Nat×Nat)→List AI
 | i :: l,k,(mk,_,ks) :: r=>mkAI xs i k mk ks rows :: mkAIs xs rows l (k+1) r
 | _,_,_=>[]
def appsR:List AB→List (Nat×Nat)→List (Nat×Nat×Nat×Nat)
 | [],_=>[]
 | i :: l,src=>match i.dst,i.op with
  | some d,.mov (.v t)=>appsR l ((d,(match lookN t src with | 0=>t | s+1=>s)+1) :: src)
  | some d,.app e n _ (.v t) _=>((match lookN t src with | 0=>t | s+1=>s),d,e,n) :: appsR l src
  | _,_=>appsR l src
def AC.apps:AC→List (Nat×Nat×Nat×Nat)
 | .seq x y=>x.apps++y.apps
 | .cond _ x y=>x.apps++y.apps
 | .block _ x=>x.apps
 | .loop x=>x.apps
 | .scope x=>x.apps
 | .reg l=>appsR l []
 | .draw l=>appsR (abs1 l) []
 | .ghost _ x=>x.apps
 | .rfun _ _ _ x y=>x.apps++y.apps
 | _=>[]
def ownG (ap:List (Nat×Nat×Nat×Nat)) (d:Nat) (y:AC):AC:=match ap with
 | []=>y
 | (t,a,e,n) :: l=>if t == d then .ghost (.own d a e n) y else ownG l d y
def ownGs (ap:List (Nat×Nat×Nat×Nat)):List AB→AC→AC
 | [],y=>y
 | i :: l,y=>match i.dst,i.op with
  | some d,.mov (.c .nsl)=>ownGs ap l (ownG ap d y)
  | _,_=>ownGs ap l y
def ownGC (ap:List (Nat×Nat×Nat×Nat)) (x y:AC):AC:=match x with
 | .reg l=>ownGs ap l y
 | .draw l=>ownGs ap (abs1 l) y
 | _=>y
structure AnK where
 rets:Nat
 mu:List Nat
 own:List (Nat×Nat)
 xs:List (Nat×Nat)
 ap:List (Nat×Nat×Nat×Nat)
def AC.tgts:AC→List Nat
 | .seq x y=>x.tgts++y.tgts
 | .cond _ x y=>x.tgts++y.tgts
 | .block _ x=>x.tgts
 | .loop x=>x.tgts
 | .scope x=>x.tgts
 | .reg l=>l.filterMap (·.dst)
 | .draw l=>l.filterMap (·.b.dst)
 | .ghost _ x=>x.tgts
 | _=>[]
def keepG (m:Nat) (x:AC):AC:=.ghost (.keep (bitsOf m)) x
def ann (z:AnK):AC→Nat→List (Nat×Nat)→Nat×AC
 | .skip,o,_=>(o,.skip)
 | .seq x y,o,e=>match ann z y o e with
  | (l2,y')=>match ann z x l2 e with
   | (l1,x')=>(l1,.seq x' (ownGC z.ap x (keepG l2 y')))
 | .cond c x y,o,e=>match ann z x o e,ann z y o e with
  | (l1,x'),(l2,y')=>(l1 ||| (l2 ||| maskL c.reads),.cond c x' y')
 | .block id x,o,e=>match ann z x o ((id,o) :: e) with
  | (l,x')=>(l,.block id x')
 | .loop x,_,e=>match ann z x (lin z.rets x 0 e) e with
  | (l,x')=>(l,.loop (keepG l x'))
 | .exit id,_,e=>(lookN id e,.exit id)
 | .ret,_,_=>(z.rets,.ret)
 | .reg l,o,_=>(linR l o,.reg l)
 | .draw l,o,_=>(linR (abs1 l) o,.draw (let r:=rowsM z.mu z.own (abs1 l) [];mkAIs z.xs r (abs1 l) 0 r))
 | .ghost g x,o,e=>match ann z x o e with
  | (l,x')=>(l,.ghost g x')
 | .rfun g ps _ x y,o,e=>
  let L:=lin z.rets (.rfun g ps [] x y) o e
  match ann z y (L ||| o) e with
  | (l2,y')=>match ann z x l2 e with
   | (_,x')=>(L,.rfun g ps (bitsOf (maskL (ps++(x.tgts++y.tgts)))) x' (keepG l2 y'))
 | .scope x,o,e=>match ann z x o e with
  | (l,x')=>(l,.scope x')
 | .label n,o,_=>(o,.label n)
structure Mk where
 n:Nat
 pre:List Ghost
 post:List Ghost
 cut:Option AC
def putG:List Ghost→AC→AC
 | [],x=>x
 | g :: l,x=>.ghost g (putG l x)
def mkAt (n:Nat):List Mk→Option Mk
 | []=>none
 | m :: l=>if m.n == n then some m else mkAt n l
def deco (ms:List Mk):AC→Nat→Nat×AC
 | .seq x y,k=>match deco ms x k with
  | (k1,x')=>match deco ms y k1 with
   | (k2,y')=>(k2,.seq x' y')
 | .cond c x y,k=>match deco ms x k with
  | (k1,x')=>match deco ms y k1 with
   | (k2,y')=>(k2,.cond c x' y')
 | .block id x,k=>match deco ms x k with
  | (k1,x')=>(k1,.block id x')
 | .loop x,k=>match deco ms x k with
  | (k1,x')=>(k1,.loop x')
 | .scope x,k=>match deco ms x k with
  | (k1,x')=>(k1,.scope x')
 | .rfun g ps d x y,k=>match deco ms x k with
  | (k1,x')=>match deco ms y k1 with
   | (k2,y')=>(k2,.rfun g ps d x' y')
 | .ghost (.keep l) x,k=>match deco ms x (k+1) with
  | (k1,x')=>match mkAt k ms with
   | none=>(k1,.ghost (.keep l) x')
   | some m=>(k1,putG m.pre (.ghost (.keep l) (putG m.post (match m.cut with | none=>x' | some c=>c))))
 | .ghost g x,k=>match deco ms x k with
  | (k1,x')=>(k1,.ghost g x')
 | x,k=>(k,x)
def subA (n:Nat):AC→Option AC→Nat→Nat×Option AC
 | .seq x y,r,k=>match subA n x r k with
  | (k1,r1)=>subA n y r1 k1
 | .cond _ x y,r,k=>match subA n x r k with
  | (k1,r1)=>subA n y r1 k1
 | .block _ x,r,k=>subA n x r k
 | .loop x,r,k=>subA n x r k
 | .scope x,r,k=>subA n x r k
 | .rfun _ _ _ x y,r,k=>match subA n x r k with
  | (k1,r1)=>subA n y r1 k1
 | .ghost (.keep _) x,r,k=>if k == n then (k+1,some x) else subA n x r (k+1)
 | .ghost _ x,r,k=>subA n x r k
 | _,r,k=>(k,r)
def roM:List RO→Nat
 | []=>0
 | .tmp t :: l=>2 ^ t ||| roM l
 | .cell a _ _ :: l=>2 ^ a ||| roM l
def number:List Nat→Nat→List (Nat×Nat)
 | [],_=>[]
 | t :: l,k=>(k,t) :: number l (k+1)
def own0 (lm:Nat):List Nat→List (Nat×Nat)
 | []=>[]
 | t :: l=>(t,lm) :: own0 lm l
def annF (mu ex:List Nat) (lm pm:Nat) (lent:List Nat) (a:AC) (rs:List RO) (N:Nat):AC:=
 let is:=a.ins
 let prod:=prodOf is ||| (pm*2 ^ N)
 let z:AnK:=⟨roM rs ||| maskL lent,mu,fixOwn prod is 6 (own0 (lm*2 ^ N) lent),number ex N,a.apps⟩
 match ann z a z.rets [] with
 | (l,a')=>keepG l a'
end Go.Abs
namespace Go.Abs.A30
open Go Go.Abs Go.Proofs
@[simp] def ym (d n:Nat):AB:=⟨some d,.mov (.v n),none,[]⟩
@[simp] def yn (d n:Nat) (a:List Nat):AB:=⟨some d,.mov (.v n),none,a⟩
@[simp] def yl (d n:Nat):AB:=⟨some d,.load false 1 (.v n),none,[]⟩
@[simp] def yk (d n:Nat) (a:List Nat):AB:=⟨some d,.load false 1 (.v n),none,a⟩
@[simp] def yb (d:Nat) (o:BinOp) (m n:Nat) (a:List Nat):AB:=⟨some d,.bin o (.v m) (.v n),none,a⟩
@[simp] def yc (d:Nat) (o:BinOp) (m:Nat) (x:Opd) (a:List Nat):AB:=⟨some d,.bin o (.v m) x,none,a⟩
@[simp] def yf (d k n:Nat) (a:List Nat):AB:=⟨some d,.faddr k (.v n),none,a⟩
@[simp] def yj (d k m n:Nat) (a:List Nat):AB:=⟨some d,.iaddr k (.v m) (.v n),none,a⟩
@[simp] def yh (d n:Nat) (a:List Nat):AB:=⟨some d,.len false (.v n),none,a⟩
@[simp] def qp (d:Nat) (o:AOp):AB:=⟨some d,o,none,[]⟩
@[simp] def qe (b:AB) (d n:List Nat) (p:Nat):AI:=⟨b,d,[],[],n,p⟩
@[simp] def qi (d:Nat) (o:AOp) (a:List Nat):AB:=⟨some d,o,none,a⟩
@[simp] def qo (o:AOp) (a:List Nat):AB:=⟨none,o,none,a⟩
@[simp] def qg (d:Nat) (o:AOp) (t:Nat) (b:Bool) (a:List Nat):AB:=⟨some d,o,some (t,b),a⟩
@[simp] def qa (b:AB) (d s k n:List Nat) (p:Nat):AI:=⟨b,d,s,k,n,p⟩
@[simp] def qk (l:List Nat) (x:AC):AC:=.ghost (.keep l) x
@[simp] def qz (n:Int):Opd:=.c (.int .i64 n)
@[simp] def qm (n:Nat):AOp:=.mov (.v n)
@[simp] def ql (n:Nat):AOp:=.load false 1 (.v n)
@[simp] def qt (k n:Nat):AOp:=.load true k (.v n)
@[simp] def qf (k n:Nat):AOp:=.faddr k (.v n)
@[simp] def qj (k m n:Nat):AOp:=.iaddr k (.v m) (.v n)
@[simp] def qn (n:Nat):AOp:=.len false (.v n)
@[simp] def qb (o:BinOp) (m n:Nat):AOp:=.bin o (.v m) (.v n)
@[simp] def qc (o:BinOp) (m:Nat) (x:Opd):AOp:=.bin o (.v m) x
@[simp] def qs (x y:AC):AC:=.seq x y
@[simp] def qr (l:List AB):AC:=.reg l
@[simp] def qq (c:Opd) (x y:AC):AC:=.cond c x y
@[simp] def qd (l:List AI):AC:=.draw l
def mu1:List Nat:=[71,104,117,118,148,149,150,160,180,192,220,221,226,244,245,247,251,253,254,267,268,269,270,271,272]
def mu2:List Nat:=[42,44,71,104,117,118,148,149,150,160,180,192,220,221,226,244,245,247,251,253,254,267,268,269,270,271,272]
def anF (P:Program) (f:Nat) (mu ex:List Nat) (lm pm:Nat) (lent:List Nat):AC:=match factOf P f with
 | some (a,rs,n)=>annF mu ex lm pm lent a rs n
 | none=>.skip
def anD (ms:List Mk) (a:AC):AC:=(deco ms a 0).2
def anS (n:Nat) (ms:List Mk) (rp:List Ghost) (a:AC):AC:=match (subA n a none 0).2 with
 | some x=>putG rp (deco ms x (n+1)).2
 | none=>.skip
end Go.Abs.A30
namespace Go.Abs.A30
open Go Go.Abs Go.Proofs
set_option maxRecDepth 100000
set_option maxHeartbeats 4000000
set_option linter.unusedVariables false
def ac123:AC:=by
 apply fun (y:AC) (_:@Eq AC (anF Tryz.prog 123 mu1 [] 0 0 []) y)=>y
 conv=>lhs;reduce;dsimp
theorem fn123:factOf Tryz.prog 123=some (ac123.strip,[.tmp 4],12):=by kernel_rfl
theorem ok123:ac123.okAll=true:=by kernel_rfl
def ac124:AC:=by
 apply fun (y:AC) (_:@Eq AC (anF Tryz.prog 124 mu1 [] 0 0 []) y)=>y
 conv=>lhs;reduce;dsimp
theorem fn124:factOf Tryz.prog 124=some (ac124.strip,[.tmp 4],23):=by kernel_rfl
theorem ok124:ac124.okAll=true:=by kernel_rfl
def ac71:AC:=by
 apply fun (y:AC) (_:@Eq AC (anF Tryz.prog 71 mu1 [1000000,1000001,1000002,1000003,1000004,1000005] 63 0 [0]) y)=>y
 conv=>lhs;reduce;dsimp
theorem fn71:factOf Tryz.prog 71=some (ac71.strip,[.tmp 4],35):=by kernel_rfl
theorem ok71:ac71.okAll=true:=by kernel_rfl
def ac114:AC:=by
 apply fun (y:AC) (_:@Eq AC (anF Tryz.prog 114 mu1 [] 0 0 []) y)=>y
 conv=>lhs;reduce;dsimp
theorem fn114:factOf Tryz.prog 114=some (ac114.strip,[.tmp 4],20):=by kernel_rfl
theorem ok114:ac114.okAll=true:=by kernel_rfl
def ac155:AC:=by
 apply fun (y:AC) (_:@Eq AC (anF Tryz.prog 155 mu1 [] 0 0 []) y)=>y
 conv=>lhs;reduce;dsimp
theorem fn155:factOf Tryz.prog 155=some (ac155.strip,[.tmp 4],14):=by kernel_rfl
theorem ok155:ac155.okAll=true:=by kernel_rfl
def ac141:AC:=by
 apply fun (y:AC) (_:@Eq AC (anF Tryz.prog 141 mu1 [] 0 0 []) y)=>y
 conv=>lhs;reduce;dsimp
theorem fn141:factOf Tryz.prog 141=some (ac141.strip,[.tmp 8,.tmp 9],81):=by kernel_rfl
theorem ok141:ac141.okAll=true:=by kernel_rfl
def ac142:AC:=by
 apply fun (y:AC) (_:@Eq AC (anF Tryz.prog 142 mu1 [] 0 0 []) y)=>y
 conv=>lhs;reduce;dsimp
theorem fn142:factOf Tryz.prog 142=some (ac142.strip,[.tmp 4,.tmp 5],12):=by kernel_rfl
theorem ok142:ac142.okAll=true:=by kernel_rfl
def ac54:AC:=by
 apply fun (y:AC) (_:@Eq AC (anF Tryz.prog 54 mu1 [] 0 0 []) y)=>y
 conv=>lhs;reduce;dsimp
theorem fn54:factOf Tryz.prog 54=some (ac54.strip,[.tmp 2],21):=by kernel_rfl
theorem ok54:ac54.okAll=true:=by kernel_rfl
def ac203:AC:=by
 apply fun (y:AC) (_:@Eq AC (anF Tryz.prog 203 mu1 [] 0 0 []) y)=>y
 conv=>lhs;reduce;dsimp
theorem fn203:factOf Tryz.prog 203=some (ac203.strip,[.tmp 4,.tmp 5],33):=by kernel_rfl
theorem ok203:ac203.okAll=true:=by kernel_rfl
def ac156:AC:=by
 apply fun (y:AC) (_:@Eq AC (anF Tryz.prog 156 mu1 [] 0 0 []) y)=>y
 conv=>lhs;reduce;dsimp
theorem fn156:factOf Tryz.prog 156=some (ac156.strip,[.cell 4 true 1],34):=by kernel_rfl
theorem ok156:ac156.okAll=true:=by kernel_rfl
def ac174:AC:=by
 apply fun (y:AC) (_:@Eq AC (anF Tryz.prog 174 mu1 [] 0 0 []) y)=>y
 conv=>lhs;reduce;dsimp
theorem fn174:factOf Tryz.prog 174=some (ac174.strip,[.tmp 4,.tmp 5],25):=by kernel_rfl
theorem ok174:ac174.okAll=true:=by kernel_rfl
def ac175:AC:=by
 apply fun (y:AC) (_:@Eq AC (anF Tryz.prog 175 mu1 [] 0 0 []) y)=>y
 conv=>lhs;reduce;dsimp
theorem fn175:factOf Tryz.prog 175=some (ac175.strip,[.tmp 2],11):=by kernel_rfl
theorem ok175:ac175.okAll=true:=by kernel_rfl
def ac176:AC:=by
 apply fun (y:AC) (_:@Eq AC (anF Tryz.prog 176 mu1 [] 0 0 []) y)=>y
 conv=>lhs;reduce;dsimp
theorem fn176:factOf Tryz.prog 176=some (ac176.strip,[.tmp 4],26):=by kernel_rfl
theorem ok176:ac176.okAll=true:=by kernel_rfl
def ac177:AC:=by
 apply fun (y:AC) (_:@Eq AC (anF Tryz.prog 177 mu1 [] 0 0 []) y)=>y
 conv=>lhs;reduce;dsimp
theorem fn177:factOf Tryz.prog 177=some (ac177.strip,[.cell 4 true 2],35):=by kernel_rfl
theorem ok177:ac177.okAll=true:=by kernel_rfl
def ac178:AC:=by
 apply fun (y:AC) (_:@Eq AC (anF Tryz.prog 178 mu1 [] 0 0 []) y)=>y
 conv=>lhs;reduce;dsimp
theorem fn178:factOf Tryz.prog 178=some (ac178.strip,[.tmp 4],10):=by kernel_rfl
theorem ok178:ac178.okAll=true:=by kernel_rfl
def ac179:AC:=by
 apply fun (y:AC) (_:@Eq AC (anF Tryz.prog 179 mu1 [] 0 0 []) y)=>y
 conv=>lhs;reduce;dsimp
theorem fn179:factOf Tryz.prog 179=some (ac179.strip,[.tmp 6,.tmp 7],33):=by kernel_rfl
theorem ok179:ac179.okAll=true:=by kernel_rfl
def ac102:AC:=by
 apply fun (y:AC) (_:@Eq AC (anF Tryz.prog 102 mu1 [] 0 0 []) y)=>y
 conv=>lhs;reduce;dsimp
theorem fn102:factOf Tryz.prog 102=some (ac102.strip,[.tmp 2],9):=by kernel_rfl
theorem ok102:ac102.okAll=true:=by kernel_rfl
def ac233:AC:=by
 apply fun (y:AC) (_:@Eq AC (anF Tryz.prog 233 mu1 [] 0 0 []) y)=>y
 conv=>lhs;reduce;dsimp
theorem fn233:factOf Tryz.prog 233=some (ac233.strip,[.tmp 2],9):=by kernel_rfl
theorem ok233:ac233.okAll=true:=by kernel_rfl
def ac237:AC:=by
 apply fun (y:AC) (_:@Eq AC (anF Tryz.prog 237 mu1 [] 0 0 []) y)=>y
 conv=>lhs;reduce;dsimp
theorem fn237:factOf Tryz.prog 237=some (ac237.strip,[.tmp 4,.tmp 5],19):=by kernel_rfl
theorem ok237:ac237.okAll=true:=by kernel_rfl
end Go.Abs.A30
namespace Go.Abs.A30
open Go Go.Abs Go.Proofs
set_option maxRecDepth 100000
set_option maxHeartbeats 4000000
set_option linter.unusedVariables false
def ac191:AC:=by
 apply fun (y:AC) (_:@Eq AC (anF Tryz.prog 191 mu1 [] 0 0 []) y)=>y
 conv=>lhs;reduce;dsimp
theorem fn191:factOf Tryz.prog 191=some (ac191.strip,[.cell 6 true 3],49):=by kernel_rfl
theorem ok191:ac191.okAll=true:=by kernel_rfl
def ac204:AC:=by
 apply fun (y:AC) (_:@Eq AC (anF Tryz.prog 204 mu1 [] 0 0 []) y)=>y
 conv=>lhs;reduce;dsimp
theorem fn204:factOf Tryz.prog 204=some (ac204.strip,[.tmp 2],18):=by kernel_rfl
theorem ok204:ac204.okAll=true:=by kernel_rfl
def ac205:AC:=by
 apply fun (y:AC) (_:@Eq AC (anF Tryz.prog 205 mu1 [] 0 0 []) y)=>y
 conv=>lhs;reduce;dsimp
theorem fn205:factOf Tryz.prog 205=some (ac205.strip,[.tmp 2],31):=by kernel_rfl
theorem ok205:ac205.okAll=true:=by kernel_rfl
def ac206:AC:=by
 apply fun (y:AC) (_:@Eq AC (anF Tryz.prog 206 mu1 [] 0 0 []) y)=>y
 conv=>lhs;reduce;dsimp
theorem fn206:factOf Tryz.prog 206=some (ac206.strip,[.tmp 2],6):=by kernel_rfl
theorem ok206:ac206.okAll=true:=by kernel_rfl
def ac207:AC:=by
 apply fun (y:AC) (_:@Eq AC (anF Tryz.prog 207 mu1 [] 0 0 []) y)=>y
 conv=>lhs;reduce;dsimp
theorem fn207:factOf Tryz.prog 207=some (ac207.strip,[.tmp 2],9):=by kernel_rfl
theorem ok207:ac207.okAll=true:=by kernel_rfl
def ac208:AC:=by
 apply fun (y:AC) (_:@Eq AC (anF Tryz.prog 208 mu1 [] 0 0 []) y)=>y
 conv=>lhs;reduce;dsimp
theorem fn208:factOf Tryz.prog 208=some (ac208.strip,[.tmp 2],6):=by kernel_rfl
theorem ok208:ac208.okAll=true:=by kernel_rfl
def ac209:AC:=by
 apply fun (y:AC) (_:@Eq AC (anF Tryz.prog 209 mu1 [] 0 0 []) y)=>y
 conv=>lhs;reduce;dsimp
theorem fn209:factOf Tryz.prog 209=some (ac209.strip,[.tmp 2],40):=by kernel_rfl
theorem ok209:ac209.okAll=true:=by kernel_rfl
def ac210:AC:=by
 apply fun (y:AC) (_:@Eq AC (anF Tryz.prog 210 mu1 [] 0 0 []) y)=>y
 conv=>lhs;reduce;dsimp
theorem fn210:factOf Tryz.prog 210=some (ac210.strip,[.tmp 4],9):=by kernel_rfl
theorem ok210:ac210.okAll=true:=by kernel_rfl
def ac211:AC:=by
 apply fun (y:AC) (_:@Eq AC (anF Tryz.prog 211 mu1 [] 0 0 []) y)=>y
 conv=>lhs;reduce;dsimp
theorem fn211:factOf Tryz.prog 211=some (ac211.strip,[.tmp 4],6):=by kernel_rfl
theorem ok211:ac211.okAll=true:=by kernel_rfl
def ac212:AC:=by
 apply fun (y:AC) (_:@Eq AC (anF Tryz.prog 212 mu1 [] 0 0 []) y)=>y
 conv=>lhs;reduce;dsimp
theorem fn212:factOf Tryz.prog 212=some (ac212.strip,[.cell 4 true 2,.tmp 5],44):=by kernel_rfl
theorem ok212:ac212.okAll=true:=by kernel_rfl
def ac213:AC:=by
 apply fun (y:AC) (_:@Eq AC (anF Tryz.prog 213 mu1 [] 0 0 []) y)=>y
 conv=>lhs;reduce;dsimp
theorem fn213:factOf Tryz.prog 213=some (ac213.strip,[.cell 4 true 2],65):=by kernel_rfl
theorem ok213:ac213.okAll=true:=by kernel_rfl
def ac223:AC:=by
 apply fun (y:AC) (_:@Eq AC (anF Tryz.prog 223 mu1 [] 0 0 []) y)=>y
 conv=>lhs;reduce;dsimp
theorem fn223:factOf Tryz.prog 223=some (ac223.strip,[.tmp 4],56):=by kernel_rfl
theorem ok223:ac223.okAll=true:=by kernel_rfl
def ac238:AC:=by
 apply fun (y:AC) (_:@Eq AC (anF Tryz.prog 238 mu1 [] 0 0 []) y)=>y
 conv=>lhs;reduce;dsimp
theorem fn238:factOf Tryz.prog 238=some (ac238.strip,[.tmp 4],12):=by kernel_rfl
theorem ok238:ac238.okAll=true:=by kernel_rfl
def ac239:AC:=by
 apply fun (y:AC) (_:@Eq AC (anF Tryz.prog 239 mu1 [] 0 0 []) y)=>y
 conv=>lhs;reduce;dsimp
theorem fn239:factOf Tryz.prog 239=some (ac239.strip,[.tmp 4],19):=by kernel_rfl
theorem ok239:ac239.okAll=true:=by kernel_rfl
def ac240:AY:=(.ghost (.keep [0,1,2])
 (.seq (.reg [⟨some 5,.load false 1 (.v 1),none,[]⟩,
  ⟨some 6,.len false (.v 5),none,[0]⟩,
  ⟨some 7,.load false 1 (.v 2),none,[]⟩,
  ⟨some 8,.len false (.v 7),none,[2]⟩,
  ⟨some 9,.mm false (.v 6) (.v 8),none,[1,3]⟩,
  ⟨some 10,.mov (.c (.int .i64 0)),none,[]⟩])
 (.ghost (.keep [0,1,2,9,10]) (.block 0 (.loop (.ghost (.keep [0,1,2,9,10]) (.seq (.reg [⟨some 11,.bin .lss (.v 10) (.v 9),none,[]⟩])
 (.ghost (.keep [0,1,2,9,10,11]) (.seq (.cond (.v 11)
 .skip
 (.exit 0))
 (.ghost (.keep [0,1,2,9,10]) (.seq (.block 1 (.seq (.reg [⟨some 12,.mov (.v 10),none,[]⟩,
  ⟨some 4,.mov (.v 12),none,[0,0]⟩])
 (.ghost (.keep [0,1,2,4,9,10]) (.seq (.yield true [⟨⟨some 13,.mov (.v 0),none,[]⟩,[14,15,16,17,18,19,20,21],[],[],[],2⟩,
  ⟨⟨some 14,.load false 1 (.v 1),none,[]⟩,[13,15,18,19,20,21],[],[],[0],2⟩,
  ⟨⟨some 15,.mov (.v 4),none,[]⟩,[13,14,18,19,20,21],[],[],[0,1],2⟩,
  ⟨⟨some 16,.iaddr 3 (.v 14) (.v 15),none,[1,2]⟩,[13,18,19,20,21],[],[],[0],2⟩,
  ⟨⟨some 17,.load true 3 (.v 16),none,[3]⟩,[13,18,19,20,21],[],[],[0],2⟩,
  ⟨⟨some 18,.load false 1 (.v 2),none,[]⟩,[13,14,15,16,17,19],[],[],[0,1,2,3,4],2⟩,
  ⟨⟨some 19,.mov (.v 4),none,[]⟩,[13,14,15,16,17,18],[],[],[0,1,2,3,4,5],2⟩,
  ⟨⟨some 20,.iaddr 1 (.v 18) (.v 19),none,[5,6]⟩,[13,14,15,16,17],[],[],[0,1,2,3,4],2⟩,
  ⟨⟨some 21,.load false 1 (.v 20),none,[7]⟩,[13,14,15,16,17],[],[],[0,1,2,3,4],2⟩]
  ⟨some 22,.callv (.v 13) [.v 17,.v 21],none,[0,4,8]⟩ [⟨some 23,.un .not (.v 22),none,[9]⟩])
 (.ghost (.keep [0,1,2,9,10,23]) (.cond (.v 23)
 .ret
 .skip))))))
 (.ghost (.keep [0,1,2,9,10]) (.reg [⟨some 24,.bin .add (.v 10) (.c (.int .i64 1)),none,[]⟩,
  ⟨some 10,.mov (.v 24),none,[0]⟩])))))))))))))
theorem fn240:factOf Tryz.prog 240=some (ac240.strip,[],25):=by kernel_rfl
theorem ok240:ac240.okAll=true:=by kernel_rfl
def ac241:AC:=by
 apply fun (y:AC) (_:@Eq AC (anF Tryz.prog 241 mu1 [] 0 0 []) y)=>y
 conv=>lhs;reduce;dsimp
theorem fn241:factOf Tryz.prog 241=some (ac241.strip,[.tmp 4],12):=by kernel_rfl
theorem ok241:ac241.okAll=true:=by kernel_rfl
def ac242:AC:=by
 apply fun (y:AC) (_:@Eq AC (anF Tryz.prog 242 mu1 [] 0 0 []) y)=>y
 conv=>lhs;reduce;dsimp
theorem fn242:factOf Tryz.prog 242=some (ac242.strip,[.tmp 4],12):=by kernel_rfl
theorem ok242:ac242.okAll=true:=by kernel_rfl
def ac106:AC:=by
 apply fun (y:AC) (_:@Eq AC (anF Tryz.prog 106 mu1 [] 0 0 []) y)=>y
 conv=>lhs;reduce;dsimp
theorem fn106:factOf Tryz.prog 106=some (ac106.strip,[.tmp 4],19):=by kernel_rfl
theorem ok106:ac106.okAll=true:=by kernel_rfl
def ac58:AC:=by
 apply fun (y:AC) (_:@Eq AC (anF Tryz.prog 58 mu1 [] 0 0 []) y)=>y
 conv=>lhs;reduce;dsimp
theorem fn58:factOf Tryz.prog 58=some (ac58.strip,[.tmp 4],9):=by kernel_rfl
theorem ok58:ac58.okAll=true:=by kernel_rfl
end Go.Abs.A30
namespace Go.Abs.A30
def R (n:Int):Prop:=-9223372036854775808≤n∧n≤9223372036854775807
theorem R_ediv {n d:Int} (h:R n) (hd:1≤d):R (n / d):=by
 obtain ⟨h1,h2⟩:=h
 constructor
 ·refine Int.le_ediv_of_mul_le (by omega) ?_
  have:(-9223372036854775808:Int)*d≤(-9223372036854775808)*1:=Int.mul_le_mul_of_nonpos_left (by omega) hd
  omega
 ·rcases Int.le_total 0 n with h3 | h3
  ·exact Int.le_trans (Int.ediv_le_self d h3) h2
  ·have:n / d≤0:=by
    have:=Int.ediv_le_ediv (by omega:0<d) h3
    simpa using this
   omega
theorem tdiv_pos {n d:Int} (hd:1≤d):n.tdiv d=n / d+(if n.tmod d<0 then 1 else 0)∧n.tmod d=n % d - (if n.tmod d<0 then d else 0):=by
 have e1:=Int.mul_ediv_add_emod n d
 have e2:=Int.emod_nonneg n (by omega:d≠0)
 have e3:=Int.emod_lt_of_pos n (by omega:0<d)
 have hs:Int.sign d=1:=Int.sign_eq_one_of_pos (by omega)
 have hn:(d.natAbs:Int)=d:=by omega
 have t1:=Int.tdiv_eq_ediv (a:=n) (b:=d)
 have t2:=Int.tmod_eq_emod (a:=n) (b:=d)
 rw [hs] at t1
 by_cases hc:0≤n∨d ∣ n
 ·rw [if_pos hc] at t1 t2
  have t2':n.tmod d=n % d:=by simpa using t2
  have:¬n.tmod d<0:=by omega
  rw [if_neg this,if_neg this]
  exact ⟨t1,by omega⟩
 ·rw [if_neg hc] at t1 t2
  rw [hn] at t2
  have:n.tmod d<0:=by omega
  rw [if_pos this,if_pos this]
  exact ⟨t1,t2⟩
theorem tdiv_floor {n d:Int} (hd:1≤d):(if n.tmod d<0 then n.tdiv d - 1 else n.tdiv d)=n / d:=by
 obtain ⟨h1,h2⟩:=tdiv_pos (n:=n) hd
 split<;>(rename_i h;simp only [h,if_true,if_false] at h1;omega)
theorem tmod_floor {n d:Int} (hd:1≤d):(if n.tmod d<0 then n.tmod d+d else n.tmod d)=n % d:=by
 obtain ⟨h1,h2⟩:=tdiv_pos (n:=n) hd
 split<;>(rename_i h;simp only [h,if_true,if_false] at h2;omega)
theorem R_tdiv {n d:Int} (h:R n) (hd:1≤d):R (n.tdiv d):=by
 have h3:=R_ediv h hd
 have h1:=tdiv_floor (n:=n) hd
 have h4:=(tdiv_pos (n:=n) hd).1
 obtain ⟨g1,g2⟩:=h3
 obtain ⟨k1,k2⟩:=h
 by_cases hm:n.tmod d<0
 ·simp only [hm,if_true] at h1 h4
  refine ⟨by omega,?_⟩
  have:n / d<0:=by
   have e2:=Int.emod_nonneg n (by omega:d≠0)
   have t2:=(tdiv_pos (n:=n) hd).2
   simp only [hm,if_true] at t2
   have hn:n<0:=by
    by_cases hn:n<0
    ·exact hn
    ·have:=Int.tmod_nonneg d (by omega:0≤n)
     omega
   exact Int.ediv_neg_of_neg_of_pos hn (by omega)
  omega
 ·simp only [hm,if_false] at h1 h4
  exact ⟨by omega,by omega⟩
theorem tmod_bd {n d:Int} (hd:1≤d):-d<n.tmod d∧n.tmod d<d:=by
 have h2:=(tdiv_pos (n:=n) hd).2
 have e2:=Int.emod_nonneg n (by omega:d≠0)
 have e3:=Int.emod_lt_of_pos n (by omega:0<d)
 have:=tmod_floor (n:=n) hd
 constructor
 ·by_cases hm:n.tmod d<0
  ·simp only [hm,if_true] at this
   by_cases hz:n % d=0
   ·exfalso
    have h5:d ∣ n:=Int.dvd_of_emod_eq_zero hz
    have:=Int.tmod_eq_zero_of_dvd h5
    omega
   ·omega
  ·omega
 ·split at h2<;>omega
theorem ediv_le {n d m:Int} (h:n≤m) (h0:0≤m) (hd:1≤d):n / d≤m:=by
 rcases Int.le_total 0 n with h3 | h3
 ·exact Int.le_trans (Int.ediv_le_self d h3) h
 ·have:n / d≤0:=by
   have:=Int.ediv_le_ediv (by omega:0<d) h3
   simpa using this
  omega
def roundS (n d:Int):Int:=if n % d ≥ d - n % d then n / d+1 else n / d
def gcdI (a b:Int):Int:=if 0<b then gcdI b (a.tmod b) else a
termination_by b.toNat
decreasing_by
 have:=(tmod_bd (n:=a) (d:=b) (by omega)).2
 omega
theorem gcdI_pos {a b:Int} (h:0<b):gcdI a b=gcdI b (a.tmod b):=by rw [gcdI,if_pos h]
theorem gcdI_neg {a b:Int} (h:¬0<b):gcdI a b=a:=by rw [gcdI,if_neg h]
end Go.Abs.A30
