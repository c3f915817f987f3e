/- A part of the proof: an abstract reading of the model, contracts of functions. -/
import Derived.Test.YtinblgdfhmllnaaGreatC9
import Derived.Test.YtinblgdfhmllnaaGreatProg
namespace Go.Abs
open Go
set_option linter.unusedSimpArgs false
set_option linter.unusedVariables false
section
variable {P:Program} {N:Nat} {J:Nat→Snap→World→Prop} {E:Snap→World→Prop} {l:Nat} {xs:List (List PV)}
theorem yield_draw {ops:Array Oper} {pre:List AI} {y:AB} {post:List AB} {Q:Exit→Act→World→Prop} {a:Act} {w:World} {n:Nat} (hn:NoDefer ops)
  (hr:resolveIs P N ops ops.toList=some (pre.map (·.b)++y :: post)) (hm:okMarks pre=true) (hk:okPre pre y post=true)
  {F:Fr} {ι:Inj} {S:Snap} {b:Base} {K:Fr→Prop} (h:awpD P F 0 [] pre K F) (hst:St N b ι S F.ff a w)
  (hX:∀ F' ι' S' a' w',K F'→St N b ι' S' F'.ff a' w'→wpOpsIn (Fz none) n P ops Q (pre.length :: List.range' (pre.length+1) post.length) a' w') :
  wpAnyIn (Fz none) n P .any ops Q ops.size (Array.replicate ops.size false) a w:=by
 obtain ⟨q1,q2⟩:=resolveIs_get hr
 have hsz:ops.size=pre.length+(post.length+1):=by have:=q1;simp at this;omega
 simp only [okPre,Bool.and_eq_true] at hk
 obtain ⟨⟨⟨k1,k2⟩,k3⟩,k4⟩:=hk
 have getP:∀ k,k<pre.length→∃ o,ops[k]?=some o∧resolveI P N ops o=some (pre.getD k default).b:=by
  intro k hk
  obtain ⟨o,h1,h2⟩:=q2 k (pre.getD k default).b (by rw [List.getElem?_append_left (by simpa using hk)];simp [hk])
  exact ⟨o,by simpa using h1,h2⟩
 have getQ:∀ k,k<post.length→∃ o,ops[pre.length+1+k]?=some o∧resolveI P N ops o=some (post.getD k default):=by
  intro k hk
  obtain ⟨o,h1,h2⟩:=q2 (pre.length+1+k) (post.getD k default) (by
   rw [List.getElem?_append_right (by simp;omega)]
   have:pre.length+1+k - (pre.map (·.b)).length=k+1:=by simp;omega
   rw [this];simp [hk])
  exact ⟨o,by simpa using h1,h2⟩
 obtain ⟨oy,hy1,hy2⟩:∃ o,ops[pre.length]?=some o∧resolveI P N ops o=some y:=by
  obtain ⟨o,h1,h2⟩:=q2 pre.length y (by rw [List.getElem?_append_right (by simp)];simp)
  exact ⟨o,by simpa using h1,h2⟩
 have hmk:=List.all_eq_true.1 hm
 have hafter:∀ k,k<pre.length→∀ e∈(pre.getD k default).b.after,e<k:=by
  intro k hk e he
  have:=hmk k (by simpa using hk)
  simp only [Bool.and_eq_true] at this
  have:=List.all_eq_true.1 this.1 e he
  simpa using this
 -- the operations ahead of it
 let opsP:=ops.extract 0 pre.length
 have hPs:opsP.size=pre.length:=by simp only [opsP,Array.size_extract];omega
 have hPg:∀ (k:Nat) (o:Oper),opsP[k]?=some o→k<pre.length∧ops[k]?=some o:=by
  intro k o e
  have hlt:k<pre.length:=by have:=(Array.getElem?_eq_some_iff.1 e).1;omega
  refine ⟨hlt,?_⟩
  simp only [opsP,Array.getElem?_extract] at e
  rw [if_pos (by omega)] at e
  simpa using e
 have hPg':∀ k,k<pre.length→opsP[k]?=ops[k]?:=by
  intro k hk
  simp only [opsP,Array.getElem?_extract]
  rw [if_pos (by omega)]
  simp
 have hguard:∀ k,k<pre.length→∀ o,ops[k]?=some o→∀ j w,o.guard=some (j,w)→j<pre.length:=by
  intro k hk o ho j wt hg
  obtain ⟨o',h1,h2⟩:=getP k hk
  rw [ho] at h1;simp at h1;subst h1
  obtain ⟨_,_,_,_,g5⟩:=resolveI_inv h2
  rcases g5 with ⟨g6,_⟩ | ⟨j',w',t,g6,g7,g8⟩
  ·rw [g6] at hg;simp at hg
  ·rw [g6] at hg;simp at hg
   obtain ⟨rfl,rfl⟩:=hg
   have k4':=List.all_eq_true.1 k4 (pre.getD k default) (by simp [List.getD,hk])
   rw [g8] at k4'
   simp only [List.all_cons,Bool.and_eq_true,Bool.not_eq_true',List.all_eq_true] at k4'
   simp only [Option.bind_eq_some_iff] at g7
   obtain ⟨oj,g9,g10⟩:=g7
   rcases Nat.lt_trichotomy j' pre.length with h3 | h3 | h3
   ·exact h3
   ·subst h3
    rw [hy1] at g9;simp at g9;subst g9
    have:=(resolveI_inv hy2).2.1
    have h4:=k4'.1
    rw [this,g10] at h4;simp at h4
   ·have hlt:j'<ops.size:=(Array.getElem?_eq_some_iff.1 g9).1
    obtain ⟨o3,h4,h5⟩:=getQ (j' - (pre.length+1)) (by omega)
    have:pre.length+1+(j' - (pre.length+1))=j':=by omega
    rw [this,g9] at h4;simp at h4;subst h4
    have h6:=(resolveI_inv h5).2.1
    have h7:=k4'.2 (post.getD (j' - (pre.length+1)) default) (by
     have hlt':j' - (pre.length+1)<post.length:=by omega
     simp [List.getD,hlt'])
    rw [h6,g10] at h7;simp at h7
 have hresP:∀ (k:Nat) (i:AI),pre[k]?=some i→∃ o,opsP[k]?=some o∧resolveI P N opsP o=some i.b:=by
  intro k i e
  have hlt:=(List.getElem?_eq_some_iff.1 e).1
  obtain ⟨o,h1,h2⟩:=getP k hlt
  have hi:pre.getD k default=i:=by simp [List.getD,e]
  rw [hi] at h2
  refine ⟨o,by rw [hPg' k hlt];exact h1,?_⟩
  rw [←h2]
  unfold resolveI
  cases hg:o.guard with
  | none=>rfl
  | some q=>
   obtain ⟨j,wt⟩:=q
   simp only [hPg' j (hguard k hlt o h1 j wt hg)]
 have hany:=awpD_ok (Q:=Qn (fun a' w'=>∃ F' ι' S',K F'∧St N b ι' S' F'.ff a' w')) (ops:=opsP) (by rw [hPs]) hresP hm h hst (fun F' ι' S' a' w' hk hst'=>⟨F',ι',S',hk,hst'⟩)
 rw [hPs] at hany
 have:=preIn (r:=none) (n:=n) (D:=fun _=>True) (a0:=a) (m:=post.length+1) (Q:=Q) (fun _ _ _ _ _=>trivial) hn hPs hsz (by omega) ?_ ?_ ?_ ?_ pre.length (Array.replicate pre.length false) a w (by simp) ?_ ?_ hany (.refl _ _)
 ·rw [hsz]
  have e:Array.replicate (pre.length+(post.length+1)) false=Array.replicate pre.length false++Array.replicate (post.length+1) false:=by simp
  rw [e];exact this
 ·intro k o e
  obtain ⟨h1,h2⟩:=hPg k o e
  refine ⟨h2,?_,hguard k h1 o h2⟩
  obtain ⟨o',h3,h4⟩:=getP k h1
  rw [h2] at h3;simp at h3;subst h3
  rw [←(resolveI_inv h4).2.2.2.1]
  exact hafter k h1
 ·intro listed hls hcl o ho hre j hj
  rw [hy1] at ho;simp at ho;subst ho
  rw [←(resolveI_inv hy2).2.2.2.1] at hre
  have h1:=List.all_eq_true.1 k1 j (by simpa using hj)
  rw [List.any_eq_true] at h1
  obtain ⟨e,he,h2⟩:=h1
  simp only [Bool.or_eq_true,beq_iff_eq] at h2
  rcases h2 with rfl | h2
  ·exact hre _ he
  ·have hspec:=masks_spec (pre.map (·.b.after)) [] [] rfl (by simp) (by
    intro k hk e he
    simp only [List.nil_append,List.length_map] at hk he
    exact hafter k hk e (by simpa [List.getD,hk] using he))
   simp only [List.nil_append,List.length_map] at hspec
   have hlt:=List.all_eq_true.1 k2 e he
   have hlt:e<pre.length:=by simpa using hlt
   have hdep:∀ k,k<pre.length→listed.getD k false=true→∀ j,((masks (pre.map (·.b.after)) []).getD k 0).testBit j=true→listed.getD j false=true:=by
    intro k
    induction k using Nat.strongRecOn with
    | _ k ih=>
     intro hk hlk j hj
     obtain ⟨e',h3,h4⟩:=hspec.2 k hk j hj
     have h3:e'∈(pre.getD k default).b.after:=by simpa [List.getD,hk] using h3
     obtain ⟨o2,g1,g2⟩:=getP k hk
     have h5:listed.getD e' false=true:=hcl k o2 (by rw [hPg' k hk];exact g1) hlk e' (by rw [←(resolveI_inv g2).2.2.2.1];exact h3)
     rcases h4 with rfl | ⟨h4,h6⟩
     ·exact h5
     ·exact ih e' h4 (by omega) h5 j h6
   exact hdep e hlt (hre e he) j h2
 ·intro k o hck ho
  have hlt:k<ops.size:=(Array.getElem?_eq_some_iff.1 ho).1
  obtain ⟨o',h1,h2⟩:=getQ (k - (pre.length+1)) (by omega)
  have e:pre.length+1+(k - (pre.length+1))=k:=by omega
  rw [e,ho] at h1;simp at h1;subst h1
  rw [←(resolveI_inv h2).2.2.2.1]
  have h3:=List.all_eq_true.1 k3 (k - (pre.length+1)) (by simp;omega)
  simp only [Bool.and_eq_true,List.contains_iff_mem] at h3
  have e2:pre.length+(k - (pre.length+1))=k - 1:=by omega
  rw [e2] at h3
  exact h3.2
 ·rintro a' w' ⟨F',ι',S',hk,hst'⟩ _
  refine chainIn (c:=pre.length) (fun k o hck ho=>?_) (post.length+1) pre.length (Nat.le_refl _) (by omega) a' w' ?_
  ·have hlt:k<ops.size:=(Array.getElem?_eq_some_iff.1 ho).1
   rcases Nat.eq_or_lt_of_le hck with h1 | h1
   ·subst h1
    rw [hy1] at ho;simp at ho;subst ho
    rw [←(resolveI_inv hy2).2.2.2.1]
    exact ⟨fun e he=>by have:=List.all_eq_true.1 k2 e he;simpa using this,fun q=>by omega⟩
   ·obtain ⟨o',h2,h3⟩:=getQ (k - (pre.length+1)) (by omega)
    have e:pre.length+1+(k - (pre.length+1))=k:=by omega
    rw [e,ho] at h2;simp at h2;subst h2
    rw [←(resolveI_inv h3).2.2.2.1]
    have h4:=List.all_eq_true.1 k3 (k - (pre.length+1)) (by simp;omega)
    simp only [Bool.and_eq_true,List.contains_iff_mem] at h4
    have e2:pre.length+(k - (pre.length+1))=k - 1:=by omega
    rw [e2,e] at h4
    exact ⟨fun e' he'=>by have:=List.all_eq_true.1 h4.1 e' he';simpa using this,fun _=>h4.2⟩
  ·rw [List.range'_succ]
   exact hX F' ι' S' a' w' hk hst'
 ·have:((List.range pre.length).filter fun j=>!((Array.replicate pre.length false).getD j false))=List.range pre.length:=by
   rw [List.filter_eq_self]
   intro j hj
   have hj':j<pre.length:=by simpa using hj
   simp [Array.getD,hj']
  rw [this];simp
 ·intro k o e hl
  have:k<pre.length:=(hPg k o e).1
  simp [Array.getD,this] at hl
theorem awpY_ok (hm:P.follows .mixedOrders=true) (hJ:∀ k,Stab (J k)) (hround:∀ k x S1 w1 vs,xs[k]?=some x→S1.holds w1→J k S1 w1→Ps S1 x vs→Round P l vs w1 S1 fun b S2 w2=>if b then J (k+1) S2 w2 else E S2 w2) :
  ∀ (ay:AY) (c:Code),resolveC P N c=some ay.strip→ay.okAll=true→SoundY P N J E (awpY P l xs ay) c:=by
 intro ay
 induction ay with
 | ghost g x ih=>
  intro c hr ho n K F p a w Q h hst hQ
  simp only [awpY] at h
  split at h
  ·rename_i F' hF
   obtain ⟨b,ι,S,hD,hst,hpos⟩:=hst
   obtain ⟨ι',S',hst'⟩:=ghost_ok hst hF
   exact ih c hr ho n K F' p a w Q h ⟨b,ι',S',hD,hst',hpos⟩ hQ
  ·exact h.elim
 | skip=>
  intro c hr ho n K F p a w Q h hst hQ
  cases c<;>simp only [resolveC,AY.strip] at hr
  ·exact wpIn_skip (hQ .normal F p a w h hst)
  all_goals (try simp only [Option.map_eq_some_iff] at hr)
  all_goals (repeat' split at hr)
  all_goals (simp at hr)
 | seq x y ihx ihy=>
  intro c hr ho n K F p a w Q h hst hQ
  simp only [AY.okAll,Bool.and_eq_true] at ho
  cases c<;>simp only [resolveC,AY.strip] at hr
  case seq a' b'=>
   split at hr
   ·rename_i x' y' h1 h2
    simp at hr
    obtain ⟨rfl,rfl⟩:=hr
    refine wpIn_seq (ihx _ h1 ho.1 n _ F p a w _ h hst fun e F' p' a' w' hk hst'=>?_)
    cases e with
    | normal=>exact ihy _ h2 ho.2 n K F' p' a' w' Q hk hst' hQ
    | exit id=>exact hQ (.exit id) F' p' a' w' hk hst'
    | ret=>exact hQ .ret F' p' a' w' hk hst'
   ·simp at hr
  all_goals (try simp only [Option.map_eq_some_iff] at hr)
  all_goals (repeat' split at hr)
  all_goals (simp at hr)
 | cond c' x y ihx ihy=>
  intro c hr ho n K F p a w Q h hst hQ
  simp only [AY.okAll,Bool.and_eq_true] at ho
  cases c<;>simp only [resolveC,AY.strip] at hr
  case cond c'' a' b'=>
   split at hr
   ·rename_i q x' y' h1 h2 h3
    simp at hr
    obtain ⟨rfl,rfl,rfl⟩:=hr
    simp only [awpY] at h
    split at h
    ·rename_i b hbv
     obtain ⟨b0,ι,S,hD,hst1,hpos⟩:=id hst
     have:=inv_bool (hst1.val h1 hbv)
     refine wpIn_cond_split this (fun ht=>?_) (fun hf=>?_)
     ·exact ihx _ h2 ho.1 n K F p a w Q (h.1 ht) hst hQ
     ·exact ihy _ h3 ho.2 n K F p a w Q (h.2 hf) hst hQ
    ·exact h.elim
   ·simp at hr
  all_goals (try simp only [Option.map_eq_some_iff] at hr)
  all_goals (repeat' split at hr)
  all_goals (simp at hr)
 | block id x ih=>
  intro c hr ho n K F p a w Q h hst hQ
  cases c<;>simp only [resolveC,AY.strip] at hr
  case block id' a'=>
   simp only [Option.map_eq_some_iff,AC.block.injEq] at hr
   obtain ⟨x',h1,rfl,rfl⟩:=hr
   refine wpIn_block (ih _ h1 ho n _ F p a w _ h hst fun e F' p' a' w' hk hst'=>?_)
   cases e with
   | normal=>exact hQ .normal F' p' a' w' hk hst'
   | exit i=>
    simp only [AE.toExit,Exit.inBlock]
    dsimp only at hk
    split
    ·rename_i hi;rw [if_pos hi] at hk;exact hQ .normal F' p' a' w' hk hst'
    ·rename_i hi;rw [if_neg hi] at hk;exact hQ (.exit i) F' p' a' w' hk hst'
   | ret=>exact hQ .ret F' p' a' w' hk hst'
  all_goals (try simp only [Option.map_eq_some_iff] at hr)
  all_goals (repeat' split at hr)
  all_goals (simp at hr)
 | loop x ih=>
  intro c hr ho n K F p a w Q h hst hQ
  cases c<;>simp only [resolveC,AY.strip] at hr
  case loop a0=>
   simp only [Option.map_eq_some_iff,AC.loop.injEq] at hr
   obtain ⟨x',h1,rfl⟩:=hr
   let I:Act→World→Nat→Prop:=fun a' w' n=>∃ F p,lpY (awpY P l xs x) n K F p∧GSt N J E F p a' w'
   refine wpIn_loop (fun a w=>∃ n,I a w n) (fun a w=>leastOf (I a w)) ?_ ?_
   ·obtain ⟨n,hn⟩:=h;exact ⟨n,F,p,hn,hst⟩
   ·intro a1 w1 hI
    obtain ⟨⟨F1,p1,hlp,hst1⟩,hmin⟩:=leastOf_spec hI
    generalize hn:leastOf (I a1 w1)=n' at *
    cases n' with
    | zero=>exact hlp.elim
    | succ m=>
     refine ih _ h1 ho n _ F1 p1 a1 w1 _ hlp hst1 fun e F' p' a' w' hk hst'=>?_
     cases e with
     | normal=>
      have hJ':I a' w' m:=⟨F',p',hk,hst'⟩
      refine ⟨⟨m,hJ'⟩,?_⟩
      have:=(leastOf_spec ⟨m,hJ'⟩).2 m hJ'
      omega
     | exit id=>exact hQ (.exit id) F' p' a' w' hk hst'
     | ret=>exact hQ .ret F' p' a' w' hk hst'
  all_goals (try simp only [Option.map_eq_some_iff] at hr)
  all_goals (repeat' split at hr)
  all_goals (simp at hr)
 | scope x ih=>
  intro c hr ho n K F p a w Q h hst hQ
  cases c<;>simp only [resolveC,AY.strip] at hr
  case scope a0=>
   simp only [Option.map_eq_some_iff,AC.scope.injEq] at hr
   obtain ⟨x',h1,rfl⟩:=hr
   refine wpIn_scope (ih _ h1 ho n _ F p a w _ h hst fun e F' p' a' w' hk hst'=>?_)
   cases e with
   | normal=>exact hQ .normal F' p' a' w' hk hst'
   | exit i=>exact hQ (.exit i) F' p' a' w' hk hst'
   | ret=>exact hQ .ret F' p' a' w' hk hst'
  all_goals (try simp only [Option.map_eq_some_iff] at hr)
  all_goals (repeat' split at hr)
  all_goals (simp at hr)
 | label l'=>
  intro c hr ho n K F p a w Q h hst hQ
  cases c<;>simp only [resolveC,AY.strip] at hr
  case label l''=>exact wpIn_label (hQ .normal F p a w h hst)
  all_goals (try simp only [Option.map_eq_some_iff] at hr)
  all_goals (repeat' split at hr)
  all_goals (simp at hr)
 | exit id=>
  intro c hr ho n K F p a w Q h hst hQ
  cases c<;>simp only [resolveC,AY.strip] at hr
  case exit id'=>
   simp at hr;subst hr
   exact wpIn_exit (hQ (.exit id') F p a w h hst)
  all_goals (try simp only [Option.map_eq_some_iff] at hr)
  all_goals (repeat' split at hr)
  all_goals (simp at hr)
 | ret=>
  intro c hr ho n K F p a w Q h hst hQ
  cases c<;>simp only [resolveC,AY.strip] at hr
  case ret=>exact wpIn_ret (hQ .ret F p a w h hst)
  all_goals (try simp only [Option.map_eq_some_iff] at hr)
  all_goals (repeat' split at hr)
  all_goals (simp at hr)
 | reg ops0=>
  intro c hr ho n K F p a w Q h hst hQ
  cases c<;>simp only [resolveC,AY.strip] at hr
  case region id ops d=>
   split at hr
   ·rename_i l' h1
    cases d with
    | true=>simp at hr
    | false=>
     simp at hr;subst hr
     obtain ⟨q1,q2⟩:=resolveIs_get h1
     obtain ⟨q3,q4⟩:=resolveIs_ops h1
     obtain ⟨b,ι,S,hD,hst,hpos⟩:=hst
     refine wpIn_region ?_
     have:List.range ops.size=List.range' 0 l'.length:=by rw [q1,List.range_eq_range'];simp
     rw [this]
     refine toIn (D:=fun _=>True) (a0:=a) (X:=fun a' w'=>∃ F' ι' S',K .normal F' p∧St N b ι' S' F'.ff a' w') (fun _ _ _ _ _=>trivial) q3 ?_ _ a w ?_ (.refl _ _)
     ·rintro a' w' ⟨F',ι',S',g1,g2⟩ g3
      exact hQ .normal F' p a' w' g1 ⟨b,ι',S',hD,g2,hpos⟩
     ·exact awpR_ok (Q:=Qn _) l' 0 F ι S a w (fun j i hj=>by simpa using q2 j i hj) h hst (fun F' ι' S' a' w' hk hst'=>⟨F',ι',S',hk,hst'⟩)
   ·simp at hr
  all_goals (try simp only [Option.map_eq_some_iff] at hr)
  all_goals (repeat' split at hr)
  all_goals (simp at hr)
 | draw ops0=>
  intro c hr ho n K F p a w Q h hst hQ
  cases c<;>simp only [resolveC,AY.strip] at hr
  case region id ops d=>
   split at hr
   ·rename_i l' h1
    cases d with
    | false=>simp at hr
    | true=>
     simp only [if_true,Option.some.injEq,AC.draw.injEq] at hr
     obtain ⟨q1,q2⟩:=resolveIs_get h1
     obtain ⟨q3,q4⟩:=resolveIs_ops h1
     have hb':l'=ops0.map (·.b):=by
      have:=congrArg (List.map (·.b)) hr
      simpa [List.map_map,Function.comp_def,bare] using this
     obtain ⟨b,ι,S,hD,hst,hpos⟩:=hst
     refine wpIn_region_any hm ?_
     refine toAny (D:=fun _=>True) (a0:=a) (X:=fun a' w'=>∃ F' ι' S',K .normal F' p∧St N b ι' S' F'.ff a' w') (fun _ _ _ _ _=>trivial) q3 ?_ _ _ a _ ?_ (.refl _ _)
     ·rintro a' w' ⟨F',ι',S',g1,g2⟩ g3
      exact hQ .normal F' p a' w' g1 ⟨b,ι',S',hD,g2,hpos⟩
     refine awpD_ok (Q:=Qn _) (F0:=F) (l:=ops0) ?_ (fun k i hk=>?_) (Bool.and_eq_true _ _ ▸ ho).1 (awpX_D (Bool.and_eq_true _ _ ▸ ho).2 h) (hst.step0 (S':=S) (Keep.drew w) (fun _ _ q=>q) (fun x v q=>hst.snap x v q) (fun x v q=>.inl q)) (fun F' ι' S' a' w' hk hst'=>⟨F',ι',S',hk,hst'⟩)
     ·rw [hb'] at q1;simpa using q1
     ·obtain ⟨o,h2,h3⟩:=q2 k i.b (by rw [hb'];simp [hk])
      exact ⟨o,by simpa using h2,h3⟩
   ·simp at hr
  all_goals (try simp only [Option.map_eq_some_iff] at hr)
  all_goals (repeat' split at hr)
  all_goals (simp at hr)
 | yield dr pre y post=>
  intro c hr ho n K F p a w Q h hst hQ
  simp only [AY.strip] at hr
  cases c
  case region id ops d=>
   simp only [resolveC] at hr
   split at hr
   ·rename_i l' h1
    obtain ⟨q3,q4⟩:=resolveIs_ops h1
    cases dr with
    | false=>
     cases d with
     | true=>simp at hr
     | false=>
      simp only [Bool.false_eq_true,if_false,Option.some.injEq,AC.reg.injEq] at hr
      subst hr
      obtain ⟨q1,q2⟩:=resolveIs_get h1
      obtain ⟨b,ι,S,hD,hst,hpos⟩:=hst
      refine wpIn_region ?_
      have hlist:List.range ops.size=List.range' 0 (pre.map (·.b)).length++(pre.length :: List.range' (pre.length+1) post.length):=by
       have:ops.size=pre.length+(post.length+1):=by have:=q1;simp at this;omega
       rw [this,List.range_eq_range',←List.range'_append_1,Nat.zero_add,List.range'_succ]
       simp
      rw [hlist]
      simp only [awpY,Bool.false_eq_true,if_false] at h
      refine toInT (D:=fun _=>True) (a0:=a) (X:=fun a' w'=>∃ F' ι' S',stepY P l xs y post (K .normal) F' p∧St N b ι' S' F'.ff a' w') (fun _ _ _ _ _=>trivial) q3 ?_ _ a w ?_ (.refl _ _)
      ·rintro a' w' ⟨F',ι',S',g1,g2⟩ _
       obtain ⟨oy,hy1,hy2⟩:=q2 pre.length y (by rw [List.getElem?_append_right (by simp)];simp)
       refine stepY_ok hJ hround q3 (by simpa using hy1) hy2 (fun j i hj=>?_) g1 ⟨b,ι',S',hD,g2,hpos⟩ (fun F' p' a' w' k1 k2=>hQ .normal F' p' a' w' k1 k2)
       obtain ⟨o,h2,h3⟩:=q2 (pre.length+1+j) i (by
        rw [List.getElem?_append_right (by simp;omega)]
        have:pre.length+1+j - (pre.map (·.b)).length=j+1:=by simp;omega
        rw [this];simpa using hj)
       exact ⟨o,by simpa using h2,h3⟩
      ·exact awpR_ok (Q:=Qn (fun a' w'=>∃ F' ι' S',stepY P l xs y post (K .normal) F' p∧St N b ι' S' F'.ff a' w')) (pre.map (·.b)) 0 F ι S a w (fun j i hj=>by
        obtain ⟨o,h2,h3⟩:=q2 j i (by rw [List.getElem?_append_left (List.getElem?_eq_some_iff.1 hj).1];exact hj)
        exact ⟨o,by simpa using h2,h3⟩) h hst (fun F' ι' S' a' w' hk hst'=>⟨F',ι',S',hk,hst'⟩)
    | true=>
     cases d with
     | false=>simp at hr
     | true=>
      simp only [if_true,Option.some.injEq,AC.draw.injEq] at hr
      have hb':l'=pre.map (·.b)++y :: post:=by
       have:=congrArg (List.map (·.b)) hr
       simpa [List.map_map,Function.comp_def,bare] using this
      subst hb'
      obtain ⟨q1,q2⟩:=resolveIs_get h1
      simp only [AY.okAll,Bool.not_true,Bool.false_or,Bool.and_eq_true] at ho
      obtain ⟨b,ι,S,hD,hst,hpos⟩:=hst
      simp only [awpY,if_true] at h
      refine wpIn_region_any hm ?_
      refine yield_draw (N:=N) q3 h1 ho.1.1 ho.2 (awpX_D ho.1.2 h) (hst.step0 (S':=S) (Keep.drew w) (fun _ _ q=>q) (fun x v q=>hst.snap x v q) (fun x v q=>.inl q)) fun F' ι' S' a' w' g1 g2=>?_
      obtain ⟨oy,hy1,hy2⟩:=q2 pre.length y (by rw [List.getElem?_append_right (by simp)];simp)
      refine stepY_ok hJ hround q3 (by simpa using hy1) hy2 (fun j i hj=>?_) g1 ⟨b,ι',S',hD,g2,hpos⟩ (fun F' p' a' w' k1 k2=>hQ .normal F' p' a' w' k1 k2)
      obtain ⟨o,h2,h3⟩:=q2 (pre.length+1+j) i (by
       rw [List.getElem?_append_right (by simp;omega)]
       have:pre.length+1+j - (pre.map (·.b)).length=j+1:=by simp;omega
       rw [this];simpa using hj)
      exact ⟨o,by simpa using h2,h3⟩
   ·simp at hr
  all_goals (exfalso;cases dr<;>simp only [resolveC] at hr)
  all_goals (try simp only [Option.map_eq_some_iff] at hr)
  all_goals (repeat' split at hr)
  all_goals (simp at hr)
theorem gens (hm:P.follows .mixedOrders=true) {f:FuncId} {ay:AY} {n:Nat} (hf:factOf P f=some (ay.strip,[],n)) (ho:ay.okAll=true) {fi ca:List PV} {xs:List (List PV)} (hl:fi.length+1+ca.length≤n)
  (h:∀ l,awpY P l xs ay (fun e _ p=>(match e with | .exit _=>False | _=>True)∧(p=none∨p=some xs.length)) (initFr (fi++[.clo (.yield l) [] []]++ca)) (some 0)):Gens P f fi ca xs:=by
 unfold factOf at hf
 split at hf
 ·rename_i fn h1
  split at hf
  ·rename_i h2
   split at hf
   ·rename_i ac' rs' h3 h4
    simp only [Option.some.injEq,Prod.mk.injEq] at hf
    obtain ⟨rfl,rfl,rfl⟩:=hf
    simp only [Option.bind_eq_some_iff] at h3
    obtain ⟨c,h5,h6⟩:=h3
    refine ⟨⟨fn,h1,by simp [h5],h2.1⟩,fun S w fs cs hS hfs hcs l J E sJ sE hround h0=>?_⟩
    refine callsIn_fz' (r:=none) (n:=0) (callsIn_of_wp_marks (F:=Fence.wide) (n:=0) h1 h5 trivial ?_)
    have hargs:Ps S (fi++[.clo (.yield l) [] []]++ca) (fs++[Value.func (.yield l) #[] #[]]++cs):=by
     have app:∀ {p1 p2:List PV} {v1 v2:List Value},Ps S p1 v1→Ps S p2 v2→Ps S (p1++p2) (v1++v2):=by
      intro p1 p2 v1 v2 q1 q2
      refine ⟨by simp [q1.1,q2.1],fun j p v g1 g2=>?_⟩
      rw [List.getElem?_append] at g1 g2
      have hl:=q1.1
      by_cases hj:j<p1.length
      ·rw [if_pos hj] at g1;rw [if_pos (by omega)] at g2;exact q1.2 j p v g1 g2
      ·rw [if_neg hj] at g1;rw [if_neg (by omega),hl] at g2;exact q2.2 _ p v g1 g2
     have hone:Ps S [.clo (.yield l) [] []] [Value.func (.yield l) #[] #[]]:=by
      refine ⟨rfl,fun j p v g1 g2=>?_⟩
      cases j with
      | zero=>simp at g1 g2;subst g1;subst g2;exact .clo (.yield l) [] [] [] [] rfl rfl (by simp) (by simp)
      | succ j=>simp at g1
     exact app (app hfs hone) hcs
    generalize hA:fi++[.clo (.yield l) [] []]++ca=args at hargs
    generalize hX:fs++[Value.func (.yield l) #[] #[]]++cs=vals at hargs
    have hlen:=hargs.1
    have hlen2:args.length≤fn.ntmps:=by rw [←hA];simp;omega
    have hst:St fn.ntmps { w:=w,S:=S } (fun _=>none) S (initFr args).ff { tmps:=vals.toArray++Array.replicate (fn.ntmps - vals.toArray.size) undef,defers:=[] } w:=by
     refine ⟨by simp;omega,h2.2,fun _ _=>rfl,rfl,fun r o e=>by simp at e,(Keep.refl w).toX,fun _ _ q=>q,fun _ _ q=>.inl q,hS,fun t v e=>?_,fun s k e=>by simp [initFr,Fr.ff,Fr.blk,look] at e,fun s k e=>by simp [initFr,Fr.ff,Fr.blk,look] at e,fun s s' k k' e=>by simp [initFr,Fr.ff,Fr.blk,look] at e⟩
     obtain ⟨p,rfl,_,h2⟩:=look_zipIdx args 0 t v e
     simp only [Nat.sub_zero] at h2
     have hlt:t<vals.length:=by have:=(List.getElem?_eq_some_iff.1 h2).1;omega
     refine ⟨vals[t],by simp [Array.getElem?_append,hlt],.p _ _ (hargs.2 t p _ h2 (by simp))⟩
    have hrun:=h l
    rw [hA] at hrun
    refine awpY_ok hm sJ hround ay c h6 ho 0 _ (initFr args) (some 0) _ w _ hrun (show GSt fn.ntmps J E (initFr args) (some 0) _ w from ⟨{ w:=w,S:=S },_,S,PB.new w S,hst,h0⟩) fun e F' p' a' w' hk hst'=>?_
    obtain ⟨he,hp⟩:=hk
    obtain ⟨b,ι,S',hD,hst2,hpos⟩:=hst'
    have hres:∃ v,(results fn a'.tmps).run P w'=.ok v w':=by
     obtain ⟨x,h7,_⟩:=results_ok (P:=P) hst2 h4 (u:=.p (.tup [])) (by simp [evRs,evRl,mkTup,allP])
     exact ⟨x,h7⟩
    have fin:LeavesInM Fence.wide 0 P fn a'.tmps (fun e w'=>(∃ v,e=.returned v)∧∃ S',S'.holds w'∧(J xs.length S' w'∨E S' w')) a'.defers .returning w':=by
     rw [hst2.df,hD.1]
     obtain ⟨v,hv⟩:=hres
     refine ⟨v,hv,⟨v,rfl⟩,S',hst2.snap,?_⟩
     rcases hp with rfl | rfl
     ·exact .inr (sE _ _ S' w' hpos hst2.sle hst2.snap (hD.keep hst2) (hD.snew hst2))
     ·exact .inl (sJ _ _ _ S' w' hpos hst2.sle hst2.snap (hD.keep hst2) (hD.snew hst2))
    cases e with
    | normal=>exact fin
    | exit id=>exact he.elim
    | ret=>exact fin
   ·simp at hf
  ·simp at hf
 ·simp at hf
end
end Go.Abs
namespace Go.Abs.A29
open Go Go.Abs Go.Proofs
set_option maxRecDepth 100000
set_option linter.unusedVariables false
set_option linter.unusedSimpArgs false
attribute [local simp ↓] awp_skip awp_seq awp_cond awp_block awp_exit awp_ret awp_reg awp_draw awp_ghost awp_loop awp_rfun awpR_nil awpR_cons awpX_nil awpX_0 awpX_1 awpX_2 awpI_eq awpI_t awpI_f awpStep_eq
attribute [local simp] condL_true condL_false condL_dec evDel evV evN evS evA initFr Ghost.app Fr.var Fr.blk Fr.ff FF.val Abs.look Fr.app Fr.erase Fr.noSlot AV.noSlot AV.noSlotL Blk.noSlot Fr.spoken AV.fz AV.fzL Blk.fz binV binI shI binS unV fillA FF.parts FF.vals headO intO boundO lenV scalarEq leavesEq AV.aggc AV.cells FF.read FF.rows AV.one PV.one chunk freshB newS pickV retK evRs evRl evR resOf mkTup mkAgg allP cloOf okP_nil okX_p okX okP addN Del.noSlot Del.owners Rnd reify_p normM insM Fr.back Fr.backV Fr.setPs normV insV
attribute [local simp] renF Fr.trim Blk.trim AV.rn AV.rnL Blk.rn AV.among AV.amongL Blk.among okF retM fixS BIG initFF
attribute [local simp] FF.reify FF.reifyL PV.flat
def ym (d n : Nat) : AB := ⟨some d, .mov (.v n), none, []⟩
def yn (d n : Nat) (a : List Nat) : AB := ⟨some d, .mov (.v n), none, a⟩
def yl (d n : Nat) : AB := ⟨some d, .load false 1 (.v n), none, []⟩
def yk (d n : Nat) (a : List Nat) : AB := ⟨some d, .load false 1 (.v n), none, a⟩
def yb (d : Nat) (o : BinOp) (m n : Nat) (a : List Nat) : AB := ⟨some d, .bin o (.v m) (.v n), none, a⟩
def yc (d : Nat) (o : BinOp) (m : Nat) (x : Opd) (a : List Nat) : AB := ⟨some d, .bin o (.v m) x, none, a⟩
def yf (d k n : Nat) (a : List Nat) : AB := ⟨some d, .faddr k (.v n), none, a⟩
def yj (d k m n : Nat) (a : List Nat) : AB := ⟨some d, .iaddr k (.v m) (.v n), none, a⟩
def yh (d n : Nat) (a : List Nat) : AB := ⟨some d, .len false (.v n), none, a⟩
def qp (d : Nat) (o : AOp) : AB := ⟨some d, o, none, []⟩
def qe (b : AB) (d n : List Nat) (p : Nat) : AI := ⟨b, d, [], [], n, p⟩
def qi (d : Nat) (o : AOp) (a : List Nat) : AB := ⟨some d, o, none, a⟩
def qo (o : AOp) (a : List Nat) : AB := ⟨none, o, none, a⟩
def qg (d : Nat) (o : AOp) (t : Nat) (b : Bool) (a : List Nat) : AB := ⟨some d, o, some (t, b), a⟩
def qa (b : AB) (d s k n : List Nat) (p : Nat) : AI := ⟨b, d, s, k, n, p⟩
def qk (l : List Nat) (x : AC) : AC := .ghost (.keep l) x
def qz (n : Int) : Opd := .c (.int .i64 n)
def qm (n : Nat) : AOp := .mov (.v n)
def ql (n : Nat) : AOp := .load false 1 (.v n)
def qt (k n : Nat) : AOp := .load true k (.v n)
def qf (k n : Nat) : AOp := .faddr k (.v n)
def qj (k m n : Nat) : AOp := .iaddr k (.v m) (.v n)
def qn (n : Nat) : AOp := .len false (.v n)
def qb (o : BinOp) (m n : Nat) : AOp := .bin o (.v m) (.v n)
def qc (o : BinOp) (m : Nat) (x : Opd) : AOp := .bin o (.v m) x
def qs (x y : AC) : AC := .seq x y
def qr (l : List AB) : AC := .reg l
def qq (c : Opd) (x y : AC) : AC := .cond c x y
def qd (l : List AI) : AC := .draw l
attribute [local simp] ym yn yl yk yb yc yf yj yh qp qe qi qo qg qa qk qz qm ql qt qf qj qn qb qc qs qr qq qd
section
def ac21:AC:=by
 apply fun (y:AC) (_:@Eq AC (qk [0,1] (qs (qr [(qp 4 (.mov (qz 0)))]) (qk [0,1] (qs (qr [(ym 5 0),(ym 6 1),(yb 7 .rem 5 6 [0,1]),(ym 8 1),(yb 9 .add 7 8 [2,3]),(ym 10 1),(yb 11 .rem 9 10 [4,5]),(yn 4 11 [6,0,1,2,3,4,5,6])]) (qk [4] .ret))))) y)=>y
 dsimp
theorem fn21:factOf Tryz.prog 21=some (ac21.strip,[.tmp 4],12):=by kernel_rfl
theorem ok21:ac21.okAll=true:=by kernel_rfl
def ac22:AC:=by
 apply fun (y:AC) (_:@Eq AC (let e0:=[0,1,5,6];(qk [0,1] (qs (qr [(qp 4 (.mov (.c .nsl)))]) (qk [0,1] (qs (qr [(ym 7 1),(qi 8 (.mksl 3 1 8 [.int .i64 0] (.v 7) (.v 7)) [0,0]),(yn 5 8 [1,0,1])]) (qk [0,1,5] (qs (qs (qr [(qp 6 (.mov (qz 0)))]) (qk e0 (.block 0 (.loop (qk e0 (qs (qs (qr [(ym 9 6),(ym 10 1),(yb 11 .lss 9 10 [0,1])]) (qk [0,1,5,6,11] (qq (.v 11) .skip (.exit 0)))) (qk e0 (qs (.block 1 (qr [(ym 14 5),(ym 15 6),(ym 16 0),(ym 17 6),(qi 18 (.call 58 [.v 16,.v 17]) [2,3]),(yc 19 .rem 18 (qz 129) [4]),(yc 20 .sub 19 (qz 64) [5]),(yj 21 1 14 15 [0,1,0,1,2,3,4,5,6]),(qo (.store 1 (.v 21) (.v 20)) [7,6,4,0,1,2,3,4,5,6])])) (qk e0 (qr [(ym 12 6),(yc 13 .add 12 (qz 1) [0]),(yn 6 13 [1,0,1])])))))))))) (qk [5] (qs (qr [(ym 22 5),(yn 4 22 [0,0])]) (qk [4] .ret)))))))))) y)=>y
 dsimp
theorem fn22:factOf Tryz.prog 22=some (ac22.strip,[.tmp 4],23):=by kernel_rfl
theorem ok22:ac22.okAll=true:=by kernel_rfl
def ac50:AC:=by
 apply fun (y:AC) (_:@Eq AC (let e0:=[0,1,2,3];let e1:=[22,23,24,25,33];let e2:=[26,27,28,29,30,33];let e3:=[9,10,11,12,13];let e4:=[5,6,7,8];(qk [0,1] (qs (qr [(qp 4 (.mov (qz 0)))]) (qk [0,1] (qs (qs (qd [(qe (ym 5 0) e3 [] 2),(qe (qi 6 (.nilck (.v 5)) [0]) e3 [] 2),(qe (yf 7 1 6 [1]) e3 [] 2),(qe (yk 8 7 [2]) e3 [] 2),(qe (ym 9 0) e4 e0 2),(qe (qi 10 (.nilck (.v 9)) [4]) e4 e0 2),(qe (yf 11 0 10 [5]) e4 e0 2),(qe (yk 12 11 [6]) e4 e0 2),(qe (yh 13 12 [7]) e4 e0 2),(qe (yb 14 .geq 8 13 [3,8]) [] [] 2)]) (qk [0,1,14] (qq (.v 14) (qs (qr [(qp 4 (.mov (qz 0)))]) (qk [0,4] .ret)) .skip))) (qk [0,1] (qs (qr [(ym 15 0),(qi 16 (.nilck (.v 15)) [0]),(yf 17 1 16 [1]),(yk 18 17 [2]),(yc 19 .add 18 (qz 1) [3]),(qi 20 (.nilck (.v 15)) [0,0,1,2,3,4]),(yf 21 1 20 [5,0,1,2,3,4]),(qo (.store 1 (.v 21) (.v 19)) [6,4,0,1,2,3,4])]) (qk [0,1] (qs (qd [(qe (ym 22 0) e2 [] 2),(qe (qi 23 (.nilck (.v 22)) [0]) e2 [] 2),(qe (yf 24 0 23 [1]) e2 [] 2),(qe (yk 25 24 [2]) e2 [] 2),(qe (ym 26 0) e1 e0 2),(qe (qi 27 (.nilck (.v 26)) [4]) e1 e0 2),(qe (yf 28 1 27 [5]) e1 e0 2),(qe (yk 29 28 [6]) e1 e0 2),(qe (yc 30 .sub 29 (qz 1) [7]) e1 e0 2),(qe (yj 31 1 25 30 [3,8]) [33] [] 2),(qe (yk 32 31 [9]) [33] [] 2),(qe (ym 33 1) [22,23,24,25,26,27,28,29,30,31,32] [0,1,2,3,4,5,6,7,8,9,10] 2),(qa (qi 34 (.call 21 [.v 32,.v 33]) [10,11]) [] [] [34] [] 1),(qe (yn 4 34 [12,12,0,1,2,3,4,5,6,7,8,9,10,11,12]) [] [] 2)]) (qk [0,4] .ret)))))))))) y)=>y
 dsimp
theorem fn50:factOf Tryz.prog 50=some (ac50.strip,[.tmp 4],35):=by kernel_rfl
theorem ok50:ac50.okAll=true:=by kernel_rfl
def ac49:AC:=by
 apply fun (y:AC) (_:@Eq AC (let e0:=[9,10,11,12];let e1:=[0,1,2,3];let e2:=[13,14,15,16,17,18];(qk [0,1] (qs (qr [(qp 4 (.mov (.c .nsl)))]) (qk [0,1] (qs (qs (qr [(ym 5 1),(ym 6 0),(yh 7 6 [1]),(yb 8 .lss 5 7 [0,2])]) (qk [0,1,8] (qq (.v 8) (qs (qd [(qe (ym 9 0) [10,13,14,15,16,17,18] [] 2),(qe (ym 10 1) [9,13,14,15,16,17,18] [0] 2),(qe (yj 11 1 9 10 [0,1]) e2 [] 2),(qe (yk 12 11 [2]) e2 [] 2),(qe (ym 13 0) [9,10,11,12,14] e1 2),(qe (ym 14 1) [9,10,11,12,13] [0,1,2,3,4] 2),(qe (yj 15 1 13 14 [4,5]) e0 e1 2),(qe (yk 16 15 [6]) e0 e1 2),(qe (yh 17 16 [7]) e0 e1 2),(qe (qi 18 (.mm false (.v 17) (qz 60)) [8]) e0 e1 2),(qe (qi 19 (.slcV 1 (.v 12) none (some (.v 18))) [3,9]) [] [] 2),(qe (yn 4 19 [10,0,1,2,3,4,5,6,7,8,9,10]) [] [] 2)]) (qk [4] .ret)) .skip))) (qk [] (qs (qr [(qp 4 (.mov (.c .nsl)))]) (qk [4] .ret)))))))) y)=>y
 dsimp
theorem fn49:factOf Tryz.prog 49=some (ac49.strip,[.tmp 4],20):=by kernel_rfl
theorem ok49:ac49.okAll=true:=by kernel_rfl
def ac58:AC:=by
 apply fun (y:AC) (_:@Eq AC (qk [0,1] (qs (qr [(qp 4 (.mov (qz 0)))]) (qk [0,1] (qs (qs (qr [(ym 5 1),(ym 6 0),(yh 7 6 [1]),(yb 8 .lss 5 7 [0,2])]) (qk [0,1,8] (qq (.v 8) (qs (qr [(ym 9 0),(ym 10 1),(yj 11 1 9 10 [0,1]),(yk 12 11 [2]),(yc 13 .and 12 (qz 65535) [3]),(yn 4 13 [4,0,1,2,3,4])]) (qk [4] .ret)) .skip))) (qk [] (qs (qr [(qp 4 (.mov (qz 0)))]) (qk [4] .ret))))))) y)=>y
 dsimp
theorem fn58:factOf Tryz.prog 58=some (ac58.strip,[.tmp 4],14):=by kernel_rfl
theorem ok58:ac58.okAll=true:=by kernel_rfl
def ac76:AC:=by
 apply fun (y:AC) (_:@Eq AC (let e0:=[2,3,10,34,35,36];let e1:=[64,65,66,67,68,69,70];let e2:=[2,3,10,13,34,35,36];(qk [0,1,2,3] (qs (qr [(qp 8 (.mov (qz 0))),(qi 9 (.mov (.c (.bool false))) [0])]) (qk [0,1,2,3] (qs (qr [(ym 17 0),(qp 18 (.build [.int .i64 0,.int .i64 0] [(0,1,.c (.int .i64 1)),(1,1,.c (.int .i64 1))])),(qi 19 (.call 113 [.v 17,.v 18]) [0,1]),(yn 16 19 [2]),(qi 20 (.ext (.v 16) 0) [3]),(qi 21 (.ext (.v 16) 1) [3]),(yn 10 20 [4,2,0,1,2,3,4]),(yn 11 21 [5,6,0,1,2,3,4,5,6])]) (qk [1,2,3,10,11] (qs (qs (qr [(ym 22 11),(qi 23 (.un .not (.v 22)) [0]),(yn 24 23 [1]),(qg 25 (qm 3) 24 false [2]),(qg 26 (.call 114 [.v 25]) 24 false [3,2,2]),(qg 27 (.un .not (.v 26)) 24 false [4,2]),(qi 28 (.pick (.v 24) (.c (.bool true)) (.v 27)) [2,5]),(yn 29 28 [6,4]),(qg 30 (qm 1) 29 false [7]),(qg 31 (qn 30) 29 false [8,7]),(qg 32 (qc .gtr 31 (qz 8)) 29 false [9,7]),(qi 33 (.pick (.v 29) (.c (.bool true)) (.v 32)) [7,10])]) (qk [1,2,3,10,33] (qq (.v 33) (qs (qr [(qp 8 (.mov (qz 0))),(qi 9 (.mov (.c (.bool false))) [0,0])]) (qk [8,9] .ret)) .skip))) (qk [1,2,3,10] (qs (qs (qr [(ym 34 1),(yh 35 34 [0]),(qp 36 (.mov (qz 0)))]) (qk e0 (.block 0 (.loop (qk e0 (qs (qr [(qp 37 (qb .lss 36 35))]) (qk [2,3,10,34,35,36,37] (qs (qq (.v 37) .skip (.exit 0)) (qk e0 (qs (.block 1 (qs (qr [(qp 38 (qj 2 34 36)),(qi 39 (qt 2 38) [0]),(qp 13 (.alloc [.int .i64 0,.int .i64 0])),(qo (.store 2 (.v 13) (.v 39)) [2,1,0,1,2])]) (qk e2 (qs (qs (qr [(qp 40 (qf 0 13)),(yk 41 40 [0]),(yc 42 .lss 41 (qz 0) [1]),(yn 43 42 [2]),(qg 44 (qf 0 13) 43 false [3]),(qg 45 (ql 44) 43 false [4,3]),(qg 46 (qm 2) 43 false [3]),(qg 47 (qn 46) 43 false [6,3]),(qg 48 (qb .geq 45 47) 43 false [5,7,3]),(qi 49 (.pick (.v 43) (.c (.bool true)) (.v 48)) [3,8]),(yn 50 49 [9,3]),(qg 51 (qm 2) 50 false [10]),(qg 52 (qf 0 13) 50 false [10]),(qg 53 (ql 52) 50 false [12,10]),(qg 54 (qj 1 51 53) 50 false [11,13,10]),(qg 55 (qt 1 54) 50 false [14,10]),(qg 56 (qm 3) 50 false [10]),(qg 57 (qn 56) 50 false [16,10]),(qg 58 (.call 115 [.v 55,.v 57]) 50 false [15,17,10,10]),(qg 59 (.un .not (.v 58)) 50 false [18,10]),(qi 60 (.pick (.v 50) (.c (.bool true)) (.v 59)) [10,19])]) (qk [2,3,10,13,34,35,36,60] (qq (.v 60) (qs (qr [(qp 8 (.mov (qz 0))),(qi 9 (.mov (.c (.bool false))) [0,0])]) (qk [8,9] .ret)) .skip))) (qk e2 (qs (qd [(qa (qp 62 (qf 1 13)) e1 [70] [] [] 2),(qa (yk 63 62 [0]) e1 [70] [] [] 0),(qe (ym 64 2) [62,63,65,66,69] [0,1] 2),(qe (qp 65 (qf 0 13)) [62,63,64,69] [0,1,2] 2),(qe (yk 66 65 [3]) [62,63,64,69] [0,1,2] 2),(qe (yj 67 1 64 66 [2,4]) [62,63,69] [0,1] 2),(qe (qi 68 (qt 1 67) [5]) [62,63,69] [0,1] 2),(qe (ym 69 3) [62,63,64,65,66,67,68] [0,1,2,3,4,5,6] 2),(qa (qi 70 (.call 116 [.v 68,.v 69]) [6,7]) [62,63] [] [70] [0,1] 1),(qa (qi 71 (.call 113 [.v 63,.v 70]) [1,8,8]) [] [] [71] [] 1),(qe (yn 61 71 [9]) [] [] 2),(qe (qi 72 (.ext (.v 61) 0) [10]) [73] [] 2),(qe (qi 73 (.ext (.v 61) 1) [10]) [14,72] [11] 2),(qe (yn 14 72 [11,9,0,1,2,3,4,5,6,7,8,9,10,11]) [73] [12] 2),(qe (yn 15 73 [12,13,0,1,2,3,4,5,6,7,8,9,10,11,12,13]) [] [] 2)]) (qk [2,3,10,14,15,34,35,36] (qs (qs (qr [(ym 74 15),(qi 75 (.un .not (.v 74)) [0])]) (qk [2,3,10,14,34,35,36,75] (qq (.v 75) (qs (qr [(qp 8 (.mov (qz 0))),(qi 9 (.mov (.c (.bool false))) [0,0])]) (qk [8,9] .ret)) .skip))) (qk [2,3,10,14,34,35,36] (qr [(ym 76 10),(ym 77 14),(yb 78 .add 76 77 [0,1]),(yn 10 78 [2,0,1,2])])))))))))) (qk e0 (qr [(qp 79 (qc .add 36 (qz 1))),(yn 36 79 [0])])))))))))))) (qk [10] (qs (qr [(ym 80 10),(yn 8 80 [0,0]),(qi 9 (.mov (.c (.bool true))) [1,0,1])]) (qk [8,9] .ret)))))))))))) y)=>y
 dsimp
theorem fn76:factOf Tryz.prog 76=some (ac76.strip,[.tmp 8,.tmp 9],81):=by kernel_rfl
theorem ok76:ac76.okAll=true:=by kernel_rfl
def ac77:AC:=by
 apply fun (y:AC) (_:@Eq AC (qk [0,1] (qs (qr [(qp 4 (.mov (qz 0))),(qi 5 (.mov (.c (.bool false))) [0])]) (qk [0,1] (qs (qr [(qp 6 (.build [.nfn] [(0,1,.c (.clo (.func 117) [] []))])),(ym 7 0),(ym 8 1),(qi 9 (.call 118 [.v 6,.v 7,.v 8]) [0,1,2]),(qi 10 (.ext (.v 9) 0) [3]),(qi 11 (.ext (.v 9) 1) [3]),(yn 4 10 [4,3,0,1,2,3,4,5]),(yn 5 11 [5,6,0,1,2,3,4,5,6])]) (qk [4,5] .ret))))) y)=>y
 dsimp
theorem fn77:factOf Tryz.prog 77=some (ac77.strip,[.tmp 4,.tmp 5],12):=by kernel_rfl
theorem ok77:ac77.okAll=true:=by kernel_rfl
def ac80:AC:=by
 apply fun (y:AC) (_:@Eq AC (qk [0] (qs (qr [(qp 2 (.mov (.c (.bool false))))]) (qk [0] (qs (qs (qr [(qp 3 (.mov (qz 0)))]) (qk [0,3] (.block 0 (.loop (qk [0,3] (qs (qs (qr [(ym 5 3),(ym 6 0),(yh 7 6 [1]),(yb 8 .lss 5 7 [0,2])]) (qk [0,3,8] (qq (.v 8) .skip (.exit 0)))) (qk [0,3] (qs (.block 1 (qs (qr [(ym 11 0),(ym 12 3),(yj 13 1 11 12 [0,1]),(yk 14 13 [2]),(qi 15 (.call 119 [.v 14]) [3]),(yn 4 15 [4,4,0,1,2,3,4])]) (qk [0,3,4] (qs (qr [(ym 16 4),(qi 17 (.un .not (.v 16)) [0])]) (qk [0,3,17] (qq (.v 17) (qs (qr [(qp 2 (.mov (.c (.bool false))))]) (qk [2] .ret)) .skip)))))) (qk [0,3] (qr [(ym 9 3),(yc 10 .add 9 (qz 1) [0]),(yn 3 10 [1,0,1])])))))))))) (qk [0] (qs (qr [(ym 18 0),(yh 19 18 [0]),(yc 20 .leq 19 (qz 3) [1]),(yn 2 20 [2,0,1,2])]) (qk [2] .ret))))))) y)=>y
 dsimp
theorem fn80:factOf Tryz.prog 80=some (ac80.strip,[.tmp 2],21):=by kernel_rfl
theorem ok80:ac80.okAll=true:=by kernel_rfl
def ac82:AC:=by
 apply fun (y:AC) (_:@Eq AC (let e0:=[1,2,3,12,13];let e1:=[75,76,77];(qk [0,1,2,3] (qs (qr [(qp 8 (.mov (qz 0))),(qi 9 (.mov (.c (.bool false))) [0])]) (qk [0,1,2,3] (qs (qr [(ym 18 0),(qi 19 (.call 120 [.v 18]) [0]),(yn 10 19 [1,1,0,1])]) (qk [0,1,2,3,10] (qs (qr [(ym 20 3),(qi 21 (.call 80 [.v 20]) [0]),(yn 11 21 [1,1,0,1])]) (qk [0,1,2,3,10,11] (qs (qs (qr [(ym 22 10),(qi 23 (.un .not (.v 22)) [0]),(yn 24 23 [1]),(qg 25 (qm 11) 24 false [2]),(qg 26 (.un .not (.v 25)) 24 false [3,2]),(qi 27 (.pick (.v 24) (.c (.bool true)) (.v 26)) [2,4]),(yn 28 27 [5,2]),(qg 29 (qm 1) 28 false [6]),(qg 30 (qn 29) 28 false [7,6]),(qg 31 (qc .gtr 30 (qz 8)) 28 false [8,6]),(qi 32 (.pick (.v 28) (.c (.bool true)) (.v 31)) [6,9])]) (qk [0,1,2,3,32] (qq (.v 32) (qs (qr [(qp 8 (.mov (qz 0))),(qi 9 (.mov (.c (.bool false))) [0,0])]) (qk [8,9] .ret)) .skip))) (qk [0,1,2,3] (qs (qr [(ym 33 0),(qi 34 (.bin .mul (qz 64) (.v 33)) [0]),(yn 12 34 [1,0,1])]) (qk [1,2,3,12] (qs (qs (qr [(qp 13 (.mov (qz 0)))]) (qk e0 (.block 0 (.loop (qk e0 (qs (qs (qr [(ym 35 13),(ym 36 1),(yh 37 36 [1]),(yb 38 .lss 35 37 [0,2])]) (qk [1,2,3,12,13,38] (qq (.v 38) .skip (.exit 0)))) (qk e0 (qs (.block 1 (qs (qs (qr [(ym 41 1),(ym 42 13),(yj 43 2 41 42 [0,1]),(yf 44 0 43 [2]),(yk 45 44 [3]),(yc 46 .lss 45 (qz 0) [4]),(yn 47 46 [5]),(qg 48 (qm 1) 47 false [6]),(qg 49 (qm 13) 47 false [6]),(qg 50 (qj 2 48 49) 47 false [7,8,6]),(qg 51 (qf 0 50) 47 false [9,6]),(qg 52 (ql 51) 47 false [10,6]),(qg 53 (qm 2) 47 false [6]),(qg 54 (qn 53) 47 false [12,6]),(qg 55 (qb .geq 52 54) 47 false [11,13,6]),(qi 56 (.pick (.v 47) (.c (.bool true)) (.v 55)) [6,14])]) (qk [1,2,3,12,13,56] (qq (.v 56) (qs (qr [(qp 8 (.mov (qz 0))),(qi 9 (.mov (.c (.bool false))) [0,0])]) (qk [8,9] .ret)) .skip))) (qk e0 (qs (qr [(ym 57 2),(ym 58 1),(ym 59 13),(yj 60 2 58 59 [1,2]),(yf 61 0 60 [3]),(yk 62 61 [4]),(yj 63 1 57 62 [0,5]),(qi 64 (qt 1 63) [6]),(qp 14 (.alloc [.nsl])),(qo (.store 1 (.v 14) (.v 64)) [8,7,0,1,2,3,4,5,6,7,8])]) (qk [1,2,3,12,13,14] (qs (qr [(qp 65 (qt 1 14)),(ym 66 3),(yh 67 66 [1]),(qi 68 (.call 121 [.v 65,.v 67]) [0,2]),(yn 15 68 [3,3,0,1,2,3])]) (qk [1,2,3,12,13,14,15] (qs (qd [(qa (ym 70 1) [71,75,76,77] [77] [] [] 2),(qa (ym 71 13) [70,75,76,77] [77] [] [0] 2),(qa (yj 72 2 70 71 [0,1]) e1 [77] [] [] 2),(qa (yf 73 1 72 [2]) e1 [77] [] [] 2),(qa (yk 74 73 [3]) e1 [77] [] [] 0),(qe (qp 75 (qt 1 14)) [70,71,72,73,74,76] [0,1,2,3,4] 2),(qe (ym 76 3) [70,71,72,73,74,75] [0,1,2,3,4,5] 2),(qa (qi 77 (.call 123 [.v 75,.v 76]) [5,6]) [70,71,72,73,74] [] [77] [0,1,2,3,4] 1),(qa (qi 78 (.call 122 [.v 74,.v 77]) [4,7,7]) [] [] [78] [] 1),(qe (yn 69 78 [8]) [] [] 2),(qe (qi 79 (.ext (.v 69) 0) [9]) [80] [] 2),(qe (qi 80 (.ext (.v 69) 1) [9]) [16,79] [10] 2),(qe (yn 16 79 [10,8,0,1,2,3,4,5,6,7,8,9,10]) [80] [11] 2),(qe (yn 17 80 [11,12,0,1,2,3,4,5,6,7,8,9,10,11,12]) [] [] 2)]) (qk [1,2,3,12,13,15,16,17] (qs (qs (qr [(ym 81 15),(qi 82 (.un .not (.v 81)) [0]),(yn 83 82 [1]),(qg 84 (qm 17) 83 false [2]),(qg 85 (.un .not (.v 84)) 83 false [3,2]),(qi 86 (.pick (.v 83) (.c (.bool true)) (.v 85)) [2,4])]) (qk [1,2,3,12,13,16,86] (qq (.v 86) (qs (qr [(qp 8 (.mov (qz 0))),(qi 9 (.mov (.c (.bool false))) [0,0])]) (qk [8,9] .ret)) .skip))) (qk [1,2,3,12,13,16] (qr [(ym 87 12),(ym 88 16),(yb 89 .add 87 88 [0,1]),(yn 12 89 [2,0,1,2])])))))))))))) (qk e0 (qr [(ym 39 13),(yc 40 .add 39 (qz 1) [0]),(yn 13 40 [1,0,1])])))))))))) (qk [12] (qs (qr [(ym 90 12),(yn 8 90 [0,0]),(qi 9 (.mov (.c (.bool true))) [1,0,1])]) (qk [8,9] .ret)))))))))))))))) y)=>y
 dsimp
theorem fn82:factOf Tryz.prog 82=some (ac82.strip,[.tmp 8,.tmp 9],91):=by kernel_rfl
theorem ok82:ac82.okAll=true:=by kernel_rfl
def ac84:AC:=by
 apply fun (y:AC) (_:@Eq AC (qk [0,1] (qs (qr [(qp 4 (.mov (qz 0))),(qi 5 (.mov (.c (.bool false))) [0])]) (qk [0,1] (qs (qr [(ym 10 0),(ym 11 1),(qi 12 (.call 124 [.v 10,.v 11]) [0,1]),(yn 9 12 [2]),(qi 13 (.ext (.v 9) 0) [3]),(qi 14 (.ext (.v 9) 1) [3]),(yn 6 13 [4,2,0,1,2,3,4]),(yn 7 14 [5,6,0,1,2,3,4,5,6])]) (qk [0,1,6,7] (qs (qs (qr [(ym 15 7),(qi 16 (.un .not (.v 15)) [0])]) (qk [0,1,6,16] (qq (.v 16) (qs (qr [(qp 4 (.mov (qz 0))),(qi 5 (.mov (.c (.bool false))) [0,0])]) (qk [4,5] .ret)) .skip))) (qk [0,1,6] (qs (qr [(ym 17 0),(ym 18 1),(yb 19 .rem 17 18 [0,1]),(yn 8 19 [2,0,1,2])]) (qk [1,6,8] (qs (qs (qr [(ym 20 8),(yc 21 .lss 20 (qz 0) [0])]) (qk [1,6,8,21] (qq (.v 21) (qr [(ym 22 8),(ym 23 1),(yb 24 .add 22 23 [0,1]),(yn 8 24 [2,0,1,2])]) .skip))) (qk [1,6,8] (qs (qs (qr [(ym 25 8),(ym 26 1),(ym 27 8),(yb 28 .sub 26 27 [1,2]),(yb 29 .geq 25 28 [0,3])]) (qk [6,29] (qq (.v 29) (qr [(ym 30 6),(yc 31 .add 30 (qz 1) [0]),(yn 6 31 [1,0,1])]) .skip))) (qk [6] (qs (qr [(ym 32 6),(yn 4 32 [0,0]),(qi 5 (.mov (.c (.bool true))) [1,0,1])]) (qk [4,5] .ret))))))))))))))) y)=>y
 dsimp
theorem fn84:factOf Tryz.prog 84=some (ac84.strip,[.tmp 4,.tmp 5],33):=by kernel_rfl
theorem ok84:ac84.okAll=true:=by kernel_rfl
def ac95:AC:=by
 apply fun (y:AC) (_:@Eq AC (let e0:=[13,14,15,16,17,18,19,20,21,22,23,24];let e1:=[13,14,15,16,17,18,19,24,25,26,27];let e2:=[15,16,17,18,19,20,21,22,23,24,25,26,27,28,29,30];let e3:=[0,1,2,3,4,5,6,7,8,9,10,11];let e4:=[13,14,15,19,20,21,22,24,25,26,27];let e5:=[0,1,2,3,4,5,6];let e6:=[0,1,4,5,6];let e7:=[0,1];(qk e7 (qs (qr [(qp 4 (.alloc [.nsl]))]) (qk [0,1,4] (qs (qr [(qp 7 (.build [.nsl] [])),(qp 5 (.alloc [.nsl])),(qo (.store 1 (.v 5) (.v 7)) [1,0,0,1])]) (qk [0,1,4,5] (qs (qs (qr [(qp 6 (.mov (qz 0)))]) (qk e6 (.block 0 (.loop (qk e6 (qs (qs (qr [(ym 8 6),(ym 9 1),(yb 10 .lss 8 9 e7)]) (qk [0,1,4,5,6,10] (qq (.v 10) .skip (.exit 0)))) (qk e6 (qs (.block 1 (qd [(qa (qp 13 (qf 0 5)) e2 [18,23,28,29,30] [] [] 2),(qa (yk 14 13 [0]) e2 [18,23,28,29,30] [] [] 0),(qe (ym 15 0) [13,14,16,17,19,20,21,22,24,25,26,27] e7 2),(qe (ym 16 6) e4 [0,1,2] 2),(qe (qi 17 (.bin .mul (qz 3) (.v 16)) [3]) e4 [0,1,2] 2),(qa (qi 18 (.call 58 [.v 15,.v 17]) [2,4]) [13,14,19,20,21,22,24,25,26,27] [] [18] e7 1),(qa (ym 19 0) [13,14,15,16,17,18,20,21,22,24,25,26,27] [18] [] [0,1,2,3,4,5] 2),(qa (ym 20 6) e1 [18] [] e5 2),(qa (qi 21 (.bin .mul (qz 3) (.v 20)) [7]) e1 [18] [] e5 2),(qa (yc 22 .add 21 (qz 1) [8]) e1 [18] [] e5 2),(qa (qi 23 (.call 58 [.v 19,.v 22]) [6,9,5]) [13,14,24,25,26,27] [] [23] e7 1),(qa (ym 24 0) [13,14,15,16,17,18,19,20,21,22,23,25,26,27] [18,23] [] [0,1,2,3,4,5,6,7,8,9,10] 2),(qa (ym 25 6) e0 [18,23] [] e3 2),(qa (qi 26 (.bin .mul (qz 3) (.v 25)) [12]) e0 [18,23] [] e3 2),(qa (yc 27 .add 26 (qz 2) [13]) e0 [18,23] [] e3 2),(qa (qi 28 (.call 58 [.v 24,.v 27]) [11,14,10]) [13,14] [] [28] e7 1),(qa (qi 29 (.call 132 [.v 18,.v 23,.v 28]) [5,10,15,15]) [13,14] [] [29] e7 1),(qa (qi 30 (.bslice 176 3 1 [.int .i64 0,.int .i64 0,.int .i64 0] [(0,3,.v 29)]) [16]) [13,14] [] [30] e7 1),(qa (qi 31 (.app 176 3 24 (.v 14) (.v 30)) [1,17,16]) [] [] [18,23,28,29,30,31] [] 1),(qe (yf 32 0 5 [0,1,2,3,4,5,6,7,8,9,10,11,12,13,14,15,16,17,18]) [] [] 2),(qa (qo (.store 1 (.v 32) (.v 31)) [19,18,18,0,1,2,3,4,5,6,7,8,9,10,11,12,13,14,15,16,17,18]) [] [] [5] [] 1)])) (qk e6 (qr [(ym 11 6),(yc 12 .add 11 (qz 1) [0]),(yn 6 12 [1,0,1])])))))))))) (qk [4,5] (qs (qr [(qp 33 (qt 1 5)),(qo (.store 1 (.v 4) (.v 33)) [0,0])]) (qk [4] .ret)))))))))) y)=>y
 dsimp
theorem fn95:factOf Tryz.prog 95=some (ac95.strip,[.cell 4 true 1],34):=by kernel_rfl
theorem ok95:ac95.okAll=true:=by kernel_rfl
def ac113:AC:=by
 apply fun (y:AC) (_:@Eq AC (qk [0,1] (qs (qr [(qp 3 (.box (.v 1))),(qp 4 (.mov (qz 0))),(qi 5 (.mov (.c (.bool false))) [1])]) (qk [0,3] (qs (qs (qr [(ym 6 0),(qi 7 (.bslice 3 1 1 [.int .i64 0] [(0,1,.v 6)]) [0]),(qi 8 (.call 148 [.v 7]) [1]),(qi 9 (.un .not (.v 8)) [2]),(yn 10 9 [3,2]),(qg 11 (qt 2 3) 10 false [4]),(qg 12 (.call 149 [.v 11]) 10 false [5,4,4]),(qg 13 (.un .not (.v 12)) 10 false [6,4]),(qi 14 (.pick (.v 10) (.c (.bool true)) (.v 13)) [4,7])]) (qk [0,3,14] (qq (.v 14) (qs (qr [(qp 4 (.mov (qz 0))),(qi 5 (.mov (.c (.bool false))) [0,0])]) (qk [4,5] .ret)) .skip))) (qk [0,3] (qs (qr [(ym 15 0),(qi 16 (.bin .mul (qz 64) (.v 15)) [0]),(qp 17 (qf 0 3)),(yk 18 17 [2]),(yb 19 .mul 16 18 [1,3]),(qp 20 (qf 1 3)),(yk 21 20 [5]),(qi 22 (.call 77 [.v 19,.v 21]) [4,6]),(qi 23 (.ext (.v 22) 0) [7]),(qi 24 (.ext (.v 22) 1) [7]),(yn 4 23 [8,7,0,1,2,3,4,5,6,7,8,9]),(yn 5 24 [9,10,0,1,2,3,4,5,6,7,8,9,10])]) (qk [4,5] .ret))))))) y)=>y
 dsimp
theorem fn113:factOf Tryz.prog 113=some (ac113.strip,[.tmp 4,.tmp 5],25):=by kernel_rfl
theorem ok113:ac113.okAll=true:=by kernel_rfl
def ac114:AC:=by
 apply fun (y:AC) (_:@Eq AC (qk [0] (qs (qr [(qp 2 (.mov (.c (.bool false))))]) (qk [0] (qs (qr [(ym 3 0),(yh 4 3 [0]),(yc 5 .leq 4 (qz 3) [1]),(yn 6 5 [2]),(qg 7 (qm 0) 6 true [3]),(qg 8 (.call 29 [.v 7,.c (.clo (.func 150) [] [])]) 6 true [4,3,3]),(qg 9 (.un .not (.v 8)) 6 true [5,3]),(qi 10 (.pick (.v 6) (.v 9) (.c (.bool false))) [3,6]),(yn 2 10 [7,5,0,1,2,3,4,5,6,7])]) (qk [2] .ret))))) y)=>y
 dsimp
theorem fn114:factOf Tryz.prog 114=some (ac114.strip,[.tmp 2],11):=by kernel_rfl
theorem ok114:ac114.okAll=true:=by kernel_rfl
def ac115:AC:=by
 apply fun (y:AC) (_:@Eq AC (qk [0,1] (qs (qr [(qp 2 (.box (.v 0))),(qp 4 (.mov (.c (.bool false))))]) (qk [1,2] (qs (qr [(qp 5 (.mov (.c (.clo (.func 152) [] []))))]) (qk [1,2,5] (qs (qr [(ym 6 1),(yc 7 .geq 6 (qz 0) [0]),(yn 8 7 [1]),(qg 9 (qm 1) 8 true [2]),(qg 10 (qc .leq 9 (qz 3)) 8 true [3,2]),(qi 11 (.pick (.v 8) (.v 10) (.c (.bool false))) [2,4]),(yn 12 11 [5,2]),(qg 13 (qf 0 2) 12 true [6]),(qg 14 (ql 13) 12 true [7,6]),(qg 15 (qn 14) 12 true [8,6]),(qg 16 (qm 1) 12 true [6]),(qg 17 (qb .eql 15 16) 12 true [9,10,6]),(qi 18 (.pick (.v 12) (.v 17) (.c (.bool false))) [6,11]),(yn 19 18 [12,6]),(qg 20 (qf 0 2) 19 true [13]),(qg 21 (ql 20) 19 true [14,13]),(qg 22 (qm 5) 19 true [13]),(qg 23 (.call 154 [.v 21,.v 22]) 19 true [15,16,13,13]),(qg 24 (.un .not (.v 23)) 19 true [17,13]),(qi 25 (.pick (.v 19) (.v 24) (.c (.bool false))) [13,18]),(yn 4 25 [19,17,0,1,2,3,4,5,6,7,8,9,10,11,12,13,14,15,16,17,18,19])]) (qk [4] .ret))))))) y)=>y
 dsimp
theorem fn115:factOf Tryz.prog 115=some (ac115.strip,[.tmp 4],26):=by kernel_rfl
theorem ok115:ac115.okAll=true:=by kernel_rfl
def ac116:AC:=by
 apply fun (y:AC) (_:@Eq AC (qk [0,1] (qs (qr [(qp 2 (.box (.v 0))),(qp 4 (.alloc [.int .i64 0,.int .i64 0]))]) (qk [1,2,4] (qs (qs (qr [(qp 8 (qt 1 2)),(ym 9 1),(yh 10 9 [1]),(qi 11 (.call 115 [.v 8,.v 10]) [0,2]),(qi 12 (.un .not (.v 11)) [3]),(yn 13 12 [4,3]),(qg 14 (qm 1) 13 false [5]),(qg 15 (.call 114 [.v 14]) 13 false [6,5,5]),(qg 16 (.un .not (.v 15)) 13 false [7,5]),(qi 17 (.pick (.v 13) (.c (.bool true)) (.v 16)) [5,8])]) (qk [1,2,4,17] (qq (.v 17) (qs (qr [(qp 18 (.build [.int .i64 0,.int .i64 0] [(0,1,.c (.int .i64 0)),(1,1,.c (.int .i64 1))])),(qo (.store 2 (.v 4) (.v 18)) [0,0])]) (qk [4] .ret)) .skip))) (qk [1,2,4] (qs (qr [(qp 19 (.build [.int .i64 0,.int .i64 0] [(0,1,.c (.int .i64 1)),(1,1,.c (.int .i64 1))])),(qp 5 (.alloc [.int .i64 0,.int .i64 0])),(qo (.store 2 (.v 5) (.v 19)) [1,0,0,1])]) (qk [1,2,4,5] (qs (qs (qr [(qp 20 (qf 0 2)),(yk 21 20 [0]),(ym 22 1),(qi 23 (.call 155 [.v 21,.v 22]) [1,2])]) (qk [4,5,23] (.block 0 (.rfun (.v 23) [24,25] [6,7,24,25,26,27,28,29,30,31,32,33] (qs (qr [(qp 6 (.alloc [.int .i64 0,.int .i64 0,.int .i64 0])),(qo (.store 3 (.v 6) (.v 24)) [0,0])]) (qk [4,5,6,23,25] (qr [(ym 7 25)]))) (qk [4,5,6,7,23] (.block 1 (qd [(qa (qp 27 (qt 2 5)) [28,29,30] [30] [] [] 0),(qe (qp 28 (qt 3 6)) [27,29] [0] 2),(qe (ym 29 7) [27,28] [0,1] 2),(qa (qi 30 (.call 157 [.v 28,.v 29]) [1,2]) [27] [] [30] [0] 1),(qa (qi 31 (.call 156 [.v 27,.v 30]) [0,3,3]) [] [] [31] [] 1),(qe (yn 26 31 [4]) [] [] 2),(qe (qi 32 (.ext (.v 26) 0) [5]) [33] [] 2),(qa (qi 33 (.ext (.v 26) 1) [5]) [32] [5] [] [6] 2),(qa (qo (.store 2 (.v 5) (.v 32)) [6,4,0,1,2,3,4,5,6]) [33] [] [5] [7] 1)]))))))) (qk [4,5] (qs (qr [(qp 34 (qt 2 5)),(qo (.store 2 (.v 4) (.v 34)) [0,0])]) (qk [4] .ret))))))))))) y)=>y
 dsimp
theorem fn116:factOf Tryz.prog 116=some (ac116.strip,[.cell 4 true 2],35):=by kernel_rfl
theorem ok116:ac116.okAll=true:=by kernel_rfl
def ac117:AC:=by
 apply fun (y:AC) (_:@Eq AC (qk [0,1] (qs (qr [(qp 4 (.mov (.c (.bool false))))]) (qk [0,1] (qs (qr [(ym 5 0),(ym 6 1),(ym 7 0),(yb 8 .sub 6 7 [1,2]),(yb 9 .geq 5 8 [0,3]),(yn 4 9 [4,0,1,2,3,4])]) (qk [4] .ret))))) y)=>y
 dsimp
theorem fn117:factOf Tryz.prog 117=some (ac117.strip,[.tmp 4],10):=by kernel_rfl
theorem ok117:ac117.okAll=true:=by kernel_rfl
def ac118:AC:=by
 apply fun (y:AC) (_:@Eq AC (qk [0,1,2] (qs (qr [(qp 3 (.box (.v 0))),(qp 6 (.mov (qz 0))),(qi 7 (.mov (.c (.bool false))) [1])]) (qk [1,2,3] (qs (qs (qr [(ym 10 2),(yc 11 .lss 10 (qz 1) [0])]) (qk [1,2,3,11] (qq (.v 11) (qs (qr [(qp 6 (.mov (qz 0))),(qi 7 (.mov (.c (.bool false))) [0,0])]) (qk [6,7] .ret)) .skip))) (qk [1,2,3] (qs (qd [(qe (ym 12 1) [13,15,16,17] [] 2),(qe (ym 13 2) [12,15,16,17] [0] 2),(qe (yb 14 .quo 12 13 [0,1]) [15,16,17] [] 2),(qe (ym 15 1) [8,12,13,14,16] [0,1,2] 2),(qe (ym 16 2) [8,12,13,14,15] [0,1,2,3] 2),(qe (yb 17 .rem 15 16 [3,4]) [8,12,13,14] [0,1,2] 2),(qe (yn 8 14 [2,0,1,2]) [15,16,17] [3,4,5] 2),(qe (yn 9 17 [5,6,0,1,2,3,4,5,6]) [] [] 2)]) (qk [2,3,8,9] (qs (qs (qr [(ym 18 9),(yc 19 .lss 18 (qz 0) [0])]) (qk [2,3,8,9,19] (qq (.v 19) (qr [(ym 20 8),(yc 21 .sub 20 (qz 1) [0]),(ym 22 9),(ym 23 2),(yb 24 .add 22 23 [2,3]),(yn 8 21 [1,0,1]),(yn 9 24 [4,5,0,1,2,3,4,5])]) .skip))) (qk [2,3,8,9] (qs (qs (qr [(qp 25 (qf 0 3)),(yk 26 25 [0]),(ym 27 9),(ym 28 2),(qi 29 (.callv (.v 26) [.v 27,.v 28]) [1,2,3])]) (qk [8,29] (qq (.v 29) (qr [(ym 30 8),(yc 31 .add 30 (qz 1) [0]),(yn 8 31 [1,0,1])]) .skip))) (qk [8] (qs (qr [(ym 32 8),(yn 6 32 [0,0]),(qi 7 (.mov (.c (.bool true))) [1,0,1])]) (qk [6,7] .ret))))))))))))) y)=>y
 dsimp
theorem fn118:factOf Tryz.prog 118=some (ac118.strip,[.tmp 6,.tmp 7],33):=by kernel_rfl
theorem ok118:ac118.okAll=true:=by kernel_rfl
def ac119:AC:=by
 apply fun (y:AC) (_:@Eq AC (qk [0] (qs (qr [(qp 2 (.mov (.c (.bool false))))]) (qk [0] (qs (qr [(ym 3 0),(yc 4 .geq 3 (qz (-64)) [0]),(yn 5 4 [1]),(qg 6 (qm 0) 5 true [2]),(qg 7 (qc .leq 6 (qz 64)) 5 true [3,2]),(qi 8 (.pick (.v 5) (.v 7) (.c (.bool false))) [2,4]),(yn 2 8 [5,2,0,1,2,3,4,5])]) (qk [2] .ret))))) y)=>y
 dsimp
theorem fn119:factOf Tryz.prog 119=some (ac119.strip,[.tmp 2],9):=by kernel_rfl
theorem ok119:ac119.okAll=true:=by kernel_rfl
def ac120:AC:=by
 apply fun (y:AC) (_:@Eq AC (qk [0] (qs (qr [(qp 2 (.mov (.c (.bool false))))]) (qk [0] (qs (qr [(ym 3 0),(yc 4 .geq 3 (qz (-1048576)) [0]),(yn 5 4 [1]),(qg 6 (qm 0) 5 true [2]),(qg 7 (qc .leq 6 (qz 1048576)) 5 true [3,2]),(qi 8 (.pick (.v 5) (.v 7) (.c (.bool false))) [2,4]),(yn 2 8 [5,2,0,1,2,3,4,5])]) (qk [2] .ret))))) y)=>y
 dsimp
theorem fn120:factOf Tryz.prog 120=some (ac120.strip,[.tmp 2],9):=by kernel_rfl
theorem ok120:ac120.okAll=true:=by kernel_rfl
def ac121:AC:=by
 apply fun (y:AC) (_:@Eq AC (qk [0,1] (qs (qr [(qp 2 (.box (.v 0))),(qp 4 (.mov (.c (.bool false))))]) (qk [1,2] (qs (qs (qr [(ym 7 1),(yc 8 .lss 7 (qz 0) [0]),(yn 9 8 [1]),(qg 10 (qm 1) 9 false [2]),(qg 11 (qc .gtr 10 (qz 3)) 9 false [3,2]),(qi 12 (.pick (.v 9) (.c (.bool true)) (.v 11)) [2,4]),(yn 13 12 [5,2]),(qg 14 (qf 0 2) 13 false [6]),(qg 15 (ql 14) 13 false [7,6]),(qg 16 (qn 15) 13 false [8,6]),(qg 17 (qm 1) 13 false [6]),(qg 18 (qb .neq 16 17) 13 false [9,10,6]),(qi 19 (.pick (.v 13) (.c (.bool true)) (.v 18)) [6,11])]) (qk [1,2,19] (qq (.v 19) (qs (qr [(qp 4 (.mov (.c (.bool false))))]) (qk [4] .ret)) .skip))) (qk [1,2] (qs (qs (qr [(qp 5 (.mov (qz 0)))]) (qk [1,2,5] (.block 0 (.loop (qk [1,2,5] (qs (qs (qr [(ym 20 5),(ym 21 1),(yb 22 .lss 20 21 [0,1])]) (qk [1,2,5,22] (qq (.v 22) .skip (.exit 0)))) (qk [1,2,5] (qs (.block 1 (qs (qr [(qp 25 (qf 0 2)),(yk 26 25 [0]),(ym 27 5),(yj 28 3 26 27 [1,2]),(qi 29 (qt 3 28) [3]),(qi 30 (.call 158 [.v 29]) [4]),(yn 6 30 [5,5,0,1,2,3,4,5])]) (qk [1,2,5,6] (qs (qr [(ym 31 6),(qi 32 (.un .not (.v 31)) [0])]) (qk [1,2,5,32] (qq (.v 32) (qs (qr [(qp 4 (.mov (.c (.bool false))))]) (qk [4] .ret)) .skip)))))) (qk [1,2,5] (qr [(ym 23 5),(yc 24 .add 23 (qz 1) [0]),(yn 5 24 [1,0,1])])))))))))) (qk [] (qs (qr [(qp 4 (.mov (.c (.bool true))))]) (qk [4] .ret))))))))) y)=>y
 dsimp
theorem fn121:factOf Tryz.prog 121=some (ac121.strip,[.tmp 4],33):=by kernel_rfl
theorem ok121:ac121.okAll=true:=by kernel_rfl
def ac122:AC:=by
 apply fun (y:AC) (_:@Eq AC (qk [0,1] (qs (qr [(qp 3 (.box (.v 1))),(qp 4 (.mov (qz 0))),(qi 5 (.mov (.c (.bool false))) [1])]) (qk [0,3] (qs (qs (qr [(ym 6 0),(qi 7 (.call 120 [.v 6]) [0]),(qi 8 (.un .not (.v 7)) [1]),(yn 9 8 [2,1]),(qg 10 (qt 2 3) 9 false [3]),(qg 11 (.call 159 [.v 10]) 9 false [4,3,3]),(qg 12 (.un .not (.v 11)) 9 false [5,3]),(qi 13 (.pick (.v 9) (.c (.bool true)) (.v 12)) [3,6])]) (qk [0,3,13] (qq (.v 13) (qs (qr [(qp 4 (.mov (qz 0))),(qi 5 (.mov (.c (.bool false))) [0,0])]) (qk [4,5] .ret)) .skip))) (qk [0,3] (qs (qr [(ym 14 0),(qi 15 (.bin .mul (qz 64) (.v 14)) [0]),(qp 16 (qf 0 3)),(yk 17 16 [2]),(yb 18 .mul 15 17 [1,3]),(qp 19 (qf 1 3)),(yk 20 19 [5]),(qi 21 (.call 84 [.v 18,.v 20]) [4,6]),(qi 22 (.ext (.v 21) 0) [7]),(qi 23 (.ext (.v 21) 1) [7]),(yn 4 22 [8,7,0,1,2,3,4,5,6,7,8,9]),(yn 5 23 [9,10,0,1,2,3,4,5,6,7,8,9,10])]) (qk [4,5] .ret))))))) y)=>y
 dsimp
theorem fn122:factOf Tryz.prog 122=some (ac122.strip,[.tmp 4,.tmp 5],24):=by kernel_rfl
theorem ok122:ac122.okAll=true:=by kernel_rfl
def ac123:AC:=by
 apply fun (y:AC) (_:@Eq AC (let e0:=[1,2,4,7,8];let e1:=[0,1,2,3,4,5];let e2:=[30,33,36,37,38,39];let e3:=[30,31,32,33,34,35];(qk [0,1] (qs (qr [(qp 2 (.box (.v 0))),(qp 4 (.alloc [.int .i64 0,.int .i64 0]))]) (qk [1,2,4] (qs (qr [(qp 9 (qt 1 2)),(ym 10 1),(yh 11 10 [1]),(qi 12 (.call 121 [.v 9,.v 11]) [0,2]),(yn 5 12 [3,3,0,1,2,3])]) (qk [1,2,4,5] (qs (qr [(ym 13 1),(qi 14 (.call 80 [.v 13]) [0]),(yn 6 14 [1,1,0,1])]) (qk [1,2,4,5,6] (qs (qs (qr [(ym 15 5),(qi 16 (.un .not (.v 15)) [0]),(yn 17 16 [1]),(qg 18 (qm 6) 17 false [2]),(qg 19 (.un .not (.v 18)) 17 false [3,2]),(qi 20 (.pick (.v 17) (.c (.bool true)) (.v 19)) [2,4])]) (qk [1,2,4,20] (qq (.v 20) (qs (qr [(qp 21 (.build [.int .i64 0,.int .i64 0] [(0,1,.c (.int .i64 0)),(1,1,.c (.int .i64 1))])),(qo (.store 2 (.v 4) (.v 21)) [0,0])]) (qk [4] .ret)) .skip))) (qk [1,2,4] (qs (qr [(qp 22 (.build [.int .i64 0,.int .i64 0] [(0,1,.c (.int .i64 1)),(1,1,.c (.int .i64 1))])),(qp 7 (.alloc [.int .i64 0,.int .i64 0])),(qo (.store 2 (.v 7) (.v 22)) [1,0,0,1])]) (qk [1,2,4,7] (qs (qs (qr [(qp 8 (.mov (qz 0)))]) (qk e0 (.block 0 (.loop (qk e0 (qs (qs (qr [(ym 23 8),(ym 24 1),(yh 25 24 [1]),(yb 26 .lss 23 25 [0,2])]) (qk [1,2,4,7,8,26] (qq (.v 26) .skip (.exit 0)))) (qk e0 (qs (.block 1 (qd [(qa (qp 30 (qt 2 7)) [31,32,33,34,35,36,37,38,39,40] [40] [] [] 0),(qe (qp 31 (qf 0 2)) e2 [0] 2),(qe (yk 32 31 [1]) e2 [0] 2),(qe (ym 33 8) [30,31,32,36,37,38,39] [0,1,2] 2),(qe (yj 34 3 32 33 [2,3]) [30,36,37,38,39] [0] 2),(qe (qi 35 (qt 3 34) [4]) [30,36,37,38,39] [0] 2),(qe (ym 36 1) [30,31,32,33,34,35,37] e1 2),(qe (ym 37 8) [30,31,32,33,34,35,36] [0,1,2,3,4,5,6] 2),(qe (yj 38 1 36 37 [6,7]) e3 e1 2),(qe (yk 39 38 [8]) e3 e1 2),(qa (qi 40 (.call 161 [.v 35,.v 39]) [5,9]) [30] [] [40] [0] 1),(qa (qi 41 (.call 160 [.v 30,.v 40]) [0,10,10]) [] [] [41] [] 1),(qe (yn 29 41 [11]) [] [] 2),(qe (qi 42 (.ext (.v 29) 0) [12]) [43] [] 2),(qa (qi 43 (.ext (.v 29) 1) [12]) [42] [7] [] [13] 2),(qa (qo (.store 2 (.v 7) (.v 42)) [13,11,0,1,2,3,4,5,6,7,8,9,10,11,12,13]) [43] [] [7] [14] 1)])) (qk e0 (qr [(ym 27 8),(yc 28 .add 27 (qz 1) [0]),(yn 8 28 [1,0,1])])))))))))) (qk [4,7] (qs (qr [(qp 44 (qt 2 7)),(qo (.store 2 (.v 4) (.v 44)) [0,0])]) (qk [4] .ret)))))))))))))))) y)=>y
 dsimp
theorem fn123:factOf Tryz.prog 123=some (ac123.strip,[.cell 4 true 2],45):=by kernel_rfl
theorem ok123:ac123.okAll=true:=by kernel_rfl
def ac124:AC:=by
 apply fun (y:AC) (_:@Eq AC (qk [0,1] (qs (qr [(qp 4 (.mov (qz 0))),(qi 5 (.mov (.c (.bool false))) [0])]) (qk [0,1] (qs (qs (qr [(ym 7 1),(yc 8 .lss 7 (qz 1) [0])]) (qk [0,1,8] (qq (.v 8) (qs (qr [(qp 4 (.mov (qz 0))),(qi 5 (.mov (.c (.bool false))) [0,0])]) (qk [4,5] .ret)) .skip))) (qk [0,1] (qs (qr [(ym 9 0),(ym 10 1),(yb 11 .quo 9 10 [0,1]),(yn 6 11 [2,0,1,2])]) (qk [0,1,6] (qs (qs (qr [(ym 12 0),(ym 13 1),(yb 14 .rem 12 13 [0,1]),(yc 15 .lss 14 (qz 0) [2])]) (qk [6,15] (qq (.v 15) (qr [(ym 16 6),(yc 17 .sub 16 (qz 1) [0]),(yn 6 17 [1,0,1])]) .skip))) (qk [6] (qs (qr [(ym 18 6),(yn 4 18 [0,0]),(qi 5 (.mov (.c (.bool true))) [1,0,1])]) (qk [4,5] .ret))))))))))) y)=>y
 dsimp
theorem fn124:factOf Tryz.prog 124=some (ac124.strip,[.tmp 4,.tmp 5],19):=by kernel_rfl
theorem ok124:ac124.okAll=true:=by kernel_rfl
end
end Go.Abs.A29
