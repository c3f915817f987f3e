/- A part of the proof: an abstract reading of the model, contracts of functions. -/
import Derived.Test.YtlkbeomimbohlaaGreatC6
import Derived.RangeFuncLeaves
import Derived.RangeFuncNested
import Derived.OrdersIn
namespace Go.Abs
open Go
set_option linter.unusedSimpArgs false
set_option linter.unusedVariables false
section
variable {P:Program}
theorem newS_top (op:AOp):newS op ⟨.p (.tup []),[],[]⟩=[]:=by cases op<;>rfl
def dstAt (l:List AI) (k:Nat):Option Nat:=(l.getD k default).b.dst
def delAt (ds:List Del) (k:Nat):Del:=ds.getD k ⟨.p (.tup []),[],[]⟩
def histAt (l:List AI) (ds:List Del):Nat→List (Nat×Del×List Slot)
 | 0=>[]
 | k+1=>(k,delAt ds k,newS (l.getD k default).b.op (delAt ds k)) :: histAt l ds k
def frAt (F0:Fr) (l:List AI) (ds:List Del):Nat→Fr
 | 0=>F0
 | k+1=>(frAt F0 l ds k).app (dstAt l k) (delAt ds k)
theorem frAt_ff {F0:Fr} {l:List AI} {ds:List Del}:∀ k,(frAt F0 l ds k).ff=sig F0.ff (dstAt l) (delAt ds) (fun _=>true) k
 | 0=>rfl
 | k+1=>by simp only [frAt,sig,if_true,Fr.app_ff,frAt_ff k]
theorem awpD_run {F0:Fr} {K:Fr→Prop} {all:List AI}:∀ (l:List AI) (k:Nat) (pre:List Del),pre.length=k→all.drop k=l→awpD P F0 k (histAt all pre k) l K (frAt F0 all pre k) →
  ∃ ds:List Del,(∀ j,j<k→delAt ds j=delAt pre j)∧(∀ j,k≤j→j<all.length→stepI P ((frAt F0 all ds j).erase (all.getD j default).drop (all.getD j default).dropS).ff (all.getD j default).b (delAt ds j)∧(okD F0 (histAt all ds j) (all.getD j default) (delAt ds j)=true∨delAt ds j=⟨.p (.tup []),[],[]⟩)) ∧
   (k≤all.length→K (frAt F0 all ds all.length))
 | [],k,pre,hp,hd,h=>by
  have hle:all.length≤k:=by
   have:=congrArg List.length hd
   simp at this;omega
  refine ⟨pre,fun _ _=>rfl,fun j h1 h2=>by omega,fun h3=>?_⟩
  have:k=all.length:=by omega
  rw [←this];exact h
 | i :: l,k,pre,hp,hd,h=>by
  have hlt:k<all.length:=by
   have:=congrArg List.length hd
   simp at this;omega
  have hi:all.getD k default=i:=by
   have:=congrArg (fun l=>l[0]?) hd
   simp at this
   simp [List.getD,this]
  have hl:all.drop (k+1)=l:=by
   have:=congrArg List.tail hd
   simpa [List.tail_drop] using this
  simp only [awpD] at h
  obtain ⟨δ,h1,h2,h3⟩:=awpI_ex h
  have hdel:∀ j,j<k→delAt (pre++[δ]) j=delAt pre j:=by
   intro j hj;simp [delAt,List.getD,List.getElem?_append,show j<pre.length by omega]
  have hdk:delAt (pre++[δ]) k=δ:=by
   subst hp;simp [delAt,List.getD]
  have hh:∀ m,m≤k→histAt all (pre++[δ]) m=histAt all pre m:=by
   intro m
   induction m with
   | zero=>intro _;rfl
   | succ m ih=>intro hm;simp only [histAt,ih (by omega),hdel m (by omega)]
  have hf:∀ m,m≤k→frAt F0 all (pre++[δ]) m=frAt F0 all pre m:=by
   intro m
   induction m with
   | zero=>intro _;rfl
   | succ m ih=>intro hm;simp only [frAt,ih (by omega),hdel m (by omega)]
  have h3':awpD P F0 (k+1) (histAt all (pre++[δ]) (k+1)) l K (frAt F0 all (pre++[δ]) (k+1)):=by
   simp only [histAt,frAt,hh k (Nat.le_refl _),hf k (Nat.le_refl _),hdk,dstAt,hi]
   exact h3
  obtain ⟨ds,q2,q3,q4⟩:=awpD_run l (k+1) (pre++[δ]) (by simp [hp]) hl h3'
  have hds:∀ j,j<k→delAt ds j=delAt pre j:=fun j hj=>(q2 j (by omega)).trans (hdel j hj)
  have hdsk:delAt ds k=δ:=(q2 k (by omega)).trans hdk
  have hh2:∀ m,m≤k→histAt all ds m=histAt all pre m:=by
   intro m
   induction m with
   | zero=>intro _;rfl
   | succ m ih=>intro hm;simp only [histAt,ih (by omega),hds m (by omega)]
  have hf2:∀ m,m≤k→frAt F0 all ds m=frAt F0 all pre m:=by
   intro m
   induction m with
   | zero=>intro _;rfl
   | succ m ih=>intro hm;simp only [frAt,ih (by omega),hds m (by omega)]
  refine ⟨ds,hds,fun j g1 g2=>?_,fun _=>q4 (by omega)⟩
  rcases Nat.lt_or_ge k j with g3 | g3
  ·exact q3 j (by omega) g2
  ·have:j=k:=by omega
   subst this
   rw [hf2 j (Nat.le_refl _),hh2 j (Nat.le_refl _),hdsk,hi]
   exact ⟨h1,h2⟩
theorem foldl_or_bit {f:Nat→Nat} {j:Nat}:∀ {a:List Nat} {m:Nat},(a.foldl (fun m e=>m ||| 2 ^ e ||| f e) m).testBit j=true→m.testBit j=true∨∃ e∈a,j=e∨(f e).testBit j=true
 | [],m,h=>.inl h
 | e :: a,m,h=>by
  rcases foldl_or_bit (a:=a) h with h | ⟨e',h1,h2⟩
  ·simp only [Nat.testBit_or,Bool.or_eq_true] at h
   rcases h with (h | h) | h
   ·exact .inl h
   ·rw [Nat.testBit_two_pow] at h
    exact .inr ⟨e,by simp,.inl (by have:=of_decide_eq_true h;omega)⟩
   ·exact .inr ⟨e,by simp,.inr h⟩
  ·exact .inr ⟨e',by simp [h1],h2⟩
theorem masks_spec:∀ (l:List (List Nat)) (acc:List Nat) (pre:List (List Nat)),acc.length=pre.length→(∀ k,k<pre.length→∀ j,(acc.getD k 0).testBit j=true→∃ e∈pre.getD k [],j=e∨(e<k∧(acc.getD e 0).testBit j=true))→(∀ k,k<(pre++l).length→∀ e∈(pre++l).getD k [],e<k) →
  (masks l acc).length=(pre++l).length∧∀ k,k<(pre++l).length→∀ j,((masks l acc).getD k 0).testBit j=true→∃ e∈(pre++l).getD k [],j=e∨(e<k∧((masks l acc).getD e 0).testBit j=true)
 | [],acc,pre,h1,h2,h3=>by
  simp only [List.append_nil,masks]
  exact ⟨h1,h2⟩
 | a :: l,acc,pre,h1,h2,h3=>by
  simp only [masks]
  have hap:pre++a :: l=(pre++[a])++l:=by simp
  rw [hap] at h3 ⊢
  refine masks_spec l _ (pre++[a]) (by simp [h1]) (fun k hk j hj=>?_) h3
  have hka:∀ m,m<acc.length→(acc++[a.foldl (fun m e=>m ||| 2 ^ e ||| acc.getD e 0) 0]).getD m 0=acc.getD m 0:=by
   intro m hm;simp [List.getD,List.getElem?_append,hm]
  rcases Nat.lt_or_ge k pre.length with hlt | hge
  ·rw [hka k (by omega)] at hj
   obtain ⟨e,g1,g2⟩:=h2 k hlt j hj
   refine ⟨e,by simpa [List.getD,List.getElem?_append,hlt] using g1,g2.imp id fun ⟨g3,g4⟩=>⟨g3,by rw [hka e (by omega)];exact g4⟩⟩
  ·have:k=pre.length:=by simp at hk;omega
   subst this
   have hke:(acc++[a.foldl (fun m e=>m ||| 2 ^ e ||| acc.getD e 0) 0]).getD pre.length 0=a.foldl (fun m e=>m ||| 2 ^ e ||| acc.getD e 0) 0:=by
    rw [←h1];simp [List.getD]
   rw [hke] at hj
   rcases foldl_or_bit hj with hj | ⟨e,g1,g2⟩
   ·simp at hj
   ·have hea:e∈(pre++[a]).getD pre.length []:=by simpa [List.getD] using g1
    have hlt:=h3 pre.length (by simp) e (by simpa [List.getD,List.getElem?_append] using g1)
    exact ⟨e,hea,g2.imp id fun g3=>⟨hlt,by rw [hka e (by omega)];exact g3⟩⟩
variable {N:Nat} {w0:Base} {Q:Exit→Act→World→Prop} {K:Fr→Prop}
theorem ready_iff {ops:Array Oper} {listed:Array Bool} {k:Nat}:k∈Region.ready .any ops listed↔k<ops.size∧listed.getD k true=false∧∃ o,ops[k]?=some o∧∀ e∈afterOf o,listed.getD e false=true:=by
 simp only [Region.ready,List.mem_filter,List.mem_range,Bool.and_eq_true,Bool.not_eq_true']
 constructor
 ·rintro ⟨h1,h2,h3⟩
  refine ⟨h1,h2,ops[k],by simp,?_⟩
  simp only [Array.getElem?_eq_getElem h1,Option.map_some,Option.getD_some,Array.all_eq_true',Bool.or_eq_true,Bool.not_eq_true'] at h3
  intro e he
  simp only [afterOf,List.mem_filterMap,Array.mem_toList_iff] at he
  obtain ⟨x,h4,h5⟩:=he
  split at h5
  ·rename_i hb
   simp at h5;subst h5
   rcases h3 x h4 with h | h
   ·rw [hb] at h;simp at h
   ·exact h
  ·simp at h5
 ·rintro ⟨h1,h2,o,h3,h4⟩
  refine ⟨h1,h2,?_⟩
  rw [h3]
  simp only [Option.map_some,Option.getD_some,Array.all_eq_true',Bool.or_eq_true,Bool.not_eq_true']
  intro x hx
  by_cases hb:Region.binds .any x=true
  ·exact .inr (h4 x.on (by simp only [afterOf,List.mem_filterMap,Array.mem_toList_iff];exact ⟨x,hx,by simp [hb]⟩))
  ·exact .inl (by simpa using hb)
theorem awpD_ok {ops:Array Oper} {l:List AI} {F0:Fr} {ι:Inj} {S:Snap} {a:Act} {w:World} (hl:l.length=ops.size) (hr:∀ (k:Nat) (i:AI),l[k]?=some i→∃ o,ops[k]?=some o∧resolveI P N ops o=some i.b) (hm:okMarks l=true)
  (h:awpD P F0 0 [] l K F0) (hst:St N w0 ι S F0.ff a w) (hQ:∀ F' ι' S' a' w',K F'→St N w0 ι' S' F'.ff a' w'→Q .normal a' w'):wpAny P .any ops Q ops.size (Array.replicate ops.size false) a w:=by
 obtain ⟨ds,-,hstep,hK⟩:=awpD_run (all:=l) l 0 [] rfl rfl h
 have hK:=hK (Nat.zero_le _)
 -- the marks
 have hafter:∀ k,k<l.length→∀ o,ops[k]?=some o→afterOf o=(l.getD k default).b.after:=by
  intro k hk o ho
  obtain ⟨o',h1,h2⟩:=hr k (l.getD k default) (by simp [List.getD,hk])
  rw [ho] at h1;simp at h1;subst h1
  unfold resolveI at h2
  split at h2
  ·simp at h2
  ·split at h2
   ·split at h2
    ·simp only [Option.some.injEq] at h2;rw [←h2]
    ·split at h2
     ·simp only [Option.some.injEq] at h2;rw [←h2]
     ·simp at h2
   ·simp at h2
 let ms:=masks (l.map (·.b.after)) []
 have hkv:∀ j t,dstAt l j=some t→t∈keyV (l.getD j default):=by
  intro j t ht
  unfold dstAt at ht
  unfold keyV
  rw [ht];simp
 have hmk:∀ k,k<l.length→(∀ e∈(l.getD k default).b.after,e<k)∧∀ j,j<l.length→j=k∨(ms.getD k 0).testBit j=true∨(((ms.getD j 0).testBit k=true ∨
   ((∀ t,dstAt l j=some t→(l.getD k default).drop.contains t=true)∧(∀ o∈(l.getD j default).keys,(l.getD k default).dropS.contains o=true)∧(∀ t,dstAt l j=some t→dstAt l k≠some t)∧∀ o∈(l.getD j default).keys,o ∉ (l.getD k default).keys))∧(j<k→(l.getD k default).na.contains j=true)):=by
  intro k hk
  have:=List.all_eq_true.1 hm k (by simpa using hk)
  simp only [Bool.and_eq_true] at this
  refine ⟨fun e he=>by have h1:=List.all_eq_true.1 this.1 e he;simpa using h1,fun j hj=>?_⟩
  have h2:=List.all_eq_true.1 this.2 j (by simpa using hj)
  simp only [Bool.or_eq_true,Bool.and_eq_true] at h2
  rcases h2 with (h2 | h2) | ⟨h2,h3⟩
  ·exact .inl (by simpa using h2)
  ·exact .inr (.inl h2)
  ·refine .inr (.inr ⟨h2.imp id fun h4=>?_,fun hjk=>?_⟩)
   ·obtain ⟨⟨⟨g1,g2⟩,g3⟩,g4⟩:=h4
    refine ⟨fun t ht=>List.all_eq_true.1 g1 t (hkv j t ht),fun o ho=>List.all_eq_true.1 g2 o ho,fun t ht ht'=>?_,fun o ho ho'=>?_⟩
    ·have h5:=List.all_eq_true.1 g3 t (hkv j t ht)
     have h6:(keyV (l.getD k default)).contains t=true:=by rw [List.contains_iff_mem];exact hkv k t ht'
     rw [h6] at h5;simp at h5
    ·have h5:=List.all_eq_true.1 g4 o ho
     have h6:(l.getD k default).keys.contains o=true:=by rw [List.contains_iff_mem];exact ho'
     rw [h6] at h5;simp at h5
   ·rcases h3 with h3 | h3
    ·simp at h3;omega
    ·exact h3
 have hspec:=masks_spec (l.map (·.b.after)) [] [] rfl (by simp) (by
  intro k hk e he
  simp only [List.nil_append,List.length_map] at hk he
  exact (hmk k hk).1 e (by simpa [List.getD,hk] using he))
 simp only [List.nil_append,List.length_map] at hspec
 have hge:∀ k,k<l.length→(l.map (·.b.after)).getD k []=(l.getD k default).b.after:=by intro k hk;simp [List.getD,hk]
 -- closed lists of what has been done
 have hdep:∀ (listed:Nat→Bool),(∀ k,k<l.length→listed k=true→∀ e∈(l.getD k default).b.after,listed e=true)→∀ k,k<l.length→(∀ e∈(l.getD k default).b.after,listed e=true)→∀ j,(ms.getD k 0).testBit j=true→listed j=true∧j<k:=by
  intro listed hcl k
  induction k using Nat.strongRecOn with
  | _ k ih=>
   intro hk hre j hj
   obtain ⟨e,h1,h2⟩:=hspec.2 k hk j hj
   rw [hge k hk] at h1
   have hlt:=(hmk k hk).1 e h1
   rcases h2 with rfl | ⟨h2,h3⟩
   ·exact ⟨hre _ h1,hlt⟩
   ·obtain ⟨g1,g2⟩:=ih e hlt (by omega) (hcl e (by omega) (hre e h1)) j h3
    exact ⟨g1,by omega⟩
 have hbit:∀ k,k<l.length→∀ j,(ms.getD k 0).testBit j=true→j<k:=fun k hk j hj=>(hdep (fun _=>true) (fun _ _ _ _ _=>rfl) k hk (fun _ _=>rfl) j hj).2
 have hkeys:∀ j,j<l.length→∀ s,(delAt ds j).blk s≠none→s.1∈(l.getD j default).keys:=by
  intro j hj s hs
  rcases (hstep j (Nat.zero_le _) hj).2 with h1 | h1
  ·simp only [okD,Bool.and_eq_true] at h1
   have h2:=List.all_eq_true.1 h1.2
   have:s.1∈(delAt ds j).owners:=by
    unfold Del.blk at hs
    unfold Del.owners
    cases hlk:look s (delAt ds j).blks with
    | some k=>exact List.mem_append.2 (.inl (List.mem_map.2 ⟨_,look_mem hlk,rfl⟩))
    | none=>
     rw [hlk] at hs
     by_cases hd:s∈(delAt ds j).del
     ·exact List.mem_append.2 (.inr (List.mem_map.2 ⟨_,hd,rfl⟩))
     ·simp [hd] at hs
   simpa using h2 _ this
  ·rw [h1] at hs;simp [Del.blk,look] at hs
 have hhist:∀ k,k≤l.length→∀ j,j<k→(j,delAt ds j,newS (l.getD j default).b.op (delAt ds j))∈histAt l ds k:=by
  intro k
  induction k with
  | zero=>intro _ j hj;omega
  | succ k ih=>
   intro hk j hj
   simp only [histAt,List.mem_cons]
   rcases Nat.lt_or_ge j k with h1 | h1
   ·exact .inr (ih (by omega) j h1)
   ·have:j=k:=by omega
    subst this;exact .inl rfl
 -- one more
 have one:∀ (listed:Nat→Bool),(∀ k,k<l.length→listed k=true→∀ e∈(l.getD k default).b.after,listed e=true)→∀ k,k<l.length→listed k=false→(∀ e∈(l.getD k default).b.after,listed e=true) →
   ((frAt F0 l ds k).erase (l.getD k default).drop (l.getD k default).dropS).ff.le (sig F0.ff (dstAt l) (delAt ds) listed l.length)∧(∀ s∈newS (l.getD k default).b.op (delAt ds k),(sig F0.ff (dstAt l) (delAt ds) listed l.length).noSlot s) ∧
   (sig F0.ff (dstAt l) (delAt ds) listed l.length).app (dstAt l k) (delAt ds k)=sig F0.ff (dstAt l) (delAt ds) (fun j=>j == k || listed j) l.length:=by
  intro listed hcl k hk hlk hre
  have hd:=hdep listed hcl
  -- whatever is done and not waited for stands apart
  have hun:∀ j,j<l.length→(decide (j<k)=listed j)∨j=k∨((∀ t,dstAt l j=some t→(l.getD k default).drop.contains t=true)∧(∀ o∈(l.getD j default).keys,(l.getD k default).dropS.contains o=true)):=by
   intro j hj
   rcases (hmk k hk).2 j hj with rfl | h1 | ⟨h1 | h1,_⟩
   ·exact .inr (.inl rfl)
   ·obtain ⟨g1,g2⟩:=hd k hk hre j h1
    exact .inl (by rw [g1];simp [g2])
   ·refine .inl ?_
    have hlt:=hbit j hj k h1
    cases hlj:listed j with
    | false=>simp;omega
    | true=>
     have:=(hd j hj (hcl j hj hlj) k h1).1
     rw [hlk] at this;simp at this
   ·exact .inr (.inr ⟨h1.1,h1.2.1⟩)
  have hlater:∀ j,k<j→j<l.length→listed j=true→(ms.getD j 0).testBit k=false∧(ms.getD k 0).testBit j=false:=by
   intro j h1 h2 h3
   constructor
   ·cases hb:(ms.getD j 0).testBit k with
    | false=>rfl
    | true=>
     have:=(hd j h2 (hcl j h2 h3) k hb).1
     rw [hlk] at this;simp at this
   ·cases hb:(ms.getD k 0).testBit j with
    | false=>rfl
    | true=>have:=hbit k hk j hb;omega
  have hT:(frAt F0 l ds k).ff=sig F0.ff (dstAt l) (delAt ds) (fun j=>decide (j<k)) l.length:=by
   rw [frAt_ff,sig_lt (by omega)]
  refine ⟨⟨fun t v e=>?_,fun s b e=>?_⟩,fun s hs=>?_,?_⟩
  ·obtain ⟨h1,h2⟩:=Fr.erase_ff e
   have h3:(frAt F0 l ds k).ff.var t=some v:=h1
   rw [hT] at h3
   rw [←h3]
   refine (sig_var fun j hj hdj=>?_).symm
   rcases hun j hj with h4 | rfl | h4
   ·exact h4
   ·simp [hlk]
   ·have:=h4.1 t hdj;rw [h2] at this;simp at this
  ·obtain ⟨h1,h2⟩:=Fr.erase_blk e
   have h3:(frAt F0 l ds k).ff.blk s=some b:=h1
   rw [hT] at h3
   rw [←h3]
   refine (sig_blk fun j hj hdj=>?_).symm
   rcases hun j hj with h4 | rfl | h4
   ·exact h4
   ·simp [hlk]
   ·have:=h4.2 s.1 (hkeys j hj s hdj);rw [h2] at this;simp at this
  ·rcases (hstep k (Nat.zero_le _) hk).2 with h1 | h1
   ·simp only [okD,Bool.and_eq_true] at h1
    have h2:=List.all_eq_true.1 h1.1.1 s hs
    simp only [Bool.and_eq_true] at h2
    refine sig_noSlot (Fr.noSlot_ff h2.1) fun j hj hlj=>?_
    rcases Nat.lt_trichotomy j k with h3 | rfl | h3
    ·exact List.all_eq_true.1 h2.2 _ (hhist k (by omega) j h3)
    ·rw [hlk] at hlj;simp at hlj
    ·rcases (hstep j (Nat.zero_le _) hj).2 with h4 | h4
     ·simp only [okD,Bool.and_eq_true] at h4
      have h5:=List.all_eq_true.1 h4.1.2 _ (hhist j (by omega) k h3)
      simp only [Bool.or_eq_true,Bool.not_eq_true'] at h5
      obtain ⟨g1,g2⟩:=hlater j h3 hj hlj
      have hna:(l.getD j default).na.contains k=true:=by
       rcases (hmk j hj).2 k hk with h6 | h6 | ⟨_,h6⟩
       ·omega
       ·rw [g1] at h6;simp at h6
       ·exact h6 h3
      rcases h5 with h5 | h5
      ·rw [hna] at h5;simp at h5
      ·exact List.all_eq_true.1 h5 s hs
     ·rw [h4];rfl
   ·rw [h1,newS_top] at hs
    simp at hs
  ·have apart:∀ j,k<j→j<l.length→listed j=true→(∀ t,dstAt l j=some t→dstAt l k≠some t)∧∀ o∈(l.getD j default).keys,o ∉ (l.getD k default).keys:=by
    intro j h1 h2 h3
    obtain ⟨g1,g2⟩:=hlater j h1 h2 h3
    rcases (hmk k hk).2 j h2 with h6 | h6 | ⟨h6 | h6,_⟩
    ·omega
    ·rw [g2] at h6;simp at h6
    ·rw [g1] at h6;simp at h6
    ·exact h6.2.2
   have heq:∀ j,j≠k→(listed j=(j == k || listed j)):=by intro j hj;simp [hj]
   cases hA:(sig F0.ff (dstAt l) (delAt ds) listed l.length).app (dstAt l k) (delAt ds k) with
   | mk av ab=>
   cases hB:sig F0.ff (dstAt l) (delAt ds) (fun j=>j == k || listed j) l.length with
   | mk bv bb=>
   have ev:av=bv:=by
    funext t
    have hav:av t=((sig F0.ff (dstAt l) (delAt ds) listed l.length).app (dstAt l k) (delAt ds k)).var t:=by rw [hA]
    have hbv:bv t=(sig F0.ff (dstAt l) (delAt ds) (fun j=>j == k || listed j) l.length).var t:=by rw [hB]
    rw [hav,hbv]
    simp only [FF.app]
    by_cases hdk:dstAt l k=some t
    ·rw [if_pos hdk]
     refine (sig_last_var (l:=fun j=>j == k || listed j) (k:=k) (by simp) hdk hk fun j h1 h2 h3=>?_).symm
     have:(j == k)=false:=by simp;omega
     simp only [this,Bool.false_or]
     cases hlj:listed j with
     | false=>rfl
     | true=>exact absurd hdk ((apart j h1 h2 hlj).1 t h3)
    ·rw [if_neg hdk]
     exact sig_var fun j hj hdj=>heq j (fun q=>by subst q;exact hdk hdj)
   have eb:ab=bb:=by
    funext s
    have hab:ab s=((sig F0.ff (dstAt l) (delAt ds) listed l.length).app (dstAt l k) (delAt ds k)).blk s:=by rw [hA]
    have hbb:bb s=(sig F0.ff (dstAt l) (delAt ds) (fun j=>j == k || listed j) l.length).blk s:=by rw [hB]
    rw [hab,hbb]
    simp only [FF.app]
    cases hdk:(delAt ds k).blk s with
    | none=>
     simp only [Option.getD_none]
     exact sig_blk fun j hj hdj=>heq j (fun q=>by subst q;exact hdj hdk)
    | some x=>
     simp only [Option.getD_some]
     refine (sig_last_blk (l:=fun j=>j == k || listed j) (k:=k) (by simp) hdk hk fun j h1 h2 h3=>?_).symm
     have:(j == k)=false:=by simp;omega
     simp only [this,Bool.false_or]
     cases hlj:listed j with
     | false=>rfl
     | true=>exact absurd (hkeys k hk s (by rw [hdk];simp)) ((apart j h1 h2 hlj).2 _ (hkeys j h2 s h3))
   rw [ev,eb]
 -- whatever the order
 have main:∀ (fuel:Nat) (listed:Array Bool) (ι:Inj) (S:Snap) (a:Act) (w:World),listed.size=ops.size→((List.range ops.size).filter fun j=>!(listed.getD j false)).length=fuel →
   (∀ k,k<l.length→listed.getD k false=true→∀ e∈(l.getD k default).b.after,listed.getD e false=true)→St N w0 ι S (sig F0.ff (dstAt l) (delAt ds) (fun j=>listed.getD j false) l.length) a w→wpAny P .any ops Q fuel listed a w:=by
  intro fuel
  induction fuel with
  | zero=>
   intro listed ι S a w hsz hcnt hcl hst
   have hall:∀ j,j<ops.size→listed.getD j false=true:=by
    intro j hj
    have:=List.eq_nil_of_length_eq_zero hcnt
    rw [List.filter_eq_nil_iff] at this
    have:=this j (by simpa using hj)
    simpa using this
   refine ⟨?_,?_⟩
   ·rw [List.eq_nil_iff_forall_not_mem]
    intro k hk
    obtain ⟨h1,h2,_⟩:=ready_iff.1 hk
    have h3:=hall k h1
    simp [Array.getD,hsz,h1] at h2 h3
    rw [h2] at h3;simp at h3
   ·refine hQ _ ι S a w hK ?_
    rw [frAt_ff]
    have:sig F0.ff (dstAt l) (delAt ds) (fun _=>true) l.length=sig F0.ff (dstAt l) (delAt ds) (fun j=>listed.getD j false) l.length:=by
     have:∀ m,m≤l.length→sig F0.ff (dstAt l) (delAt ds) (fun _=>true) m=sig F0.ff (dstAt l) (delAt ds) (fun j=>listed.getD j false) m:=by
      intro m
      induction m with
      | zero=>intro _;rfl
      | succ m ih=>intro hm;simp only [sig,ih (by omega),hall m (by omega),if_true]
     exact this _ (Nat.le_refl _)
    rw [this];exact hst
  | succ fuel ih=>
   intro listed ι S a w hsz hcnt hcl hst
   refine ⟨fun hr0=>?_,fun k hk=>?_⟩
   ·-- something is always ready
    exfalso
    have hex:∃ j,j<ops.size∧listed.getD j false=false:=by
     have:((List.range ops.size).filter fun j=>!(listed.getD j false))≠[]:=by intro q;rw [q] at hcnt;simp at hcnt
     obtain ⟨j,hj⟩:=List.exists_mem_of_ne_nil _ this
     simp only [List.mem_filter,List.mem_range,Bool.not_eq_true'] at hj
     exact ⟨j,hj⟩
    have hmin:∃ j,(j<ops.size∧listed.getD j false=false)∧∀ i,i<j→¬(i<ops.size∧listed.getD i false=false):=by
     obtain ⟨j,hj⟩:=hex
     induction j using Nat.strongRecOn with
     | _ j ihj=>
      by_cases hq:∃ i,i<j∧(i<ops.size∧listed.getD i false=false)
      ·obtain ⟨i,h1,h2⟩:=hq
       exact ihj i h1 h2
      ·exact ⟨j,hj,fun i hi hc=>hq ⟨i,hi,hc⟩⟩
    obtain ⟨j,⟨h1,h2⟩,h3⟩:=hmin
    have:j∈Region.ready .any ops listed:=by
     refine ready_iff.2 ⟨h1,by simp [Array.getD,hsz,h1] at h2 ⊢;exact h2,ops[j],by simp,fun e he=>?_⟩
     rw [hafter j (by omega) _ (by simp)] at he
     have hlt:=(hmk j (by omega)).1 e he
     cases hle:listed.getD e false with
     | true=>rfl
     | false=>exact absurd ⟨by omega,hle⟩ (h3 e hlt)
    rw [hr0] at this;simp at this
   ·obtain ⟨h1,h2,o,h3,h4⟩:=ready_iff.1 hk
    have hkl:k<l.length:=by omega
    have h2':listed.getD k false=false:=by simp [Array.getD,hsz,h1] at h2 ⊢;exact h2
    rw [hafter k hkl o h3] at h4
    obtain ⟨q1,q2,q3⟩:=one (fun j=>listed.getD j false) hcl k hkl h2' h4
    obtain ⟨o',g1,g2⟩:=hr k (l.getD k default) (by simp [List.getD,hkl])
    rw [h3] at g1;simp at g1;subst g1
    have hs:=stepI_mono q1 (hstep k (Nat.zero_le _) hkl).1
    refine stepI_ok hst h3 g2 hs q2 fun ι' S' a' w' hst'=>?_
    have hset:∀ j,(listed.setIfInBounds k true).getD j false=(j == k || listed.getD j false):=by
     intro j
     by_cases hj:j=k
     ·subst hj;simp [Array.getD,hsz,h1]
     ·have:(j == k)=false:=by simpa using hj
      rw [this,Bool.false_or]
      simp only [Array.getD_eq_getD_getElem?,Array.getElem?_setIfInBounds,if_neg (fun q:k=j=>hj q.symm)]
    refine ih _ ι' S' a' w' (by simp [hsz]) ?_ (fun j hj hlj e he=>?_) ?_
    ·have hp:((List.range ops.size).filter fun j=>!((listed.setIfInBounds k true).getD j false))=((List.range ops.size).filter fun j=>!(listed.getD j false)).erase k:=by
      have hnd:((List.range ops.size).filter fun j=>!(listed.getD j false)).Nodup:=List.Pairwise.filter _ List.nodup_range
      rw [hnd.erase_eq_filter,List.filter_filter]
      congr 1
      funext j
      rw [hset j]
      cases hjk:(j == k)<;>simp [hjk,bne]
     rw [hp,List.length_erase_of_mem (by simp only [List.mem_filter,List.mem_range,Bool.not_eq_true'];exact ⟨h1,h2'⟩),hcnt]
     rfl
    ·rw [hset] at hlj
     rw [hset]
     simp only [Bool.or_eq_true] at hlj ⊢
     rcases hlj with hlj | hlj
     ·have:j=k:=by simpa using hlj
      subst this;exact .inr (h4 e he)
     ·exact .inr (hcl j hj hlj e he)
    ·have hfun:(fun j=>(listed.setIfInBounds k true).getD j false)=(fun j=>j == k || listed.getD j false):=funext hset
     rw [hfun,←q3]
     exact hst'
 refine main ops.size _ ι S a w (by simp) ?_ ?_ ?_
 ·have:((List.range ops.size).filter fun j=>!((Array.replicate ops.size false).getD j false))=List.range ops.size:=by
   rw [List.filter_eq_self]
   intro j hj
   have hj':j<ops.size:=by simpa using hj
   simp [Array.getD,hj']
  rw [this];simp
 ·intro k hk hl'
  have:k<ops.size:=by omega
  simp [Array.getD,this] at hl'
 ·have:sig F0.ff (dstAt l) (delAt ds) (fun j=>(Array.replicate ops.size false).getD j false) l.length=F0.ff:=by
   have:∀ m,m≤l.length→sig F0.ff (dstAt l) (delAt ds) (fun j=>(Array.replicate ops.size false).getD j false) m=F0.ff:=by
    intro m
    induction m with
    | zero=>intro _;rfl
    | succ m ih=>
     intro hm
     simp only [sig,ih (by omega)]
     rw [if_neg]
     simp [Array.getD,show m<ops.size by omega]
   exact this _ (Nat.le_refl _)
  rw [this];exact hst
end
end Go.Abs
namespace Go.Abs
open Go
set_option linter.unusedSimpArgs false
set_option linter.unusedVariables false
def Fz (r:Option Nat):Fence:={ Fence.wide with round:=r }
def Qn (X:Act→World→Prop):Exit→Act→World→Prop
 | .normal,a,w=>X a w
 | _,_,_=>False
def Same (D:Nat→Prop) (a a':Act):Prop:=∀ t,¬D t→a'.tmps[t]?=a.tmps[t]?
theorem Same.refl (D:Nat→Prop) (a:Act):Same D a a:=fun _ _=>rfl
theorem Same.trans {D:Nat→Prop} {a b c:Act} (h:Same D a b) (k:Same D b c):Same D a c:=fun t ht=>(k t ht).trans (h t ht)
theorem Same.mono {D E:Nat→Prop} {a b:Act} (h:Same D a b) (hD:∀ t,D t→E t):Same E a b:=fun t ht=>h t fun q=>ht (hD t q)
theorem Same.put {D:Nat→Prop} {a:Act} {dst:Option Nat} {x:Value} (h:∀ d,dst=some d→D d):Same D a (a.put dst x):=by
 intro t ht
 cases dst with
 | none=>rfl
 | some d=>
  have:d≠t:=fun e=>ht (e ▸ h d rfl)
  simp [Act.put,Array.getElem?_setIfInBounds_ne this]
section
variable {P:Program} {r:Option Nat} {n:Nat}
theorem callsIn_fz {f:FuncId} {args:Array Value} {w:World} {R:Ending→World→Prop} (h:Calls P f args w R):CallsIn (Fz r) n P f args w R:=
 (callsIn_wide (n:=n)).2 h
theorem callsIn_fz' {f:FuncId} {args:Array Value} {w:World} {R:Ending→World→Prop} (h:CallsIn (Fz r) n P f args w R):Calls P f args w R:=
 (callsIn_wide (n:=n)).1 h
theorem rowsIn_fz {row:String} {args:Array Value} {w:World} {R:Value→World→Prop} (h:Rows P row args w R):RowsIn (Fz r) n P row args w R:=by
 intro c cs _
 obtain ⟨v,w',h1,h2⟩:=h c cs
 exact ⟨v,w',h1,(stepsIn_wide (P:=P)).2 h2⟩
theorem wp_fz {o:Oper} {a:Act} {w:World} {K:Act→World→Prop} {X:Act→World→Prop} {Q:Exit→Act→World→Prop} (hd:∀ c,o.op≠.defer c) (h:o.wp P a w K (Qn X)):o.wpIn (Fz r) n P a w K Q:=by
 refine ⟨fun _ _=>trivial,?_⟩
 unfold Oper.wp at h
 rw [Oper.semAt_eq _ _ _ hd]
 generalize (execOp a.eval o).run P w=q at *
 cases q with
 | ok x w'=>
  cases x with
  | value v=>exact h
  | skip=>exact h
  | defer d=>exact h
  | enter f args=>
   refine ⟨fun q=>by simp [Fz,Fence.wide] at q,callsIn_fz (Calls.mono h fun e w'' he=>?_)⟩
   cases e with
   | returned v=>exact he
   | panicked chain=>exact he.elim
   | outgrown=>obtain ⟨_,_,q⟩:=he;exact q.elim
  | row row args=>exact ⟨fun q=>by simp [Fz,Fence.wide] at q,rowsIn_fz h⟩
  | _=>exact h.elim
 | halt x w'=>cases x<;>exact h.elim
def Dsts (D:Nat→Prop) (ops:Array Oper):Prop:=∀ (k:Nat) (o:Oper),ops[k]?=some o→∀ d,o.dst=some d→D d
def NoDefer (ops:Array Oper):Prop:=∀ (k:Nat) (o:Oper),ops[k]?=some o→∀ c,o.op≠.defer c
theorem wpIn_same {D:Nat→Prop} {o:Oper} {a0 a:Act} {w:World} {K K':Act→World→Prop} {Q:Exit→Act→World→Prop} (hD:∀ d,o.dst=some d→D d) (hs:Same D a0 a) (h:o.wpIn (Fz r) n P a w K Q)
  (hK:∀ a w,Same D a0 a→K a w→K' a w):o.wpIn (Fz r) n P a w K' Q:=by
 refine ⟨h.1,?_⟩
 have h2:=h.2
 have hp:∀ v,Same D a0 (a.put o.dst v):=fun v=>hs.trans (.put hD)
 generalize (o.semAt (Fz r).round a.eval).run P w=q at *
 cases q with
 | ok x w'=>
  cases x with
  | value v=>exact hK _ _ (hp v) h2
  | skip=>exact hK _ _ (hp _) h2
  | defer d=>exact hK _ _ (show Same D a0 (({ a with defers:=d :: a.defers }:Act).put o.dst undef) from Same.trans (b:={ a with defers:=d :: a.defers }) hs (.put hD)) h2
  | enter f args=>
   refine ⟨h2.1,CallsIn.mono h2.2 fun e w'' he=>?_⟩
   cases e with
   | returned v=>exact hK _ _ (hp v) he
   | panicked chain=>exact he
   | outgrown=>exact he
  | row row args=>exact ⟨h2.1,RowsIn.mono h2.2 fun v w'' he=>hK _ _ (hp v) he⟩
  | round l f tmps assign body=>
   refine ⟨h2.1,RoundIn.mono h2.2 fun e w'' he=>?_⟩
   cases e with
   | returned v=>exact hK _ _ (hp v) he
   | panicked chain=>exact he
   | outgrown=>exact he
  | _=>exact h2
 | halt x w'=>cases x<;>exact h2
theorem toIn {D:Nat→Prop} {ops:Array Oper} {X:Act→World→Prop} {Q:Exit→Act→World→Prop} {a0:Act} (hD:Dsts D ops) (hn:NoDefer ops) (hX:∀ a w,X a w→Same D a0 a→Q .normal a w) :
  ∀ (l:List Nat) (a:Act) (w:World),wpOps P ops (Qn X) l a w→Same D a0 a→wpOpsIn (Fz r) n P ops Q l a w
 | [],a,w,h,hs=>hX a w h hs
 | i :: l,a,w,h,hs=>by
  simp only [wpOps,wpOpsIn] at h ⊢
  split
  ·rename_i hi;rw [hi] at h;exact toIn hD hn hX l a w h hs
  ·rename_i o hi
   rw [hi] at h
   simp only at h
   split
   ·rename_i hw
    rw [if_pos hw] at h
    rcases h with h | h
    ·exact wpIn_same (hD i o hi) hs (wp_fz (hn i o hi) h) fun a w h1 h2=>toIn hD hn hX l a w h2 h1
    ·obtain ⟨_,_,_,q⟩:=h;exact q.elim
   ·rename_i hw
    rw [if_neg hw] at h
    exact ⟨fun _ _=>trivial,toIn hD hn hX l _ w h (hs.trans (.put (hD i o hi)))⟩
theorem toAny {D:Nat→Prop} {ops:Array Oper} {X:Act→World→Prop} {Q:Exit→Act→World→Prop} {a0:Act} (hD:Dsts D ops) (hn:NoDefer ops) (hX:∀ a w,X a w→Same D a0 a→Q .normal a w) :
  ∀ (fuel:Nat) (listed:Array Bool) (a:Act) (w:World),wpAny P .any ops (Qn X) fuel listed a w→Same D a0 a→wpAnyIn (Fz r) n P .any ops Q fuel listed a w
 | 0,listed,a,w,h,hs=>⟨h.1,hX a w h.2 hs⟩
 | fuel+1,listed,a,w,h,hs=>by
  refine ⟨fun q=>hX a w (h.1 q) hs,fun i hi=>?_⟩
  have h2:=h.2 i hi
  unfold wpOp at h2
  unfold wpOpIn
  split
  ·rename_i hi;rw [hi] at h2;exact toAny hD hn hX fuel _ a w h2 hs
  ·rename_i o hi
   rw [hi] at h2
   simp only at h2
   split
   ·rename_i hw
    rw [if_pos hw] at h2
    rcases h2 with h | h
    ·exact wpIn_same (hD i o hi) hs (wp_fz (hn i o hi) h) fun a w h1 h2=>toAny hD hn hX fuel _ a w h2 h1
    ·obtain ⟨_,_,_,q⟩:=h;exact q.elim
   ·rename_i hw
    rw [if_neg hw] at h2
    exact ⟨fun _ _=>trivial,toAny hD hn hX fuel _ _ w h2 (hs.trans (.put (hD i o hi)))⟩
end
def Base.obj (b:Base) (r:Nat) (o:Option Obj):Base:={ b with O:=fun k=>if k=r then o else b.O k }
section
variable {P:Program} {N:Nat} {w0:Base} {ι:Inj} {S:Snap} {F:FF} {a:Act} {w:World}
theorem St.putObj (h:St N w0 ι S F a w) {r:Nat} {o:Obj} (o':Obj) (hr:w0.O r=some o) (ho:∀ c e q,o'≠.cells c e q):St N (w0.obj r (some o')) ι S F a (w.putObj r o'):=by
 obtain ⟨h1,h2,h3⟩:=h.ob r o hr
 have hlt:=(Array.getElem?_eq_some_iff.1 h2).1
 have hcell:∀ (b:Nat) (e:TypeId) (c:Array Value),Lies w b e c→b≠r:=by
  intro b e c hl q;subst q
  have:w.heap[b]?=some (.cells c e (0,0)):=hl
  rw [h2] at this;simp at this
  exact h3 _ _ _ this
 refine ⟨h.nt,h.nb,h.fix,h.df,fun k q e=>?_,⟨h.keep.os,h.keep.tape,h.keep.output,by rw [World.putObj_size];exact h.keep.size,fun k hk hm=>by rw [World.putObj_heap_other (by have hk:k<w0.w.heap.size:=hk;omega)];exact h.keep.heap k hk hm⟩,h.sle,h.snew,fun x v e=>?_,h.vars,fun s k e=>?_,h.own,h.sep⟩
 ·simp only [Base.obj] at e
  split at e
  ·rename_i hk;subst hk;simp at e;subst e;exact ⟨h1,World.putObj_heap_same hlt,ho⟩
  ·rename_i hk
   obtain ⟨g1,g2,g3⟩:=h.ob k q e
   exact ⟨g1,by rw [World.putObj_heap_other hk];exact g2,g3⟩
 ·have hc:=h.snap x v e
  have hne:x.block≠r:=by
   intro q
   unfold World.cell? at hc
   rw [q,h2] at hc
   cases o<;>simp_all
  unfold World.cell? at hc ⊢
  rw [World.putObj_heap_other hne];exact hc
 ·obtain ⟨g1,g2⟩:=h.mem s k e
  refine ⟨g1,g2.imp id ?_⟩
  rintro ⟨b,total,t',c,e1,e2,e3,e4,e5,e6,e7⟩
  exact ⟨b,total,t',c,e1,e2.of_heap (World.putObj_heap_other (hcell b _ _ e2)),e3,e4,e5,e6,e7⟩
theorem St.newObj (h:St N w0 ι S F a w) (o:Obj) (ho:∀ c e q,o≠.cells c e q):St N (w0.obj w.heap.size (some o)) ι S F a (w.alloc o):=by
 have hk:=Keep.alloc w o
 have h2:=h.step0 (S':=S) hk (fun _ _ q=>q) (fun x v q=>hk.cell (h.snap x v q)) (fun x v q=>.inl q)
 refine ⟨h2.nt,h2.nb,h2.fix,h2.df,fun k q e=>?_,h2.keep,h2.sle,h2.snew,h2.snap,h2.vars,h2.mem,h2.own,h2.sep⟩
 simp only [Base.obj] at e
 split at e
 ·rename_i hk;subst hk;simp at e;subst e;exact ⟨h.keep.size,World.alloc_heap_new w o,ho⟩
 ·exact h2.ob k q e
theorem St.other {N':Nat} {w0':Base} {F':FF} {a':Act} (h:St N w0 ι S F a w) (hw:w0'.w=w0.w) (hS:w0'.S=w0.S) (hM:w0'.M=w0.M) (hJ:w0'.J=w0.J) (hN:N'≤BIG) (hO:∀ r o,w0'.O r=some o→w0.O r=some o) (hn:a'.tmps.size=N') (hd:a'.defers=w0'.D.map markOf)
  (hv:∀ t v,F'.var t=some v→(∃ x,a'.tmps[t]?=some x∧AVRel ι S v x)) (hb:∀ s k,F'.blk s=some k→F.blk s=some k):St N' w0' ι S F' a' w:=
 ⟨hn,hN,by rw [hJ];exact h.fix,hd,fun r o e=>by rw [hw];exact h.ob r o (hO r o e),by rw [hw,hM];exact h.keep,by rw [hS];exact h.sle,by rw [hS,hw,hM];exact h.snew,h.snap,hv,fun s k e=>h.mem s k (hb s k e),fun s k e=>by rw [hw,hM];exact h.own s k (hb s k e),fun s s' k k' e e'=>h.sep s s' k k' (hb s k e) (hb s' k' e')⟩
end
end Go.Abs
namespace Go.Abs
open Go
set_option linter.unusedSimpArgs false
set_option linter.unusedVariables false
inductive AE where
 | normal
 | exit (id:Nat)
 | ret
def AE.toExit:AE→Exit
 | .normal=>.normal
 | .exit id=>.exit id
 | .ret=>.ret
def AE.code:AE→Option Code
 | .normal=>none
 | .exit id=>some (.exit id)
 | .ret=>some .ret
abbrev APT:=(AE→Fr→Prop)→Fr→Prop
def Stab (J:Snap→World→Prop):Prop:=∀ S w S' w',J S w→S.le S'→S'.holds w'→Keep w w'→(∀ x v,S' x=some v→S x=some v∨w.heap.size≤x.block)→J S' w'
def Round (P:Program) (l:Nat) (vs:List Value) (w:World) (S:Snap) (R:Bool→Snap→World→Prop):Prop:=
 ∃ fn tmps assign body,(Instr.yield l vs.toArray).run P w=.ok (.round l fn tmps assign body) w ∧
  RoundIn Fence.wide 0 P l fn tmps assign body w fun e w2=>∃ b S2,e=.returned (.bool b)∧S.le S2∧S2.holds w2∧R b S2 w2
def Gens (P:Program) (f:FuncId) (fi ca:List PV) (xs:List (List PV)):Prop:=
 (∃ fn,P.funcs[f]?=some fn∧fn.body.isSome=true∧(fn.name == "runtime.NumGoroutine")=false) ∧
 ∀ (S:Snap) (w:World) (fs cs:List Value),S.holds w→Ps S fi fs→Ps S ca cs→∀ (l:Nat) (J:Nat→Snap→World→Prop) (E:Snap→World→Prop),(∀ k,Stab (J k))→Stab E →
  (∀ k x S1 w1 vs,xs[k]?=some x→S1.holds w1→J k S1 w1→Ps S1 x vs→Round P l vs w1 S1 fun b S2 w2=>if b then J (k+1) S2 w2 else E S2 w2) →
  J 0 S w→Calls P f (fs++[Value.func (.yield l) #[] #[]]++cs).toArray w fun e w'=>(∃ v,e=.returned v)∧∃ S',S'.holds w'∧(J xs.length S' w'∨E S' w')
def Fr.setPs (F:Fr) (ps:List Nat) (x:List PV):Fr:=⟨(ps.zip x).foldl (fun l p=>(p.1,.p p.2) :: l) F.vars,F.mem⟩
def insV (s:Nat) (k:AV):List (Nat×AV)→List (Nat×AV)
 | []=>[(s,k)]
 | x :: l=>if x.1=s then (s,k) :: l else if s<x.1 then (s,k) :: x :: l else x :: insV s k l
def normV:List (Nat×AV)→List (Nat×AV)
 | []=>[]
 | x :: l=>insV x.1 x.2 (normV l)
theorem look_insV {s s':Nat} {k:AV}:∀ {l:List (Nat×AV)},look s' (insV s k l)=if s'=s then some k else look s' l
 | []=>by simp [insV,look]
 | (s1,k1) :: l=>by
  simp only [insV]
  by_cases h1:s1=s
  ·subst h1
   simp only [if_true,look]
   split<;>rfl
  ·rw [if_neg h1]
   split
   ·simp [look]
   ·simp only [look]
    rw [look_insV (l:=l)]
    by_cases h2:s'=s1
    ·subst h2;simp [h1]
    ·simp [h2]
theorem look_normV {s:Nat}:∀ {l:List (Nat×AV)},look s (normV l)=look s l
 | []=>rfl
 | (s1,k1) :: l=>by
  simp only [normV,look_insV,look,look_normV (l:=l)]
def Fr.backV (F:Fr) (vs:List (Nat×AV)):Fr:=⟨vs,normM (F.mem.filter fun x=>F.spoken vs x.1)⟩
def Fr.back (F:Fr) (dd:List Nat):Fr:=F.backV (normV (F.vars.filter fun v=>!dd.contains v.1))
theorem back_var {F:Fr} {dd:List Nat} {t:Nat} {v:AV} (h:(F.back dd).ff.var t=some v):look t (F.vars.filter fun v=>!dd.contains v.1)=some v:=by
 have h:look t (normV (F.vars.filter fun v=>!dd.contains v.1))=some v:=h
 rwa [look_normV] at h
theorem back_blk {F:Fr} {dd:List Nat} {s:Slot} {k:Blk} (h:(F.back dd).ff.blk s=some k):F.ff.blk s=some k:=by
 have h:look s (normM (F.mem.filter fun x=>F.spoken (normV (F.vars.filter fun v=>!dd.contains v.1)) x.1))=some k:=h
 rw [look_normM,look_filter (fun s=>F.spoken (normV (F.vars.filter fun v=>!dd.contains v.1)) s)] at h
 split at h
 ·exact h
 ·simp at h
def rounds (A B:APT) (ps dd:List Nat):List (List PV)→APT
 | []=>fun K F=>K .normal F
 | x :: xs=>fun K F=>x.length=ps.length∧A (fun e F1=>match e with
   | .normal=>B (fun e F2=>match e with
    | .normal=>rounds A B ps dd xs K (F2.back dd)
    | e=>K e (F2.back dd)) F1
   | _=>False) (F.setPs ps x)
structure Ext (b b':Base):Prop where
 w:b'.w=b.w
 S:b'.S=b.S
 M:b'.M=b.M
 J:b'.J=b.J
 D:∃ m,b'.D=m++b.D
 O:∀ r o,b.O r=some o→b'.O r=some o
theorem Ext.refl (b:Base):Ext b b:=⟨rfl,rfl,rfl,rfl,⟨[],rfl⟩,fun _ _ h=>h⟩
theorem Ext.trans {a b c:Base} (h:Ext a b) (k:Ext b c):Ext a c:=
 ⟨k.w.trans h.w,k.S.trans h.S,k.M.trans h.M,k.J.trans h.J,by obtain ⟨m,e⟩:=h.D;obtain ⟨m',e'⟩:=k.D;exact ⟨m'++m,by rw [e',e,List.append_assoc]⟩,fun r o q=>k.O r o (h.O r o q)⟩
structure BOk (r:Option Nat) (b:Base):Prop where
 nd:b.D.Nodup
 dm:∀ m∈b.D,b.O m=some (.deferred (some []))
 rd:∀ l,r=some l→∃ rec,b.O l=some (.loop rec)
def Sound (P:Program) (N:Nat) (D:Nat→Prop) (b:APT) (c:Code):Prop:=
 ∀ (r:Option Nat) (n:Nat) (w0:Base) (K:AE→Fr→Prop) (F:Fr) (ι:Inj) (S:Snap) (a:Act) (w:World) (Q:Exit→Act→World→Prop),BOk r w0→b K F→St N w0 ι S F.ff a w →
  (∀ e F' w0' ι' S' a' w',K e F'→St N w0' ι' S' F'.ff a' w'→Ext w0 w0'→BOk r w0'→Same D a a'→Q e.toExit a' w')→c.wpIn (Fz r) n P Q a w
section
variable {P:Program} {N:Nat} {ι:Inj} {S:Snap}
theorem setPs_ok:∀ (ps:List Nat) (x:List PV) (vs:List Value) (V:List (Nat×AV)) (T:Array Value),(∀ p∈ps,p<T.size)→Ps S x vs→x.length=ps.length→(∀ t v,look t V=some v→∃ y,T[t]?=some y∧AVRel ι S v y) →
  ∀ t v,look t ((ps.zip x).foldl (fun l p=>(p.1,.p p.2) :: l) V)=some v→∃ y,((ps.zip vs).foldl (fun (T:Array Value) p=>T.setIfInBounds p.1 p.2) T)[t]?=some y∧AVRel ι S v y
 | [],x,vs,V,T,hp,h,hl,hV,t,v,e=>by simpa using hV t v (by simpa using e)
 | p :: ps,[],vs,V,T,hp,h,hl,hV,t,v,e=>by simp at hl
 | p :: ps,q :: x,[],V,T,hp,h,hl,hV,t,v,e=>by have:=h.1;simp at this
 | p :: ps,q :: x,u :: vs,V,T,hp,h,hl,hV,t,v,e=>by
  simp only [List.zip_cons_cons,List.foldl_cons] at e ⊢
  have hpq:PRel S q u:=h.2 0 q u rfl rfl
  refine setPs_ok ps x vs ((p,.p q) :: V) (T.setIfInBounds p u) (fun p' hp'=>by simpa using hp p' (by simp [hp'])) ⟨by have:=h.1;simpa using this,fun j a b e1 e2=>h.2 (j+1) a b (by simpa using e1) (by simpa using e2)⟩ (by simpa using hl) (fun t' v' e'=>?_) t v e
  simp only [look] at e'
  have hlt:=hp p (by simp)
  split at e'
  ·rename_i ht;subst ht;simp at e';subst e';exact ⟨u,by simp [hlt],.p _ _ hpq⟩
  ·rename_i ht
   obtain ⟨y,h1,h2⟩:=hV t' v' e'
   exact ⟨y,by rw [Array.getElem?_setIfInBounds_ne (fun q=>ht q.symm)];exact h1,h2⟩
theorem fold_size:∀ (l:List (Nat×Value)) (T:Array Value),(l.foldl (fun (T:Array Value) p=>T.setIfInBounds p.1 p.2) T).size=T.size
 | [],T=>rfl
 | p :: l,T=>by simp only [List.foldl_cons];rw [fold_size l];simp
theorem fold_ne:∀ (l:List (Nat×Value)) (T:Array Value) (t:Nat),(∀ p∈l,p.1≠t)→(l.foldl (fun (T:Array Value) p=>T.setIfInBounds p.1 p.2) T)[t]?=T[t]?
 | [],T,t,h=>rfl
 | p :: l,T,t,h=>by
  simp only [List.foldl_cons]
  rw [fold_ne l _ t (fun q hq=>h q (by simp [hq])),Array.getElem?_setIfInBounds_ne (h p (by simp))]
theorem fold_zip (ps:Array Nat) (vs:List Value) (T:Array Value):((ps.zip vs.toArray).foldl (fun tmps (t,a)=>tmps.setIfInBounds t a) T)=(ps.toList.zip vs).foldl (fun (T:Array Value) p=>T.setIfInBounds p.1 p.2) T:=by
 rw [←Array.foldl_toList]
 simp
theorem St.baseS {w0:Base} {F:FF} {a:Act} {w:World} (h:St N w0 ι S F a w):St N { w0 with S:=S } ι S F a w:=
 ⟨h.nt,h.nb,h.fix,h.df,h.ob,h.keep,fun _ _ q=>q,fun _ _ q=>.inl q,h.snap,h.vars,h.mem,h.own,h.sep⟩
theorem St.unS {w0:Base} {S1:Snap} {F:FF} {a:Act} {w:World} (h:St N { w0 with S:=S1 } ι S F a w) (h1:w0.S.le S1) (h2:∀ x v,S1 x=some v→w0.S x=some v∨w0.w.heap.size≤x.block∨w0.M x.block):St N w0 ι S F a w:=
 ⟨h.nt,h.nb,h.fix,h.df,h.ob,h.keep,fun x v q=>h.sle x v (h1 x v q),fun x v q=>(h.snew x v q).elim (fun q=>h2 x v q) .inr,h.snap,h.vars,h.mem,h.own,h.sep⟩
theorem look_back {t:Nat} {v:AV} {V:List (Nat×AV)} {dd:List Nat} (h:look t (V.filter fun v=>!dd.contains v.1)=some v):look t V=some v∧t ∉ dd:=by
 rw [look_filter (fun t=>!dd.contains t)] at h
 split at h
 ·rename_i hc;exact ⟨h,by simpa using hc⟩
 ·simp at h
theorem rfun_core {A B:APT} {assign body:Code} {ps:Array Nat} {dd:List Nat} {D D0:Nat→Prop} (hA:Sound P N D A assign) (hB:Sound P N D B body) (hD:∀ t,D t→t∈dd) (hps:∀ p∈ps.toList,p<N∧p∈dd)
  {r:Option Nat} {n:Nat} {w0 b1:Base} {K:AE→Fr→Prop} {F:Fr} {a aM:Act} {w w1:World} {Q:Exit→Act→World→Prop} {g:Operand} {u:AV} {f:FuncId} {fi ca:List AV} {fi' ca':List PV} {xs:List (List PV)}
  (hg:AVRel ι S u (a.eval g)) (hu:cloOf u=some (f,fi,ca)) (h1:allP fi=some fi') (h2:allP ca=some ca') (hG:Gens P f fi' ca' xs) (hR:rounds A B ps.toList dd xs K F)
  {fn:FuncId} {l:Nat} {mark:List Deferred} (hEnter:(Instr.enterLoop fn a.tmps ps assign body r).run P w=.ok (l,mark) w1) {rec:LoopState→Option Code→Loop}
  (hrec:∀ st pe,rec st pe={ state:=st,pending:=pe,fn,tmps:=a.tmps,params:=ps,assign,body,defers:=(rec .ready none).defers })
  (hst:St N b1 ι S F.ff aM w1) (haM:aM={ a with defers:=mark++a.defers }) (hl:b1.O l=some (.loop (rec .ready none))) (hExt:∀ o,Ext w0 (b1.obj l o)) (hBOk:∀ rc,BOk r (b1.obj l (some (.loop rc))))
  (hQ:∀ e F' w0' ι' S' a' w',K e F'→St N w0' ι' S' F'.ff a' w'→Ext w0 w0'→BOk r w0'→Same D0 a a'→Q e.toExit a' w') :
  ∃ (d:Deferred) (w1':World) (f:FuncId) (args:Array Value) (w2:World),
   (resolve a.eval (rangeCall g l) 0).run P w1=.ok d w1' ∧
   (∀ f',Target.leads P w1' d.target d.args=some f'→(Fz r).fn f') ∧
   (invoke d.target d.args).run P w1'=.ok (.enter f args) w2 ∧
   ((Fz r).depth.isSome=true→1≤n) ∧
   CallsIn (Fz r) (n - 1) P f args w2 (rangePost (Fz r) n P l Q { a with defers:=mark++a.defers }):=by
 have hclo:∃ fs cs:List Value,a.eval g=.func (.func f) fs.toArray cs.toArray∧Ps S fi' fs∧Ps S ca' cs:=by
  unfold cloOf at hu
  split at hu
  ·simp at hu
   obtain ⟨rfl,rfl,rfl⟩:=hu
   have:=hg.inv_p
   generalize a.eval g=y at this
   cases this with
   | clo _ _ _ fs cs hf hc g1 g2=>exact ⟨fs,cs,rfl,(Ps.toRs (ι:=ι) ⟨hf,g1⟩).toPs h1,(Ps.toRs (ι:=ι) ⟨hc,g2⟩).toPs h2⟩
  ·simp at hu
   obtain ⟨rfl,rfl,rfl⟩:=hu
   generalize a.eval g=y at hg
   cases hg with
   | clo _ _ _ fs cs hf hc g1 g2=>exact ⟨fs,cs,rfl,Rs.toPs h1 ⟨hf,g1⟩,Rs.toPs h2 ⟨hc,g2⟩⟩
  ·simp at hu
 obtain ⟨fs,cs,e1,r1,r2⟩:=hclo
 obtain ⟨⟨fnr,hf1,hf2,hf3⟩,hG⟩:=hG
 have cf:∀ (args:Array Value) (w':World),(callFunc f args).run P w'=.ok (.enter f args) w':=by
  intro args w'
  have h4:fnr.body.isNone=false:=by
   cases hb:fnr.body with
   | none=>rw [hb] at hf2;simp at hf2
   | some _=>rfl
  simp only [callFunc,Sem.run_bind,run_program,Result.andThen_ok,hf1,hf3,h4,Bool.false_eq_true,if_false,Sem.run_pure]
 refine ⟨{ target:=.fn (.func f) cs.toArray,args:=fs.toArray++#[Value.func (.yield l) #[] #[]] },w1,f,(fs++[Value.func (.yield l) #[] #[]]++cs).toArray,w1,?_,fun _ _=>trivial,?_,fun q=>by simp [Fz,Fence.wide] at q,?_⟩
 ·have e3:a.eval (.const (Value.func (.yield l) #[] #[]))=Value.func (.yield l) #[] #[]:=rfl
  simp only [resolve,e1,Deferred.ofValue,Sem.run_bind,Sem.run_pure,Result.andThen_ok]
  simp [e3]
 ·simp [invoke,cf]
 -- what the rounds keep
 have hnt:a.tmps.size=N:=by have:=hst.nt;rw [haM] at this;exact this
 let J:Nat→Snap→World→Prop:=fun k S w=>∃ ι Fk,rounds A B ps.toList dd (xs.drop k) K Fk∧St N b1 ι S Fk.ff aM w
 let E:Snap→World→Prop:=fun S w=>∃ ι e c Fk,AE.code e=some c∧K e Fk∧St N (b1.obj l (some (.loop (rec .done (some c))))) ι S Fk.ff aM w
 have sJ:∀ k,Stab (J k):=fun k S w S' w' h g1 g2 g3 g4=>let ⟨ι,Fk,q1,q2⟩:=h;⟨ι,Fk,q1,q2.step0 g3 g1 g2 g4⟩
 have sE:Stab E:=fun S w S' w' h g1 g2 g3 g4=>let ⟨ι,e,c,Fk,q1,q2,q3⟩:=h;⟨ι,e,c,Fk,q1,q2,q3.step0 g3 g1 g2 g4⟩
 refine callsIn_fz (Calls.mono (hG S w1 fs cs hst.snap r1 r2 l J E sJ sE ?_ ⟨ι,F,by simpa using hR,hst⟩) ?_)
 ·-- a round
  rintro k x S1 w3 vs hx hS1 ⟨ι1,Fk,hrk,hk⟩ hvs
  have hdrop:xs.drop k=x :: xs.drop (k+1):=by
   have hlt:=(List.getElem?_eq_some_iff.1 hx).1
   rw [List.drop_eq_getElem_cons hlt,(List.getElem?_eq_some_iff.1 hx).2]
  rw [hdrop] at hrk
  obtain ⟨hxl,hrk⟩:=hrk
  have hloop:w3.heap[l]?=some (.loop (rec .ready none)):=(hk.ob l _ hl).2.1
  have hr0:=hrec .ready none
  have hy:=run_yield (P:=P) (args:=vs.toArray) hloop (by rw [hr0];simpa [hvs.1] using hxl)
  refine ⟨_,_,_,_,hy,?_⟩
  rw [hr0]
  simp only
  rw [fold_zip]
  refine roundIn_of_wpIn (F:=Fence.wide) trivial ?_
  have hb1:BOk (some l) { b1 with S:=S1,D:=[] }:=⟨List.nodup_nil,by simp,fun l' e=>by simp at e;subst e;exact ⟨_,hl⟩⟩
  have hst1:St N { b1 with S:=S1,D:=[] } ι1 S1 (Fk.setPs ps.toList x).ff { tmps:=(ps.toList.zip vs).foldl (fun (T:Array Value) p=>T.setIfInBounds p.1 p.2) a.tmps,defers:=[] } w3:=by
   refine hk.baseS.other (w0':={ b1 with S:=S1,D:=[] }) rfl rfl rfl rfl hk.nb (fun _ _ q=>q) (by simp only [fold_size];exact hnt) rfl (fun t v e=>?_) (fun s k e=>e)
   refine setPs_ok ps.toList x vs Fk.vars a.tmps (fun p hp=>by rw [hnt];exact (hps p hp).1) hvs hxl (fun t v e=>?_) t v e
   have:=hk.vars t v e
   rw [haM] at this
   exact this
  refine hA (some l) 0 _ _ (Fk.setPs ps.toList x) ι1 S1 _ w3 _ hb1 hrk hst1 fun e F1 b2 ι2 S2 a2 w4 hke hst2 hext2 hbok2 hsame2=>?_
  cases e with
  | exit id=>exact hke.elim
  | ret=>exact hke.elim
  | normal=>
   have hl2:b2.O l=some (.loop (rec .ready none)):=hext2.O l _ hl
   have hloop2:w4.heap[l]?=some (.loop (rec .ready none)):=(hst2.ob l _ hl2).2.1
   refine ⟨_,run_beginRound hloop2 (by rw [hr0]),?_⟩
   have hst3:=hst2.putObj (.loop { rec .ready none with state:=.busy }) hl2 (by simp)
   have hbok3:BOk (some l) (b2.obj l (some (.loop { rec .ready none with state:=.busy }))):=by
    refine ⟨hbok2.nd,fun m hm=>?_,fun l' e=>?_⟩
    ·have:=hbok2.dm m hm
     simp only [Base.obj]
     split
     ·rename_i q;subst q;rw [hl2] at this;simp at this
     ·exact this
    ·simp at e;subst e;exact ⟨_,by simp only [Base.obj,if_true];rfl⟩
   refine hB (some l) 0 _ _ F1 ι2 S2 a2 _ _ hbok3 hke hst3 fun e F2 b4 ι4 S4 a4 w5 hke4 hst4 hext4 hbok4 hsame4=>?_
   have hl4:b4.O l=some (.loop { rec .ready none with state:=.busy }):=hext4.O l _ (by simp [Base.obj])
   have hloop4:w5.heap[l]?=some (.loop { rec .ready none with state:=.busy }):=(hst4.ob l _ hl4).2.1
   have hw4:b4.w=b1.w:=by rw [hext4.w];exact hext2.w
   have hS4:b4.S=S1:=by rw [hext4.S];exact hext2.S
   have hM4:b4.M=b1.M:=by rw [hext4.M];exact hext2.M
   have hJ4:b4.J=b1.J:=by rw [hext4.J];exact hext2.J
   have hSle:S1.le S4:=by rw [←hS4];exact hst4.sle
   have fin:∀ (rc:Loop),St N (b1.obj l (some (.loop rc))) ι4 S4 (F2.back dd).ff aM (w5.putObj l (.loop rc)):=by
    intro rc
    have h5:=hst4.putObj (.loop rc) hl4 (by simp)
    have h6:St N { b1.obj l (some (.loop rc)) with S:=S1 } ι4 S4 (F2.back dd).ff aM (w5.putObj l (.loop rc)):=by
     refine h5.other (by simpa [Base.obj] using hw4.symm) (by simp [Base.obj,hS4]) (by simpa [Base.obj] using hM4.symm) (by simpa [Base.obj] using hJ4.symm) hk.nb (fun k o e=>?_) (by rw [haM];exact hnt) (by have:=hst.df;simpa [Base.obj] using this) (fun t v e=>?_) (fun s k e=>back_blk e)
     ·simp only [Base.obj] at e ⊢
      split
      ·rename_i q;rw [if_pos q] at e;exact e
      ·rename_i q
       rw [if_neg q] at e
       refine hext4.O k o ?_
       simp only [Base.obj,if_neg q]
       exact hext2.O k o e
     ·obtain ⟨g1,g2⟩:=look_back (back_var e)
      obtain ⟨y,g3,g4⟩:=h5.vars t v g1
      refine ⟨y,?_,g4⟩
      have hnD:¬D t:=fun q=>g2 (hD t q)
      rw [←g3,hsame4 t hnD,hsame2 t hnD,haM]
      refine (fold_ne _ _ t fun p hp=>?_).symm
      intro q;subst q
      exact g2 (hps _ (List.of_mem_zip hp).1).2
    refine h6.unS (fun x v q=>hk.sle x v q) (fun x v q=>hk.snew x v q)
   have hrr:∀ st pe,({ ({ rec .ready none with state:=.busy }:Loop) with state:=st,pending:=pe }:Loop)=rec st pe:=by
    intro st pe;rw [hrec st pe,hr0]
   cases e with
   | normal=>
    refine ⟨_,_,run_endRound none hloop4,true,S4,rfl,hSle,?_⟩
    have h7:=fin (rec .ready none)
    have h8:St N b1 ι4 S4 (F2.back dd).ff aM (w5.putObj l (.loop (rec .ready none))):=by
     refine h7.other rfl rfl rfl rfl h7.nb (fun k o e=>?_) h7.nt h7.df (fun t v e=>h7.vars t v e) (fun _ _ q=>q)
     simp only [Base.obj]
     split
     ·rename_i q;subst q;rw [hl] at e;exact e
     ·exact e
    have he:(w5.putObj l (.loop { ({ rec .ready none with state:=.busy }:Loop) with state:=if (none:Option Code).isNone then .ready else .done,pending:=none }))=w5.putObj l (.loop (rec .ready none)):=by
     rw [←hrr .ready none];rfl
    rw [he]
    exact ⟨h8.snap,ι4,F2.back dd,hke4,h8⟩
   | ret=>
    refine ⟨_,_,run_endRound (some .ret) hloop4,false,S4,rfl,hSle,?_⟩
    have h7:=fin (rec .done (some .ret))
    have he:(w5.putObj l (.loop { ({ rec .ready none with state:=.busy }:Loop) with state:=if (some Code.ret:Option Code).isNone then .ready else .done,pending:=some .ret }))=w5.putObj l (.loop (rec .done (some .ret))):=by
     rw [←hrr .done (some .ret)];rfl
    rw [he]
    exact ⟨h7.snap,ι4,.ret,.ret,F2.back dd,rfl,hke4,h7⟩
   | exit id=>
    refine ⟨_,_,run_endRound (some (.exit id)) hloop4,false,S4,rfl,hSle,?_⟩
    have h7:=fin (rec .done (some (.exit id)))
    have he:(w5.putObj l (.loop { ({ rec .ready none with state:=.busy }:Loop) with state:=if (some (Code.exit id):Option Code).isNone then .ready else .done,pending:=some (.exit id) }))=w5.putObj l (.loop (rec .done (some (.exit id)))):=by
     rw [←hrr .done (some (.exit id))];rfl
    rw [he]
    exact ⟨h7.snap,ι4,.exit id,.exit id,F2.back dd,rfl,hke4,h7⟩
 ·-- behind it
  rintro e w' ⟨⟨v,rfl⟩,S',hS',h | h⟩
  ·obtain ⟨ι',Fk,hk,hst'⟩:=h
   have hd:xs.drop xs.length=[]:=by simp
   rw [hd] at hk
   have hk:K .normal Fk:=hk
   have hloop:=(hst'.ob l _ hl).2.1
   have hp:(rec .ready none).pending=none:=by rw [hrec]
   refine ⟨none,w'.putObj l (.loop { rec .ready none with state:=.exhausted }),(run_endLoop hloop (by rw [hrec];simp)).trans (congrArg (fun c=>Result.ok c _) hp),?_⟩
   have:=hst'.putObj (.loop { rec .ready none with state:=.exhausted }) hl (by simp)
   rw [←haM]
   exact hQ .normal Fk _ ι' S' aM _ hk this (hExt _) (hBOk _) (by rw [haM];exact fun t _=>rfl)
  ·obtain ⟨ι',e,c,Fk,hc,hk,hst'⟩:=h
   have hlo:(b1.obj l (some (.loop (rec .done (some c))))).O l=some (.loop (rec .done (some c))):=by simp [Base.obj]
   have hloop:=(hst'.ob l _ hlo).2.1
   have hp:(rec .done (some c)).pending=some c:=by rw [hrec]
   refine ⟨some c,w'.putObj l (.loop { rec .done (some c) with state:=.exhausted }),(run_endLoop hloop (by rw [hrec];simp)).trans (congrArg (fun c=>Result.ok c _) hp),?_⟩
   have h9:=hst'.putObj (.loop { rec .done (some c) with state:=.exhausted }) hlo (by simp)
   have h10:((b1.obj l (some (.loop (rec .done (some c))))).obj l (some (.loop { rec .done (some c) with state:=.exhausted })))=b1.obj l (some (.loop { rec .done (some c) with state:=.exhausted })):=by
    simp only [Base.obj]
    congr 1
    funext k
    by_cases hk:k=l<;>simp [hk]
   rw [h10] at h9
   rw [←haM]
   have:=hQ e Fk _ ι' S' aM _ hk h9 (hExt _) (hBOk _) (by rw [haM];exact fun t _=>rfl)
   cases e with
   | normal=>simp [AE.code] at hc
   | ret=>simp [AE.code] at hc;subst hc;exact wpIn_ret this
   | exit id=>simp [AE.code] at hc;subst hc;exact wpIn_exit this
theorem rfun_ok {A B:APT} {assign body:Code} {ps:Array Nat} {dd:List Nat} {D D0:Nat→Prop} (hA:Sound P N D A assign) (hB:Sound P N D B body) (hD:∀ t,D t→t∈dd) (hps:∀ p∈ps.toList,p<N∧p∈dd)
  {r:Option Nat} {n:Nat} {w0:Base} {K:AE→Fr→Prop} {F:Fr} {a:Act} {w:World} {Q:Exit→Act→World→Prop} {g:Operand} {u:AV} {f:FuncId} {fi ca:List AV} {fi' ca':List PV} {xs:List (List PV)}
  (hbok:BOk r w0) (hst:St N w0 ι S F.ff a w) (hg:AVRel ι S u (a.eval g)) (hu:cloOf u=some (f,fi,ca)) (h1:allP fi=some fi') (h2:allP ca=some ca') (hG:Gens P f fi' ca' xs) (hR:rounds A B ps.toList dd xs K F)
  (hQ:∀ e F' w0' ι' S' a' w',K e F'→St N w0' ι' S' F'.ff a' w'→Ext w0 w0'→BOk r w0'→Same D0 a a'→Q e.toExit a' w'):(Code.rangeFunc g ps assign body).wpIn (Fz r) n P Q a w:=by
 refine wpIn_rangeFunc fun fn _=>?_
 have old:∀ k o,w0.O k=some o→k<w.heap.size:=fun k o e=>(Array.getElem?_eq_some_iff.1 (hst.ob k o e).2.1).1
 have oldD:∀ m∈w0.D,m<w.heap.size:=fun m hm=>old m _ (hbok.dm m hm)
 cases r with
 | none=>
  have e1:=run_enterLoop_outer (P:=P) (w:=w) fn a.tmps ps assign body
  let rc0:LoopState→Option Code→Loop:=fun st pe=>{ state:=st,pending:=pe,fn,tmps:=a.tmps,params:=ps,assign,body,defers:=w.heap.size }
  have s1:=hst.newObj (.deferred (some [])) (by simp)
  have s2:=s1.newObj (.loop (rc0 .ready none)) (by simp)
  rw [World.size_alloc] at s2
  let b1:Base:={ ((w0.obj w.heap.size (some (.deferred (some [])))).obj (w.heap.size+1) (some (.loop (rc0 .ready none)))) with D:=w.heap.size :: w0.D }
  have s3:St N b1 ι S F.ff { a with defers:=[markOf w.heap.size]++a.defers } ((w.alloc (.deferred (some []))).alloc (.loop (rc0 .ready none))):=
   s2.other (w0':=b1) rfl rfl rfl rfl s2.nb (fun _ _ q=>q) hst.nt (by simp [b1,hst.df]) (fun t v e=>hst.vars t v e |>.imp fun x q=>q) (fun _ _ q=>q)
  have key:=rfun_core (D0:=D0) hA hB hD hps (r:=none) (n:=n) (w0:=w0) (b1:=b1) hg hu h1 h2 hG hR e1 (rec:=rc0) (fun _ _=>rfl) s3 rfl (by simp [b1,Base.obj])
   (fun o=>⟨rfl,rfl,rfl,rfl,⟨[w.heap.size],rfl⟩,fun k o' e=>by have:=old k o' e;simp only [b1,Base.obj];rw [if_neg (by omega),if_neg (by omega),if_neg (by omega)];exact e⟩)
   (fun rc=>⟨by simp only [b1,Base.obj];exact List.nodup_cons.2 ⟨fun q=>by have:=oldD _ q;omega,hbok.nd⟩,fun m hm=>by
    simp only [b1,Base.obj,List.mem_cons] at hm ⊢
    rcases hm with rfl | hm
    ·simp
    ·have:=oldD m hm
     rw [if_neg (by omega),if_neg (by omega),if_neg (by omega)];exact hbok.dm m hm,fun l e=>by simp at e⟩) hQ
  obtain ⟨d,w1',f',args,w2,k1,k2,k3,k4,k5⟩:=key
  exact ⟨_,_,_,d,w1',f',args,w2,e1,k1,k2,k3,k4,k5⟩
 | some l0=>
  obtain ⟨rec0,hrec0⟩:=hbok.rd l0 rfl
  have e1:=run_enterLoop_inner (P:=P) (hst.ob l0 _ hrec0).2.1 fn a.tmps ps assign body
  let rc0:LoopState→Option Code→Loop:=fun st pe=>{ state:=st,pending:=pe,fn,tmps:=a.tmps,params:=ps,assign,body,defers:=rec0.defers }
  have s2:=hst.newObj (.loop (rc0 .ready none)) (by simp)
  let b1:Base:=w0.obj w.heap.size (some (.loop (rc0 .ready none)))
  have s3:St N b1 ι S F.ff { a with defers:=[]++a.defers } (w.alloc (.loop (rc0 .ready none))):=s2
  have key:=rfun_core (D0:=D0) hA hB hD hps (r:=some l0) (n:=n) (w0:=w0) (b1:=b1) hg hu h1 h2 hG hR e1 (rec:=rc0) (fun _ _=>rfl) s3 rfl (by simp [b1,Base.obj])
   (fun o=>⟨rfl,rfl,rfl,rfl,⟨[],rfl⟩,fun k o' e=>by have:=old k o' e;simp only [b1,Base.obj];rw [if_neg (by omega),if_neg (by omega)];exact e⟩)
   (fun rc=>⟨hbok.nd,fun m hm=>by
    have:=oldD m hm
    simp only [b1,Base.obj] at hm ⊢
    rw [if_neg (by omega),if_neg (by omega)];exact hbok.dm m hm,fun l e=>by
     simp at e;subst e
     have:=old _ _ hrec0
     exact ⟨rec0,by simp only [b1,Base.obj];rw [if_neg (by omega),if_neg (by omega)];exact hrec0⟩⟩) hQ
  obtain ⟨d,w1',f',args,w2,k1,k2,k3,k4,k5⟩:=key
  exact ⟨_,_,_,d,w1',f',args,w2,e1,k1,k2,k3,k4,k5⟩
end
end Go.Abs
