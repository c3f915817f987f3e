/- A part of the proof: an abstract reading of the model, contracts of functions. -/
import Derived.Test.YtinblgdfhmllnaaGreatC11
namespace Go.Abs.A29
open Go Go.Abs Go.Proofs
set_option maxRecDepth 100000
set_option linter.unusedVariables false
set_option linter.unusedSimpArgs false
attribute [local simp ↓] awp_skip awp_seq awp_cond awp_block awp_exit awp_ret awp_reg awp_draw awp_ghost awp_loop awp_rfun awpR_nil awpR_cons awpX_nil awpX_0 awpX_1 awpX_2 awpI_eq awpI_t awpI_f awpStep_eq
attribute [local simp] condL_true condL_false condL_dec evDel evV evN evS evA initFr Ghost.app Fr.var Fr.blk Fr.ff FF.val Abs.look Fr.app Fr.erase Fr.noSlot AV.noSlot AV.noSlotL Blk.noSlot Fr.spoken AV.fz AV.fzL Blk.fz binV binI shI binS unV fillA FF.parts FF.vals headO intO boundO lenV scalarEq leavesEq AV.aggc AV.cells FF.read FF.rows AV.one PV.one chunk freshB newS pickV retK evRs evRl evR resOf mkTup mkAgg allP cloOf okP_nil okX_p okX okP addN Del.noSlot Del.owners Rnd reify_p normM insM Fr.back Fr.backV Fr.setPs normV insV
attribute [local simp] renF Fr.trim Blk.trim AV.rn AV.rnL Blk.rn AV.among AV.amongL Blk.among okF retM fixS BIG initFF
def CO (n:Int):Prop:=-64≤n∧n≤64
instance {n:Int}:Decidable (CO n):=inferInstanceAs (Decidable (_∧_))
structure T3 where
 f:Int
 p:Int
 t:Int
def tRow (x:T3):List PV:=[.int .i64 x.f,.int .i64 x.p,.int .i64 x.t]
def TE (x:T3):Prop:=-64≤x.f∧x.f≤x.p∧x.p≤x.t∧x.t≤64∧(x.p=0∨0≤x.f∨x.t≤0)
instance {x:T3}:Decidable (TE x):=inferInstanceAs (Decidable (_∧_∧_∧_∧(_∨_∨_)))
theorem b151' (n:Int):Best Tryz.prog 151 [.int .i64 n] (.p (.bool (decide (CO n)))):=by
 have e:(decide (-64≤n) && decide (n≤64))=decide (CO n):=by rw [←Bool.decide_and];rfl
 rw [←e];exact b151 n
theorem b119' (n:Int):Best Tryz.prog 119 [.int .i64 n] (.p (.bool (decide (CO n)))):=by
 have e:(decide (-64≤n) && decide (n≤64))=decide (CO n):=by rw [←Bool.decide_and];rfl
 rw [←e];exact b119 n
theorem TEn {x:T3} (h:¬(-64≤x.f∧x.f≤x.p∧x.p≤x.t∧x.t≤64∧(x.p=0∨0≤x.f∨x.t≤0))):¬TE x:=h
theorem TEy {x:T3} (h:-64≤x.f∧x.f≤x.p∧x.p≤x.t∧x.t≤64∧(x.p=0∨0≤x.f∨x.t≤0)):TE x:=h
theorem b153 (x:T3):Best Tryz.prog 153 [.agg (tRow x)] (.p (.bool (decide (TE x)))):=by
 obtain ⟨f,p,t⟩:=x
 refine best mixed fn153 ok153 (by simp) ?_
 simp -dsimp [ac153,tRow]
 refine call_p (b151' f) rfl (by simp) ?_
 by_cases h1:CO f
 rotate_left
 ·have:=TEn (x:=⟨f,p,t⟩) (by unfold CO at h1;dsimp only;omega)
  simp -dsimp [h1,this]
 by_cases h2:f≤p
 rotate_left
 ·have:=TEn (x:=⟨f,p,t⟩) (by dsimp only;omega)
  simp -dsimp [h1,h2,this]
 by_cases h3:p≤t
 rotate_left
 ·have:=TEn (x:=⟨f,p,t⟩) (by dsimp only;omega)
  simp -dsimp [h1,h2,h3,this]
 simp -dsimp [h1,h2,h3]
 refine call_p (b151' t) rfl (by simp) ?_
 by_cases h4:CO t
 rotate_left
 ·have:=TEn (x:=⟨f,p,t⟩) (by unfold CO at *;dsimp only;omega)
  simp -dsimp [h4,this]
 by_cases h5:p=0
 ·have:=TEy (x:=⟨f,p,t⟩) (by unfold CO at *;dsimp only;omega)
  simp -dsimp [h4,h5];simpa [h5] using this
 by_cases h6:0≤f
 ·have:=TEy (x:=⟨f,p,t⟩) (by unfold CO at *;dsimp only;omega)
  simp -dsimp [h4,h5,h6,this]
 by_cases h7:t≤0
 ·have:=TEy (x:=⟨f,p,t⟩) (by unfold CO at *;dsimp only;omega)
  simp -dsimp [h4,h5,h6,h7,this]
 ·have:=TEn (x:=⟨f,p,t⟩) (by dsimp only;omega)
  simp -dsimp [h4,h5,h6,h7,this]
theorem b158 (x:T3):Best Tryz.prog 158 [.agg (tRow x)] (.p (.bool (decide (TE x)))):=by
 obtain ⟨f,p,t⟩:=x
 refine best mixed fn158 ok158 (by simp) ?_
 by_cases h1:-64≤f
 rotate_left
 ·have:=TEn (x:=⟨f,p,t⟩) (by dsimp only;omega)
  simp -dsimp [ac158,tRow,h1,this]
 by_cases h2:f≤p
 rotate_left
 ·have:=TEn (x:=⟨f,p,t⟩) (by dsimp only;omega)
  simp -dsimp [ac158,tRow,h1,h2,this]
 by_cases h3:p≤t
 rotate_left
 ·have:=TEn (x:=⟨f,p,t⟩) (by dsimp only;omega)
  simp -dsimp [ac158,tRow,h1,h2,h3,this]
 by_cases h4:t≤64
 rotate_left
 ·have:=TEn (x:=⟨f,p,t⟩) (by dsimp only;omega)
  simp -dsimp [ac158,tRow,h1,h2,h3,h4,this]
 by_cases h5:p=0
 ·have:=TEy (x:=⟨f,p,t⟩) (by dsimp only;omega)
  subst h5
  simp -dsimp [ac158,tRow,h1,h2,h3,h4,this]
 by_cases h6:0≤f
 ·have:=TEy (x:=⟨f,p,t⟩) (by dsimp only;omega)
  simp -dsimp [ac158,tRow,h1,h2,h3,h4,h5,h6,this]
 by_cases h7:t≤0
 ·have:=TEy (x:=⟨f,p,t⟩) (by dsimp only;omega)
  simp -dsimp [ac158,tRow,h1,h2,h3,h4,h5,h6,h7,this]
 ·have:=TEn (x:=⟨f,p,t⟩) (by dsimp only;omega)
  simp -dsimp [ac158,tRow,h1,h2,h3,h4,h5,h6,h7,this]
theorem b152 (x:T3):Best Tryz.prog 152 [.agg (tRow x)] (.p (.bool (!decide (TE x)))):=by
 refine best mixed fn152 ok152 (by simp) ?_
 have h:=b153 x
 generalize decide (TE x)=b at *
 obtain ⟨f,p,t⟩:=x
 simp -dsimp [ac152,tRow] at h ⊢
 refine call_p h rfl (by simp) ?_
 simp -dsimp
theorem b150 (n:Int):Best Tryz.prog 150 [.int .i64 n] (.p (.bool (!decide (CO n)))):=by
 refine best mixed fn150 ok150 (by simp) ?_
 simp -dsimp [ac150]
 refine call_p (b151' n) rfl (by simp) ?_
 simp -dsimp
def idxS {α:Type} (q:α→Bool) (l:List α):Int:=match l.findIdx? q with
 | some i=>(i:Int)
 | none=>-1
theorem idxS_hit {α:Type} {q:α→Bool} {l:List α} {k:Nat} {x:α} (hk:l[k]?=some x) (h1:∀ y∈l.take k,q y=false) (h2:q x=true):idxS q l=k:=by
 have hlt:k<l.length:=(List.getElem?_eq_some_iff.1 hk).1
 have:l.findIdx? q=some k:=by
  rw [List.findIdx?_eq_some_iff_getElem]
  refine ⟨hlt,?_,?_⟩
  ·rw [(List.getElem?_eq_some_iff.1 hk).2,h2]
  ·intro j hj
   have:=h1 l[j] (List.mem_take_iff_getElem.2 ⟨j,by omega,rfl⟩)
   simp [this]
 simp [idxS,this]
theorem idxS_none {α:Type} {q:α→Bool} {l:List α} (h:∀ y∈l,q y=false):idxS q l=-1:=by
 have:l.findIdx? q=none:=by
  rw [List.findIdx?_eq_none_iff];intro x hx;simp [h x hx]
 simp [idxS,this]
theorem idxS_ge {α:Type} {q:α→Bool} {l:List α}:decide (0≤idxS q l)=l.any q:=by
 unfold idxS
 cases h:l.findIdx? q with
 | none=>
  rw [List.findIdx?_eq_none_iff] at h
  have:l.any q=false:=by rw [List.any_eq_false];intro x hx;simp [h x hx]
  simp [this]
 | some k=>
  rw [List.findIdx?_eq_some_iff_getElem] at h
  obtain ⟨hlt,hk,-⟩:=h
  have:l.any q=true:=by rw [List.any_eq_true];exact ⟨l[k],by simp,hk⟩
  simp [this]
theorem take_succ_all {α:Type} {p:α→Prop} {l:List α} {k:Nat} {x:α} (hk:l[k]?=some x) (h1:∀ y∈l.take k,p y) (h2:p x):∀ y∈l.take (k+1),p y:=by
 intro y hy
 rw [List.take_add_one,hk] at hy
 simp at hy
 rcases hy with hy | rfl
 ·exact h1 y hy
 ·exact h2
def pRow (x:Int×Int):List PV:=[.int .i64 x.1,.int .i64 x.2]
theorem b177 {f:FuncId} {q:T3→Bool} (hf:∀ x:T3,Best Tryz.prog f [.agg (tRow x)] (.p (.bool (q x)))) (r:List (T3)) (hl:r.length≤9223372036854775807):Best Tryz.prog 177 [.sl 3 (r.map tRow),.clo (.func f) [] []] (.p (.int .i64 (idxS q r))):=by
 refine best mixed fn177 ok177 (by simp) ?_
 simp -dsimp [ac177]
 refine loopC r.length (fun k=>⟨[(0,.p (.sl 3 (r.map tRow))),(1,.p (.clo (.func f) [] [])),(7,.p (.int .i64 r.length)),(8,.p (.int .i64 k))],[]⟩) (fun k=>∀ y∈r.take k,q y=false) (fun k hk hall=>?_) (by simp) (by simp)
 by_cases h:k<r.length
 ·obtain ⟨x,ex⟩:∃ x,r[k]=x:=⟨_,rfl⟩
  have hx:r[k]?=some x:=by simp [h,ex]
  have w:R ((k:Int)+1):=⟨by omega,by omega⟩
  have hfx:=hf x
  have hit:q x=true→idxS q r=k:=fun h2=>idxS_hit hx hall h2
  have go:q x=false→∀ y∈r.take (k+1),q y=false:=fun h2=>take_succ_all (p:=fun y=>q y=false) hx hall h2
  generalize q x=b at *
  obtain ⟨f,p,t⟩:=x
  simp -dsimp [h,ex,tRow] at hfx ⊢
  refine call_p hfx rfl (by simp) ?_
  cases b with
  | true=>simp -dsimp [hit]
  | false=>simp -dsimp [wr w];exact ⟨h,go rfl⟩
 ·have:k=r.length:=by omega
  subst this
  rw [List.take_length] at hall
  simp -dsimp [idxS_none hall]
theorem b154 {f:FuncId} {q:T3→Bool} (hf:∀ x:T3,Best Tryz.prog f [.agg (tRow x)] (.p (.bool (q x)))) (r:List (T3)) (hl:r.length≤9223372036854775807):Best Tryz.prog 154 [.sl 3 (r.map tRow),.clo (.func f) [] []] (.p (.bool (r.any q))):=by
 refine best mixed fn154 ok154 (by simp) ?_
 simp -dsimp [ac154]
 refine call_p (b177 hf r hl) rfl (by simp) ?_
 have:=idxS_ge (q:=q) (l:=r)
 by_cases h:0≤idxS q r<;>simp only [h,decide_true,decide_false] at this<;>simp -dsimp [h,←this]
theorem b64 {f:FuncId} {q:Int→Bool} (hf:∀ x:Int,Best Tryz.prog f [.int .i64 x] (.p (.bool (q x)))) (r:List (Int)) (hl:r.length≤9223372036854775807):Best Tryz.prog 64 [.sl 1 (r.map intRow),.clo (.func f) [] []] (.p (.int .i64 (idxS q r))):=by
 refine best mixed fn64 ok64 (by simp) ?_
 simp -dsimp [ac64]
 refine loopC r.length (fun k=>⟨[(0,.p (.sl 1 (r.map intRow))),(1,.p (.clo (.func f) [] [])),(7,.p (.int .i64 r.length)),(8,.p (.int .i64 k))],[]⟩) (fun k=>∀ y∈r.take k,q y=false) (fun k hk hall=>?_) (by simp) (by simp)
 by_cases h:k<r.length
 ·obtain ⟨x,ex⟩:∃ x,r[k]=x:=⟨_,rfl⟩
  have hx:r[k]?=some x:=by simp [h,ex]
  have w:R ((k:Int)+1):=⟨by omega,by omega⟩
  have hfx:=hf x
  have hit:q x=true→idxS q r=k:=fun h2=>idxS_hit hx hall h2
  have go:q x=false→∀ y∈r.take (k+1),q y=false:=fun h2=>take_succ_all (p:=fun y=>q y=false) hx hall h2
  generalize q x=b at *
  simp -dsimp [h,ex,intRow] at hfx ⊢
  refine call_p hfx rfl (by simp) ?_
  cases b with
  | true=>simp -dsimp [hit]
  | false=>simp -dsimp [wr w];exact ⟨h,go rfl⟩
 ·have:k=r.length:=by omega
  subst this
  rw [List.take_length] at hall
  simp -dsimp [idxS_none hall]
theorem b29 {f:FuncId} {q:Int→Bool} (hf:∀ x:Int,Best Tryz.prog f [.int .i64 x] (.p (.bool (q x)))) (r:List (Int)) (hl:r.length≤9223372036854775807):Best Tryz.prog 29 [.sl 1 (r.map intRow),.clo (.func f) [] []] (.p (.bool (r.any q))):=by
 refine best mixed fn29 ok29 (by simp) ?_
 simp -dsimp [ac29]
 refine call_p (b64 hf r hl) rfl (by simp) ?_
 have:=idxS_ge (q:=q) (l:=r)
 by_cases h:0≤idxS q r<;>simp only [h,decide_true,decide_false] at this<;>simp -dsimp [h,←this]
def RI (r:List T3) (n:Int):Prop:=0≤n∧n≤3∧r.length=n∧∀ t∈r,TE t
instance {r:List T3} {n:Int}:Decidable (RI r n):=inferInstanceAs (Decidable (_∧_∧_∧_))
theorem anyTE (r:List T3):(r.any fun x=>!decide (TE x))=!decide (∀ t∈r,TE t):=by
 by_cases h:∀ t∈r,TE t
 ·rw [decide_eq_true h,List.any_eq_false.2 (fun x hx=>by simp [h x hx])];rfl
 ·rw [decide_eq_false h,List.any_eq_true.2 ?_]
  ·rfl
  ·simpa using h
theorem b115 (r:List T3) (n:Int) (hl:r.length≤9223372036854775807):Best Tryz.prog 115 [.agg [.sl 3 (r.map tRow)],.int .i64 n] (.p (.bool (decide (RI r n)))):=by
 refine best mixed fn115 ok115 (by simp) ?_
 by_cases h1:0≤n
 rotate_left
 ·have:¬RI r n:=fun h=>h1 h.1
  simp -dsimp [ac115,h1,this]
 by_cases h2:n≤3
 rotate_left
 ·have:¬RI r n:=fun h=>h2 h.2.1
  simp -dsimp [ac115,h1,h2,this]
 by_cases h3:(r.length:Int)=n
 rotate_left
 ·have:¬RI r n:=fun h=>h3 h.2.2.1
  simp -dsimp [ac115,h1,h2,h3,this]
 have hc:=b154 b152 r hl
 rw [anyTE] at hc
 have e:decide (RI r n)=decide (∀ t∈r,TE t):=decide_eq_decide.2 ⟨fun h=>h.2.2.2,fun h=>⟨h1,h2,h3,h⟩⟩
 rw [e]
 generalize decide (∀ t∈r,TE t)=b at *
 simp -dsimp [ac115,h1,h2,h3]
 refine call_p hc rfl (by simp) ?_
 simp -dsimp
theorem b121 (r:List T3) (n:Int):Best Tryz.prog 121 [.agg [.sl 3 (r.map tRow)],.int .i64 n] (.p (.bool (decide (RI r n)))):=by
 refine best mixed fn121 ok121 (by simp) ?_
 by_cases h1:n<0
 ·have:¬RI r n:=fun h=>by have:=h.1;omega
  simp -dsimp [ac121,h1,this]
 by_cases h2:3<n
 ·have:¬RI r n:=fun h=>by have:=h.2.1;omega
  simp -dsimp [ac121,h1,h2,this]
 by_cases h3:(r.length:Int)=n
 rotate_left
 ·have:¬RI r n:=fun h=>h3 h.2.2.1
  simp -dsimp [ac121,h1,h2,h3,this]
 subst h3
 have h1':¬((r.length:Int)<0):=by omega
 simp -dsimp [ac121,h1',h2]
 refine loopC r.length (fun k=>⟨[(1,.p (.int .i64 r.length)),(2,.ptr (2,0) 1 0 0),(5,.p (.int .i64 k))],[((2,0),.box [.p (.sl 3 (r.map tRow))])]⟩) (fun k=>∀ y∈r.take k,TE y) (fun k hk hall=>?_) (by simp) (by simp)
 by_cases h:k<r.length
 ·obtain ⟨x,ex⟩:∃ x,r[k]=x:=⟨_,rfl⟩
  have hx:r[k]?=some x:=by simp [h,ex]
  have w:R ((k:Int)+1):=⟨by omega,by omega⟩
  have hfx:=b158 x
  have no:¬TE x→¬RI r r.length:=fun h2 h4=>h2 (h4.2.2.2 x (List.mem_of_getElem? hx))
  have go:TE x→∀ y∈r.take (k+1),TE y:=fun h2=>take_succ_all (p:=TE) hx hall h2
  by_cases hT:TE x
  ·rw [decide_eq_true hT] at hfx
   have go':=go hT
   obtain ⟨f,p,t⟩:=x
   simp -dsimp [h,ex,tRow] at hfx ⊢
   refine call_p hfx rfl (by simp) ?_
   simp -dsimp [wr w]
   exact ⟨h,go'⟩
  ·rw [decide_eq_false hT] at hfx
   have no':=no hT
   obtain ⟨f,p,t⟩:=x
   simp -dsimp [h,ex,tRow] at hfx ⊢
   refine call_p hfx rfl (by simp) ?_
   simp -dsimp [no']
 ·have:k=r.length:=by omega
  subst this
  rw [List.take_length] at hall
  have:RI r r.length:=⟨by omega,by omega,rfl,hall⟩
  simp -dsimp [this]
def CL (at':List Int):Prop:=at'.length≤3∧∀ n∈at',CO n
instance {l:List Int}:Decidable (CL l):=inferInstanceAs (Decidable (_∧_))
theorem anyCO (r:List Int):(r.any fun x=>!decide (CO x))=!decide (∀ t∈r,CO t):=by
 by_cases h:∀ t∈r,CO t
 ·rw [decide_eq_true h,List.any_eq_false.2 (fun x hx=>by simp [h x hx])];rfl
 ·rw [decide_eq_false h,List.any_eq_true.2 ?_]
  ·rfl
  ·simpa using h
theorem b114 (l:List Int):Best Tryz.prog 114 [.sl 1 (l.map intRow)] (.p (.bool (decide (CL l)))):=by
 refine best mixed fn114 ok114 (by simp) ?_
 by_cases h1:l.length≤3
 rotate_left
 ·have:¬CL l:=fun h=>h1 h.1
  have h1':¬((l.length:Int)≤3):=by omega
  simp -dsimp [ac114,h1',this]
 have hc:=b29 b150 l (by omega)
 rw [anyCO] at hc
 have e:decide (CL l)=decide (∀ t∈l,CO t):=decide_eq_decide.2 ⟨fun h=>h.2,fun h=>⟨h1,h⟩⟩
 rw [e]
 generalize decide (∀ t∈l,CO t)=b at *
 have h1':(l.length:Int)≤3:=by omega
 simp -dsimp [ac114,h1']
 refine call_p hc rfl (by simp) ?_
 simp -dsimp
theorem b80 (l:List Int) (hl:l.length≤9223372036854775807):Best Tryz.prog 80 [.sl 1 (l.map intRow)] (.p (.bool (decide (CL l)))):=by
 refine best mixed fn80 ok80 (by simp) ?_
 simp -dsimp [ac80]
 refine loopC l.length (fun k=>⟨[(0,.p (.sl 1 (l.map intRow))),(3,.p (.int .i64 k))],[]⟩) (fun k=>∀ y∈l.take k,CO y) (fun k hk hall=>?_) (by simp) (by simp)
 by_cases h:k<l.length
 ·obtain ⟨x,ex⟩:∃ x,l[k]=x:=⟨_,rfl⟩
  have hx:l[k]?=some x:=by simp [h,ex]
  have w:R ((k:Int)+1):=⟨by omega,by omega⟩
  have hfx:=b119' x
  have no:¬CO x→¬CL l:=fun h2 h4=>h2 (h4.2 x (List.mem_of_getElem? hx))
  have go:CO x→∀ y∈l.take (k+1),CO y:=fun h2=>take_succ_all (p:=CO) hx hall h2
  by_cases hT:CO x
  ·rw [decide_eq_true hT] at hfx
   have go':=go hT
   simp -dsimp [h,ex,intRow]
   refine call_p hfx rfl (by simp) ?_
   simp -dsimp [wr w]
   exact ⟨h,go'⟩
  ·rw [decide_eq_false hT] at hfx
   have no':=no hT
   simp -dsimp [h,ex,intRow]
   refine call_p hfx rfl (by simp) ?_
   simp -dsimp [no']
 ·have:k=l.length:=by omega
  subst this
  rw [List.take_length] at hall
  have e:CL l↔(l.length:Int)≤3:=⟨fun h=>by have:=h.1;omega,fun h=>⟨by omega,hall⟩⟩
  by_cases h3:(l.length:Int)≤3<;>simp -dsimp [e,h3]
attribute [local simp ↓] awpY_skip awpY_seq awpY_cond awpY_block awpY_loop awpY_exit awpY_ret awpY_reg awpY_draw awpY_ghost awpY_yt awpY_yf stepY_eq
attribute [local simp] FF.reify coreY Fr.pure AV.pur
def zipS {α β:Type} (f:α→PV) (g:β→PV) (a:List α) (b:List β):List (List PV):=(a.zip b).map fun x=>[f x.1,g x.2]
theorem zipS_get {α β:Type} {f:α→PV} {g:β→PV} {a:List α} {b:List β} {k:Nat} {x:α} {y:β} (h1:a[k]?=some x) (h2:b[k]?=some y):(zipS f g a b)[k]?=some [f x,g y]:=by
 simp [zipS,List.zip,List.getElem?_zipWith,h1,h2]
theorem zipS_len {α β:Type} {f:α→PV} {g:β→PV} {a:List α} {b:List β}:(zipS f g a b).length=min a.length b.length:=by simp [zipS]
def vI (x:Int):PV:=.int .i64 x
def vT (x:T3):PV:=.agg (tRow x)
theorem b155 (a b:List (List PV)):Best Tryz.prog 155 [.sl 3 a,.sl 1 b] (.p (.clo (.func 178) [] [.ro [.sl 3 a],.ro [.sl 1 b]])):=by
 refine best mixed fn155 ok155 (by simp) ?_
 simp -dsimp [ac155]
theorem g178 (a:List (T3)) (b:List (Int)) (hl:a.length≤9223372036854775807):Gens Tryz.prog 178 [] [.ro [.sl 3 (a.map tRow)],.ro [.sl 1 (b.map intRow)]] (zipS vT vI a b):=by
 refine gens mixed fn178 ok178 (by simp) fun l=>?_
 simp -dsimp [ac178]
 have e:min (a.length:Int) b.length=((min a.length b.length:Nat):Int):=by omega
 refine loopYC (min a.length b.length) (fun k=>⟨[(0,.p (.clo (.yield l) [] [])),(1,.p (.ro [.sl 3 (a.map tRow)])),(2,.p (.ro [.sl 1 (b.map intRow)])),(9,.p (.int .i64 ((min a.length b.length:Nat):Int))),(10,.p (.int .i64 k))],[]⟩) (fun k hk=>?_) (by simp [e])
 by_cases h:k<min a.length b.length
 ·have h1:k<a.length:=by omega
  have h2:k<b.length:=by omega
  obtain ⟨⟨x1,x2,x3⟩,ex⟩:∃ x,a[k]=x:=⟨_,rfl⟩
  obtain ⟨y1,ey⟩:∃ y,b[k]=y:=⟨_,rfl⟩
  have w:R ((k:Int)+1):=⟨by omega,by omega⟩
  have hz:=zipS_get (f:=vT) (g:=vI) (show a[k]?=some _ by rw [List.getElem?_eq_getElem h1,ex]) (show b[k]?=some _ by rw [List.getElem?_eq_getElem h2,ey])
  simp -dsimp [h,h1,h2,ex,ey,intRow,tRow,wr w]
  exact hz
 ·have:k=min a.length b.length:=by omega
  subst this
  simp -dsimp [zipS_len]
end Go.Abs.A29
namespace Go.Abs.A29
open Go Go.Abs Go.Proofs
set_option maxRecDepth 100000
set_option linter.unusedVariables false
set_option linter.unusedSimpArgs false
attribute [local simp ↓] awp_skip awp_seq awp_cond awp_block awp_exit awp_ret awp_reg awp_draw awp_ghost awp_loop awp_rfun awpR_nil awpR_cons awpX_nil awpX_0 awpX_1 awpX_2 awpI_eq awpI_t awpI_f awpStep_eq
attribute [local simp] condL_true condL_false condL_dec evDel evV evN evS evA initFr Ghost.app Fr.var Fr.blk Fr.ff FF.val Abs.look Fr.app Fr.erase Fr.noSlot AV.noSlot AV.noSlotL Blk.noSlot Fr.spoken AV.fz AV.fzL Blk.fz binV binI shI binS unV fillA FF.parts FF.vals headO intO boundO lenV scalarEq leavesEq AV.aggc AV.cells FF.read FF.rows AV.one PV.one chunk freshB newS pickV retK evRs evRl evR resOf mkTup mkAgg allP cloOf okP_nil okX_p okX okP addN Del.noSlot Del.owners Rnd reify_p normM insM Fr.back Fr.backV Fr.setPs normV insV
attribute [local simp] renF Fr.trim Blk.trim AV.rn AV.rnL Blk.rn AV.among AV.amongL Blk.among okF retM fixS BIG initFF
theorem wr0:IntKind.i64.wrap 0=0:=wr ⟨by omega,by omega⟩
def rawS (x:T3) (n:Int):Int×Int:=if x.p=0∨n=x.p then (1,1) else if n≤x.f∨n ≥ x.t then (0,1) else if n<x.p then (n - x.f,x.p - x.f) else (x.t - n,x.t - x.p)
noncomputable def strS (x:T3) (n:Int):Int×Int:=((rawS x n).1 / gcdI (rawS x n).1 (rawS x n).2,(rawS x n).2 / gcdI (rawS x n).1 (rawS x n).2)
theorem rawB {x:T3} {n:Int} (hT:TE x) (hn:CO n):0≤(rawS x n).1∧(rawS x n).1≤(rawS x n).2∧1≤(rawS x n).2∧(rawS x n).2≤128:=by
 obtain ⟨f,p,t⟩:=x
 unfold TE at hT
 unfold CO at hn
 unfold rawS
 dsimp only at *
 split
 ·simp
 ·split
  ·simp
  ·split
   ·dsimp only;omega
   ·dsimp only;omega
theorem strE {x:T3} {n a b:Int} (hT:TE x) (hn:CO n) (h:rawS x n=(a,b)):0≤a∧a≤b∧1≤b∧b≤128∧1≤gcdI a b∧strS x n=(a / gcdI a b,b / gcdI a b):=by
 have hb:=rawB hT hn
 unfold strS
 rw [h] at hb ⊢
 exact ⟨hb.1,hb.2.1,hb.2.2.1,hb.2.2.2,gcdI_ge hb.1 hb.2.2.1,rfl⟩
theorem b157 {x:T3} {n:Int} (hT:TE x) (hn:CO n):Best Tryz.prog 157 [.agg (tRow x),.int .i64 n] (.p (.agg [.int .i64 (strS x n).1,.int .i64 (strS x n).2])):=by
 refine best mixed fn157 ok157 (by simp) ?_
 obtain ⟨f,p,t⟩:=x
 have hT':=hT
 have hn':=hn
 unfold TE at hT'
 unfold CO at hn'
 dsimp only at hT'
 by_cases h1:p=0
 ·have h1d:(p=0)=True:=by simp [h1]
  have hr:rawS ⟨f,p,t⟩ n=(1,1):=by unfold rawS;simp only [];rw [if_pos (.inl h1)]
  obtain ⟨q1,q2,q3,q4,q5,q6⟩:=strE hT hn hr
  have wb:R (1):=⟨by omega,by omega⟩
  have wa:R (1):=⟨by omega,by omega⟩
  simp -dsimp [ac157,tRow,h1d,wr wb,wr wa]
  refine call_p (b180 (a:=1) wb) rfl (by simp) ?_
  generalize gcdI (1) (1)=g at q5 q6
  have g0:g≠0:=by omega
  have t1:Int.tdiv (1) g=(1) / g:=Int.tdiv_eq_ediv_of_nonneg q1
  have t2:Int.tdiv (1) g=(1) / g:=Int.tdiv_eq_ediv_of_nonneg (by omega)
  have w3:=R_ediv wa q5
  have w4:=R_ediv wb q5
  simp -dsimp [g0,t1,t2,wr w3,wr w4,q6,wr0]
 by_cases h2:n=p
 ·have h2d:(n=p)=True:=by simp [h2]
  have hr:rawS ⟨f,p,t⟩ n=(1,1):=by unfold rawS;simp only [];rw [if_pos (.inr h2)]
  obtain ⟨q1,q2,q3,q4,q5,q6⟩:=strE hT hn hr
  have wb:R (1):=⟨by omega,by omega⟩
  have wa:R (1):=⟨by omega,by omega⟩
  simp -dsimp [ac157,tRow,h1,h2d,wr wb,wr wa]
  refine call_p (b180 (a:=1) wb) rfl (by simp) ?_
  generalize gcdI (1) (1)=g at q5 q6
  have g0:g≠0:=by omega
  have t1:Int.tdiv (1) g=(1) / g:=Int.tdiv_eq_ediv_of_nonneg q1
  have t2:Int.tdiv (1) g=(1) / g:=Int.tdiv_eq_ediv_of_nonneg (by omega)
  have w3:=R_ediv wa q5
  have w4:=R_ediv wb q5
  simp -dsimp [g0,t1,t2,wr w3,wr w4,q6,wr0]
 have hn1:¬(p=0∨n=p):=by omega
 by_cases h3:n≤f
 ·
  have hr:rawS ⟨f,p,t⟩ n=(0,1):=by unfold rawS;simp only [];rw [if_neg hn1,if_pos (.inl h3)]
  obtain ⟨q1,q2,q3,q4,q5,q6⟩:=strE hT hn hr
  have wb:R (1):=⟨by omega,by omega⟩
  have wa:R (0):=⟨by omega,by omega⟩
  simp -dsimp [ac157,tRow,h1,h2,h3,wr wb,wr wa]
  refine call_p (b180 (a:=0) wb) rfl (by simp) ?_
  generalize gcdI (0) (1)=g at q5 q6
  have g0:g≠0:=by omega
  have t1:Int.tdiv (0) g=(0) / g:=Int.tdiv_eq_ediv_of_nonneg q1
  have t2:Int.tdiv (1) g=(1) / g:=Int.tdiv_eq_ediv_of_nonneg (by omega)
  have w3:=R_ediv wa q5
  have w4:=R_ediv wb q5
  simp -dsimp [g0,t1,t2,wr w3,wr w4,q6,wr0]
 by_cases h4:t≤n
 ·
  have hr:rawS ⟨f,p,t⟩ n=(0,1):=by unfold rawS;simp only [];rw [if_neg hn1,if_pos (.inr h4)]
  obtain ⟨q1,q2,q3,q4,q5,q6⟩:=strE hT hn hr
  have wb:R (1):=⟨by omega,by omega⟩
  have wa:R (0):=⟨by omega,by omega⟩
  simp -dsimp [ac157,tRow,h1,h2,h3,h4,wr wb,wr wa]
  refine call_p (b180 (a:=0) wb) rfl (by simp) ?_
  generalize gcdI (0) (1)=g at q5 q6
  have g0:g≠0:=by omega
  have t1:Int.tdiv (0) g=(0) / g:=Int.tdiv_eq_ediv_of_nonneg q1
  have t2:Int.tdiv (1) g=(1) / g:=Int.tdiv_eq_ediv_of_nonneg (by omega)
  have w3:=R_ediv wa q5
  have w4:=R_ediv wb q5
  simp -dsimp [g0,t1,t2,wr w3,wr w4,q6,wr0]
 have hn2:¬(n≤f∨n ≥ t):=by omega
 by_cases h5:n<p
 ·
  have hr:rawS ⟨f,p,t⟩ n=(n - f,p - f):=by unfold rawS;simp only [];rw [if_neg hn1,if_neg hn2,if_pos h5]
  obtain ⟨q1,q2,q3,q4,q5,q6⟩:=strE hT hn hr
  have wb:R (p - f):=⟨by omega,by omega⟩
  have wa:R (n - f):=⟨by omega,by omega⟩
  simp -dsimp [ac157,tRow,h1,h2,h3,h4,h5,wr wb,wr wa]
  refine call_p (b180 (a:=n - f) wb) rfl (by simp) ?_
  generalize gcdI (n - f) (p - f)=g at q5 q6
  have g0:g≠0:=by omega
  have t1:Int.tdiv (n - f) g=(n - f) / g:=Int.tdiv_eq_ediv_of_nonneg q1
  have t2:Int.tdiv (p - f) g=(p - f) / g:=Int.tdiv_eq_ediv_of_nonneg (by omega)
  have w3:=R_ediv wa q5
  have w4:=R_ediv wb q5
  simp -dsimp [g0,t1,t2,wr w3,wr w4,q6,wr0]
 have hr:rawS ⟨f,p,t⟩ n=(t - n,t - p):=by unfold rawS;simp only [];rw [if_neg hn1,if_neg hn2,if_neg h5]
 obtain ⟨q1,q2,q3,q4,q5,q6⟩:=strE hT hn hr
 have wb:R (t - p):=⟨by omega,by omega⟩
 have wa:R (t - n):=⟨by omega,by omega⟩
 simp -dsimp [ac157,tRow,h1,h2,h3,h4,h5,wr wb,wr wa]
 refine call_p (b180 (a:=t - n) wb) rfl (by simp) ?_
 generalize gcdI (t - n) (t - p)=g at q5 q6
 have g0:g≠0:=by omega
 have t1:Int.tdiv (t - n) g=(t - n) / g:=Int.tdiv_eq_ediv_of_nonneg q1
 have t2:Int.tdiv (t - p) g=(t - p) / g:=Int.tdiv_eq_ediv_of_nonneg (by omega)
 have w3:=R_ediv wa q5
 have w4:=R_ediv wb q5
 simp -dsimp [g0,t1,t2,wr w3,wr w4,q6,wr0]
theorem b161 {x:T3} {n:Int} (hT:TE x) (hn:CO n):Best Tryz.prog 161 [.agg (tRow x),.int .i64 n] (.p (.agg [.int .i64 (strS x n).1,.int .i64 (strS x n).2])):=by
 refine best mixed fn161 ok161 (by simp) ?_
 obtain ⟨f,p,t⟩:=x
 have hT':=hT
 have hn':=hn
 unfold TE at hT'
 unfold CO at hn'
 dsimp only at hT'
 by_cases h1:p=0
 ·have h1d:(p=0)=True:=by simp [h1]
  have hr:rawS ⟨f,p,t⟩ n=(1,1):=by unfold rawS;simp only [];rw [if_pos (.inl h1)]
  obtain ⟨q1,q2,q3,q4,q5,q6⟩:=strE hT hn hr
  have wb:R (1):=⟨by omega,by omega⟩
  have wa:R (1):=⟨by omega,by omega⟩
  simp -dsimp [ac161,tRow,h1d,wr wb,wr wa]
  refine call_p (b181 (a:=1) wb) rfl (by simp) ?_
  generalize gcdI (1) (1)=g at q5 q6
  have g0:g≠0:=by omega
  have t1:Int.tdiv (1) g=(1) / g:=Int.tdiv_eq_ediv_of_nonneg q1
  have t2:Int.tdiv (1) g=(1) / g:=Int.tdiv_eq_ediv_of_nonneg (by omega)
  have w3:=R_ediv wa q5
  have w4:=R_ediv wb q5
  simp -dsimp [g0,t1,t2,wr w3,wr w4,q6,wr0]
 by_cases h2:n=p
 ·have h2d:(n=p)=True:=by simp [h2]
  have hr:rawS ⟨f,p,t⟩ n=(1,1):=by unfold rawS;simp only [];rw [if_pos (.inr h2)]
  obtain ⟨q1,q2,q3,q4,q5,q6⟩:=strE hT hn hr
  have wb:R (1):=⟨by omega,by omega⟩
  have wa:R (1):=⟨by omega,by omega⟩
  simp -dsimp [ac161,tRow,h1,h2d,wr wb,wr wa]
  refine call_p (b181 (a:=1) wb) rfl (by simp) ?_
  generalize gcdI (1) (1)=g at q5 q6
  have g0:g≠0:=by omega
  have t1:Int.tdiv (1) g=(1) / g:=Int.tdiv_eq_ediv_of_nonneg q1
  have t2:Int.tdiv (1) g=(1) / g:=Int.tdiv_eq_ediv_of_nonneg (by omega)
  have w3:=R_ediv wa q5
  have w4:=R_ediv wb q5
  simp -dsimp [g0,t1,t2,wr w3,wr w4,q6,wr0]
 have hn1:¬(p=0∨n=p):=by omega
 by_cases h3:n≤f
 ·
  have hr:rawS ⟨f,p,t⟩ n=(0,1):=by unfold rawS;simp only [];rw [if_neg hn1,if_pos (.inl h3)]
  obtain ⟨q1,q2,q3,q4,q5,q6⟩:=strE hT hn hr
  have wb:R (1):=⟨by omega,by omega⟩
  have wa:R (0):=⟨by omega,by omega⟩
  simp -dsimp [ac161,tRow,h1,h2,h3,wr wb,wr wa]
  refine call_p (b181 (a:=0) wb) rfl (by simp) ?_
  generalize gcdI (0) (1)=g at q5 q6
  have g0:g≠0:=by omega
  have t1:Int.tdiv (0) g=(0) / g:=Int.tdiv_eq_ediv_of_nonneg q1
  have t2:Int.tdiv (1) g=(1) / g:=Int.tdiv_eq_ediv_of_nonneg (by omega)
  have w3:=R_ediv wa q5
  have w4:=R_ediv wb q5
  simp -dsimp [g0,t1,t2,wr w3,wr w4,q6,wr0]
 by_cases h4:t≤n
 ·
  have hr:rawS ⟨f,p,t⟩ n=(0,1):=by unfold rawS;simp only [];rw [if_neg hn1,if_pos (.inr h4)]
  obtain ⟨q1,q2,q3,q4,q5,q6⟩:=strE hT hn hr
  have wb:R (1):=⟨by omega,by omega⟩
  have wa:R (0):=⟨by omega,by omega⟩
  simp -dsimp [ac161,tRow,h1,h2,h3,h4,wr wb,wr wa]
  refine call_p (b181 (a:=0) wb) rfl (by simp) ?_
  generalize gcdI (0) (1)=g at q5 q6
  have g0:g≠0:=by omega
  have t1:Int.tdiv (0) g=(0) / g:=Int.tdiv_eq_ediv_of_nonneg q1
  have t2:Int.tdiv (1) g=(1) / g:=Int.tdiv_eq_ediv_of_nonneg (by omega)
  have w3:=R_ediv wa q5
  have w4:=R_ediv wb q5
  simp -dsimp [g0,t1,t2,wr w3,wr w4,q6,wr0]
 have hn2:¬(n≤f∨n ≥ t):=by omega
 by_cases h5:n<p
 ·
  have hr:rawS ⟨f,p,t⟩ n=(n - f,p - f):=by unfold rawS;simp only [];rw [if_neg hn1,if_neg hn2,if_pos h5]
  obtain ⟨q1,q2,q3,q4,q5,q6⟩:=strE hT hn hr
  have wb:R (p - f):=⟨by omega,by omega⟩
  have wa:R (n - f):=⟨by omega,by omega⟩
  simp -dsimp [ac161,tRow,h1,h2,h3,h4,h5,wr wb,wr wa]
  refine call_p (b181 (a:=n - f) wb) rfl (by simp) ?_
  generalize gcdI (n - f) (p - f)=g at q5 q6
  have g0:g≠0:=by omega
  have t1:Int.tdiv (n - f) g=(n - f) / g:=Int.tdiv_eq_ediv_of_nonneg q1
  have t2:Int.tdiv (p - f) g=(p - f) / g:=Int.tdiv_eq_ediv_of_nonneg (by omega)
  have w3:=R_ediv wa q5
  have w4:=R_ediv wb q5
  simp -dsimp [g0,t1,t2,wr w3,wr w4,q6,wr0]
 have hr:rawS ⟨f,p,t⟩ n=(t - n,t - p):=by unfold rawS;simp only [];rw [if_neg hn1,if_neg hn2,if_neg h5]
 obtain ⟨q1,q2,q3,q4,q5,q6⟩:=strE hT hn hr
 have wb:R (t - p):=⟨by omega,by omega⟩
 have wa:R (t - n):=⟨by omega,by omega⟩
 simp -dsimp [ac161,tRow,h1,h2,h3,h4,h5,wr wb,wr wa]
 refine call_p (b181 (a:=t - n) wb) rfl (by simp) ?_
 generalize gcdI (t - n) (t - p)=g at q5 q6
 have g0:g≠0:=by omega
 have t1:Int.tdiv (t - n) g=(t - n) / g:=Int.tdiv_eq_ediv_of_nonneg q1
 have t2:Int.tdiv (t - p) g=(t - p) / g:=Int.tdiv_eq_ediv_of_nonneg (by omega)
 have w3:=R_ediv wa q5
 have w4:=R_ediv wb q5
 simp -dsimp [g0,t1,t2,wr w3,wr w4,q6,wr0]
def RG (l:List (Int×Int)) (n:Int):Prop:=0≤n∧n≤3∧l.length=n∧∀ p∈l,CO p.1∧CO p.2∧p.1≤p.2
instance {l:List (Int×Int)} {n:Int}:Decidable (RG l n):=inferInstanceAs (Decidable (_∧_∧_∧_))
def PG (p:Int×Int):Prop:=CO p.1∧CO p.2∧p.1≤p.2
instance {p:Int×Int}:Decidable (PG p):=inferInstanceAs (Decidable (_∧_∧_))
theorem b166 (r:List (Int×Int)) (n:Int):Best Tryz.prog 166 [.sl 2 (r.map pRow),.int .i64 n] (.p (.bool (decide (RG r n)))):=by
 refine best mixed fn166 ok166 (by simp) ?_
 by_cases h1:n<0
 ·have:¬RG r n:=fun h=>by have:=h.1;omega
  simp -dsimp [ac166,h1,this]
 by_cases h2:3<n
 ·have:¬RG r n:=fun h=>by have:=h.2.1;omega
  simp -dsimp [ac166,h1,h2,this]
 by_cases h3:(r.length:Int)=n
 rotate_left
 ·have:¬RG r n:=fun h=>h3 h.2.2.1
  simp -dsimp [ac166,h1,h2,h3,this]
 subst h3
 have h1':¬((r.length:Int)<0):=by omega
 simp -dsimp [ac166,h1',h2]
 refine loopC r.length (fun k=>⟨[(0,.p (.sl 2 (r.map pRow))),(1,.p (.int .i64 r.length)),(5,.p (.int .i64 k))],[]⟩) (fun k=>∀ y∈r.take k,PG y) (fun k hk hall=>?_) (by simp) (by simp)
 by_cases h:k<r.length
 ·obtain ⟨x,ex⟩:∃ x,r[k]=x:=⟨_,rfl⟩
  have hx:r[k]?=some x:=by simp [h,ex]
  have w:R ((k:Int)+1):=⟨by omega,by omega⟩
  have no:¬PG x→¬RG r r.length:=fun h2 h4=>h2 (h4.2.2.2 x (List.mem_of_getElem? hx))
  have go:PG x→∀ y∈r.take (k+1),PG y:=fun h2=>take_succ_all (p:=PG) hx hall h2
  obtain ⟨a,b⟩:=x
  simp -dsimp [h,ex,pRow]
  refine call_p (b119' a) rfl (by simp) ?_
  simp -dsimp [h,ex,pRow]
  refine call_p (b119' b) rfl (by simp) ?_
  by_cases q1:CO a
  rotate_left
  ·have:=no fun h=>q1 h.1
   simp -dsimp [q1,this]
  by_cases q2:CO b
  rotate_left
  ·have:=no fun h=>q2 h.2.1
   simp -dsimp [q1,q2,this]
  by_cases q3:b<a
  ·have:=no fun h=>by have:=h.2.2;dsimp only at this;omega
   simp -dsimp [q1,q2,q3,h,ex,pRow,this]
  ·have:=go ⟨q1,q2,by dsimp only;omega⟩
   simp -dsimp [q1,q2,q3,h,ex,pRow,wr w]
   exact fun a b=>this (a,b)
 ·have:k=r.length:=by omega
  subst this
  rw [List.take_length] at hall
  have:RG r r.length:=⟨by omega,by omega,rfl,hall⟩
  simp -dsimp [this]
def WI (a:List Int) (l:List (Int×Int)):Prop:=RG l a.length∧∀ x∈a.zip l,x.2.1≤x.1∧x.1≤x.2.2
instance {a:List Int} {l:List (Int×Int)}:Decidable (WI a l):=inferInstanceAs (Decidable (_∧_))
theorem zip_get {α β:Type} {a:List α} {b:List β} {k:Nat} {x:α} {y:β} (h1:a[k]?=some x) (h2:b[k]?=some y):(a.zip b)[k]?=some (x,y):=by
 simp [List.zip,List.getElem?_zipWith,h1,h2]
theorem zipS_inv {α β:Type} {f:α→PV} {g:β→PV} {a:List α} {b:List β} {k:Nat} {z:List PV} (h:(zipS f g a b)[k]?=some z):∃ x y,(a.zip b)[k]?=some (x,y)∧z=[f x,g y]:=by
 simp only [zipS,List.getElem?_map,Option.map_eq_some_iff] at h
 obtain ⟨⟨x,y⟩,h1,h2⟩:=h
 exact ⟨x,y,h1,h2.symm⟩
def TC (t:T3) (p:Int×Int):Prop:=t.p=0∨(min (t.f+1) t.p≤p.2∧p.1≤max (t.t - 1) t.p)
instance {t:T3} {p:Int×Int}:Decidable (TC t p):=inferInstanceAs (Decidable (_∨_∧_))
def TO (r:List T3) (l:List (Int×Int)):Prop:=RG l l.length∧RI r l.length∧∀ x∈r.zip l,TC x.1 x.2
instance {r:List T3} {l:List (Int×Int)}:Decidable (TO r l):=inferInstanceAs (Decidable (_∧_∧_))
theorem timesR (a b c d:Int):R (timesS a b c d).1.1∧R (timesS a b c d).1.2:=by
 unfold timesS
 split
 ·rename_i h
  obtain ⟨p1,p2,p3,p4,p5⟩:=timesB h.1 h.2
  dsimp only
  split
  ·exact ⟨⟨by simp,by simp⟩,⟨by simp,by simp⟩⟩
  ·exact ⟨R_ediv ⟨by omega,by omega⟩ p5,R_ediv ⟨by omega,by omega⟩ p5⟩
 ·exact ⟨⟨by simp,by simp⟩,⟨by simp,by simp⟩⟩
theorem strR {x:T3} {n:Int} (hT:TE x) (hn:CO n):R (strS x n).1∧R (strS x n).2:=by
 obtain ⟨h0,h1,h2,h3⟩:=rawB hT hn
 have hg:=gcdI_ge h0 h2
 exact ⟨R_ediv ⟨by omega,by omega⟩ hg,R_ediv ⟨by omega,by omega⟩ hg⟩
noncomputable def mulS (s:Int×Int) (x:T3×Int):Int×Int:=(timesS s.1 s.2 (strS x.1 x.2).1 (strS x.1 x.2).2).1
noncomputable def scaF (r:List T3) (a:List Int) (k:Nat):Int×Int:=((r.zip a).take k).foldl mulS (1,1)
noncomputable def scaS (r:List T3) (a:List Int):Int×Int:=if RI r a.length∧CL a then (r.zip a).foldl mulS (1,1) else (0,1)
theorem scaF_succ {r:List T3} {a:List Int} {k:Nat} {x:T3} {n:Int} (h:(r.zip a)[k]?=some (x,n)):scaF r a (k+1)=mulS (scaF r a k) (x,n):=by
 simp [scaF,List.take_add_one,h]
theorem scaF_R (r:List T3) (a:List Int) (k:Nat):R (scaF r a k).1∧R (scaF r a k).2:=by
 induction k with
 | zero=>simp [scaF,R]
 | succ k ih=>
  by_cases h:k<(r.zip a).length
  ·rw [scaF_succ (x:=(r.zip a)[k].1) (n:=(r.zip a)[k].2) (List.getElem?_eq_getElem h)]
   exact timesR ..
  ·have:scaF r a (k+1)=scaF r a k:=by
    unfold scaF;rw [List.take_of_length_le (by omega),List.take_of_length_le (by omega)]
   rw [this];exact ih
theorem b123 (r:List T3) (a:List Int) (ha:a.length≤9223372036854775807):Best Tryz.prog 123 [.agg [.sl 3 (r.map tRow)],.sl 1 (a.map intRow)] (.p (.agg [.int .i64 (scaS r a).1,.int .i64 (scaS r a).2])):=by
 refine best mixed fn123 ok123 (by simp) ?_
 simp -dsimp [ac123]
 refine call_p (b121 r a.length) rfl (by simp) ?_
 simp -dsimp
 refine call_p (b80 a ha) rfl (by simp) ?_
 by_cases h1:RI r a.length
 rotate_left
 ·have:scaS r a=(0,1):=if_neg fun h=>h1 h.1
  simp -dsimp [h1,this]
 by_cases h2:CL a
 rotate_left
 ·have:scaS r a=(0,1):=if_neg fun h=>h2 h.2
  simp -dsimp [h1,h2,this]
 simp -dsimp [h1,h2]
 have hlen:r.length=a.length:=by have:=h1.2.2.1;omega
 refine loopC a.length (fun k=>⟨[(1,.p (.sl 1 (a.map intRow))),(2,.ptr (2,0) 1 0 0),(4,.ptr (4,0) 2 0 0),(7,.ptr (7,0) 2 0 0),(8,.p (.int .i64 k))],[((2,0),.box [.p (.sl 3 (r.map tRow))]),((4,0),.box [.p (.int .i64 0),.p (.int .i64 0)]),((7,0),.box [.p (.int .i64 (scaF r a k).1),.p (.int .i64 (scaF r a k).2)])]⟩) (fun _=>True) (fun k hk _=>?_) trivial (by simp [scaF])
 by_cases h:k<a.length
 ·have h':k<r.length:=by omega
  obtain ⟨x,ex⟩:∃ x,r[k]=x:=⟨_,rfl⟩
  obtain ⟨n,en⟩:∃ x,a[k]=x:=⟨_,rfl⟩
  have w:R ((k:Int)+1):=⟨by omega,by omega⟩
  have hxy:(r.zip a)[k]?=some (x,n):=zip_get (by rw [List.getElem?_eq_getElem h',ex]) (by rw [List.getElem?_eq_getElem h,en])
  have hT:TE x:=h1.2.2.2 _ (List.of_mem_zip (List.mem_of_getElem? hxy)).1
  have hN:CO n:=h2.2 _ (List.of_mem_zip (List.mem_of_getElem? hxy)).2
  have hs:=scaF_succ hxy
  unfold mulS at hs
  dsimp only at hs
  have hc:=b161 (x:=x) (n:=n) hT hN
  have hcr:=strR hT hN
  have hsr:=scaF_R r a k
  generalize scaF r a k=s at *
  generalize scaF r a (k+1)=s' at *
  generalize strS x n=u at *
  obtain ⟨x1,x2,x3⟩:=x
  simp -dsimp [tRow] at hc
  simp -dsimp [h,h',ex,en,tRow,intRow]
  refine call_p hc rfl (by simp) ?_
  simp -dsimp
  refine call_p (b160 hsr.1 hsr.2 hcr.1 hcr.2) rfl (by simp) ?_
  simp -dsimp [wr w,h,hs]
 ·have:k=a.length:=by omega
  subst this
  have e:(r.zip a).length=a.length:=by simp [hlen]
  have:scaS r a=scaF r a a.length:=by
   unfold scaS scaF;rw [if_pos ⟨h1,h2⟩,←e,List.take_length]
  simp -dsimp [this]
theorem b116 (r:List T3) (a:List Int) (hr:r.length≤9223372036854775807):Best Tryz.prog 116 [.agg [.sl 3 (r.map tRow)],.sl 1 (a.map intRow)] (.p (.agg [.int .i64 (scaS r a).1,.int .i64 (scaS r a).2])):=by
 refine best mixed fn116 ok116 (by simp) ?_
 simp -dsimp [ac116]
 refine call_p (b115 r a.length hr) rfl (by simp) ?_
 by_cases h1:RI r a.length
 rotate_left
 ·have:scaS r a=(0,1):=if_neg fun h=>h1 h.1
  simp -dsimp [h1,this]
 simp -dsimp [h1]
 refine call_p (b114 a) rfl (by simp) ?_
 by_cases h2:CL a
 rotate_left
 ·have:scaS r a=(0,1):=if_neg fun h=>h2 h.2
  simp -dsimp [h2,this]
 simp -dsimp [h2]
 refine call_p (b155 (r.map tRow) (a.map intRow)) rfl (by simp) ?_
 simp -dsimp
 have hlen:r.length=a.length:=by have:=h1.2.2.1;omega
 refine rfunL_rule rfl rfl (g178 r a hr) (fun k F=>F=⟨[(4,.ptr (4,0) 2 0 0),(5,.ptr (5,0) 2 0 0),(23,.p (.clo (.func 178) [] [.ro [.sl 3 (r.map tRow)],.ro [.sl 1 (a.map intRow)]]))],[((4,0),.box [.p (.int .i64 0),.p (.int .i64 0)]),((5,0),.box [.p (.int .i64 (scaF r a k).1),.p (.int .i64 (scaF r a k).2)])]⟩) ?_ ?_ (by simp [scaF])
 ·rintro k z F hz hF
  obtain ⟨x,n,hxy,rfl⟩:=zipS_inv hz
  refine ⟨by simp,?_⟩
  have hT:TE x:=h1.2.2.2 _ (List.of_mem_zip (List.mem_of_getElem? hxy)).1
  have hN:CO n:=h2.2 _ (List.of_mem_zip (List.mem_of_getElem? hxy)).2
  have hs:=scaF_succ hxy
  unfold mulS at hs
  dsimp only at hs
  have hc:=b157 (x:=x) (n:=n) hT hN
  have hcr:=strR hT hN
  have hsr:=scaF_R r a k
  generalize scaF r a k=s at *
  generalize scaF r a (k+1)=s' at *
  generalize strS x n=u at *
  obtain ⟨x1,x2,x3⟩:=x
  simp -dsimp [tRow] at hc
  subst hF
  simp -dsimp [vT,vI,tRow]
  refine call_p hc rfl (by simp) ?_
  simp -dsimp
  refine call_p (b156 hsr.1 hsr.2 hcr.1 hcr.2) rfl (by simp) ?_
  simp -dsimp [hs]
 ·rintro F hF
  have hz:(zipS vT vI r a).length=a.length:=by simp [zipS,hlen]
  have e:(r.zip a).length=a.length:=by simp [hlen]
  have:scaS r a=scaF r a a.length:=by
   unfold scaS scaF;rw [if_pos ⟨h1,h2⟩,←e,List.take_length]
  rw [hz] at hF
  subst hF
  simp -dsimp [this]
def regRow (r:List T3):List PV:=[.sl 3 (r.map tRow)]
theorem scaS_R (r:List T3) (a:List Int):R (scaS r a).1∧R (scaS r a).2:=by
 unfold scaS
 split
 ·have:=scaF_R r a (r.zip a).length
  unfold scaF at this
  rwa [List.take_length] at this
 ·simp [R]
noncomputable def growS (rs:List (List T3)) (a:List Int) (g:Int×Int):Option Int:=
 if 0≤g.1∧g.1<rs.length∧RI (rs.getD g.1.toNat []) a.length∧(partS g.2 (scaS (rs.getD g.1.toNat []) a).1 (scaS (rs.getD g.1.toNat []) a).2).2=true then some (partS g.2 (scaS (rs.getD g.1.toNat []) a).1 (scaS (rs.getD g.1.toNat []) a).2).1 else none
noncomputable def sumL (rs:List (List T3)) (a:List Int) (s0:Int) (l:List (Int×Int)):Option Int:=l.foldl (fun o g=>o.bind fun s=>(growS rs a g).map (s+·)) (some s0)
noncomputable def sumS (base:Int) (l:List (Int×Int)) (rs:List (List T3)) (a:List Int):Int×Bool:=
 if SM base∧CL a∧l.length≤8 then (match sumL rs a (64*base) l with | some s=>(s,true) | none=>(0,false)) else (0,false)
theorem sumL_none {rs:List (List T3)} {a:List Int}:∀ {l:List (Int×Int)},l.foldl (fun o g=>o.bind fun s=>(growS rs a g).map (s+·)) none=none
 | []=>rfl
 | g :: l=>by simp only [List.foldl_cons,Option.bind_none];exact sumL_none
theorem sumL_app {rs:List (List T3)} {a:List Int} {s0:Int} {l m:List (Int×Int)}:sumL rs a s0 (l++m)=(sumL rs a s0 l).bind fun s=>sumL rs a s m:=by
 unfold sumL
 rw [List.foldl_append]
 cases l.foldl (fun o g=>o.bind fun s=>(growS rs a g).map (s+·)) (some s0) with
 | none=>rw [sumL_none];rfl
 | some s=>rfl
theorem sumL_succ {rs:List (List T3)} {a:List Int} {s0 s:Int} {l:List (Int×Int)} {k:Nat} {g:Int×Int} (hk:l[k]?=some g) (hs:sumL rs a s0 (l.take k)=some s):sumL rs a s0 (l.take (k+1))=(growS rs a g).map (s+·):=by
 rw [List.take_add_one,hk,sumL_app,hs]
 simp [sumL]
theorem sumL_fail {rs:List (List T3)} {a:List Int} {s0 s:Int} {l:List (Int×Int)} {k:Nat} {g:Int×Int} (hk:l[k]?=some g) (hs:sumL rs a s0 (l.take k)=some s) (hg:growS rs a g=none):sumL rs a s0 l=none:=by
 rw [←List.take_append_drop (k+1) l,sumL_app,sumL_succ hk hs,hg]
 rfl
theorem partB (a n d:Int):-17592186044417≤(partS a n d).1∧(partS a n d).1≤17592186044417:=by
 unfold partS
 split
 ·rename_i h
  have hb:=mulb h.1 h.2.2.2.1 (by have:=h.2.2.1;have:=h.2.2.2.2.1;omega)
  have:=roundS_bd (n:=64*a*n) (d:=d) (m:=17592186044416) h.2.1 (by omega) (by omega) (by omega)
  dsimp only;omega
 ·simp
theorem part1 (a:Int):partS a 1 1=if SM a then (64*a,true) else (0,false):=by
 have h1:RS 1 1:=⟨by omega,by omega,by omega,by omega,by rw [gcdI_pos (by omega),gcdI_neg (by decide)]⟩
 unfold partS
 by_cases h:SM a
 ·rw [if_pos ⟨h,h1⟩,if_pos h]
  simp [roundS,Int.emod_one]
 ·rw [if_neg (fun q=>h q.1),if_neg h]
theorem sumN {base:Int} {l:List (Int×Int)} {rs:List (List T3)} {a:List Int} (h:¬(SM base∧CL a∧l.length≤8)):sumS base l rs a=(0,false):=if_neg h
theorem b76 {base:Int} {l:List (Int×Int)} {rs:List (List T3)} {a:List Int} (hb:R base) (hl:l.length≤9223372036854775807) (ha:a.length≤9223372036854775807) (hrs:∀ r∈rs,r.length≤9223372036854775807):Best Tryz.prog 76 [.int .i64 base,.sl 2 (l.map pRow),.sl 1 (rs.map regRow),.sl 1 (a.map intRow)] (.p (.tup [.int .i64 (sumS base l rs a).1,.bool (sumS base l rs a).2])):=by
 refine best mixed fn76 ok76 (by simp) ?_
 simp -dsimp [ac76]
 refine call_p (b113 (a:=base) (n:=1) (d:=1) (by simp [R]) (by simp [R])) rfl (by simp) ?_
 rw [part1]
 by_cases h1:SM base
 rotate_left
 ·have:=sumN (l:=l) (rs:=rs) (a:=a) (fun h=>h1 h.1)
  simp -dsimp [h1,this]
 simp -dsimp [h1]
 refine call_p (b114 a) rfl (by simp) ?_
 by_cases h2:CL a
 rotate_left
 ·have:=sumN (base:=base) (l:=l) (rs:=rs) (fun h=>h2 h.2.1)
  simp -dsimp [h2,this]
 by_cases h3:(8:Int)<l.length
 ·have:=sumN (base:=base) (rs:=rs) (a:=a) (l:=l) (fun h=>by have:=h.2.2;omega)
  simp -dsimp [h2,h3,this]
 simp -dsimp [h2,h3]
 refine loopC l.length (fun k=>⟨[(2,.p (.sl 1 (rs.map regRow))),(3,.p (.sl 1 (a.map intRow))),(10,.p (.int .i64 ((sumL rs a (64*base) (l.take k)).getD 0))),(34,.p (.sl 2 (l.map pRow))),(35,.p (.int .i64 l.length)),(36,.p (.int .i64 k))],[]⟩) (fun k=>∃ s,sumL rs a (64*base) (l.take k)=some s∧-17592186044417*(k+1)≤s∧s≤17592186044417*(k+1)) (fun k hk hQ=>?_) ⟨64*base,by simp [sumL],by have:=h1.1;omega,by have:=h1.2;omega⟩ (by simp [sumL])
 obtain ⟨s,hs,hs1,hs2⟩:=hQ
 by_cases h:k<l.length
 ·obtain ⟨⟨g,y⟩,ex⟩:∃ x,l[k]=x:=⟨_,rfl⟩
  have hx:l[k]?=some (g,y):=by rw [List.getElem?_eq_getElem h,ex]
  have w:R ((k:Int)+1):=⟨by omega,by omega⟩
  have hsu:=sumL_succ hx hs
  have no:growS rs a (g,y)=none→sumS base l rs a=(0,false):=fun hg=>by
   unfold sumS;rw [if_pos ⟨h1,h2,by omega⟩,sumL_fail hx hs hg]
  by_cases q1:g<0
  ·have:=no (if_neg fun h=>by have:=h.1;dsimp only at this;omega)
   simp -dsimp [h,ex,pRow,hs,q1,this]
  by_cases q2:(rs.length:Int)≤g
  ·have:=no (if_neg fun h=>by have:=h.2.1;dsimp only at this;omega)
   simp -dsimp [h,ex,pRow,hs,q1,q2,this]
  obtain ⟨m,rfl⟩:=Int.eq_ofNat_of_zero_le (by omega:0≤g)
  have hm:m<rs.length:=by omega
  obtain ⟨r,er⟩:∃ x,rs[m]=x:=⟨_,rfl⟩
  have hmem:r∈rs:=by rw [←er];simp
  have hgd:rs.getD m []=r:=by simp [List.getD,hm,er]
  have hgr:growS rs a (m,y)=if RI r a.length∧(partS y (scaS r a).1 (scaS r a).2).2=true then some (partS y (scaS r a).1 (scaS r a).2).1 else none:=by
   unfold growS
   have c1:(0:Int)≤(m:Int):=by omega
   have c2:(m:Int)<rs.length:=by omega
   simp only [Int.toNat_natCast,hgd,c1,c2,true_and]
  have hpb:=partB y (scaS r a).1 (scaS r a).2
  have hpart:=b113 (a:=y) (scaS_R r a).1 (scaS_R r a).2
  have hmem':=b116 r a (hrs _ hmem)
  have q1':¬(m:Int)<0:=by omega
  have hri:=b115 r a.length (hrs _ hmem)
  have nl:¬((rs.length:Int)≤m):=by omega
  have nl':¬(rs.length≤m):=by omega
  simp -dsimp [h,ex,pRow,hs,q1',nl',hm,er,regRow]
  refine call_p hri rfl (by simp) ?_
  by_cases q3:RI r a.length
  rotate_left
  ·have:=no (by rw [hgr,if_neg fun h=>q3 h.1])
   simp -dsimp [q3,this]
  simp -dsimp [q3,hm,er,regRow]
  refine call_p hmem' rfl (by simp) ?_
  simp -dsimp
  generalize scaS r a=u at *
  refine call_p hpart rfl (by simp) ?_
  generalize partS y u.1 u.2=z at *
  obtain ⟨z1,z2⟩:=z
  cases z2 with
  | false=>
   have:=no (by rw [hgr,if_neg fun h=>by simp at h])
   simp -dsimp [this]
  | true=>
   rw [if_pos ⟨q3,rfl⟩] at hgr
   rw [hgr] at hsu
   dsimp only [Option.map_some] at hsu hpb
   have wz:R (s+z1):=⟨by omega,by omega⟩
   simp -dsimp [wr w,wr wz,hsu,h]
   omega
 ·have:k=l.length:=by omega
  subst this
  have hs':=hs
  rw [List.take_length] at hs'
  have:sumS base l rs a=(s,true):=by
   unfold sumS;rw [if_pos ⟨h1,h2,by omega⟩,hs']
  simp -dsimp [hs',this]
theorem b82 {base:Int} {l:List (Int×Int)} {rs:List (List T3)} {a:List Int} (hb:R base) (hl:l.length≤9223372036854775807) (ha:a.length≤9223372036854775807) (hrs:∀ r∈rs,r.length≤9223372036854775807):Best Tryz.prog 82 [.int .i64 base,.sl 2 (l.map pRow),.sl 1 (rs.map regRow),.sl 1 (a.map intRow)] (.p (.tup [.int .i64 (sumS base l rs a).1,.bool (sumS base l rs a).2])):=by
 refine best mixed fn82 ok82 (by simp) ?_
 simp -dsimp [ac82]
 refine call_p (b120' base) rfl (by simp) ?_
 simp -dsimp
 refine call_p (b80 a ha) rfl (by simp) ?_
 by_cases h1:SM base
 rotate_left
 ·have:=sumN (l:=l) (rs:=rs) (a:=a) (fun h=>h1 h.1)
  simp -dsimp [h1,this]
 by_cases h2:CL a
 rotate_left
 ·have:=sumN (base:=base) (l:=l) (rs:=rs) (fun h=>h2 h.2.1)
  simp -dsimp [h1,h2,this]
 by_cases h3:(8:Int)<l.length
 ·have:=sumN (base:=base) (rs:=rs) (a:=a) (l:=l) (fun h=>by have:=h.2.2;omega)
  simp -dsimp [h1,h2,h3,this]
 have w0:R (64*base):=⟨by have:=h1.1;omega,by have:=h1.2;omega⟩
 simp -dsimp [h1,h2,h3,wr w0]
 refine loopC l.length (fun k=>⟨[(1,.p (.sl 2 (l.map pRow))),(2,.p (.sl 1 (rs.map regRow))),(3,.p (.sl 1 (a.map intRow))),(12,.p (.int .i64 ((sumL rs a (64*base) (l.take k)).getD 0))),(13,.p (.int .i64 k))],[]⟩) (fun k=>∃ s,sumL rs a (64*base) (l.take k)=some s∧-17592186044417*(k+1)≤s∧s≤17592186044417*(k+1)) (fun k hk hQ=>?_) ⟨64*base,by simp [sumL],by have:=h1.1;omega,by have:=h1.2;omega⟩ (by simp [sumL])
 obtain ⟨s,hs,hs1,hs2⟩:=hQ
 by_cases h:k<l.length
 ·obtain ⟨⟨g,y⟩,ex⟩:∃ x,l[k]=x:=⟨_,rfl⟩
  have hx:l[k]?=some (g,y):=by rw [List.getElem?_eq_getElem h,ex]
  have w:R ((k:Int)+1):=⟨by omega,by omega⟩
  have hsu:=sumL_succ hx hs
  have no:growS rs a (g,y)=none→sumS base l rs a=(0,false):=fun hg=>by
   unfold sumS;rw [if_pos ⟨h1,h2,by omega⟩,sumL_fail hx hs hg]
  by_cases q1:g<0
  ·have:=no (if_neg fun h=>by have:=h.1;dsimp only at this;omega)
   simp -dsimp [h,ex,pRow,hs,q1,this]
  by_cases q2:(rs.length:Int)≤g
  ·have:=no (if_neg fun h=>by have:=h.2.1;dsimp only at this;omega)
   simp -dsimp [h,ex,pRow,hs,q1,q2,this]
  obtain ⟨m,rfl⟩:=Int.eq_ofNat_of_zero_le (by omega:0≤g)
  have hm:m<rs.length:=by omega
  obtain ⟨r,er⟩:∃ x,rs[m]=x:=⟨_,rfl⟩
  have hmem:r∈rs:=by rw [←er];simp
  have hgd:rs.getD m []=r:=by simp [List.getD,hm,er]
  have hgr:growS rs a (m,y)=if RI r a.length∧(partS y (scaS r a).1 (scaS r a).2).2=true then some (partS y (scaS r a).1 (scaS r a).2).1 else none:=by
   unfold growS
   have c1:(0:Int)≤(m:Int):=by omega
   have c2:(m:Int)<rs.length:=by omega
   simp only [Int.toNat_natCast,hgd,c1,c2,true_and]
  have hpb:=partB y (scaS r a).1 (scaS r a).2
  have hpart:=b122 (a:=y) (scaS_R r a).1 (scaS_R r a).2
  have hmem':=b123 r a ha
  have q1':¬(m:Int)<0:=by omega
  have hri:=b121 r a.length
  have nl:¬((rs.length:Int)≤m):=by omega
  have nl':¬(rs.length≤m):=by omega
  simp -dsimp [h,ex,pRow,hs,q1',nl',hm,er,regRow]
  refine call_p hri rfl (by simp) ?_
  simp -dsimp [h,ex,pRow]
  refine call_p hmem' rfl (by simp) ?_
  simp -dsimp
  generalize scaS r a=u at *
  refine call_p hpart rfl (by simp) ?_
  by_cases q3:RI r a.length
  rotate_left
  ·have:=no (by rw [hgr,if_neg fun h=>q3 h.1])
   simp -dsimp [q3,this]
  generalize partS y u.1 u.2=z at *
  obtain ⟨z1,z2⟩:=z
  cases z2 with
  | false=>
   have:=no (by rw [hgr,if_neg fun h=>by simp at h])
   simp -dsimp [q3,this]
  | true=>
   rw [if_pos ⟨q3,rfl⟩] at hgr
   rw [hgr] at hsu
   dsimp only [Option.map_some] at hsu hpb
   have wz:R (s+z1):=⟨by omega,by omega⟩
   simp -dsimp [q3,wr w,wr wz,hsu,h]
   omega
 ·have:k=l.length:=by omega
  subst this
  have hs':=hs
  rw [List.take_length] at hs'
  have:sumS base l rs a=(s,true):=by
   unfold sumS;rw [if_pos ⟨h1,h2,by omega⟩,hs']
  simp -dsimp [hs',this]
end Go.Abs.A29
namespace Go.Abs.A29
open Go Go.Abs Go.Proofs
set_option maxRecDepth 100000
set_option linter.unusedVariables false
set_option linter.unusedSimpArgs false
attribute [local simp ↓] awp_skip awp_seq awp_cond awp_block awp_exit awp_ret awp_reg awp_draw awp_ghost awp_loop awp_rfun awpR_nil awpR_cons awpX_nil awpX_0 awpX_1 awpX_2 awpI_eq awpI_t awpI_f awpStep_eq
attribute [local simp] condL_true condL_false condL_dec evDel evV evN evS evA initFr Ghost.app Fr.var Fr.blk Fr.ff FF.val Abs.look Fr.app Fr.erase Fr.noSlot AV.noSlot AV.noSlotL Blk.noSlot Fr.spoken AV.fz AV.fzL Blk.fz binV binI shI binS unV fillA FF.parts FF.vals headO intO boundO lenV scalarEq leavesEq AV.aggc AV.cells FF.read FF.rows AV.one PV.one chunk freshB newS pickV retK evRs evRl evR resOf mkTup mkAgg allP cloOf okP_nil okX_p okX okP addN Del.noSlot Del.owners Rnd reify_p normM insM Fr.back Fr.backV Fr.setPs normV insV
attribute [local simp] renF Fr.trim Blk.trim AV.rn AV.rnL Blk.rn AV.among AV.amongL Blk.among okF retM fixS BIG initFF
attribute [local simp] FF.reify FF.reifyL PV.flat
attribute [local simp] ym yn yl yk yb yc yf yj yh qp qe qi qo qg qa qk qz qm ql qt qf qj qn qb qc qs qr qq qd
section
def andS (x:Int):Int:=((BitVec.ofInt 64 x &&& BitVec.ofInt 64 65535).toNat:Nat)
theorem andS_bd (x:Int):0≤andS x∧andS x≤65535:=by
 unfold andS
 refine ⟨by omega,?_⟩
 have:(BitVec.ofInt 64 x &&& BitVec.ofInt 64 65535).toNat≤65535:=by
  rw [BitVec.toNat_and]
  exact Nat.le_trans Nat.and_le_right (by decide)
 omega
def numS (l:List Int) (k:Nat):Int:=match l[k]? with
 | some x=>andS x
 | none=>0
theorem numS_bd (l:List Int) (k:Nat):0≤numS l k∧numS l k≤65535:=by
 unfold numS
 cases l[k]? with
 | some x=>exact andS_bd x
 | none=>simp
theorem and_wrap (x:Int):IntKind.i64.wrap ((BitVec.ofInt IntKind.i64.bits x &&& BitVec.ofInt IntKind.i64.bits 65535).toNat)=andS x:=by
 have h:=andS_bd x
 exact wr (n:=andS x) ⟨by omega,by omega⟩
theorem b58 (l:List Int) (k:Nat):Best Tryz.prog 58 [.sl 1 (l.map intRow),.int .i64 k] (.p (.int .i64 (numS l k))):=by
 refine best mixed fn58 ok58 (by simp) ?_
 by_cases h:k<l.length
 ·obtain ⟨x,ex⟩:∃ x,l[k]=x:=⟨_,rfl⟩
  have hx:l[k]?=some x:=by rw [List.getElem?_eq_getElem h,ex]
  have e:numS l k=andS x:=by unfold numS;rw [hx]
  have ha:=and_wrap x
  simp -dsimp [ac58,h,ex,intRow,e]
  exact ha
 ·have e:numS l k=0:=by unfold numS;rw [List.getElem?_eq_none (by omega)]
  simp -dsimp [ac58,h,e]
def peakS (a:Int):Int:=if a / 129 % 7=2 then 64 else if a / 129 % 7=3 then -64 else if a / 129 % 7=4 then 32 else if a / 129 % 7=5 then -16 else if a / 129 % 7=6 then a % 129 - 64 else 0
def mtS (a b c:Int):T3:=if 0<peakS a then ⟨min (b % 65) (peakS a),peakS a,max (c % 65) (peakS a)⟩ else if peakS a<0 then ⟨min (-(b % 65)) (peakS a),peakS a,max (-(c % 65)) (peakS a)⟩ else ⟨-(b % 65),0,c % 65⟩
theorem mt_def (a b c:Int):mtS a b c=if 0<peakS a then ⟨min (b % 65) (peakS a),peakS a,max (c % 65) (peakS a)⟩ else if peakS a<0 then ⟨min (-(b % 65)) (peakS a),peakS a,max (-(c % 65)) (peakS a)⟩ else ⟨-(b % 65),0,c % 65⟩:=rfl
theorem b132 {a b c:Int} (ha:0≤a) (ha2:a≤65535) (hb:0≤b) (hb2:b≤65535) (hc:0≤c) (hc2:c≤65535):Best Tryz.prog 132 [.int .i64 a,.int .i64 b,.int .i64 c] (.p (.agg (tRow (mtS a b c)))):=by
 refine best mixed fn132 ok132 (by simp) ?_
 have e1:a.tmod 129=a % 129:=Int.tmod_eq_emod_of_nonneg ha
 have e2:a.tdiv 129=a / 129:=Int.tdiv_eq_ediv_of_nonneg ha
 have e3:(a / 129).tmod 7=a / 129 % 7:=Int.tmod_eq_emod_of_nonneg (by omega)
 have e4:b.tmod 65=b % 65:=Int.tmod_eq_emod_of_nonneg hb
 have e5:c.tmod 65=c % 65:=Int.tmod_eq_emod_of_nonneg hc
 have w1:R (a % 129 - 64):=⟨by omega,by omega⟩
 have w2:R (a / 129):=⟨by omega,by omega⟩
 have w3:R (0 - b % 65):=⟨by omega,by omega⟩
 have w4:R (0 - c % 65):=⟨by omega,by omega⟩
 have z1:0 - b % 65=-(b % 65):=by omega
 have z2:0 - c % 65=-(c % 65):=by omega
 have w3':IntKind.i64.wrap (-(b % 65))=-(b % 65):=wr ⟨by omega,by omega⟩
 have w4':IntKind.i64.wrap (-(c % 65))=-(c % 65):=wr ⟨by omega,by omega⟩
 have hp:∀ m:Nat,(m:Int)=a / 129 % 7→([[PV.int .i64 0],[PV.int .i64 0],[PV.int .i64 64],[PV.int .i64 (-64)],[PV.int .i64 32],[PV.int .i64 (-16)],[PV.int .i64 (a % 129 - 64)]]:List (List PV))[m]?=some [.int .i64 (peakS a)]:=by
  intro m hm
  unfold peakS
  rw [←hm]
  match m with
  | 0=>rfl
  | 1=>rfl
  | 2=>rfl
  | 3=>rfl
  | 4=>rfl
  | 5=>rfl
  | 6=>rfl
  | k+7=>omega
 obtain ⟨m,hm⟩:=Int.eq_ofNat_of_zero_le (show 0≤a / 129 % 7 by omega)
 have hp:=hp m hm.symm
 have hm7:(m:Int)<7:=by omega
 have hm7':m<7:=by omega
 have hml:=mt_def a b c
 obtain ⟨hh,hp'⟩:=List.getElem?_eq_some_iff.1 hp
 generalize peakS a=p at *
 by_cases q1:0<p
 ·rw [if_pos q1] at hml
  simp -dsimp [ac132,List.range,List.range.loop,e1,e2,e3,e4,e5,wr w1,wr w2,hm,hm7,hm7',hp,hp',q1,tRow,hml]
 ·rw [if_neg q1] at hml
  by_cases q2:p<0
  ·rw [if_pos q2] at hml
   simp -dsimp [ac132,List.range,List.range.loop,e1,e2,e3,e4,e5,wr w1,wr w2,hm,hm7,hm7',hp,hp',q1,q2,tRow,hml,z1,z2,w3',w4']
  ·rw [if_neg q2] at hml
   simp -dsimp [ac132,List.range,List.range.loop,e1,e2,e3,e4,e5,wr w1,wr w2,hm,hm7,hm7',hp,hp',q1,q2,tRow,hml,z1,z2,w3',w4']
def atS (l:List Int) (k:Nat):Int:=numS l k % 129 - 64
def madeAt (l:List Int) (n:Nat):List Int:=(List.range n).map (atS l)
def partAt (l:List Int) (n k:Nat):List Int:=(List.range n).map fun i=>if i<k then atS l i else 0
theorem partAt_set {l:List Int} {n k:Nat} (h:k<n):(partAt l n k).set k (atS l k)=partAt l n (k+1):=by
 apply List.ext_getElem?
 intro i
 rw [List.getElem?_set]
 by_cases hi:k=i
 ·subst hi;simp [partAt,h]
 ·rw [if_neg hi]
  by_cases hn:i<n
  ·simp only [partAt,List.getElem?_map,List.getElem?_range hn,Option.map_some]
   congr 1
   by_cases h1:i<k
   ·rw [if_pos h1,if_pos (by omega)]
   ·rw [if_neg h1,if_neg (by omega)]
  ·rw [List.getElem?_eq_none (by simp [partAt];omega),List.getElem?_eq_none (by simp [partAt];omega)]
theorem partAt_len {l:List Int} {n k:Nat}:(partAt l n k).length=n:=by simp [partAt]
theorem atS_bd (l:List Int) (k:Nat):-64≤atS l k∧atS l k≤64:=by unfold atS;omega
theorem b22 (l:List Int) (n:Nat) (hn:n<1000000):Best Tryz.prog 22 [.sl 1 (l.map intRow),.int .i64 n] (.p (.sl 1 ((madeAt l n).map intRow))):=by
 refine best mixed fn22 ok22 (by simp) ?_
 have c1:(8:Int)*n≤281474976710656:=by omega
 have c2:(n:Int)≤9223372036854775807:=by omega
 have c3:List.replicate n [PV.int .i64 0]=(partAt l n 0).map intRow:=by
  simp [partAt,intRow,List.map_const',Function.comp_def]
 have c4:(n:Int)*8≤281474976710656:=by omega
 simp -dsimp [ac22,c1,c2,c3,c4]
 refine loopC n (fun k=>⟨[(0,.p (.sl 1 (l.map intRow))),(1,.p (.int .i64 n)),(5,.ref (8,0) 1 0 n),(6,.p (.int .i64 k))],[((8,0),.sl 3 1 ((partAt l n k).map intRow))]⟩) (fun _=>True) (fun k hk _=>?_) trivial (by simp)
 by_cases h:k<n
 ·have w:R ((k:Int)+1):=⟨by omega,by omega⟩
  have hb:=numS_bd l k
  have e1:(numS l k).tmod 129=numS l k % 129:=Int.tmod_eq_emod_of_nonneg hb.1
  have w1:R (numS l k % 129 - 64):=⟨by omega,by omega⟩
  have ea:numS l k % 129 - 64=atS l k:=rfl
  have e2:∀ p:Int,(partAt l n k)[k]?=some ((partAt l n k)[k]'(by rw [partAt_len];exact h)):=fun _=>List.getElem?_eq_getElem _
  have hset:((partAt l n k).map intRow).set k (intRow (atS l k))=(partAt l n (k+1)).map intRow:=by
   rw [←List.map_set,partAt_set h]
  simp -dsimp [h]
  refine call_p (b58 l k) rfl (by simp) ?_
  have hl:k<(partAt l n k).length:=by rw [partAt_len];exact h
  have ht:∀ x,(intRow x).tail=[]:=fun _=>rfl
  have w5:R (atS l k):=by rw [←ea];exact w1
  simp -dsimp [e1,wr w5,ea,h,hl,partAt_len,wr w,ht]
  exact hset
 ·have:k=n:=by omega
  subst this
  have:partAt l k k=madeAt l k:=by
   unfold partAt madeAt
   apply List.map_congr_left
   intro i hi
   rw [if_pos (by simpa using hi)]
  have hlen:(madeAt l k).length=k:=by simp [madeAt]
  simp -dsimp [this,hlen]
  exact List.take_of_length_le (by simp [hlen])
theorem Best.res {P:Program} {f:FuncId} {ps:List PV} {v v':PV} (h:∀ S x,PRel S v x→PRel S v' x) (b:Best P f ps (.p v)):Best P f ps (.p v'):=
 ⟨b.1,fun S w xs hS hx=>(b.2 S w xs hS hx).mono fun e w' ⟨x,S',h1,h2,h3,h4,h5,h6⟩=>⟨x,S',h1,h2,h3,h4,h5,h S' x h6⟩⟩
theorem agg_nsl {S:Snap} {x:Value} (n:Nat) (h:PRel S (.agg [.nsl]) x):PRel S (.agg [.sl n []]) x:=by
 cases h with
 | agg cells vs hl hh=>
  match vs,hl with
  | [v],_=>
   refine .agg _ [v] rfl fun j p u e1 e2=>?_
   match j with
   | 0=>simp at e1 e2;subst e1 e2;exact (hh 0 _ _ rfl rfl).nsl_sl n
   | j+1=>simp at e1
def regT (l:List Int) (k:Nat):T3:=mtS (numS l (3*k)) (numS l (3*k+1)) (numS l (3*k+2))
def madeReg (l:List Int) (n:Nat):List T3:=(List.range n).map (regT l)
theorem madeReg_succ (l:List Int) (n:Nat):madeReg l (n+1)=madeReg l n++[regT l n]:=by simp [madeReg,List.range_succ]
theorem madeReg_len (l:List Int) (n:Nat):(madeReg l n).length=n:=by simp [madeReg]
theorem oneT (z:List T3):((z.map tRow).all fun r=>r.all PV.one)=true:=by
 rw [List.all_eq_true];intro x hx
 simp only [List.mem_map] at hx
 obtain ⟨t,_,rfl⟩:=hx
 rfl
theorem one1 (x:T3):([tRow x].all fun r=>r.all PV.one)=true:=oneT [x]
def regV:Nat→AV
 | 0=>.p .nsl
 | k+1=>.ref (31,k) 3 0 (k+1)
def regM (l:List Int):Nat→List (Slot×Blk)
 | 0=>[]
 | k+1=>[((31,k),.sl 176 3 ((madeReg l (k+1)).map tRow))]
theorem wl0:IntKind.i64.wrap 0=0:=wr ⟨by omega,by omega⟩
theorem wl1:IntKind.i64.wrap 1=1:=wr ⟨by omega,by omega⟩
theorem wl2:IntKind.i64.wrap 2=2:=wr ⟨by omega,by omega⟩
theorem mtR (x:T3):tRow x=[.int .i64 x.f,.int .i64 x.p,.int .i64 x.t]:=rfl
theorem b95' (l:List Int) (n:Nat) (hn:n<1000):awp Tryz.prog ac95 (retK [.cell 4 true 1] (.p (.agg [if n=0 then .nsl else .sl 3 ((madeReg l n).map tRow)]))) (initFr [.sl 1 (l.map intRow),.int .i64 n]):=by
 simp -dsimp [ac95]
 refine loopC n (fun k=>⟨[(0,.p (.sl 1 (l.map intRow))),(1,.p (.int .i64 n)),(4,.ptr (4,0) 1 0 0),(5,.ptr (5,0) 1 0 0),(6,.p (.int .i64 k))],((4,0),.box [.p .nsl]) :: ((5,0),.box [regV k]) :: regM l k⟩) (fun _=>True) (fun k hk _=>?_) trivial (by simp [regV,regM])
 by_cases h:k<n
 ·have w:R ((k:Int)+1):=⟨by omega,by omega⟩
  have h1:=b58 l (3*k)
  rw [show ((3*k:Nat):Int)=3*(k:Int) by omega] at h1
  have h2:=b58 l (3*k+1)
  rw [show ((3*k+1:Nat):Int)=3*(k:Int)+1 by omega] at h2
  have h3:=b58 l (3*k+2)
  rw [show ((3*k+2:Nat):Int)=3*(k:Int)+2 by omega] at h3
  have n1:=numS_bd l (3*k)
  have n2:=numS_bd l (3*k+1)
  have n3:=numS_bd l (3*k+2)
  have h4:=b132 n1.1 n1.2 n2.1 n2.2 n3.1 n3.2
  rw [show mtS (numS l (3*k)) (numS l (3*k+1)) (numS l (3*k+2))=regT l k from rfl] at h4
  have w1:R (3*(k:Int)):=⟨by omega,by omega⟩
  have w2:R (3*(k:Int)+1):=⟨by omega,by omega⟩
  have w3:R (3*(k:Int)+2):=⟨by omega,by omega⟩
  have hs:=madeReg_succ l k
  have hl:=madeReg_len l k
  have o1:=one1 (regT l k)
  generalize numS l (3*k)=y1 at *
  generalize numS l (3*k+1)=y2 at *
  generalize numS l (3*k+2)=y3 at *
  generalize regT l k=x at *
  obtain ⟨x1,x2,x3⟩:=x
  cases k with
  | zero=>
   have hs':madeReg l 1=[⟨x1,x2,x3⟩]:=by simpa [madeReg] using hs
   simp -dsimp [regV,regM,h,wl0,wl1,wl2]
   refine call_p h1 (by simp) (by simp) ?_
   simp -dsimp [wl0,wl1,wl2]
   refine call_p h2 (by simp [wl0,wl1,wl2]) (by simp) ?_
   simp -dsimp [wl0,wl1,wl2]
   refine call_p h3 (by simp [wl0,wl1,wl2]) (by simp) ?_
   simp -dsimp [wl0,wl1,wl2]
   refine call_p h4 (by simp) (by simp) ?_
   simp -dsimp [wl0,wl1,wl2,mtR,List.range,List.range.loop,maxLen,hs',h]
   exact ⟨rfl,by simp [regM,hs',mtR]⟩
  | succ k=>
   simp only [Int.natCast_add,Int.natCast_one] at w w1 w2 w3 h1 h2 h3
   have hl2:((madeReg l (k+1)).map tRow).length=k+1:=by simp [hl]
   have hmax:k+1+1≤maxLen:=by unfold maxLen;omega
   have hby:(k+1+1)*24≤140737488355328:=by omega
   have hi:(k:Int)+1<n:=by omega
   simp -dsimp [regV,regM,h,hi,wr w1]
   refine call_p h1 (by simp) (by simp) ?_
   simp -dsimp [wr w1,wr w2]
   refine call_p h2 (by simp) (by simp) ?_
   simp -dsimp [wr w1,wr w3]
   refine call_p h3 (by simp) (by simp) ?_
   simp -dsimp
   refine call_p h4 (by simp) (by simp) ?_
   simp -dsimp [mtR,List.range,List.range.loop,hl2,hmax,hby,hs,h]
   exact ⟨wr w,rfl,by simp only [regM,hs,List.map_append];rfl⟩
 ·have:k=n:=by omega
  subst this
  have hl:=madeReg_len l k
  cases k with
  | zero=>simp -dsimp [regV,regM]
  | succ k=>
   have ht:List.take (k+1) ((madeReg l (k+1)).map tRow)=(madeReg l (k+1)).map tRow:=List.take_of_length_le (by simp [hl])
   have hi:¬(k:Int)+1<(k:Int)+1:=by omega
   simp -dsimp [regV,regM,hi,hl,ht]
theorem b95 (l:List Int) (n:Nat) (hn:n<1000):Best Tryz.prog 95 [.sl 1 (l.map intRow),.int .i64 n] (.p (.agg [.sl 3 ((madeReg l n).map tRow)])):=by
 have h:=best mixed fn95 ok95 (by simp) (b95' l n hn)
 by_cases h0:n=0
 ·subst h0
  rw [if_pos rfl] at h
  exact Best.res (fun S x hx=>agg_nsl 3 hx) h
 ·rwa [if_neg h0] at h
end
end Go.Abs.A29
