/- A part of the proof: an abstract reading of the model, contracts of functions. -/
import Derived.Test.YtlkbeomimbohlaaGreatC22
import Derived.Test.YtlkbeomimbohlaaGreatChecked
import Derived.Lib.Builder
import Derived.Lib.AppendStr
import Derived.Lib.Walk
import Derived.Lib.UnsafeStr
import Derived.WalkKit
import Derived.Laws.Externs
import Derived.Laws.IdiomCopy
import Derived.Shelf.RegionOpenPlain
import Derived.Shelf.Strings.Repeat
import Derived.Test.YtlkbeomimbohlaaGreatProg
set_option linter.unusedVariables false
set_option linter.unusedSimpArgs false
namespace Go.Proofs
open Go Go.RowKit
set_option maxRecDepth 100000
set_option maxHeartbeats 2000000
theorem Tryz.copyCheck_used (b:Nat) (w:World) (h0:w.cell? ⟨b,0,none⟩=some (.pointer (some ⟨b,0,none⟩))) :
  Calls Tryz.prog 85 #[.pointer (some ⟨b,0,none⟩)] w fun e w'=>e=.returned (.tuple #[])∧w'=w:=by
 have hj:(Tryz.prog.info? 98).isSome=true:=by kernel_rfl
 obtain ⟨j,hj⟩:=Option.isSome_iff_exists.1 hj
 go_enter Tryz.func85,Tryz.ntmps85
 go_wp2
 rw [Lib.run_neq_ptr_same w _ (by kernel_rfl) hj]
 go_wp2
 go_end0
 exact ⟨rfl,rfl⟩
theorem lies0 {P:Program} {e:TypeId} (hc:P.cellsOf e≠0) (count:Nat) (hn:1≤count):liesAt P P.depth e count 0 e 1=true:=by
 have hd:P.depth=(2*(P.types.size+Made.depth)+1)+1:=rfl
 rw [hd]
 simp only [liesAt,Bool.or_eq_true]
 left
 rw [hd]
 simp [rowAt,hn,hc,sameLayout]
theorem Tryz.copyCheck_fresh (b:Nat) (w:World) (h0:w.cell? ⟨b,0,none⟩=some (.pointer none)) (n:Nat) (hsh:w.shape? b=some (98,n)) (hn:2≤n) (hfz:w.frozen? ⟨b,0,none⟩=false) :
  Calls Tryz.prog 85 #[.pointer (some ⟨b,0,none⟩)] w fun e w'=>e=.returned (.tuple #[])∧w'=w.setCell ⟨b,0,none⟩ (.pointer (some ⟨b,0,none⟩)):=by
 have hj:(Tryz.prog.info? 98).map (·.size)=some 2:=by kernel_rfl
 obtain ⟨j,hj,hjs⟩:=Option.map_eq_some_iff.1 hj
 go_enter Tryz.func85,Tryz.ntmps85
 go_wp2
 rw [Lib.run_to_unsafe w ⟨b,0,none⟩ (t:=98) (by kernel_rfl) (by kernel_rfl) hj (by rw [hjs];decide) hsh (by dsimp only;omega)]
 simp only [Result.andThen]
 rw [Oper.upon_value]
 go_wp2
 rw [run_callFunc_extern Tryz.func135 (by kernel_rfl) (by kernel_rfl) (by kernel_rfl) (e:=Extern.AbiNoEscape.same) (by kernel_rfl)]
 rw [Lib.run_noEscape]
 simp only [Result.andThen]
 rw [Oper.upon_value]
 go_wp2
 rw [Lib.run_from_unsafe w ⟨b,0,none⟩ (u:=98) (by kernel_rfl) (by kernel_rfl) hj hsh (by
  have hc:Tryz.prog.cellsOf 98=2:=by kernel_rfl
  exact lies0 (by rw [hc];decide) _ (by rw [hc];omega))]
 simp only [Result.andThen]
 rw [Oper.upon_value]
 go_wp2
 go_end0
 exact ⟨rfl,rfl⟩
structure Kx (b:Nat) (r:Option Nat) (w w':World):Prop where
 os:w'.os=w.os
 tape:w'.tape=w.tape
 output:w'.output=w.output
 size:w.heap.size≤w'.heap.size
 block:∀ k,k<w.heap.size→k≠b→r≠some k→w'.heap[k]?=w.heap[k]?
def OwnR (w:World) (e:TypeId) (v:Value) (n:Nat) (xs:List Value):Prop:=
 xs.length=n∧((v=.slice none 0 0∧n=0)∨∃ g cap cur,v=.slice (some ⟨g,0,none⟩) n cap∧w.heap[g]?=some (.cells cur e (0,0))∧n≤cap∧cap≤cur.size∧cur.size≤maxLen∧cur.toList.take n=xs)
theorem OwnR.same {w w':World} {e:TypeId} {v:Value} {n:Nat} {xs:List Value} (h:OwnR w e v n xs) (hh:∀ g,v.ownBlock=some g→w'.heap[g]?=w.heap[g]?):OwnR w' e v n xs:=by
 obtain ⟨h1,h2⟩:=h
 refine ⟨h1,h2.imp id ?_⟩
 rintro ⟨g,cap,cur,rfl,q,r⟩
 exact ⟨g,cap,cur,rfl,(hh g rfl).trans q,r⟩
theorem OwnR.of {w:World} {e:TypeId} {v:Value} {n:Nat} {xs:List Value} {B:Nat} (h:w.ownsRow B e 1 v n xs):OwnR w e v n xs:=by
 obtain ⟨h1,h2⟩:=h
 refine ⟨by simpa using h1,h2.imp id ?_⟩
 rintro ⟨g,cap,cur,hv,_,hg,a,b,c,d⟩
 exact ⟨g,cap,cur,hv,hg,a,by omega,by omega,by simpa using d⟩
theorem app_str {P:Program} (w:World) (t u ty e:TypeId) (i:TypeInfo) (ht:P.underlying t=some (.slice e)) (hu:P.underlying u=some .string) (hi:P.info? e=some i) (hz:i.zero=some (.int .u8 0))
  (hsize:i.size=1) (hby:i.bytes=1) (v:Value) (n:Nat) (xs:List Value) (hown:OwnR w e v n xs) (s:ByteArray) (hb:n+s.size≤140737488355328) :
  ∃ v' w',(Builtin.append_ #[t,u] ty #[v,.string s]).run P w=.ok v' w'∧OwnR w' e v' (n+s.size) (xs++Lib.strCells s)∧w.grownBy w' v.ownBlock ∧
   ∀ g,v'.ownBlock=some g→v.ownBlock=some g∨w.heap.size≤g:=by
 have h63:n+s.size≤maxLen:=by unfold maxLen;omega
 have hxl:=hown.1
 rcases hown.2 with ⟨rfl,rfl⟩ | ⟨g0,cap,cur,rfl,hg0,hnc,hcc,hcm,htake⟩
 ·have hx:xs=[]:=List.eq_nil_of_length_eq_zero hxl
  subst hx
  obtain ⟨v2,w2,e1,e2,e3,_⟩:=Lib.run_append_own_string (P:=P) w w.heap.size t u ty e i ht hu hi hz hsize hby (.slice none 0 0) 0 [] (World.ownsRow_nil _ _ _ _) s h63 hb (Nat.le_refl _)
  refine ⟨v2,w2,e1,.of e2,e3,fun g hg=>?_⟩
  rcases e2.2 with ⟨q,_⟩ | ⟨g1,_,_,q,q2,_⟩
  ·rw [q] at hg;simp [Value.ownBlock] at hg
  ·rw [q] at hg;simp [Value.ownBlock] at hg;subst hg;exact .inr q2
 ·by_cases hroom:n+s.size≤cap
  ·refine ⟨_,_,Lib.run_append_room_string (P:=P) w t u ty e i ht hu hi hsize g0 n cap cur hg0 s hroom (by omega),⟨by simp [hxl,Lib.strCells_length],.inr ⟨g0,cap,_,rfl,setRow_heap w g0 cur _ e _ hg0,hroom,?_,?_,?_⟩⟩,⟨rfl,rfl,rfl,by simp,fun k _ hk=>setRow_other w g0 k _ (fun e=>hk (by simp [Value.ownBlock,e]))⟩,fun g hg=>.inl hg⟩
   ·simp only [List.size_toArray,List.length_append,List.length_take,List.length_drop,Array.length_toList,Lib.strCells_length];omega
   ·simp only [List.size_toArray,List.length_append,List.length_take,List.length_drop,Array.length_toList,Lib.strCells_length];omega
   ·have hlen:(xs++Lib.strCells s).length=n+s.size:=by simp [hxl,Lib.strCells_length]
    rw [htake,←hlen]
    exact List.take_left
  ·have holds:∀ j u,xs[j]?=some u→w.cell? ((⟨g0,0,none⟩:Addr).add j)=some u:=fun j u q=>by
    rw [←htake,List.getElem?_take] at q
    split at q
    ·have q':cur[j]?=some u:=by simpa using q
     by_cases h:j=0
     ·subst h;simp [Addr.add,World.cell?,hg0,q']
     ·simp [Addr.add,h,World.cell?,hg0,q']
    ·simp at q
   have hge:=grownCap_ge w (n+s.size) cap e
   have hcm2:grownCap w (n+s.size) cap e≤maxLen:=grownCap_le_maxLen w (n+s.size) cap e h63
   have hz1:(Value.int IntKind.u8 0).cells.size=1:=rfl
   refine ⟨_,_,Lib.run_append_grow_string (P:=P) w t u ty e i (.int .u8 0) ht hu hi hz ⟨g0,0,none⟩ n cap xs (by rw [hxl,hsize,Nat.mul_one]) holds s (by omega) (by omega) (by rw [hby];exact growslice_fits (by omega) (by omega)),⟨by simp [hxl,Lib.strCells_length],.inr ⟨w.heap.size,_,_,rfl,heap_alloc_new w.drew _,hge,?_,?_,?_⟩⟩,⟨rfl,rfl,rfl,by simp,fun k hk _=>by exact Lib.alloc_old w.drew _ k hk⟩,fun g hg=>by simp [Value.ownBlock] at hg;exact .inr (by omega)⟩
   ·simp only [Array.size_append,List.size_toArray,size_zeroCells,hz1,hxl,Lib.strCells_length];omega
   ·simp only [Array.size_append,List.size_toArray,size_zeroCells,hz1,hxl,Lib.strCells_length];omega
   ·have hlen:(xs++Lib.strCells s).length=n+s.size:=by simp [hxl,Lib.strCells_length]
    simp only [Array.toList_append,List.append_assoc]
    rw [←List.append_assoc,←hlen]
    exact List.take_left
theorem wp_app_str {P:Program} (w:World) {ops:Array Oper} {rest:List Oper} {o:Oper} {a:Act} {Q:Exit→Act→World→Prop} (hgd:o.guard=none) (sl x:Operand) (t u:TypeId)
  (ho:o.op=.call { callee:=.builtin .append,args:=#[sl,x],argTypes:=#[t,u] })
  (e:TypeId) (i:TypeInfo) (ht:P.underlying t=some (.slice e)) (hu:P.underlying u=some .string) (hi:P.info? e=some i) (hz:i.zero=some (.int .u8 0))
  (hsize:i.size=1) (hby:i.bytes=1) (v:Value) (n:Nat) (xs:List Value) (hs:a.eval sl=v) (hown:OwnR w e v n xs) (s:ByteArray) (hx:a.eval x=.string s) (hb:n+s.size≤140737488355328)
  (h:∀ v' w',OwnR w' e v' (n+s.size) (xs++Lib.strCells s)→w.grownBy w' v.ownBlock→(∀ g,v'.ownBlock=some g→v.ownBlock=some g∨w.heap.size≤g)→wpList P ops Q rest (a.put o.dst v') w'):wpList P ops Q (o :: rest) a w:=by
 refine wpList_plain hgd fun K hK=>?_
 obtain ⟨v',w',hr,h2,h3,h4⟩:=app_str (P:=P) w t u o.type e i ht hu hi hz hsize hby v n xs hown s hb
 unfold Oper.wp execOp
 simp only [ho,resolve,invoke,builtin,Sem.run_bind,Sem.run_pure,Result.andThen_ok,List.map_toArray,List.map_cons,List.map_nil,hs,hx,hr]
 exact hK _ _ (h v' w' h2 h3 h4)
def BuildOk (b:Nat) (p:Value) (T:TypeId):Prop:=(p=.pointer none∧T=98)∨p=.pointer (some ⟨b,0,none⟩)
theorem set_heap {w:World} {b j:Nat} {c:Array Value} {T:TypeId} (h:w.heap[b]?=some (.cells c T (0,0))) (u:Value):(w.setCell ⟨b,j,none⟩ u).heap[b]?=some (.cells (c.setIfInBounds j u) T (0,0)):=by
 simp [World.setCell,Array.getElem?_modify,h]
theorem Tryz.writeString (b:Nat) (p v:Value) (T:TypeId) (c:Array Value) (bs:List Value) (s:ByteArray) (w:World) (hbk:w.heap[b]?=some (.cells c T (0,0))) (h0:c[0]?=some p) (h1:c[1]?=some v) (hp:BuildOk b p T) (hown:OwnR w 5 v bs.length bs) (hne:v.ownBlock≠some b) (hlen:bs.length+s.size≤140737488355328) :
  Calls Tryz.prog 42 #[.pointer (some ⟨b,0,none⟩),.string s] w fun e w'=>e=.returned (.tuple #[.int .i64 s.size,.nilIface]) ∧
   ∃ v' c',w'.heap[b]?=some (.cells c' T (0,0))∧c'.size=c.size∧c'[0]?=some (.pointer (some ⟨b,0,none⟩))∧c'[1]?=some v'∧OwnR w' 5 v' (bs.length+s.size) (bs++Lib.strCells s)∧v'.ownBlock≠some b∧(∀ g,v'.ownBlock=some g→v.ownBlock=some g∨w.heap.size≤g)∧Kx b v.ownBlock w w':=by
 have hlt:b<w.heap.size:=by
  rcases Nat.lt_or_ge b w.heap.size with h' | h'
  ·exact h'
  ·simp [Array.getElem?_eq_none h'] at hbk
 have hc2:2≤c.size:=by
  rcases Nat.lt_or_ge 1 c.size with h' | h'
  ·exact h'
  ·simp [Array.getElem?_eq_none h'] at h1
 have cc:Calls Tryz.prog 85 #[.pointer (some ⟨b,0,none⟩)] w fun e w1=>e=.returned (.tuple #[])∧(∃ c1,w1.heap[b]?=some (.cells c1 T (0,0))∧c1.size=c.size∧c1[0]?=some (.pointer (some ⟨b,0,none⟩))∧c1[1]?=some v)∧OwnR w1 5 v bs.length bs∧Kx b v.ownBlock w w1∧w1.heap.size=w.heap.size:=by
  rcases hp with ⟨rfl,rfl⟩ | rfl
  ·refine (Tryz.copyCheck_fresh b w (by rw [Lib.cell_of_heap hbk];exact h0) c.size (by simp [World.shape?,hbk]) hc2 (Lib.frozen_of_heap hbk 0)).mono ?_
   rintro e w' ⟨rfl,rfl⟩
   refine ⟨rfl,⟨_,set_heap hbk _,by simp,by rw [Array.getElem?_setIfInBounds,if_pos rfl,if_pos (by omega)],by rw [Array.getElem?_setIfInBounds,if_neg (by decide)];exact h1⟩,?_,⟨rfl,rfl,rfl,by simp [World.setCell],fun k _ hk _=>Below.heap_setCell _ _ _ _ (fun e=>hk (by simp [e]))⟩,by simp [World.setCell]⟩
   exact hown.same fun g hg=>Below.heap_setCell _ _ _ _ (fun e=>hne (by rw [hg,e]))
  ·refine (Tryz.copyCheck_used b w (by rw [Lib.cell_of_heap hbk];exact h0)).mono ?_
   rintro e w' ⟨rfl,rfl⟩
   exact ⟨rfl,⟨c,hbk,rfl,h0,h1⟩,hown,⟨rfl,rfl,rfl,Nat.le_refl _,fun _ _ _ _=>rfl⟩,rfl⟩
 have hi:(Tryz.prog.info? 5).map (fun i=>(i.zero,i.size,i.bytes))=some (some (.int .u8 0),1,1):=by kernel_rfl
 obtain ⟨i0,hi,hi2⟩:=Option.map_eq_some_iff.1 hi
 simp only [Prod.mk.injEq] at hi2
 obtain ⟨hz0,hz1,hz2⟩:=hi2
 go_enter Tryz.func42,Tryz.ntmps42
 go_wp2_with (go_at_call 85;refine cc.mono ?_)
 rintro e w1 ⟨rfl,⟨k1,hbk1,hs1,k10,k11⟩,hown1,hkx,hsz⟩
 have c0:w1.cell? ⟨b,0,none⟩=some (.pointer (some ⟨b,0,none⟩)):=by rw [Lib.cell_of_heap hbk1];exact k10
 have c1:w1.cell? ⟨b,1,none⟩=some v:=by rw [Lib.cell_of_heap hbk1];exact k11
 go_wp2_with (at_builtin;refine wp_app_str _ rfl _ _ 96 9 rfl 5 i0 (by kernel_rfl) (by kernel_rfl) hi hz0 hz1 hz2 _ _ _ rfl hown1 s rfl hlen ?_)
 intro v' w2 hown' hgrow hfr
 have hb2:w2.heap[b]?=some (.cells k1 T (0,0)):=by
  rw [hgrow.block b (by omega) (fun e=>hne e.symm)]
  exact hbk1
 have d0:w2.cell? ⟨b,0,none⟩=some (.pointer (some ⟨b,0,none⟩)):=by rw [Lib.cell_of_heap hb2];exact k10
 have d1:w2.cell? ⟨b,1,none⟩=some v:=by rw [Lib.cell_of_heap hb2];exact k11
 have f1:w2.frozen? ⟨b,1,none⟩=false:=Lib.frozen_of_heap hb2 1
 have hne':v'.ownBlock≠some b:=fun e=>by
  rcases hfr b e with q | q
  ·exact hne q
  ·omega
 obtain ⟨ao,n',cap,rfl⟩:∃ ao n' cap,v'=.slice ao n' cap:=by
  rcases hown'.2 with ⟨hv,_⟩ | ⟨g,cap,cur,hv,_⟩
  ·exact ⟨_,_,_,hv⟩
  ·exact ⟨_,_,_,hv⟩
 go_wp2
 go_ret2
 refine ⟨rfl,_,_,set_heap hb2 _,by simp [hs1],by rw [Array.getElem?_setIfInBounds,if_neg (by decide)];exact k10,by rw [Array.getElem?_setIfInBounds,if_pos rfl,if_pos (by omega)],?_,hne',fun g hg=>?_,?_⟩
 ·exact hown'.same fun g hg=>Below.heap_setCell _ _ _ _ (fun e=>hne' (by rw [hg,e]))
 ·rcases hfr g hg with q | q
  ·exact .inl q
  ·exact .inr (by omega)
 ·refine ⟨by rw [World.setCell];exact hgrow.os.trans hkx.os,hgrow.tape.trans hkx.tape,hgrow.output.trans hkx.output,by have:=hgrow.size;simp [World.setCell];omega,fun k hk h1 h2=>?_⟩
  rw [Below.heap_setCell _ _ _ _ (fun e=>h1 (by simp [e]))]
  rw [hgrow.block k (by omega) (fun e=>h2 e.symm)]
  exact hkx.block k hk h1 h2
end Go.Proofs
namespace Go.Proofs
open Go Go.RowKit
set_option maxRecDepth 100000
set_option maxHeartbeats 2000000
theorem Tryz.str_nil (b:Nat) (c:Array Value) (T:TypeId) (w:World) (hbk:w.heap[b]?=some (.cells c T (0,0))) (h1:c[1]?=some (.slice none 0 0)) :
  Calls Tryz.prog 44 #[.pointer (some ⟨b,0,none⟩)] w fun e w'=>e=.returned (.string ⟨#[]⟩)∧w'=w.drew:=by
 have hUS:∀ (W:World) (q:Option Addr),(Builtin.unsafeString_ #[156,3] 9 #[.pointer q,.int .i64 0]).run Tryz.prog W=.ok (.string .empty) W:=fun W q=>Lib.run_unsafeString_none W _ _ _ q
 have c1:w.drew.cell? ⟨b,1,none⟩=some (.slice none 0 0):=by
  have:w.drew.heap[b]?=some (.cells c T (0,0)):=hbk
  rw [Lib.cell_of_heap this];exact h1
 have hSD:(Builtin.unsafeSliceData_ #[96] 156 #[.slice none 0 0]).run Tryz.prog w.drew=.ok (.pointer none) w.drew:=rfl
 have mixed:Tryz.prog.follows .mixedOrders=true:=by kernel_rfl
 go_enter Tryz.func44,Tryz.ntmps44
 go_wp2
 go_region_o
 all_goals (go_wp2;go_ret;exact ⟨rfl,rfl⟩)
theorem Tryz.str_row (b g cap:Nat) (c:Array Value) (T:TypeId) (cur:Array Value) (l:List UInt8) (w:World) (hbk:w.heap[b]?=some (.cells c T (0,0))) (h1:c[1]?=some (.slice (some ⟨g,0,none⟩) l.length cap)) (hg:w.heap[g]?=some (.cells cur 5 (0,0))) (h0:l≠[]) (hcap:cap≠0) (hcur:l.length≤cur.size) (hm:l.length≤9223372036854775807)
  (hcell:∀ (j:Nat) (x:UInt8),l[j]?=some x→cur[j]?=some (Value.int .u8 x.toNat)) :
  Calls Tryz.prog 44 #[.pointer (some ⟨b,0,none⟩)] w fun e w'=>e=.returned (.string ⟨l.toArray⟩)∧w'=w.drew.freeze ⟨g,0,none⟩ l.length:=by
 have c1:w.drew.cell? ⟨b,1,none⟩=some (.slice (some ⟨g,0,none⟩) l.length cap):=by
  have:w.drew.heap[b]?=some (.cells c T (0,0)):=hbk
  rw [Lib.cell_of_heap this];exact h1
 have hSD:(Builtin.unsafeSliceData_ #[96] 156 #[.slice (some ⟨g,0,none⟩) l.length cap]).run Tryz.prog w.drew=.ok (.pointer (some ⟨g,0,none⟩)) w.drew:=
  Lib.run_unsafeSliceData_row _ _ _ _ _ _ hcap
 have hUS:(Builtin.unsafeString_ #[156,3] 9 #[.pointer (some ⟨g,0,none⟩),.int .i64 l.length]).run Tryz.prog w.drew=.ok (.string ⟨l.toArray⟩) (w.drew.freeze ⟨g,0,none⟩ l.length):=by
  refine Lib.run_unsafeString_row w.drew 156 3 9 5 (by kernel_rfl) (by kernel_rfl) g cur.size (by have hg':w.drew.heap[g]?=some (.cells cur 5 (0,0)):=hg;simp [World.shape?,hg']) l h0 hcur hm ?_
  intro j x hx
  have hg':w.drew.heap[g]?=some (.cells cur 5 (0,0)):=hg
  have:=hcell j x hx
  by_cases h:j=0
  ·subst h
   simp [Addr.add,World.cell?,hg',this]
  ·simp [Addr.add,h,World.cell?,hg',this]
 have mixed:Tryz.prog.follows .mixedOrders=true:=by kernel_rfl
 go_enter Tryz.func44,Tryz.ntmps44
 go_wp2
 go_region_o
 all_goals (go_wp2;go_ret;exact ⟨rfl,rfl⟩)
end Go.Proofs
namespace Go.Abs.A30
open Go Go.Abs Go.Proofs
set_option maxRecDepth 100000
set_option linter.unusedVariables false
set_option linter.unusedSimpArgs false
def byR (b:UInt8):List PV:=[.int .u8 b.toNat]
theorem inv_ptr {ι:Inj} {S:Snap} {s:Slot} {size row off:Nat} {x:Value} (h:AVRel ι S (.ptr s size row off) x):∃ b t,ι s=some (b,t)∧x=.pointer (some ⟨b,row*size+off,none⟩):=by
 cases h with
 | ptr _ _ _ _ b t hi=>exact ⟨b,t,hi,rfl⟩
theorem inv_ref {ι:Inj} {S:Snap} {s:Slot} {size off len:Nat} {x:Value} (h:AVRel ι S (.ref s size off len) x):(∃ b total cap a,x=.slice (some a) len cap∧ι s=some (b,total)∧off+cap≤total∧len≤cap∧(cap=0∨a=⟨b,off*size,none⟩))∨len=0:=by
 cases h with
 | ref _ _ _ _ b total cap a hi hc hl ha=>exact .inl ⟨b,total,cap,a,rfl,hi,hc,hl,ha⟩
 | refnil=>exact .inr rfl
theorem cell_blk {w w':World} {a:Addr} (h:w'.heap[a.block]?=w.heap[a.block]?):w'.cell? a=w.cell? a:=by unfold World.cell?;rw [h]
theorem kx_keep {b:Nat} {r:Option Nat} {w w':World} {M:Nat→Prop} (h:Kx b r w w') (hb:M b) (hr:∀ g,r=some g→M g):KeepX M w w':=
 ⟨h.os,h.tape,h.output,h.size,fun k hk hm=>h.block k hk (fun e=>hm (e ▸ hb)) (fun e=>hm (hr k e))⟩
theorem kx_snap {b:Nat} {r:Option Nat} {w w':World} {S:Snap} (h:Kx b r w w') (hS:S.holds w) (hb:∀ x:Addr,x.block=b→S x=none) (hr:∀ g,r=some g→∀ x:Addr,x.block=g→S x=none):S.holds w':=by
 intro a v q
 have hlt:=World.block_lt_of_cell? w a (hS a v q)
 rw [cell_blk (h.block a.block hlt (fun e=>by rw [hb a e] at q;simp at q) (fun e=>by rw [hr _ e a rfl] at q;simp at q))]
 exact hS a v q
theorem strCells_ba (s:List UInt8):Lib.strCells ⟨s.toArray⟩=s.map fun b=>Value.int .u8 b.toNat:=by simp [Lib.strCells]
theorem row_brel {ι:Inj} {S:Snap} {w:World} {sg:Slot} {v:Value} {l:List UInt8} (hl:l≠[]) (h:OwnR w 5 v l.length (l.map fun b=>Value.int .u8 b.toNat)) :
  ∃ g cap cur,v=.slice (some ⟨g,0,none⟩) l.length cap∧w.heap[g]?=some (.cells cur 5 (0,0))∧∀ ι:Inj,ι sg=some (g,cur.size)→AVRel ι S (.ref sg 1 0 l.length) v∧BRel ι S w sg (.sl 5 1 (l.map byR)):=by
 obtain ⟨h1,h2⟩:=h
 rcases h2 with ⟨_,h3⟩ | ⟨g,cap,cur,rfl,hg,hn,hc,hm,ht⟩
 ·exact absurd (List.length_eq_zero_iff.1 h3) hl
 ·refine ⟨g,cap,cur,rfl,hg,fun ι hi=>⟨.ref sg 1 0 l.length g cur.size cap _ hi (by omega) hn (.inr rfl),?_,.inr ⟨g,cur.size,5,cur,hi,hg,rfl,by simp [Blk.size],by simp [Blk.nrows];omega,hm,fun i j av q=>?_⟩⟩⟩
  ·intro i row q
   obtain ⟨b,_,rfl⟩:=List.mem_map.1 (List.mem_of_getElem? q)
   rfl
  ·obtain ⟨p,q1,rfl⟩:=Option.map_eq_some_iff.1 q
   obtain ⟨row,q2,q3⟩:=Option.bind_eq_some_iff.1 q1
   rw [List.getElem?_map] at q2
   obtain ⟨b,q4,rfl⟩:=Option.map_eq_some_iff.1 q2
   cases j with
   | succ j=>simp [byR] at q3
   | zero=>
    simp [byR] at q3
    subst q3
    refine ⟨.int .u8 b.toNat,?_,.p _ _ (.int _ _)⟩
    have e:(l.map fun b=>Value.int .u8 b.toNat)[i]?=some (.int .u8 b.toNat):=by rw [List.getElem?_map,q4];rfl
    rw [←ht,List.getElem?_take] at e
    split at e
    ·simpa [Blk.size] using e
    ·simp at e
theorem fn42x:∃ fn,Tryz.prog.funcs[42]?=some fn∧fn.body.isSome=true∧(fn.name == "runtime.NumGoroutine")=false:=⟨_,Tryz.func42,by kernel_rfl,by kernel_rfl⟩
theorem fn44x:∃ fn,Tryz.prog.funcs[44]?=some fn∧fn.body.isSome=true∧(fn.name == "runtime.NumGoroutine")=false:=⟨_,Tryz.func44,by kernel_rfl,by kernel_rfl⟩
theorem inv_nptr {ι:Inj} {S:Snap} {x:Value} (h:AVRel ι S (.p .nptr) x):x=.pointer none:=by cases h.inv_p;rfl
theorem inv_nsl {ι:Inj} {S:Snap} {x:Value} (h:AVRel ι S (.p .nsl) x):x=.slice none 0 0:=by cases h.inv_p;rfl
def bldB (sb sg:Slot) (n:Nat):Blk:=.box [.ptr sb 2 0 0,.ref sg 1 0 n]
theorem bld_pl {ι:Inj} {S:Snap} {w':World} {sb sg':Slot} (hne:sg'≠sb) {b t:Nat} (hi:ι sb=some (b,t)) {T:TypeId} {c':Array Value} (hb':w'.heap[b]?=some (.cells c' T (0,0))) (hcs:c'.size=t*2) (ht:1≤t) (htm:t≤maxLen)
  {v':Value} (h0:c'[0]?=some (.pointer (some ⟨b,0,none⟩))) (h1:c'[1]?=some v') {l:List UInt8} (hl:l≠[]) (hown:OwnR w' 5 v' l.length (l.map fun b=>Value.int .u8 b.toNat)) (hnb:v'.ownBlock≠some b) (hSb:∀ x:Addr,x.block=b→S x=none) (hSg:∀ g,v'.ownBlock=some g→∀ x:Addr,x.block=g→S x=none) :
  ∃ ι':Inj,(∀ s,s≠sg'→ι' s=ι s)∧(∃ g m,v'.ownBlock=some g∧ι' sg'=some (g,m))∧Pl ι' S w' [(sb,bldB sb sg' l.length),(sg',.sl 5 1 (l.map byR))]:=by
 obtain ⟨g,cap,cur,rfl,hg,hrel⟩:=row_brel (ι:=ι) (S:=S) (sg:=sg') hl hown
 have hgb:g≠b:=fun e=>hnb (by rw [←e];rfl)
 refine ⟨setι ι sg' (some (g,cur.size)),fun s hs=>setι_ne hs,⟨g,cur.size,rfl,setι_eq⟩,?_⟩
 obtain ⟨r1,r2⟩:=hrel (setι ι sg' (some (g,cur.size))) setι_eq
 have hi':setι ι sg' (some (g,cur.size)) sb=some (b,t):=by rw [setι_ne (fun e=>hne e.symm),hi]
 have two:∀ s k,look s [(sb,bldB sb sg' l.length),(sg',Blk.sl 5 1 (l.map byR))]=some k→(s=sb∧k=bldB sb sg' l.length)∨(s=sg'∧k=.sl 5 1 (l.map byR)):=by
  intro s k q
  simp only [look] at q
  by_cases e:s=sb
  ·rw [if_pos e] at q;simp at q;exact .inl ⟨e,q.symm⟩
  ·rw [if_neg e] at q
   by_cases e2:s=sg'
   ·rw [if_pos e2] at q;simp at q;exact .inr ⟨e2,q.symm⟩
   ·rw [if_neg e2] at q;simp at q
 refine ⟨fun s k q=>?_,fun s k q b' t' q2 x hx=>?_,fun s s' k k' q q' hss b1 t1 b2 t2 e1 e2=>?_⟩
 ·rcases two s k q with ⟨rfl,rfl⟩ | ⟨rfl,rfl⟩
  ·refine ⟨trivial,.inr ⟨b,t,T,c',hi',hb',trivial,by simp [bldB,Blk.size,hcs],by simpa [bldB,Blk.nrows] using ht,htm,fun i j av q=>?_⟩⟩
   simp only [bldB,Blk.cell] at q
   split at q
   ·subst_vars
    match j,q with
    | 0,q=>simp at q;subst q;exact ⟨_,by simpa using h0,by have:=AVRel.ptr (S:=S) s 2 0 0 b t hi';simpa using this⟩
    | 1,q=>simp at q;subst q;exact ⟨_,by simpa using h1,r1⟩
    | j+2,q=>simp at q
   ·simp at q
  ·exact r2
 ·rcases two s k q with ⟨rfl,rfl⟩ | ⟨rfl,rfl⟩
  ·rw [hi'] at q2;simp at q2;exact hSb x (by rw [hx];exact q2.1.symm)
  ·rw [setι_eq] at q2;simp at q2;exact hSg g rfl x (by rw [hx];exact q2.1.symm)
 ·rcases two s k q with ⟨rfl,rfl⟩ | ⟨rfl,rfl⟩<;>rcases two s' k' q' with ⟨rfl,rfl⟩ | ⟨rfl,rfl⟩
  ·exact absurd rfl hss
  ·rw [hi'] at e1;rw [setι_eq] at e2;simp at e1 e2;omega
  ·rw [hi'] at e2;rw [setι_eq] at e1;simp at e1 e2;omega
  ·exact absurd rfl hss
theorem tup_rel (S:Snap) (n:Int):PRel S (.tup [.int .i64 n,.nif]) (.tuple #[.int .i64 n,.nilIface]):=
 PRel.tup [.int .i64 n,.nif] [.int .i64 n,.nilIface] rfl (fun j p v h1 h2=>by
  match j,h1,h2 with
  | 0,h1,h2=>simp at h1 h2;subst h1 h2;exact .int _ _
  | 1,h1,h2=>simp at h1 h2;subst h1 h2;exact .nif
  | j+2,h1,h2=>simp at h1)
theorem w42a (sb sg:Slot) (hne:sg≠sb) (s:List UInt8) (hs:s≠[]) (hl:s.length≤140737488355328) :
  BestF Tryz.prog 42 [(sb,.sl 98 2 [[.nptr,.nsl]])] [.ptr sb 2 0 0,.p (.str ⟨s.toArray⟩)] [sb] (.p (.tup [.int .i64 s.length,.nif])) [(sb,bldB sb sg s.length),(sg,.sl 5 1 (s.map byR))]:=by
 refine ⟨fn42x,fun ι S w xs hS hP hx=>?_⟩
 obtain ⟨x0,xs1,rfl,hx0,hxs⟩:=hx.uncons
 obtain ⟨x1,xs2,rfl,hx1,hx2⟩:=hxs.uncons
 have hnil:xs2=[]:=List.length_eq_zero_iff.1 hx2.1
 subst hnil
 obtain ⟨b,t,hi,rfl⟩:=inv_ptr hx0
 have e1:=inv_str hx1
 subst e1
 have hlk:look sb [(sb,Blk.sl 98 2 [[PV.nptr,PV.nsl]])]=some (.sl 98 2 [[.nptr,.nsl]]):=by simp [look]
 obtain ⟨_,hm⟩:=hP.mem sb _ hlk
 have hSb:∀ x:Addr,x.block=b→S x=none:=hP.own sb _ hlk b t hi
 rcases hm with ⟨q,_⟩ | ⟨b2,t2,e,c,hi2,hlies,he,hcs,hnr,htm,hcell⟩
 ·rw [hi] at q;simp at q
 rw [hi] at hi2
 simp only [Option.some.injEq,Prod.mk.injEq] at hi2
 obtain ⟨rfl,rfl⟩:=hi2
 have he':(98:TypeId)=e:=he
 subst he'
 obtain ⟨u0,g0,r0⟩:=hcell 0 0 (.p .nptr) rfl
 obtain ⟨u1,g1,r1⟩:=hcell 0 1 (.p .nsl) rfl
 have f0:=inv_nptr r0
 have f1:=inv_nsl r1
 subst f0 f1
 have ht1:1≤t:=hnr
 refine (Tryz.writeString b (.pointer none) (.slice none 0 0) 98 c [] ⟨s.toArray⟩ w hlies (by simpa using g0) (by simpa [Blk.size] using g1) (.inl ⟨rfl,rfl⟩) ⟨rfl,.inl ⟨rfl,rfl⟩⟩ (by simp [Value.ownBlock]) (by simpa [ByteArray.size] using hl)).mono ?_
 rintro e w' ⟨rfl,v',c',hb',hcs',h0',h1',hown',hnb,hfr,hkx⟩
 have hown2:OwnR w' 5 v' s.length (s.map fun b=>Value.int .u8 b.toNat):=by
  have:=hown'
  rw [strCells_ba] at this
  simpa [ByteArray.size] using this
 have hSg:∀ g,v'.ownBlock=some g→∀ x:Addr,x.block=g→S x=none:=fun g hg x hxb=>by
  rcases hfr g hg with q | q
  ·simp [Value.ownBlock] at q
  ·cases hq:S x with
   | none=>rfl
   | some v=>
    have:=World.block_lt_of_cell? w x (hS x v hq)
    omega
 obtain ⟨ι',hι,⟨g,m,hg,hgi⟩,hPl⟩:=bld_pl hne hi hb' (by rw [hcs',hcs];rfl) ht1 htm h0' h1' hs hown2 hnb hSb hSg
 have hL:Lent ι [(sb,Blk.sl 98 2 [[PV.nptr,PV.nsl]])] b:=⟨sb,_,t,hlk,hi⟩
 refine ⟨_,ι',S,rfl,kx_keep hkx hL (fun g q=>by simp [Value.ownBlock] at q),fun _ _ q=>q,kx_snap hkx hS hSb (fun g q=>by simp [Value.ownBlock] at q),fun _ _ q=>.inl q,?_,hPl,fun s' hs'=>?_,fun s' k' q b' t' q2=>?_⟩
 ·have:(⟨s.toArray⟩:ByteArray).size=s.length:=by simp [ByteArray.size]
  rw [this]
  exact .p _ _ (tup_rel S _)
 ·rw [List.mem_singleton.1 hs'];exact hι sb (fun e=>hne e.symm)
 ·simp only [look] at q
  by_cases e:s'=sb
  ·subst e
   rw [hι s' (fun e=>hne e.symm),hi] at q2
   simp at q2
   exact .inr (q2.1 ▸ hL)
  ·rw [if_neg e] at q
   by_cases e2:s'=sg
   ·subst e2
    rw [hgi] at q2
    simp at q2
    rcases hfr g hg with q3 | q3
    ·simp [Value.ownBlock] at q3
    ·exact .inl (by omega)
   ·rw [if_neg e2] at q;simp at q
theorem w42b (sb sg sg':Slot) (hne:sg≠sb) (hne':sg'≠sb) (l s:List UInt8) (hl0:l≠[]) (hl:l.length+s.length≤140737488355328) :
  BestF Tryz.prog 42 [(sb,bldB sb sg l.length),(sg,.sl 5 1 (l.map byR))] [.ptr sb 2 0 0,.p (.str ⟨s.toArray⟩)] [sb] (.p (.tup [.int .i64 s.length,.nif])) [(sb,bldB sb sg' (l++s).length),(sg',.sl 5 1 ((l++s).map byR))]:=by
 refine ⟨fn42x,fun ι S w xs hS hP hx=>?_⟩
 obtain ⟨x0,xs1,rfl,hx0,hxs⟩:=hx.uncons
 obtain ⟨x1,xs2,rfl,hx1,hx2⟩:=hxs.uncons
 have hnil:xs2=[]:=List.length_eq_zero_iff.1 hx2.1
 subst hnil
 obtain ⟨b,t,hi,rfl⟩:=inv_ptr hx0
 have e1:=inv_str hx1
 subst e1
 have hlk:look sb [(sb,bldB sb sg l.length),(sg,Blk.sl 5 1 (l.map byR))]=some (bldB sb sg l.length):=by simp [look]
 have hlk2:look sg [(sb,bldB sb sg l.length),(sg,Blk.sl 5 1 (l.map byR))]=some (.sl 5 1 (l.map byR)):=by simp [look,hne]
 obtain ⟨_,hm⟩:=hP.mem sb _ hlk
 have hSb:∀ x:Addr,x.block=b→S x=none:=hP.own sb _ hlk b t hi
 rcases hm with ⟨q,_⟩ | ⟨b2,t2,e,c,hi2,hlies,he,hcs,hnr,htm,hcell⟩
 ·rw [hi] at q;simp at q
 rw [hi] at hi2
 simp only [Option.some.injEq,Prod.mk.injEq] at hi2
 obtain ⟨rfl,rfl⟩:=hi2
 obtain ⟨u0,g0,r0⟩:=hcell 0 0 (.ptr sb 2 0 0) rfl
 obtain ⟨u1,g1,r1⟩:=hcell 0 1 (.ref sg 1 0 l.length) rfl
 obtain ⟨b3,t3,hi3,rfl⟩:=inv_ptr r0
 rw [hi] at hi3
 simp only [Option.some.injEq,Prod.mk.injEq] at hi3
 obtain ⟨rfl,rfl⟩:=hi3
 have ht1:1≤t:=hnr
 obtain ⟨_,hm2⟩:=hP.mem sg _ hlk2
 have hlen0:l.length≠0:=by simpa using hl0
 rcases hm2 with ⟨_,q⟩ | ⟨g,tg,e2,cur,hig,hlg,heg,hcg,hng,htg,hcellg⟩
 ·simp [Blk.nrows] at q;exact absurd q hl0
 have heg':(5:TypeId)=e2:=heg
 subst heg'
 have hgb:g≠b:=hP.sep sg sb _ _ hlk2 hlk hne g tg b t hig hi
 have hSg0:∀ x:Addr,x.block=g→S x=none:=hP.own sg _ hlk2 g tg hig
 obtain ⟨cap,rfl,hcap,hoc⟩:∃ cap,u1=.slice (some ⟨g,0,none⟩) l.length cap∧l.length≤cap∧cap≤tg:=by
  rcases inv_ref r1 with ⟨b4,t4,cap,a,rfl,hi4,hc,hl2,ha⟩ | q
  ·rw [hig] at hi4
   simp only [Option.some.injEq,Prod.mk.injEq] at hi4
   obtain ⟨rfl,rfl⟩:=hi4
   rcases ha with h0 | h0
   ·omega
   ·exact ⟨cap,by rw [h0],hl2,by omega⟩
  ·omega
 have hcur:cur.size=tg:=by simpa [Blk.size] using hcg
 have hown:OwnR w 5 (.slice (some ⟨g,0,none⟩) l.length cap) l.length (l.map fun b=>Value.int .u8 b.toNat):=by
  refine ⟨by simp,.inr ⟨g,cap,cur,rfl,hlg,hcap,by omega,by omega,?_⟩⟩
  apply List.ext_getElem?
  intro i
  rw [List.getElem?_take]
  split
  ·rename_i hil
   obtain ⟨v,q1,q2⟩:=hcellg i 0 (.p (.int .u8 l[i].toNat)) (by simp [Blk.cell,hil,byR])
   have:v=.int .u8 l[i].toNat:=inv_int q2
   subst this
   have q1':cur[i]?=some (Value.int .u8 l[i].toNat):=by simpa [Blk.size] using q1
   simp [q1',hil]
  ·rw [List.getElem?_eq_none (by simp;omega)]
 refine (Tryz.writeString b _ (.slice (some ⟨g,0,none⟩) l.length cap) e c (l.map fun b=>Value.int .u8 b.toNat) ⟨s.toArray⟩ w hlies (by simpa using g0) (by simpa [bldB,Blk.size] using g1) (.inr (by simp)) (by simpa using hown) (by simp [Value.ownBlock,hgb]) (by simpa [ByteArray.size] using hl)).mono ?_
 rintro e' w' ⟨rfl,v',c',hb',hcs',h0',h1',hown',hnb,hfr,hkx⟩
 have hown2:OwnR w' 5 v' (l++s).length ((l++s).map fun b=>Value.int .u8 b.toNat):=by
  have:=hown'
  rw [strCells_ba] at this
  simpa [ByteArray.size] using this
 have hSg:∀ g',v'.ownBlock=some g'→∀ x:Addr,x.block=g'→S x=none:=fun g' hg x hxb=>by
  rcases hfr g' hg with q | q
  ·simp [Value.ownBlock] at q;exact hSg0 x (by omega)
  ·cases hq:S x with
   | none=>rfl
   | some v=>
    have:=World.block_lt_of_cell? w x (hS x v hq)
    omega
 obtain ⟨ι',hι,⟨g',m,hg,hgi⟩,hPl⟩:=bld_pl hne' hi hb' (by rw [hcs',hcs];rfl) ht1 htm h0' h1' (by simp [hl0]) hown2 hnb hSb hSg
 have hL:Lent ι [(sb,bldB sb sg l.length),(sg,Blk.sl 5 1 (l.map byR))] b:=⟨sb,_,t,hlk,hi⟩
 have hL2:Lent ι [(sb,bldB sb sg l.length),(sg,Blk.sl 5 1 (l.map byR))] g:=⟨sg,_,tg,hlk2,hig⟩
 refine ⟨_,ι',S,rfl,kx_keep hkx hL (fun g' q=>by simp [Value.ownBlock] at q;exact q ▸ hL2),fun _ _ q=>q,kx_snap hkx hS hSb (fun g' q=>by simp [Value.ownBlock] at q;exact q ▸ hSg0),fun _ _ q=>.inl q,?_,hPl,fun s' hs'=>?_,fun s' k' q b' t' q2=>?_⟩
 ·have:(⟨s.toArray⟩:ByteArray).size=s.length:=by simp [ByteArray.size]
  rw [this]
  exact .p _ _ (tup_rel S _)
 ·rw [List.mem_singleton.1 hs'];exact hι sb (fun e=>hne' e.symm)
 ·simp only [look] at q
  by_cases e:s'=sb
  ·subst e
   rw [hι s' (fun e=>hne' e.symm),hi] at q2
   simp at q2
   exact .inr (q2.1 ▸ hL)
  ·rw [if_neg e] at q
   by_cases e2:s'=sg'
   ·subst e2
    rw [hgi] at q2
    simp at q2
    rcases hfr g' hg with q3 | q3
    ·simp [Value.ownBlock] at q3;exact .inr (by rw [←q2.1,←q3];exact hL2)
    ·exact .inl (by omega)
   ·rw [if_neg e2] at q;simp at q
end Go.Abs.A30
namespace Go.Proofs
open Go.Shelf
def Tryz.lays105_ren:Go.Shelf.Ren:=⟨fun | 105=>43 | 212=>86 | 99=>87 | 165=>88 | 166=>42 | 170=>89 | 169=>44 | 263=>136 | 264=>137 | 206=>138 | 240=>85 | 241=>139 | 276=>135 | 277=>173 | n=>n,fun | 9=>9 | 3=>3 | 4=>4 | 20=>20 | 0=>0 | 46=>150 | 109=>151 | 5=>5 | 72=>98 | 76=>101 | 51=>193 | 146=>194 | 53=>196 | 148=>197 | 70=>95 | 37=>96 | 75=>100 | 127=>156 | 164=>191 | 80=>104 | n=>n,fun | n=>n⟩
theorem Tryz.lays105:Go.Proofs.Lays.n105 Tryz.prog Tryz.lays105_ren:={
 mixed:=by kernel_rfl
 f99:=Tryz.func87.trans (congrArg some (by kernel_rfl))
 f105:=Tryz.func43.trans (congrArg some (by kernel_rfl))
 f165:=Tryz.func88.trans (congrArg some (by kernel_rfl))
 f166:=Tryz.func42.trans (congrArg some (by kernel_rfl))
 f169:=Tryz.func44.trans (congrArg some (by kernel_rfl))
 f170:=Tryz.func89.trans (congrArg some (by kernel_rfl))
 f206:=Tryz.func138.trans (congrArg some (by kernel_rfl))
 f212:=Tryz.func86.trans (congrArg some (by kernel_rfl))
 f240:=Tryz.func85.trans (congrArg some (by kernel_rfl))
 f241:=Tryz.func139.trans (congrArg some (by kernel_rfl))
 f263:=Tryz.func136.trans (congrArg some (by kernel_rfl))
 f264:=Tryz.func137.trans (congrArg some (by kernel_rfl))
 f276:=Tryz.func135.trans (congrArg some (by kernel_rfl))
 f277:=Tryz.func173.trans (congrArg some (by kernel_rfl))
 t0:=Tryz.underlying0
 a0:=Tryz.isAgg0
 z0:=Tryz.sizeOf0
 v0:=Tryz.zeroValue0
 t3:=Tryz.underlying3
 a3:=Tryz.isAgg3
 z3:=Tryz.sizeOf3
 v3:=Tryz.zeroValue3
 t4:=Tryz.underlying4
 a4:=Tryz.isAgg4
 z4:=Tryz.sizeOf4
 v4:=Tryz.zeroValue4
 t5:=Tryz.underlying5
 a5:=Tryz.isAgg5
 z5:=Tryz.sizeOf5
 v5:=Tryz.zeroValue5
 t9:=Tryz.underlying9
 a9:=Tryz.isAgg9
 z9:=Tryz.sizeOf9
 v9:=Tryz.zeroValue9
 t20:=Tryz.underlying20
 a20:=Tryz.isAgg20
 z20:=Tryz.sizeOf20
 v20:=Tryz.zeroValue20
 t37:=Tryz.underlying96
 a37:=Tryz.isAgg96
 z37:=Tryz.sizeOf96
 v37:=Tryz.zeroValue96
 t46:=Tryz.underlying150
 a46:=Tryz.isAgg150
 z46:=Tryz.sizeOf150
 v46:=Tryz.zeroValue150
 t51:=Tryz.underlying193
 a51:=Tryz.isAgg193
 z51:=Tryz.sizeOf193
 v51:=Tryz.zeroValue193
 t53:=Tryz.underlying196
 a53:=Tryz.isAgg196
 z53:=Tryz.sizeOf196
 v53:=Tryz.zeroValue196
 t70:=Tryz.underlying95
 a70:=Tryz.isAgg95
 z70:=Tryz.sizeOf95
 v70:=Tryz.zeroValue95
 t72:=Tryz.underlying98
 a72:=Tryz.isAgg98
 z72:=Tryz.sizeOf98
 v72:=Tryz.zeroValue98
 t75:=Tryz.underlying100
 a75:=Tryz.isAgg100
 z75:=Tryz.sizeOf100
 v75:=Tryz.zeroValue100
 t76:=Tryz.underlying101
 a76:=Tryz.isAgg101
 z76:=Tryz.sizeOf101
 v76:=Tryz.zeroValue101
 t109:=Tryz.underlying151
 a109:=Tryz.isAgg151
 z109:=Tryz.sizeOf151
 v109:=Tryz.zeroValue151
 t127:=Tryz.underlying156
 a127:=Tryz.isAgg156
 z127:=Tryz.sizeOf156
 v127:=Tryz.zeroValue156
 t146:=Tryz.underlying194
 a146:=Tryz.isAgg194
 z146:=Tryz.sizeOf194
 v146:=Tryz.zeroValue194
 t148:=Tryz.underlying197
 a148:=Tryz.isAgg197
 z148:=Tryz.sizeOf197
 v148:=Tryz.zeroValue197
 t164:=Tryz.underlying191
 a164:=Tryz.isAgg191
 z164:=Tryz.sizeOf191
 v164:=Tryz.zeroValue191 }
theorem Tryz.Builder_Extra_105:Builder.Extra Tryz.prog Tryz.lays105_ren:={
 sizeBuilder:=by kernel_rfl
 liesBuilder:=by kernel_rfl
 t5:=Tryz.underlying5
 a5:=Tryz.isAgg5
 z5:=Tryz.sizeOf5
 v5:=Tryz.zeroValue5
 infoByte:=by kernel_rfl
 cellsByte:=by kernel_rfl
 sizeByte:=by kernel_rfl
 neB5:=by decide }
open Go.RowKit Go.Lib in
theorem Tryz.strings_Repeat (s:ByteArray) (c:Nat) (w:World) (hc:c≤9223372036854775807) (hlen:s.size*c≤140737488355328) :
  Calls Tryz.prog 43 #[.string s,.int .i64 c] w fun e w'=>e=.returned (.string ⟨(Lib.repeatL s.data.toList c).toArray⟩)∧Below w.heap.size w w':=Any.strings_Repeat Tryz.lays105 Tryz.Builder_Extra_105 s c w hc hlen
end Go.Proofs
namespace Go.Abs.A30
open Go Go.Abs Go.Proofs
set_option maxRecDepth 100000
set_option linter.unusedVariables false
set_option linter.unusedSimpArgs false
theorem w44a (sb:Slot):BestF Tryz.prog 44 [(sb,.sl 98 2 [[.nptr,.nsl]])] [.ptr sb 2 0 0] [] (.p (.str ⟨#[]⟩)) []:=by
 refine ⟨fn44x,fun ι S w xs hS hP hx=>?_⟩
 obtain ⟨x0,xs1,rfl,hx0,hxs⟩:=hx.uncons
 have hnil:xs1=[]:=List.length_eq_zero_iff.1 hxs.1
 subst hnil
 obtain ⟨b,t,hi,rfl⟩:=inv_ptr hx0
 have hlk:look sb [(sb,Blk.sl 98 2 [[PV.nptr,PV.nsl]])]=some (.sl 98 2 [[.nptr,.nsl]]):=by simp [look]
 obtain ⟨_,hm⟩:=hP.mem sb _ hlk
 rcases hm with ⟨q,_⟩ | ⟨b2,t2,e,c,hi2,hlies,he,hcs,hnr,htm,hcell⟩
 ·rw [hi] at q;simp at q
 rw [hi] at hi2
 simp only [Option.some.injEq,Prod.mk.injEq] at hi2
 obtain ⟨rfl,rfl⟩:=hi2
 obtain ⟨u1,g1,r1⟩:=hcell 0 1 (.p .nsl) rfl
 have f1:=inv_nsl r1
 subst f1
 refine (Tryz.str_nil b c e w hlies (by simpa [Blk.size] using g1)).mono ?_
 rintro e' w' ⟨rfl,rfl⟩
 exact ⟨_,ι,S,rfl,⟨rfl,rfl,rfl,Nat.le_refl _,fun _ _ _=>rfl⟩,fun _ _ q=>q,hS,fun _ _ q=>.inl q,.p _ _ (.str _),⟨fun s k q=>by simp [look] at q,fun s k q=>by simp [look] at q,fun s s' k k' q=>by simp [look] at q⟩,by simp,fun s k q=>by simp [look] at q⟩
theorem w44b (sb sg:Slot) (hne:sg≠sb) (l:List UInt8) (hl0:l≠[]) (hl:l.length≤140737488355328) :
  BestF Tryz.prog 44 [(sb,bldB sb sg l.length),(sg,.sl 5 1 (l.map byR))] [.ptr sb 2 0 0] [] (.p (.str ⟨l.toArray⟩)) []:=by
 refine ⟨fn44x,fun ι S w xs hS hP hx=>?_⟩
 obtain ⟨x0,xs1,rfl,hx0,hxs⟩:=hx.uncons
 have hnil:xs1=[]:=List.length_eq_zero_iff.1 hxs.1
 subst hnil
 obtain ⟨b,t,hi,rfl⟩:=inv_ptr hx0
 have hlk:look sb [(sb,bldB sb sg l.length),(sg,Blk.sl 5 1 (l.map byR))]=some (bldB sb sg l.length):=by simp [look]
 have hlk2:look sg [(sb,bldB sb sg l.length),(sg,Blk.sl 5 1 (l.map byR))]=some (.sl 5 1 (l.map byR)):=by simp [look,hne]
 obtain ⟨_,hm⟩:=hP.mem sb _ hlk
 rcases hm with ⟨q,_⟩ | ⟨b2,t2,e,c,hi2,hlies,he,hcs,hnr,htm,hcell⟩
 ·rw [hi] at q;simp at q
 rw [hi] at hi2
 simp only [Option.some.injEq,Prod.mk.injEq] at hi2
 obtain ⟨rfl,rfl⟩:=hi2
 obtain ⟨u1,g1,r1⟩:=hcell 0 1 (.ref sg 1 0 l.length) rfl
 obtain ⟨_,hm2⟩:=hP.mem sg _ hlk2
 have hlen0:l.length≠0:=by simpa using hl0
 rcases hm2 with ⟨_,q⟩ | ⟨g,tg,e2,cur,hig,hlg,heg,hcg,hng,htg,hcellg⟩
 ·simp [Blk.nrows] at q;exact absurd q hl0
 have heg':(5:TypeId)=e2:=heg
 subst heg'
 have hSg0:∀ x:Addr,x.block=g→S x=none:=hP.own sg _ hlk2 g tg hig
 obtain ⟨cap,rfl,hcap,hoc⟩:∃ cap,u1=.slice (some ⟨g,0,none⟩) l.length cap∧l.length≤cap∧cap≤tg:=by
  rcases inv_ref r1 with ⟨b4,t4,cap,a,rfl,hi4,hc,hl2,ha⟩ | q
  ·rw [hig] at hi4
   simp only [Option.some.injEq,Prod.mk.injEq] at hi4
   obtain ⟨rfl,rfl⟩:=hi4
   rcases ha with h0 | h0
   ·omega
   ·exact ⟨cap,by rw [h0],hl2,by omega⟩
  ·omega
 have hcur:cur.size=tg:=by simpa [Blk.size] using hcg
 refine (Tryz.str_row b g cap c e cur l w hlies (by simpa [bldB,Blk.size] using g1) hlg hl0 (by omega) (by omega) (by omega) (fun j x hx=>?_)).mono ?_
 ·obtain ⟨v,q1,q2⟩:=hcellg j 0 (.p (.int .u8 x.toNat)) (by simp [Blk.cell,hx,byR])
  have:v=.int .u8 x.toNat:=inv_int q2
  subst this
  simpa [Blk.size] using q1
 rintro e' w' ⟨rfl,rfl⟩
 have hL2:Lent ι [(sb,bldB sb sg l.length),(sg,Blk.sl 5 1 (l.map byR))] g:=⟨sg,_,tg,hlk2,hig⟩
 have hh:∀ k,k≠g→(w.drew.freeze ⟨g,0,none⟩ l.length).heap[k]?=w.heap[k]?:=fun k hk=>by
  have hk':g≠k:=fun e=>hk e.symm
  unfold World.freeze
  split
  ·rfl
  ·simp only [Array.getElem?_modify,hk',if_false]
   rfl
 have hsz:w.heap.size≤(w.drew.freeze ⟨g,0,none⟩ l.length).heap.size:=by
  unfold World.freeze
  rw [if_neg hlen0]
  simp
 refine ⟨_,ι,S,rfl,⟨by unfold World.freeze;rw [if_neg hlen0];rfl,by unfold World.freeze;rw [if_neg hlen0];rfl,by unfold World.freeze;rw [if_neg hlen0];rfl,hsz,fun k _ hm=>hh k (fun e=>hm (e ▸ hL2))⟩,fun _ _ q=>q,fun a v q=>?_,fun _ _ q=>.inl q,.p _ _ (.str _),⟨fun s k q=>by simp [look] at q,fun s k q=>by simp [look] at q,fun s s' k k' q=>by simp [look] at q⟩,by simp,fun s k q=>by simp [look] at q⟩
 rw [cell_blk (hh a.block (fun e=>by rw [hSg0 a e] at q;simp at q))]
 exact hS a v q
theorem fn43x:∃ fn,Tryz.prog.funcs[43]?=some fn∧fn.body.isSome=true∧(fn.name == "runtime.NumGoroutine")=false:=⟨_,Tryz.func43,by kernel_rfl,by kernel_rfl⟩
theorem rep10 (c:Nat):Lib.repeatL [10] c=List.replicate c 10:=by
 induction c with
 | zero=>rfl
 | succ c ih=>rw [Lib.repeatL,ih];rfl
theorem b43 (c:Nat) (hc:c≤1000):Best Tryz.prog 43 [.str ⟨#[10]⟩,.int .i64 c] (.p (.str ⟨(List.replicate c 10).toArray⟩)):=by
 refine ⟨fn43x,fun S w xs hS hx=>?_⟩
 obtain ⟨x0,xs1,rfl,hx0,hxs⟩:=(Ps.toRs (ι:=fun _=>none) hx).uncons
 obtain ⟨x1,xs2,rfl,hx1,hx2⟩:=hxs.uncons
 have hnil:xs2=[]:=List.length_eq_zero_iff.1 hx2.1
 subst hnil
 have e0:=inv_str hx0
 have e1:=inv_int hx1
 subst e0 e1
 have h:=Tryz.strings_Repeat ⟨#[10]⟩ c w (by omega) (by
  have:(⟨#[10]⟩:ByteArray).size=1:=rfl
  rw [this];omega)
 have e:(⟨#[10]⟩:ByteArray).data.toList=[10]:=rfl
 rw [e,rep10] at h
 refine h.mono ?_
 rintro e' w' ⟨rfl,hb⟩
 have hk:Keep w w':=⟨hb.os,hb.tape,hb.output,hb.size,fun k hk=>hb.block k hk⟩
 exact ⟨_,S,rfl,hk,fun _ _ q=>q,fun a v q=>hk.cell (hS a v q),fun _ _ q=>.inl q,.str _⟩
end Go.Abs.A30
namespace Go.Abs.A30
open Go Go.Abs Go.Proofs
set_option maxRecDepth 100000
set_option maxHeartbeats 4000000
set_option linter.unusedVariables false
def xc17b:AC:=by
 apply fun (y:AC) (_:@Eq AC (let e0:=[4,6,7,9,10,11,12,14,20,30,31,32];let e1:=[4,6,7,9,10,11,12,14,16,20,30,31,32];let e2:=[56,57,58,59,60,61,64,65];let e3:=[56,57,58,59,60,61,62,63];let e4:=[62,63,64,65];(qs (.block 3 (qs (qr [(qp 34 (qj 6 30 32)),(qi 35 (qt 6 34) [0]),(qp 16 (.alloc [.int .i64 0,.int .i64 0,.int .i64 0,.int .i64 0,.int .i64 0,.int .i64 0])),(qo (.store 6 (.v 16) (.v 35)) [2,1,0,1,2])]) (qk e1 (qs (qs (qr [(yl 36 10),(yl 37 6),(yb 38 .geq 36 37 [0,1]),(yn 39 38 [2]),(qg 40 (ql 10) 39 true [3]),(qg 41 (ql 7) 39 true [3]),(qg 42 (qb .lss 40 41) 39 true [4,5,3]),(qi 43 (.pick (.v 39) (.v 42) (.c (.bool false))) [3,6])]) (qk [4,6,7,9,10,11,12,14,16,20,30,31,32,43] (qq (.v 43) (qs (qs (qr [(yl 44 11),(yc 45 .geq 44 (qz 0) [0])]) (qk [4,6,7,9,10,11,12,14,16,20,30,31,32,45] (qq (.v 45) (qr [(ym 46 12),(yl 47 11),(yb 48 .sub 46 47 [0,1]),(qi 49 (.call 43 [.c (.str ⟨#[10]⟩),.v 48]) [2]),(qi 50 (.call 42 [.v 9,.v 49]) [3,3])]) .skip))) (qk e1 (qs (qr [(ym 51 14),(qp 52 (qf 1 16)),(yk 53 52 [1]),(yj 54 2 51 53 [0,2]),(qi 55 (qt 2 54) [3]),(qp 17 (.alloc [.int .i64 0,.int .i64 0])),(qo (.store 2 (.v 17) (.v 55)) [5,4,0,1,2,3,4,5])]) (qk [4,6,7,9,10,11,12,14,17,20,30,31,32] (qs (qd [(qe (qp 56 (qf 2 4)) [58,62,63,64,65] [] 2),(qe (yk 57 56 [0]) [58,62,63,64,65] [] 2),(qe (ym 58 12) [56,57,62,63,64,65] [0,1] 2),(qe (yj 59 4 57 58 [1,2]) e4 [] 2),(qe (yf 60 0 59 [3]) e4 [] 2),(qe (yk 61 60 [4]) e4 [] 2),(qe (qp 62 (qf 0 17)) e2 [0,1,2,3,4,5] 2),(qe (yk 63 62 [6]) e2 [0,1,2,3,4,5] 2),(qe (qp 64 (qf 1 17)) e3 [0,1,2,3,4,5,6,7] 2),(qe (yk 65 64 [8]) e3 [0,1,2,3,4,5,6,7] 2),(qe (qi 66 (.slcS (.v 61) (some (.v 63)) (some (.v 65))) [5,7,9]) [] [] 2),(qa (qi 67 (.call 42 [.v 9,.v 66]) [10]) [] [] [9,67,999990] [] 1)]) (qk e0 (qr [(ym 68 12),(qo (.store 1 (.v 11) (.v 68)) [0,0])]))))))) .skip))) (qk e0 (qr [(yl 69 10),(yc 70 .add 69 (qz 1) [0]),(qo (.store 1 (.v 10) (.v 70)) [1,0,1])])))))) (qk e0 (qr [(qp 71 (qc .add 32 (qz 1))),(yn 32 71 [0])])))) y)=>y
 dsimp
def ac17:AC:=by
 apply fun (y:AC) (_:@Eq AC (let e0:=[4,6,7,9,10,11,12,14,20,30,31,32];(qk [0,1,2,3] (qs (qr [(qp 4 (.box (.v 0))),(qp 6 (.box (.v 2))),(qp 7 (.box (.v 3))),(qp 8 (.mov (.c (.str ⟨#[]⟩))))]) (qk [1,4,6,7] (qs (qr [(qp 9 (.allocR 98 [.nptr,.nsl]))]) (qk [1,4,6,7,9] (qs (qr [(qp 10 (.alloc [.int .i64 0])),(qp 11 (.alloc [.int .i64 0])),(qo (.store 1 (.v 10) (qz 0)) [0,0,1]),(qo (.store 1 (.v 11) (qz (-1))) [1,2,0,1,2])]) (qk [1,4,6,7,9,10,11] (qs (qs (qr [(qp 18 (qt 3 4)),(ym 19 1),(qi 20 (.call 41 [.v 18,.v 19]) [0,1])]) (qk [4,6,7,9,10,11,20] (.block 0 (.rfun (.v 20) [21,22] [12,13,14,16,17,21,22,23,24,25,26,27,28,29,30,31,32,33,34,35,36,37,38,39,40,41,42,43,44,45,46,47,48,49,50,51,52,53,54,55,56,57,58,59,60,61,62,63,64,65,66,67,68,69,70,71] (qs (qr [(ym 12 21)]) (qk [4,6,7,9,10,11,12,20,22] (qr [(ym 13 22)]))) (qk [4,6,7,9,10,11,12,13,20] (.block 1 (qs (qr [(qp 23 (qf 2 4)),(yk 24 23 [0]),(ym 25 12),(yj 26 4 24 25 [1,2]),(yf 27 0 26 [3]),(yk 28 27 [4]),(qi 29 (.call 23 [.v 28]) [5]),(yn 14 29 [6,6,0,1,2,3,4,5,6])]) (qk [4,6,7,9,10,11,12,13,14,20] (qs (qr [(ym 30 13),(yh 31 30 [0]),(qp 32 (.mov (qz 0)))]) (qk e0 (.block 2 (.loop (qk e0 (qs (qr [(qp 33 (qb .lss 32 31))]) (qk [4,6,7,9,10,11,12,14,20,30,31,32,33] (qs (qq (.v 33) .skip (.exit 2)) (qk e0 xc17b))))))))))))))))) (qk [9] (qs (qr [(qp 72 (.call 44 [.v 9])),(yn 8 72 [0,0,0])]) (qk [8] .ret)))))))))))) y)=>y
 dsimp
theorem fn17:factOf Tryz.prog 17=some (ac17.strip,[.tmp 8],73):=by kernel_rfl
theorem ok17:ac17.okAll=true:=by kernel_rfl
end Go.Abs.A30
namespace Go.Abs.A30
open Go Go.Abs Go.Proofs
set_option maxRecDepth 100000
set_option linter.unusedVariables false
set_option linter.unusedSimpArgs false
attribute [local simp ↓] awp_skip awp_seq awp_cond awp_block awp_exit awp_ret awp_reg awp_draw awp_ghost awp_loop awp_rfun awpR_nil awpR_cons awpX_nil awpX_0 awpX_1 awpX_2 awpI_eq awpI_t awpI_f awpStep_eq
attribute [local simp] condL_true condL_false condL_dec evDel evV evN evS evA initFr Ghost.app Fr.var Fr.blk Fr.ff FF.val Abs.look Fr.app Fr.erase Fr.noSlot AV.noSlot AV.noSlotL Blk.noSlot Fr.spoken AV.fz AV.fzL Blk.fz binV binI shI binS unV fillA FF.parts FF.vals headO intO boundO lenV scalarEq leavesEq AV.aggc AV.cells FF.read FF.rows AV.one PV.one chunk freshB newS pickV retK evRs evRl evR resOf mkTup mkAgg allP cloOf okP_nil okX_p okX okP addN Del.noSlot Del.owners Rnd reify_p normM insM Fr.back Fr.backV Fr.setPs normV insV
attribute [local simp] renF Fr.trim Blk.trim AV.rn AV.rnL Blk.rn AV.among AV.amongL Blk.among okF retM fixS BIG initFF
attribute [local simp] FF.reify FF.reifyL PV.flat
section
attribute [local simp ↓] awp_scope awp_label
set_option maxHeartbeats 2000000
attribute [local simp] evC
attribute [local simp ↓] oneI oneS oneSS oneK oneF oneC oneLl onePa onePi onePl oneD2 oneSp
attribute [local simp] ba_size
theorem oneBy (l:List UInt8):((l.map byR).all fun r=>r.all PV.one)=true:=by
 rw [List.all_eq_true];intro r hr;obtain ⟨u,_,rfl⟩:=List.mem_map.1 hr;rfl
attribute [local simp ↓] oneBy
attribute [local simp] bldB
theorem ba_cut (t:List UInt8) (a b:Nat) (h:b≤t.length):(ba t).extract a b=ba ((t.take b).drop a):=by
 apply ByteArray.ext
 simp [ba,ByteArray.data_extract]
 rw [List.drop_take]
structure Cp where
 n:Int
 last:Int
 acc:List UInt8
def cluT (t:List UInt8) (i:Int):List UInt8:=(t.take ((splT t).getD i.toNat (0,0)).2).drop ((splT t).getD i.toNat (0,0)).1
def cpS (ps:List Par) (fr up:Int) (z:Cp) (p:Dpl):Cp:=
 if fr≤z.n∧z.n<up then ⟨z.n+1,p.1,z.acc++((if 0≤z.last then List.replicate (p.1 - z.last).toNat 10 else [])++(match ps[p.1.toNat]? with | some q=>cluT q.t p.2.i | none=>[]))⟩ else ⟨z.n+1,z.last,z.acc⟩
def cpF (ps:List Par) (fr up:Int) (l:List Dpl):Cp:=l.foldl (cpS ps fr up) ⟨0,-1,[]⟩
noncomputable def copyN (cs:List Cor) (w:Int) (ps:List Par) (fr up:Int):List UInt8:=(cpF ps fr up (docL cs w ps)).acc
def cpM (w:Int) (pn:List Cor) (ps:List Par) (fr up:Int) (z:Cp):Option Nat→List (Slot×Blk)
 | none=>[((4,0),.box [.p (.int .i64 w),.p (.sl 3 (pn.map pinRow)),.p (.sl 4 (ps.map parRow))]),((6,0),.box [.p (.int .i64 fr)]),((7,0),.box [.p (.int .i64 up)]),((9,0),.sl 98 2 [[.nptr,.nsl]]),((10,0),.box [.p (.int .i64 z.n)]),((11,0),.box [.p (.int .i64 z.last)])]
 | some c=>[((4,0),.box [.p (.int .i64 w),.p (.sl 3 (pn.map pinRow)),.p (.sl 4 (ps.map parRow))]),((6,0),.box [.p (.int .i64 fr)]),((7,0),.box [.p (.int .i64 up)]),((9,0),.box [.ptr (9,0) 2 0 0,.ref (999990,c) 1 0 z.acc.length]),((10,0),.box [.p (.int .i64 z.n)]),((11,0),.box [.p (.int .i64 z.last)]),((999990,c),.sl 5 1 (z.acc.map byR))]
def CpOk (z:Cp):Option Nat→Prop
 | none=>z.acc=[]∧z.last=-1
 | some _=>z.acc≠[]∧0≤z.last∧z.last≤1000
def cpV (w:Int) (pn cs:List Cor) (ps:List Par) (vs:List (Nat×AV)) (ws:List (Nat×AV)):List (Nat×AV):=[(4,.ptr (4,0) 3 0 0),(6,.ptr (6,0) 1 0 0),(7,.ptr (7,0) 1 0 0),(9,.ptr (9,0) 2 0 0),(10,.ptr (10,0) 1 0 0),(11,.ptr (11,0) 1 0 0)]++vs++[(20,.p (.clo (.func 84) [] [.ro [.int .i64 w,.sl 3 (pn.map pinRow),.sl 4 (ps.map parRow)],.ro [.sl 9 (cs.map corRow)]]))]++ws
attribute [local simp] cpV
theorem x17b {K:AE→Fr→Prop} (w:Int) (pn cs:List Cor) (ps:List Par) (hp:ParsOk ps) (fr up:Int) (k:Nat) (hk:k<ps.length) (t:List UInt8) (s:Stg) (ex:ps[k]=⟨t,s⟩) (B:List Dpl) (j:Nat) (p:Dpl) (ep:B[j]?=some p) (hp1:p.1=k) (i:Nat) (hpi:p.2.i=i) (hi:i<(splT t).length) (hB:B.length≤1000)
  (z:Cp) (u:Option Nat) (hz:CpOk z u) (hzn:0≤z.n∧z.n≤1000) (hza:z.acc.length≤1000000) (hzl:z.last≤k)
  (hK:∀ u' F',CpOk (cpS ps fr up z p) u'→(Ghost.keep [4,6,7,9,10,11,12,14,20,30,31,32]).app F'=some ⟨cpV w pn cs ps [(12,.p (.int .i64 k)),(14,.p (.sl 2 ((splT t).map spRow)))] [(30,.p (.sl 6 (B.map dplRow))),(31,.p (.int .i64 B.length)),(32,.p (.int .i64 ((j:Int)+1)))],cpM w pn ps fr up (cpS ps fr up z p) u'⟩→K .normal F') :
  awp Tryz.prog xc17b K ⟨cpV w pn cs ps [(12,.p (.int .i64 k)),(14,.p (.sl 2 ((splT t).map spRow)))] [(30,.p (.sl 6 (B.map dplRow))),(31,.p (.int .i64 B.length)),(32,.p (.int .i64 j))],cpM w pn ps fr up z u⟩:=by
 obtain ⟨hjl,ep2⟩:=List.getElem?_eq_some_iff.1 ep
 obtain ⟨p1,pi,pf,pl,px,pw⟩:=p
 dsimp only at hp1 hpi
 subst hp1 hpi
 obtain ⟨n,last,acc⟩:=z
 dsimp only at hzn hza hzl
 obtain ⟨⟨a,b⟩,ec⟩:∃ c,(splT t)[i]=c:=⟨_,rfl⟩
 obtain ⟨hab,hb,h6⟩:=splT_mem (t:=t) (a:=a) (b:=b) (by rw [←ec];simp)
 have exd:(splT t).getD i (0,0)=(a,b):=by simp [hi,ec]
 have wj:R ((j:Int)+1):=⟨by omega,by omega⟩
 have wn:R (n+1):=⟨by omega,by omega⟩
 have ht12:=(hp.2 ⟨t,s⟩ (by rw [←ex];simp)).1
 dsimp only at ht12
 have hcut:=ba_cut t a b hb
 have h3:=hp.1
 have hcl:cluT t i=(t.take b).drop a:=by simp only [cluT,Int.toNat_natCast,exd]
 have hgk:ps[((k:Nat):Int).toNat]?=some ⟨t,s⟩:=by simp [List.getElem?_eq_getElem hk,ex]
 have hcl0:(t.take b).drop a≠[]:=by
  intro e
  have:=congrArg List.length e
  simp at this
  omega
 have hcll:((t.take b).drop a).length≤12:=by simp;omega
 have hab':a≤b:=by omega
 obtain ⟨X,eX⟩:∃ X,(t.take b).drop a=X:=⟨_,rfl⟩
 rw [eX] at hcut hcl hcl0 hcll
 by_cases c1:fr≤n∧n<up
 ·have hS:cpS ps fr up ⟨n,last,acc⟩ (k,⟨i,pf,pl,px,pw⟩)=⟨n+1,k,acc++((if 0≤last then List.replicate ((k:Int) - last).toNat 10 else [])++X)⟩:=by
   simp only [cpS,if_pos c1,hgk,hcl]
  rw [hS] at hK
  cases u with
  | none=>
   obtain ⟨q1,q2⟩:=hz
   dsimp only at q1 q2
   subst q1 q2
   have hq:BestF Tryz.prog 42 [((9,0),.sl 98 2 [[.nptr,.nsl]])] [.ptr (9,0) 2 0 0,.p (.str (ba X))] [(9,0)] (.p (.tup [.int .i64 X.length,.nif])) [((9,0),.box [.ptr (9,0) 2 0 0,.ref (999990,1) 1 0 X.length]),((999990,1),.sl 5 1 (X.map byR))]:=w42a (9,0) (999990,1) (by simp) X hcl0 (by omega)
   have hK':=fun F'=>hK (some 1) F' ⟨by simpa using hcl0,by dsimp only;omega,by dsimp only;omega⟩
   simp only [Int.reduceNeg,Int.reduceLE,if_false,List.nil_append] at hK'
   simp -dsimp [xc17b,cpM,hjl,ep2,dplRow,c1.1,c1.2,hi,ec,spRow,hk,ex,parRow,hb,hab',hcut]
   refine call_m hq (by simp) (by simp) (by simp) ?_
   simp -dsimp [wr wn,wr wj]
   exact hK' _ (by simp [cpM,spRow,parRow])
  | some c=>
   obtain ⟨q1,q2,q3⟩:=hz
   dsimp only at q1 q2 q3
   obtain ⟨m,em⟩:∃ m:Nat,(k:Int) - last=m:=⟨((k:Int) - last).toNat,by omega⟩
   have hm:m≤1000:=by omega
   have wm:R (m:Int):=⟨by omega,by omega⟩
   have em2:((k:Int) - last).toNat=m:=by omega
   rw [em2,if_pos q2] at hK
   have q43:Best Tryz.prog 43 [.str ⟨#[10]⟩,.int .i64 m] (.p (.str (ba (List.replicate m 10)))):=b43 m hm
   obtain ⟨Y,eY⟩:∃ Y:List UInt8,List.replicate m 10=Y:=⟨_,rfl⟩
   have hY:Y.length≤1000:=by rw [←eY];simpa using hm
   rw [eY] at q43 hK
   have hq:BestF Tryz.prog 42 [((9,0),.box [.ptr (9,0) 2 0 0,.ref (999990,c) 1 0 acc.length]),((999990,c),.sl 5 1 (acc.map byR))] [.ptr (9,0) 2 0 0,.p (.str (ba Y))] [(9,0)] (.p (.tup [.int .i64 Y.length,.nif])) [((9,0),.box [.ptr (9,0) 2 0 0,.ref (999990,c+1) 1 0 (acc++Y).length]),((999990,c+1),.sl 5 1 ((acc++Y).map byR))]:=w42b (9,0) (999990,c) (999990,c+1) (by simp) (by simp) acc Y q1 (by omega)
   have hq2:BestF Tryz.prog 42 [((9,0),.box [.ptr (9,0) 2 0 0,.ref (999990,c+1) 1 0 (acc++Y).length]),((999990,c+1),.sl 5 1 ((acc++Y).map byR))] [.ptr (9,0) 2 0 0,.p (.str (ba X))] [(9,0)] (.p (.tup [.int .i64 X.length,.nif])) [((9,0),.box [.ptr (9,0) 2 0 0,.ref (999990,c+2) 1 0 (acc++Y++X).length]),((999990,c+2),.sl 5 1 ((acc++Y++X).map byR))]:=w42b (9,0) (999990,c+1) (999990,c+2) (by simp) (by simp) (acc++Y) X (by simp [q1]) (by simp;omega)
   have hK':=fun F'=>hK (some (c+2)) F' ⟨by simp [q1],by dsimp only;omega,by dsimp only;omega⟩
   obtain ⟨A,eA⟩:∃ A,acc++Y=A:=⟨_,rfl⟩
   rw [eA] at hq hq2
   rw [←List.append_assoc,eA] at hK'
   obtain ⟨A2,eA2⟩:∃ A2,A++X=A2:=⟨_,rfl⟩
   rw [eA2] at hq2 hK'
   simp -dsimp [xc17b,cpM,hjl,ep2,dplRow,c1.1,c1.2,q2,em,wr wm]
   refine call_p q43 (by simp) (by simp) ?_
   simp -dsimp
   refine call_m hq (by simp) (by simp) (by simp) ?_
   simp -dsimp [hi,ec,spRow,hk,ex,parRow,hb,hab',hcut]
   refine call_m hq2 (by simp) (by simp) (by simp) ?_
   simp -dsimp [wr wn,wr wj]
   exact hK' _ (by simp [cpM,spRow,parRow])
 ·have hS:cpS ps fr up ⟨n,last,acc⟩ (k,⟨i,pf,pl,px,pw⟩)=⟨n+1,last,acc⟩:=by
   simp only [cpS,if_neg c1]
  rw [hS] at hK
  have hK':=fun F'=>hK u F' (by cases u<;>exact hz)
  by_cases c2:fr≤n
  ·have c3:¬n<up:=fun q=>c1 ⟨c2,q⟩
   cases u with
   | none=>
    simp -dsimp [xc17b,cpM,hjl,ep2,dplRow,c2,c3,wr wn,wr wj]
    exact hK' _ (by simp [cpM])
   | some c=>
    simp -dsimp [xc17b,cpM,hjl,ep2,dplRow,c2,c3,wr wn,wr wj]
    exact hK' _ (by simp [cpM])
  ·cases u with
   | none=>
    simp -dsimp [xc17b,cpM,hjl,ep2,dplRow,c2,wr wn,wr wj]
    exact hK' _ (by simp [cpM])
   | some c=>
    simp -dsimp [xc17b,cpM,hjl,ep2,dplRow,c2,wr wn,wr wj]
    exact hK' _ (by simp [cpM])
end
end Go.Abs.A30
