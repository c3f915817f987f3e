/- A part of the proof: an abstract reading of the model, contracts of functions. -/
import Derived.Test.YtlkbeomimbohlaaGreatC21
set_option linter.unusedVariables false
set_option linter.unusedSimpArgs false
namespace Go.Abs.A30
open Go Go.Abs Go.Proofs
set_option maxRecDepth 100000
set_option linter.unusedVariables false
set_option linter.unusedSimpArgs false
attribute [local simp ↓] awp_skip awp_seq awp_cond awp_block awp_exit awp_ret awp_reg awp_draw awp_ghost awp_loop awp_rfun awpR_nil awpR_cons awpX_nil awpX_0 awpX_1 awpX_2 awpI_eq awpI_t awpI_f awpStep_eq
attribute [local simp] condL_true condL_false condL_dec evDel evV evN evS evA initFr Ghost.app Fr.var Fr.blk Fr.ff FF.val Abs.look Fr.app Fr.erase Fr.noSlot AV.noSlot AV.noSlotL Blk.noSlot Fr.spoken AV.fz AV.fzL Blk.fz binV binI shI binS unV fillA FF.parts FF.vals headO intO boundO lenV scalarEq leavesEq AV.aggc AV.cells FF.read FF.rows AV.one PV.one chunk freshB newS pickV retK evRs evRl evR resOf mkTup mkAgg allP cloOf okP_nil okX_p okX okP addN Del.noSlot Del.owners Rnd reify_p normM insM Fr.back Fr.backV Fr.setPs normV insV
attribute [local simp] renF Fr.trim Blk.trim AV.rn AV.rnL Blk.rn AV.among AV.amongL Blk.among okF retM fixS BIG initFF
attribute [local simp] FF.reify FF.reifyL PV.flat
section
theorem getD_set (l:List Int) (i j:Nat) (v:Int) (hi:i<l.length):(l.set i v).getD j 0=if i=j then v else l.getD j 0:=by
 by_cases e:i=j
 ·subst e;simp [List.getD_eq_getElem?_getD,hi]
 ·rw [if_neg e];simp [List.getD_eq_getElem?_getD,List.getElem?_set,e]
theorem sumI_cons (x:Int) (l:List Int):sumI (x :: l)=x+sumI l:=by
 show (x :: l).foldl (·+·) 0=_
 rw [List.foldl_cons,sumI_from];omega
theorem sumI_perm {l m:List Int} (h:l.Perm m):sumI l=sumI m:=by
 induction h with
 | nil=>rfl
 | cons x _ ih=>rw [sumI_cons,sumI_cons,ih]
 | swap x y l=>rw [sumI_cons,sumI_cons,sumI_cons,sumI_cons];omega
 | trans _ _ ih1 ih2=>rw [ih1,ih2]
theorem xK_sum (Ws X:List Int) (b:Nat) (O:List Int) (x0:Int):∀ k,k≤O.length→(xK Ws X b O x0 k).2=x0+sumI ((O.take k).map fun o=>Ws.getD (b+o.toNat) 0)
 | 0,_=>by simp [xK,sumI]
 | k+1,h=>by
  have ih:=xK_sum Ws X b O x0 k (by omega)
  have hk:k<O.length:=by omega
  rw [xK,ih,List.take_add_one,List.getElem?_eq_getElem hk]
  simp only [Option.toList_some,List.map_append,List.map_cons,List.map_nil]
  rw [sumI_snoc]
  have:O.getD k 0=O[k]:=by simp [List.getD_eq_getElem?_getD,hk]
  rw [this];omega
theorem xK_le {Ws X:List Int} {b:Nat} {O:List Int} {x0:Int} (hW:∀ i,0≤Ws.getD i 0) (j:Nat):∀ d,(xK Ws X b O x0 j).2≤(xK Ws X b O x0 (j+d)).2
 | 0=>Int.le_refl _
 | d+1=>by
  have ih:=xK_le (X:=X) (b:=b) (O:=O) (x0:=x0) hW j d
  have:=hW (b+(O.getD (j+d) 0).toNat)
  rw [show j+(d+1)=(j+d)+1 by omega,xK]
  dsimp only
  omega
theorem xK_get {Ws X:List Int} {b n m:Nat} {O:List Int} {x0:Int} (hX:X.length=n) (hb:b+m≤n) (hO:∀ k,k<m→(O.getD k 0).toNat<m) (hnd:∀ k j,k<m→j<m→(O.getD k 0).toNat=(O.getD j 0).toNat→k=j) :
  ∀ k,k≤m→(∀ j,j<k→(xK Ws X b O x0 k).1.getD (b+(O.getD j 0).toNat) 0=(xK Ws X b O x0 j).2)∧(∀ i,i<b∨b+m≤i→(xK Ws X b O x0 k).1.getD i 0=X.getD i 0)
 | 0,_=>⟨fun j h=>by omega,fun i _=>rfl⟩
 | k+1,h=>by
  have ih:=xK_get (Ws:=Ws) (x0:=x0) hX hb hO hnd k (by omega)
  have hl:=xK_len Ws X b O x0 k
  have hk:=hO k (by omega)
  have e:(xK Ws X b O x0 (k+1)).1=(xK Ws X b O x0 k).1.set (b+(O.getD k 0).toNat) (xK Ws X b O x0 k).2:=by rw [xK]
  rw [e]
  refine ⟨fun j hj=>?_,fun i hi=>?_⟩
  ·rw [getD_set _ _ _ _ (by omega)]
   by_cases q:j=k
   ·subst q;rw [if_pos rfl]
   ·rw [if_neg (fun h'=>q (hnd j k (by omega) (by omega) (by omega)))]
    exact ih.1 j (by omega)
  ·rw [getD_set _ _ _ _ (by omega),if_neg (by omega)]
   exact ih.2 i hi
structure Tile (X Ws:List Int) (b e:Nat) (x0 S:Int):Prop where
 lo:∀ i,b≤i→i<e→x0≤X.getD i 0
 hi:∀ i,b≤i→i<e→X.getD i 0+Ws.getD i 0≤x0+S
 atlo:∃ i,b≤i∧i<e∧X.getD i 0=x0
 athi:∃ i,b≤i∧i<e∧X.getD i 0+Ws.getD i 0=x0+S
 dis:∀ i k,b≤i→i<e→b≤k→k<e→i≠k→X.getD i 0+Ws.getD i 0≤X.getD k 0∨X.getD k 0+Ws.getD k 0≤X.getD i 0
theorem Tile.same {X Y Ws:List Int} {b e:Nat} {x0 S:Int} (h:Tile X Ws b e x0 S) (hY:∀ i,i<e→Y.getD i 0=X.getD i 0):Tile Y Ws b e x0 S:=by
 refine ⟨fun i h1 h2=>by rw [hY i h2];exact h.lo i h1 h2,fun i h1 h2=>by rw [hY i h2];exact h.hi i h1 h2,?_,?_,fun i k h1 h2 h3 h4 h5=>by rw [hY i h2,hY k h4];exact h.dis i k h1 h2 h3 h4 h5⟩
 ·obtain ⟨i,h1,h2,h3⟩:=h.atlo;exact ⟨i,h1,h2,by rw [hY i h2];exact h3⟩
 ·obtain ⟨i,h1,h2,h3⟩:=h.athi;exact ⟨i,h1,h2,by rw [hY i h2];exact h3⟩
theorem ordI_get {m k:Nat} (h:k<m):(k:Int)∈ordI m:=List.mem_map.2 ⟨k,by simpa using h,rfl⟩
theorem xK_tile {Ws X:List Int} {b n m:Nat} {O:List Int} {x0:Int} (hX:X.length=n) (hWl:Ws.length=n) (hb:b+m≤n) (hm:0<m) (hp:O.Perm (ordI m)) (hW:∀ i,0≤Ws.getD i 0) :
  Tile (xK Ws X b O x0 m).1 Ws b (b+m) x0 (sumI ((Ws.drop b).take m))∧(∀ i,i<b∨b+m≤i→(xK Ws X b O x0 m).1.getD i 0=X.getD i 0):=by
 have hOl:O.length=m:=by rw [hp.length_eq];simp [ordI]
 have hmem:∀ k,k<m→∃ i:Nat,O.getD k 0=i∧i<m:=fun k hk=>by
  have:O.getD k 0∈O:=by rw [show O.getD k 0=O[k]'(by omega) by simp [List.getD_eq_getElem?_getD,hOl,hk]];exact List.getElem_mem _
  obtain ⟨i,hi,e⟩:=List.mem_map.1 (hp.mem_iff.1 this)
  exact ⟨i,e.symm,by simpa using hi⟩
 have hO:∀ k,k<m→(O.getD k 0).toNat<m:=fun k hk=>by obtain ⟨i,e,hi⟩:=hmem k hk;rw [e];simpa using hi
 have hN:(ordI m).Nodup:=by
  unfold ordI
  refine List.Pairwise.map _ (fun a c h e=>h (by omega)) List.nodup_range
 have hN':O.Nodup:=hp.nodup_iff.2 hN
 have hnd:∀ k j,k<m→j<m→(O.getD k 0).toNat=(O.getD j 0).toNat→k=j:=fun k j hk hj e=>by
  obtain ⟨i,e1,_⟩:=hmem k hk
  obtain ⟨i',e2,_⟩:=hmem j hj
  rw [e1,e2] at e
  have e3:O.getD k 0=O.getD j 0:=by rw [e1,e2];omega
  rw [show O.getD k 0=O[k]'(by omega) by simp [List.getD_eq_getElem?_getD,hOl,hk],show O.getD j 0=O[j]'(by omega) by simp [List.getD_eq_getElem?_getD,hOl,hj]] at e3
  exact (List.getElem_inj hN').1 e3
 have hg:=xK_get (Ws:=Ws) (x0:=x0) hX hb hO hnd m (Nat.le_refl m)
 have hsum:(xK Ws X b O x0 m).2=x0+sumI ((Ws.drop b).take m):=by
  rw [xK_sum Ws X b O x0 m (by omega)]
  have h1:O.take m=O:=List.take_of_length_le (by omega)
  rw [h1,sumI_perm (hp.map _)]
  have h2:(ordI m).map (fun o=>Ws.getD (b+o.toNat) 0)=(Ws.drop b).take m:=by
   apply List.ext_getElem (by simp [ordI];omega)
   intro i h3 h4
   have hi:i<m:=by simpa [ordI] using h3
   have hbi:b+i<Ws.length:=by omega
   simp [ordI,List.getD_eq_getElem?_getD,hbi]
  rw [h2]
 have surj:∀ i,b≤i→i<b+m→∃ k,k<m∧i=b+(O.getD k 0).toNat:=fun i h1 h2=>by
  have:((i - b:Nat):Int)∈O:=hp.mem_iff.2 (ordI_get (by omega))
  obtain ⟨k,hk,e⟩:=List.mem_iff_getElem.1 this
  refine ⟨k,by omega,?_⟩
  rw [show O.getD k 0=O[k] by simp [List.getD_eq_getElem?_getD,hk],e]
  omega
 have hnx:∀ k,(xK Ws X b O x0 (k+1)).2=(xK Ws X b O x0 k).2+Ws.getD (b+(O.getD k 0).toNat) 0:=fun k=>by rw [xK]
 have hle:∀ j k,j≤k→(xK Ws X b O x0 j).2≤(xK Ws X b O x0 k).2:=fun j k h=>by
  have:=xK_le (X:=X) (b:=b) (O:=O) (x0:=x0) hW j (k - j)
  rwa [show j+(k - j)=k by omega] at this
 have h0:(xK Ws X b O x0 0).2=x0:=rfl
 refine ⟨⟨fun i h1 h2=>?_,fun i h1 h2=>?_,?_,?_,fun i k h1 h2 h3 h4 h5=>?_⟩,hg.2⟩
 ·obtain ⟨k,hk,rfl⟩:=surj i h1 h2
  rw [hg.1 k hk]
  have:=hle 0 k (by omega)
  omega
 ·obtain ⟨k,hk,rfl⟩:=surj i h1 h2
  rw [hg.1 k hk,←hnx k,←hsum]
  exact hle _ _ hk
 ·have:=hO 0 hm
  exact ⟨b+(O.getD 0 0).toNat,by omega,by omega,by rw [hg.1 0 hm,h0]⟩
 ·have:=hO (m - 1) (by omega)
  refine ⟨b+(O.getD (m - 1) 0).toNat,by omega,by omega,?_⟩
  rw [hg.1 (m - 1) (by omega),←hnx,←hsum,show m - 1+1=m by omega]
 ·obtain ⟨j,hj,rfl⟩:=surj i h1 h2
  obtain ⟨j',hj',rfl⟩:=surj k h3 h4
  rw [hg.1 j hj,hg.1 j' hj',←hnx,←hnx]
  rcases Nat.lt_or_ge j j' with q | q
  ·left;exact hle _ _ q
  ·right
   have:j≠j':=fun e=>h5 (by rw [e])
   exact hle _ _ (by omega)
inductive Rch (ls:List Int):Nat→Nat→Prop
 | refl (b:Nat):Rch ls b b
 | step {b g:Nat}:b<ls.length→Rch ls (grpE ls b) g→Rch ls b g
theorem Rch.next {ls:List Int} {b g:Nat} (h:Rch ls b g) (hg:g<ls.length):Rch ls b (grpE ls g):=by
 induction h with
 | refl b=>exact .step hg (.refl _)
 | step h1 _ ih=>exact .step h1 (ih hg)
theorem grpE_b {ls:List Int} {b:Nat} (h:b<ls.length):b<grpE ls b∧grpE ls b≤ls.length:=by
 have hel:=runE_le (q:=fun x=>decide (x=ls.getD b 0)) (l:=ls) (key:=true) (i:=b) (by omega)
 have hout:=runE_out (q:=fun x=>decide (x=ls.getD b 0)) (l:=ls) (key:=true) (i:=b)
 have hge:grpE ls b=runE (fun x=>decide (x=ls.getD b 0)) ls true b:=rfl
 rw [←hge] at hel hout
 refine ⟨?_,hel.2⟩
 rcases Nat.lt_or_ge b (grpE ls b) with q | q
 ·exact q
 ·have e:grpE ls b=b:=by omega
  rw [e] at hout
  have:=hout h
  simp at this
theorem grpE_in {ls:List Int} {b j:Nat} (h1:b≤j) (h2:j<grpE ls b) (h3:b<ls.length):ls.getD j 0=ls.getD b 0:=by
 have hb:=grpE_b h3
 have:=runE_in (q:=fun x=>decide (x=ls.getD b 0)) (l:=ls) (key:=true) (i:=b) (j:=j) h1 h2 (by omega)
 simpa using this
theorem grpE_out {ls:List Int} {b:Nat} (h:grpE ls b<ls.length):ls.getD (grpE ls b) 0≠ls.getD b 0:=by
 have:=runE_out (q:=fun x=>decide (x=ls.getD b 0)) (l:=ls) (key:=true) (i:=b) h
 have hge:grpE ls b=runE (fun x=>decide (x=ls.getD b 0)) ls true b:=rfl
 rw [←hge] at this
 simpa using this
theorem Rch.lt {ls:List Int} {b g:Nat} (h:Rch ls b g) (hb:b≤ls.length):b≤g∧g≤ls.length:=by
 induction h with
 | refl b=>exact ⟨Nat.le_refl _,hb⟩
 | step h1 _ ih=>
  have:=grpE_b h1
  have:=ih this.2
  omega
theorem xsF_tile {Ws LV:List Int} {T:List (Nat×Nat)} {ls:List Int} {rt:Bool} {w:Int} {n:Nat} (hWl:Ws.length=n) (hls:ls.length=n) (hW:∀ i,0≤Ws.getD i 0) :
  ∀ (m b:Nat) (X:List Int),n - b≤m→X.length=n→b≤n→(xsF Ws LV T ls rt w m b X).length=n∧(∀ i,i<b→(xsF Ws LV T ls rt w m b X).getD i 0=X.getD i 0) ∧
   ∀ g,Rch ls b g→g<n→∃ x0,Tile (xsF Ws LV T ls rt w m b X) Ws g (grpE ls g) x0 (sumI ((Ws.drop g).take (grpE ls g - g)))∧(x0=0∨x0+sumI ((Ws.drop g).take (grpE ls g - g))=w)
 | 0,b,X,h1,h2,h3=>by
  rw [xsF]
  refine ⟨h2,fun i _=>rfl,fun g hg hgn=>?_⟩
  have:=hg.lt (by omega)
  omega
 | m+1,b,X,h1,h2,h3=>by
  by_cases hb:b<ls.length
  ·rw [xsF,if_pos hb]
   have hg:=grpE_b hb
   obtain ⟨e,ee⟩:∃ e,grpE ls b=e:=⟨_,rfl⟩
   rw [ee] at hg
   obtain ⟨x0,ex0⟩:∃ x0,(if rt=true then w - sumI ((Ws.drop b).take (e - b)) else 0)=x0:=⟨_,rfl⟩
   have hp:(vsN (lvG LV T b e)).Perm (ordI (e - b)):=by
    have:=vsL_perm (lvG LV T b e) 9
    rwa [show (lvG LV T b e).length=e - b by simp [lvG]] at this
   have ht:=xK_tile (x0:=x0) h2 hWl (show b+(e - b)≤n by omega) (by omega) hp hW
   rw [show b+(e - b)=e by omega] at ht
   rw [ee,ex0]
   have hl:=xK_len Ws X b (vsN (lvG LV T b e)) x0 (e - b)
   obtain ⟨X1,eX1⟩:∃ X1,(xK Ws X b (vsN (lvG LV T b e)) x0 (e - b)).1=X1:=⟨_,rfl⟩
   rw [eX1] at hl ht ⊢
   have ih:=xsF_tile (LV:=LV) (T:=T) (rt:=rt) (w:=w) hWl hls hW m e X1 (by omega) (by omega) (by omega)
   refine ⟨ih.1,fun i hi=>by rw [ih.2.1 i (by omega),ht.2 i (.inl hi)],fun g hr hgn=>?_⟩
   cases hr with
   | refl=>
    rw [ee]
    refine ⟨x0,ht.1.same ih.2.1,?_⟩
    rw [←ex0]
    split
    ·right;omega
    ·left;rfl
   | step _ hr=>rw [ee] at hr;exact ih.2.2 g hr hgn
  ·rw [xsF,if_neg hb]
   refine ⟨h2,fun i _=>rfl,fun g hg hgn=>?_⟩
   have:=hg.lt (by omega)
   omega
end
end Go.Abs.A30
namespace Go.Abs.A30
open Go Go.Abs Go.Proofs
set_option maxRecDepth 100000
set_option maxHeartbeats 4000000
set_option linter.unusedVariables false
def ac41:AC:=by
 apply fun (y:AC) (_:@Eq AC (anF Tryz.prog 41 mu1 [] 0 0 []) y)=>y
 conv=>lhs;reduce;dsimp
theorem fn41:factOf Tryz.prog 41=some (ac41.strip,[.tmp 4],6):=by kernel_rfl
theorem ok41:ac41.okAll=true:=by kernel_rfl
def ac45:AC:=by
 apply fun (y:AC) (_:@Eq AC (anF Tryz.prog 45 mu1 [] 0 0 []) y)=>y
 conv=>lhs;reduce;dsimp
theorem fn45:factOf Tryz.prog 45=some (ac45.strip,[.tmp 4],19):=by kernel_rfl
theorem ok45:ac45.okAll=true:=by kernel_rfl
def ac46:AC:=by
 apply fun (y:AC) (_:@Eq AC (qk [0,1,2] (qs (qr [(qp 3 (.box (.v 0))),(qp 4 (.mov (.c (.bool false))))]) (qk [1,2,3] (qs (qr [(qp 6 (qf 3 3)),(yk 7 6 [0]),(yl 8 1),(qp 9 (qf 4 3)),(yk 10 9 [3]),(qi 11 (.mm true (.v 8) (.v 10)) [2,4]),(qp 12 (qf 4 3)),(yk 13 12 [6]),(qp 14 (qf 5 3)),(yk 15 14 [8]),(yb 16 .add 13 15 [7,9]),(yc 17 .sub 16 (qz 1) [10]),(qi 18 (.mm false (.v 11) (.v 17)) [5,11]),(qi 19 (.build [.int .i64 0,.int .i64 0] [(0,1,.v 7),(1,1,.v 18)]) [1,12]),(qp 5 (.alloc [.int .i64 0,.int .i64 0])),(qo (.store 2 (.v 5) (.v 19)) [14,13,0,1,2,3,4,5,6,7,8,9,10,11,12,13,14])]) (qk [1,2,3,5] (qs (qr [(qp 20 (qf 5 3)),(yk 21 20 [0]),(yc 22 .gtr 21 (qz 0) [1]),(yn 23 22 [2]),(qg 24 (qt 2 5) 23 true [3]),(qg 25 (ql 2) 23 true [3]),(qg 26 (ql 1) 23 true [3]),(qg 27 (.build [.int .i64 0,.int .i64 0] [(0,1,.v 25),(1,1,.v 26)]) 23 true [5,6,3]),(qg 28 (.eqs false 2 [(0,1),(1,1)] (.v 24) (.v 27)) 23 true [4,7,3]),(qi 29 (.pick (.v 23) (.v 28) (.c (.bool false))) [3,8]),(yn 4 29 [9,3,0,1,2,3,4,5,6,7,8,9])]) (qk [4] .ret))))))) y)=>y
 dsimp
theorem fn46:factOf Tryz.prog 46=some (ac46.strip,[.tmp 4],30):=by kernel_rfl
theorem ok46:ac46.okAll=true:=by kernel_rfl
def ac18:AC:=by
 apply fun (y:AC) (_:@Eq AC (anD [⟨1,[.freeze (7,0),.freeze (6,0)],[],none⟩] (anF Tryz.prog 18 mu1 [] 0 0 [])) y)=>y
 conv=>lhs;reduce;dsimp
theorem fn18:factOf Tryz.prog 18=some (ac18.strip,[.tmp 8,.tmp 9],20):=by kernel_rfl
theorem ok18:ac18.okAll=true:=by kernel_rfl
def ac15:AC:=by
 apply fun (y:AC) (_:@Eq AC (anD [⟨2,[],[.ownC (5,0) 0 (15,0) 60 6],none⟩] (anF Tryz.prog 15 mu1 [] 0 0 [])) y)=>y
 conv=>lhs;reduce;dsimp
theorem fn15:factOf Tryz.prog 15=some (ac15.strip,[.tmp 4],17):=by kernel_rfl
theorem ok15:ac15.okAll=true:=by kernel_rfl
def ac84:AY:=(.ghost (.keep [0,1,2])
 (.seq (.reg [⟨some 4,.mov (.c (.int .i64 0)),none,[]⟩])
 (.ghost (.keep [0,1,2,4]) (.seq (.reg [⟨some 10,.faddr 2 (.v 1),none,[]⟩,
  ⟨some 11,.load false 1 (.v 10),none,[0]⟩,
  ⟨some 12,.len false (.v 11),none,[1]⟩,
  ⟨some 13,.mov (.c (.int .i64 0)),none,[]⟩])
 (.ghost (.keep [0,1,2,4,11,12,13]) (.block 0 (.loop (.ghost (.keep [0,1,2,4,11,12,13]) (.seq (.reg [⟨some 14,.bin .lss (.v 13) (.v 12),none,[]⟩])
 (.ghost (.keep [0,1,2,4,11,12,13,14]) (.seq (.cond (.v 14)
 .skip
 (.exit 0))
 (.ghost (.keep [0,1,2,4,11,12,13]) (.seq (.block 1 (.seq (.reg [⟨some 15,.mov (.v 13),none,[]⟩,
  ⟨some 16,.iaddr 4 (.v 11) (.v 13),none,[]⟩,
  ⟨some 17,.load true 4 (.v 16),none,[1]⟩,
  ⟨some 6,.alloc [.str ⟨#[]⟩,.int .i64 0,.nsl,.int .i64 0],none,[]⟩,
  ⟨some 5,.mov (.v 15),none,[0,0,1,2,3]⟩,
  ⟨none,.store 4 (.v 6) (.v 17),none,[3,2,4,0,1,2,3,4]⟩])
 (.ghost (.keep [0,1,2,4,5,6,11,12,13]) (.seq (.reg [⟨some 18,.load false 1 (.v 2),none,[]⟩,
  ⟨some 19,.faddr 0 (.v 6),none,[]⟩,
  ⟨some 20,.load false 1 (.v 19),none,[1]⟩,
  ⟨some 21,.faddr 1 (.v 6),none,[]⟩,
  ⟨some 22,.load true 3 (.v 21),none,[3]⟩,
  ⟨some 23,.faddr 0 (.v 1),none,[]⟩,
  ⟨some 24,.load false 1 (.v 23),none,[5]⟩,
  ⟨some 25,.call 19 [.v 18,.v 20,.v 22,.v 24],none,[0,2,4,6]⟩,
  ⟨some 7,.mov (.v 25),none,[7,7,0,1,2,3,4,5,6,7]⟩])
 (.ghost (.keep [0,1,2,4,5,7,11,12,13]) (.seq (.reg [⟨some 8,.mov (.c (.int .i64 1)),none,[]⟩])
 (.ghost (.keep [0,1,2,4,5,7,8,11,12,13]) (.seq (.seq (.reg [⟨some 26,.mov (.v 7),none,[]⟩,
  ⟨some 27,.len false (.v 26),none,[0]⟩,
  ⟨some 28,.mov (.c (.int .i64 0)),none,[]⟩])
 (.ghost (.keep [0,1,2,4,5,7,8,11,12,13,27,28]) (.block 2 (.loop (.ghost (.keep [0,1,2,4,5,7,8,11,12,13,27,28]) (.seq (.reg [⟨some 29,.bin .lss (.v 28) (.v 27),none,[]⟩])
 (.ghost (.keep [0,1,2,4,5,7,8,11,12,13,27,28,29]) (.seq (.cond (.v 29)
 .skip
 (.exit 2))
 (.ghost (.keep [0,1,2,4,5,7,8,11,12,13,27,28]) (.seq (.block 3 (.seq (.reg [⟨some 30,.mov (.v 28),none,[]⟩,
  ⟨some 9,.mov (.v 30),none,[0,0]⟩])
 (.ghost (.keep [0,1,2,4,5,7,8,9,11,12,13,27,28]) (.seq (.reg [⟨some 31,.mov (.v 8),none,[]⟩,
  ⟨some 32,.mov (.v 7),none,[]⟩,
  ⟨some 33,.mov (.v 9),none,[]⟩,
  ⟨some 34,.iaddr 6 (.v 32) (.v 33),none,[1,2]⟩,
  ⟨some 35,.faddr 3 (.v 34),none,[3]⟩,
  ⟨some 36,.load false 1 (.v 35),none,[4]⟩,
  ⟨some 37,.bin .add (.v 36) (.c (.int .i64 1)),none,[5]⟩,
  ⟨some 38,.mm true (.v 31) (.v 37),none,[0,6]⟩,
  ⟨some 8,.mov (.v 38),none,[7,0,1,2,3,4,5,6,7]⟩])
 (.ghost (.keep [0,1,2,4,5,7,8,9,11,12,13,27,28]) (.reg [⟨some 39,.mov (.v 7),none,[]⟩,
  ⟨some 40,.mov (.v 9),none,[]⟩,
  ⟨some 41,.mov (.v 7),none,[]⟩,
  ⟨some 42,.mov (.v 9),none,[]⟩,
  ⟨some 43,.mov (.v 5),none,[]⟩,
  ⟨some 44,.mov (.v 7),none,[]⟩,
  ⟨some 45,.mov (.v 9),none,[]⟩,
  ⟨some 46,.iaddr 6 (.v 44) (.v 45),none,[5,6]⟩,
  ⟨some 47,.faddr 3 (.v 46),none,[7]⟩,
  ⟨some 48,.load false 1 (.v 47),none,[8]⟩,
  ⟨some 49,.mov (.v 4),none,[]⟩,
  ⟨some 50,.bin .add (.v 48) (.v 49),none,[9,10]⟩,
  ⟨some 51,.iaddr 6 (.v 39) (.v 40),none,[0,1,0,1,4,9]⟩,
  ⟨some 52,.faddr 0 (.v 51),none,[12,0,1,4,9]⟩,
  ⟨none,.store 1 (.v 52) (.v 43),none,[13,4,0,1,4,9]⟩,
  ⟨some 53,.iaddr 6 (.v 41) (.v 42),none,[2,3,0,1,2,3,4,5,6,7,8,9,10,11,12,13,14]⟩,
  ⟨some 54,.faddr 3 (.v 53),none,[15,0,1,2,3,4,5,6,7,8,9,10,11,12,13,14]⟩,
  ⟨none,.store 1 (.v 54) (.v 50),none,[16,11,14,0,1,2,3,4,5,6,7,8,9,10,11,12,13,14]⟩]))))))
 (.ghost (.keep [0,1,2,4,5,7,8,11,12,13,27,28]) (.reg [⟨some 55,.bin .add (.v 28) (.c (.int .i64 1)),none,[]⟩,
  ⟨some 28,.mov (.v 55),none,[0]⟩]))))))))))))
 (.ghost (.keep [0,1,2,4,5,7,8,11,12,13]) (.seq (.reg [⟨some 56,.mov (.v 4),none,[]⟩,
  ⟨some 57,.mov (.v 8),none,[]⟩,
  ⟨some 58,.bin .add (.v 56) (.v 57),none,[0,1]⟩,
  ⟨some 4,.mov (.v 58),none,[2,0,1,2]⟩])
 (.ghost (.freeze (25,0)) (.ghost (.keep [0,1,2,4,5,7,11,12,13]) (.seq (.yield false [⟨⟨some 59,.mov (.v 0),none,[]⟩,[60,61],[],[],[],2⟩,
  ⟨⟨some 60,.mov (.v 5),none,[]⟩,[59,61],[],[],[0],2⟩,
  ⟨⟨some 61,.mov (.v 7),none,[]⟩,[59,60],[],[],[0,1],2⟩]
  ⟨some 62,.callv (.v 59) [.v 60,.v 61],none,[0,1,2]⟩ [⟨some 63,.un .not (.v 62),none,[3]⟩])
 (.ghost (.keep [0,1,2,4,11,12,13,63]) (.cond (.v 63)
 .ret
 .skip)))))))))))))))
 (.ghost (.keep [0,1,2,4,11,12,13]) (.reg [⟨some 64,.bin .add (.v 13) (.c (.int .i64 1)),none,[]⟩,
  ⟨some 13,.mov (.v 64),none,[0]⟩])))))))))))))))
theorem fn84:factOf Tryz.prog 84=some (ac84.strip,[],65):=by kernel_rfl
theorem ok84:ac84.okAll=true:=by kernel_rfl
end Go.Abs.A30
namespace Go.Abs.A30
open Go Go.Abs Go.Proofs
set_option maxRecDepth 100000
set_option linter.unusedVariables false
set_option linter.unusedSimpArgs false
attribute [local simp ↓] awp_skip awp_seq awp_cond awp_block awp_exit awp_ret awp_reg awp_draw awp_ghost awp_loop awp_rfun awpR_nil awpR_cons awpX_nil awpX_0 awpX_1 awpX_2 awpI_eq awpI_t awpI_f awpStep_eq
attribute [local simp] condL_true condL_false condL_dec evDel evV evN evS evA initFr Ghost.app Fr.var Fr.blk Fr.ff FF.val Abs.look Fr.app Fr.erase Fr.noSlot AV.noSlot AV.noSlotL Blk.noSlot Fr.spoken AV.fz AV.fzL Blk.fz binV binI shI binS unV fillA FF.parts FF.vals headO intO boundO lenV scalarEq leavesEq AV.aggc AV.cells FF.read FF.rows AV.one PV.one chunk freshB newS pickV retK evRs evRl evR resOf mkTup mkAgg allP cloOf okP_nil okX_p okX okP addN Del.noSlot Del.owners Rnd reify_p normM insM Fr.back Fr.backV Fr.setPs normV insV
attribute [local simp] renF Fr.trim Blk.trim AV.rn AV.rnL Blk.rn AV.among AV.amongL Blk.among okF retM fixS BIG initFF
attribute [local simp] FF.reify FF.reifyL PV.flat
section
attribute [local simp ↓] awp_scope awp_label
set_option maxHeartbeats 2000000
attribute [local simp] evC
attribute [local simp ↓] oneI oneS oneSS oneK oneF oneC oneLl onePa onePi onePl
attribute [local simp ↓] awpY_skip awpY_seq awpY_cond awpY_block awpY_loop awpY_exit awpY_ret awpY_reg awpY_draw awpY_ghost awpY_yt awpY_yf stepY_eq awpY_scope awpY_label
attribute [local simp] coreY Fr.pure AV.pur
abbrev Dpl:=Int×Plc
def dplRow (x:Dpl):List PV:=[.int .i64 x.1,.int .i64 x.2.i,.int .i64 x.2.f,.int .i64 x.2.l,.int .i64 x.2.x,.int .i64 x.2.w]
theorem oneD2 (l:List Dpl):((l.map dplRow).all fun r=>r.all PV.one)=true:=by
 rw [List.all_eq_true];intro r hr;obtain ⟨u,_,rfl⟩:=List.mem_map.1 hr;rfl
attribute [local simp ↓] oneD2
def shiftP (k line:Int) (p:Plc):Dpl:=(k,⟨p.i,p.f,p.l+line,p.x,p.w⟩)
def maxL (V:List Plc):Int:=V.foldl (fun m p=>max m (p.l+1)) 1
def mixL (V:List Plc) (k line:Int) (i:Nat):List Dpl:=(V.take i).map (shiftP k line)++(V.drop i).map (fun p=>(0,p))
theorem mixL_0 (V:List Plc) (k line:Int):(mixL V k line 0).map dplRow=V.map plcRow:=by
 simp [mixL,dplRow,plcRow,Function.comp_def]
theorem mixL_end (V:List Plc) (k line:Int):mixL V k line V.length=V.map (shiftP k line):=by simp [mixL]
theorem mixL_len (V:List Plc) (k line:Int) (i:Nat):(mixL V k line i).length=V.length:=by
 simp only [mixL,List.length_append,List.length_map,List.length_take,List.length_drop];omega
theorem mixL_get (V:List Plc) (k line:Int) (i:Nat) (h:i<V.length) (h2:i<(mixL V k line i).length):(mixL V k line i)[i]=(0,V[i]):=by
 simp only [mixL]
 rw [List.getElem_append_right (by simp;omega)]
 simp
 congr 1
 omega
theorem mixL_set (V:List Plc) (k line:Int) (i:Nat) (h:i<V.length):(mixL V k line i).set i (shiftP k line V[i])=mixL V k line (i+1):=by
 have hl:min i V.length=i:=by omega
 apply List.ext_getElem?
 intro j
 rw [List.getElem?_set,mixL_len]
 by_cases hij:i=j
 ·subst hij
  rw [if_pos rfl,if_pos h]
  simp only [mixL]
  rw [List.getElem?_append_left (by simp;omega)]
  simp [List.getElem?_take,h]
 ·rw [if_neg hij]
  simp only [mixL,List.getElem?_append,List.getElem?_map,List.getElem?_take,List.getElem?_drop,List.length_map,List.length_take]
  by_cases h1:j<i
  ·rw [if_pos (by omega),if_pos (by omega),if_pos (by omega)]
   split<;>first | rfl | omega
  ·rw [if_neg (by omega),if_neg (by omega)]
   congr 2
   omega
theorem maxL_succ (V:List Plc) (i:Nat) (h:i<V.length):maxL (V.take (i+1))=max (maxL (V.take i)) (V[i].l+1):=by
 unfold maxL
 rw [List.take_add_one,List.getElem?_eq_getElem h,List.foldl_append];rfl
theorem maxL_b {V:List Plc} (h:∀ p∈V,0≤p.l∧p.l≤1000) (i:Nat):1≤maxL (V.take i)∧maxL (V.take i)≤1001:=by
 induction i with
 | zero=>simp [maxL]
 | succ i ih=>
  by_cases hi:i<V.length
  ·rw [maxL_succ V i hi]
   have:=h V[i] (by simp)
   omega
  ·rwa [List.take_of_length_le (by omega),←List.take_of_length_le (i:=i) (l:=V) (by omega)]
noncomputable def parV (cs:List Cor) (w:Int) (p:Par):List Plc:=placesN cs p.t p.s w
noncomputable def lineK (cs:List Cor) (w:Int) (ps:List Par):Nat→Int
 | 0=>0
 | k+1=>lineK cs w ps k+(match ps[k]? with | some p=>maxL (parV cs w p) | none=>0)
noncomputable def paraK (cs:List Cor) (w:Int) (ps:List Par) (k:Nat):List Dpl:=match ps[k]? with
 | some p=>(parV cs w p).map (shiftP k (lineK cs w ps k))
 | none=>[]
noncomputable def parsR (cs:List Cor) (w:Int) (ps:List Par):List (List PV):=(List.range ps.length).map fun (k:Nat)=>[.int .i64 k,.sl 6 ((paraK cs w ps k).map dplRow)]
theorem placesN_get {cs:List Cor} {t:List UInt8} {s:Stg} {w:Int} (h:fitN s=true):∃ X,placesN cs t s w=plcL (fontsN cs t) (linesN cs t s w) X (widthsN cs t s) (splT t).length:=by
 unfold placesN
 rw [if_pos h]
 exact ⟨_,rfl⟩
theorem placesN_len {cs:List Cor} {t:List UInt8} {s:Stg} {w:Int} (h:fitN s=true):(placesN cs t s w).length=(splT t).length:=by
 obtain ⟨X,e⟩:=placesN_get (cs:=cs) (t:=t) (w:=w) h
 rw [e,plcL_len]
theorem plcL_get (Fs ls X Ws:List Int) (n i:Nat) (h:i<(plcL Fs ls X Ws n).length):(plcL Fs ls X Ws n)[i]=⟨i,Fs.getD i 0,ls.getD i 0,X.getD i 0,Ws.getD i 0⟩:=by
 simp [plcL]
theorem LStep_b {L:List Int} (h:LStep L):∀ i,i<L.length→0≤L.getD i 0∧L.getD i 0≤i:=by
 intro i
 induction i with
 | zero=>intro hi;have:=h.2 hi;omega
 | succ i ih=>
  intro hi
  have:=ih (by omega)
  rcases h.1 i hi with q | q<;>omega
theorem parV_b {cs:List Cor} {w:Int} {p:Par} (hp:p.ok):(parV cs w p).length≤12∧∀ x∈parV cs w p,0≤x.l∧x.l≤1000:=by
 have h1:=splT_len p.t
 have hl:(parV cs w p).length≤12:=by
  unfold parV;rw [placesN_len hp.2.1];have:=hp.1;omega
 refine ⟨hl,fun x hx=>?_⟩
 obtain ⟨X,e⟩:=placesN_get (cs:=cs) (t:=p.t) (w:=w) hp.2.1
 unfold parV at hx hl
 rw [e] at hx hl
 obtain ⟨i,hi,rfl⟩:=List.mem_iff_getElem.1 hx
 rw [plcL_get]
 have hs:LStep (linesN cs p.t p.s w):=fillN_step
 dsimp only
 by_cases hi2:i<(linesN cs p.t p.s w).length
 ·have:=LStep_b hs i hi2
  rw [plcL_len] at hi hl
  omega
 ·rw [List.getD_eq_getElem?_getD,List.getElem?_eq_none (by omega)]
  simp
theorem lineK_b {cs:List Cor} {w:Int} {ps:List Par} (hp:ParsOk ps) (k:Nat) (hk:k≤ps.length):0≤lineK cs w ps k∧lineK cs w ps k≤1001*k:=by
 induction k with
 | zero=>simp [lineK]
 | succ k ih=>
  have:=ih (by omega)
  have hlt:k<ps.length:=by omega
  simp only [lineK,List.getElem?_eq_getElem hlt]
  have hb:=parV_b (cs:=cs) (w:=w) (hp.2 ps[k] (by simp))
  have:=maxL_b hb.2 (parV cs w ps[k]).length
  rw [List.take_length] at this
  omega
theorem g84 (cs:List Cor) (hcs:CorsOk2 cs) (w:Int) (hw:0≤w∧w≤1000) (pn:List Cor) (ps:List Par) (hp:ParsOk ps):Gens Tryz.prog 84 [] [.ro (docRow w pn ps),.ro [.sl 9 (cs.map corRow)]] (parsR cs w ps):=by
 refine gens mixed fn84 ok84 (by simp) fun l=>?_
 simp -dsimp [ac84,docRow]
 refine loopYP ps.length (fun k=>⟨[(0,.p (.clo (.yield l) [] [])),(1,.p (.ro [.int .i64 w,.sl 3 (pn.map pinRow),.sl 4 (ps.map parRow)])),(2,.p (.ro [.sl 9 (cs.map corRow)])),(4,.p (.int .i64 (lineK cs w ps k))),(11,.p (.sl 4 (ps.map parRow))),(12,.p (.int .i64 ps.length)),(13,.p (.int .i64 k))],[]⟩) (fun k=>k) (fun k hk=>?_) rfl (by simp [lineK])
 by_cases h:k<ps.length
 ·obtain ⟨⟨t,s⟩,ex⟩:∃ x,ps[k]=x:=⟨_,rfl⟩
  have hpk:=hp.2 ⟨t,s⟩ (by rw [←ex];simp)
  obtain ⟨ht,hs1,hs2⟩:=id hpk
  dsimp only at ht hs1 hs2
  have hb:=parV_b (cs:=cs) (w:=w) hpk
  have hlb:=lineK_b (cs:=cs) (w:=w) hp k hk
  have h3:=hp.1
  have q:=b19 cs hcs t (by omega) s (by omega) w ⟨by omega,by omega⟩ hs1
  have eV:placesN cs t s w=parV cs w ⟨t,s⟩:=rfl
  rw [eV] at q
  have hsucc:lineK cs w ps (k+1)=lineK cs w ps k+maxL (parV cs w ⟨t,s⟩):=by
   simp only [lineK,List.getElem?_eq_getElem h,ex]
  have hitem:(parsR cs w ps)[k]?=some [.int .i64 k,.sl 6 (((parV cs w ⟨t,s⟩).map (shiftP k (lineK cs w ps k))).map dplRow)]:=by
   simp only [parsR,List.getElem?_map,List.getElem?_range h,Option.map_some,paraK,List.getElem?_eq_getElem h,ex]
  obtain ⟨V,eV2⟩:∃ V,parV cs w ⟨t,s⟩=V:=⟨_,rfl⟩
  rw [eV2] at q hb hsucc hitem
  obtain ⟨line,el⟩:∃ x,lineK cs w ps k=x:=⟨_,rfl⟩
  rw [el] at hlb hsucc hitem
  rw [el,hsucc]
  have hall:((V.map plcRow).all fun r=>r.all PV.one)=true:=onePl V
  simp -dsimp [h,ex,parRow]
  refine call_o q (by simp [stgRow]) (by simp) ?_
  simp -dsimp
  refine loopYP V.length (fun i=>⟨[(0,.p (.clo (.yield l) [] [])),(1,.p (.ro [.int .i64 w,.sl 3 (pn.map pinRow),.sl 4 (ps.map parRow)])),(2,.p (.ro [.sl 9 (cs.map corRow)])),(4,.p (.int .i64 line)),(5,.p (.int .i64 k)),(7,.ref (25,0) 6 0 V.length),(8,.p (.int .i64 (maxL (V.take i)))),(11,.p (.sl 4 (ps.map parRow))),(12,.p (.int .i64 ps.length)),(13,.p (.int .i64 k)),(27,.p (.int .i64 V.length)),(28,.p (.int .i64 i))],[((25,0),.sl 60 6 ((mixL V k line i).map dplRow))]⟩) (fun _=>k) (fun i hi=>?_) rfl (by simp [mixL_0,maxL])
  have hml:=mixL_len V k line i
  have hmb:=maxL_b hb.2 i
  by_cases hi2:i<V.length
  ·obtain ⟨⟨pi,pf,pl,px,pw⟩,ep⟩:∃ p,V[i]=p:=⟨_,rfl⟩
   have hpl:=hb.2 ⟨pi,pf,pl,px,pw⟩ (by rw [←ep];simp)
   dsimp only at hpl
   have hmi:i<(mixL V k line i).length:=by omega
   have hget:=mixL_get V k line i hi2 hmi
   have hset:=mixL_set V k line i hi2
   have hmax:=maxL_succ V i hi2
   rw [ep] at hget hset hmax
   dsimp only at hmax
   have hset2:((mixL V k line i).map dplRow).set i (dplRow (shiftP k line ⟨pi,pf,pl,px,pw⟩))=(mixL V k line (i+1)).map dplRow:=by
    rw [←hset,List.map_set]
   simp only [dplRow,shiftP] at hset2
   have wi:R ((i:Int)+1):=⟨by omega,by omega⟩
   have wl:R (pl+1):=⟨by omega,by omega⟩
   have wl2:R (pl+line):=⟨by omega,by omega⟩
   simp -dsimp [hi2,hml,hget,dplRow,wr wi,wr wl,wr wl2,List.set_set]
   exact ⟨hmax.symm,hset2⟩
  ·have:i=V.length:=by omega
   subst this
   have ht2:List.take V.length ((V.map (shiftP k line)).map dplRow)=(V.map (shiftP k line)).map dplRow:=List.take_of_length_le (by simp)
   have wk:R ((k:Int)+1):=⟨by omega,by omega⟩
   have hmm:=maxL_b hb.2 V.length
   rw [List.take_length] at hmm
   have wl:R (line+maxL V):=⟨by omega,by omega⟩
   simp -dsimp [hi2,mixL_end,ht2,wr wl,hitem,wr wk,h]
   exact (List.take_of_length_le (by simp)).symm
 ·have:k=ps.length:=by omega
  subst this
  simp -dsimp [h,parsR]
end
section
attribute [local simp ↓] awp_scope awp_label
set_option maxHeartbeats 1000000
attribute [local simp] evC
attribute [local simp ↓] oneI oneS oneSS oneK oneF oneC oneLl onePa onePi onePl oneD2
theorem b41 (w:Int) (pn cs:List Cor) (ps:List Par):Best Tryz.prog 41 [.agg (docRow w pn ps),.sl 9 (cs.map corRow)] (.p (.clo (.func 84) [] [.ro (docRow w pn ps),.ro [.sl 9 (cs.map corRow)]])):=by
 refine best mixed fn41 ok41 (by simp) ?_
 simp -dsimp [ac41,docRow]
noncomputable def allK (cs:List Cor) (w:Int) (ps:List Par) (k:Nat):List Dpl:=(List.range k).flatMap (paraK cs w ps)
theorem allK_succ (cs:List Cor) (w:Int) (ps:List Par) (k:Nat):allK cs w ps (k+1)=allK cs w ps k++paraK cs w ps k:=by
 simp [allK,List.range_succ]
noncomputable def docL (cs:List Cor) (w:Int) (ps:List Par):List Dpl:=allK cs w ps ps.length
theorem paraK_len {cs:List Cor} {w:Int} {ps:List Par} (hp:ParsOk ps) (k:Nat):(paraK cs w ps k).length≤12:=by
 unfold paraK
 split
 ·rename_i p hq
  have:=(parV_b (cs:=cs) (w:=w) (hp.2 p (List.mem_of_getElem? hq))).1
  simpa using this
 ·simp
theorem allK_len {cs:List Cor} {w:Int} {ps:List Par} (hp:ParsOk ps) (k:Nat):(allK cs w ps k).length≤12*k:=by
 induction k with
 | zero=>simp [allK]
 | succ k ih=>
  rw [allK_succ,List.length_append]
  have:=paraK_len (cs:=cs) (w:=w) hp k
  omega
theorem b15 (cs:List Cor) (hcs:CorsOk2 cs) (w:Int) (hw:0≤w∧w≤1000) (pn:List Cor) (ps:List Par) (hp:ParsOk ps):Best Tryz.prog 15 [.agg (docRow w pn ps),.sl 9 (cs.map corRow)] (.p (.sl 6 ((docL cs w ps).map dplRow))):=by
 refine best mixed fn15 ok15 (by simp) ?_
 have q:=b41 w pn cs ps
 have hG:=g84 cs hcs w hw pn ps hp
 have h3:=hp.1
 simp only [docRow] at q hG
 simp -dsimp [ac15,docRow]
 refine call_p q (by simp) (by simp) ?_
 simp -dsimp
 refine rfunL_rule rfl rfl hG (fun k F=>k≤ps.length∧F=⟨[(5,.ptr (5,0) 1 0 0),(10,.p (.clo (.func 84) [] [.ro [.int .i64 w,.sl 3 (pn.map pinRow),.sl 4 (ps.map parRow)],.ro [.sl 9 (cs.map corRow)]]))],[((5,0),.box [.ref (15,k) 6 0 (allK cs w ps k).length]),((15,k),.sl 60 6 ((allK cs w ps k).map dplRow))]⟩) ?_ ?_ (by simp [allK])
 ·rintro k z F hz ⟨hk,rfl⟩
  have hk2:k<ps.length:=by have:=(List.getElem?_eq_some_iff.1 hz).1;simpa [parsR] using this
  simp only [parsR,List.getElem?_map,List.getElem?_range hk2,Option.map_some,Option.some.injEq] at hz
  subst hz
  have l1:=paraK_len (cs:=cs) (w:=w) hp k
  have l2:=allK_len (cs:=cs) (w:=w) hp k
  have hs:=allK_succ cs w ps k
  obtain ⟨A,eA⟩:∃ A,allK cs w ps k=A:=⟨_,rfl⟩
  obtain ⟨B,eB⟩:∃ B,paraK cs w ps k=B:=⟨_,rfl⟩
  rw [eA,eB] at hs
  rw [eA] at l2 ⊢
  rw [eB] at l1 ⊢
  rw [hs]
  have m1:A.length+B.length≤maxLen:=by unfold maxLen;omega
  have e1:(A.length+B.length)*48≤140737488355328:=by omega
  refine ⟨rfl,?_⟩
  simp -dsimp [m1,e1,List.range,List.range.loop]
  omega
 ·rintro F ⟨hk,rfl⟩
  have hl:(parsR cs w ps).length=ps.length:=by simp [parsR]
  rw [hl]
  have ht:List.take (docL cs w ps).length ((docL cs w ps).map dplRow)=(docL cs w ps).map dplRow:=List.take_of_length_le (by simp)
  have e:allK cs w ps ps.length=docL cs w ps:=rfl
  rw [e]
  simp -dsimp [ht]
end
section
theorem Rch_ex {ls:List Int}:∀ i,i<ls.length→∃ g,Rch ls 0 g∧g≤i∧i<grpE ls g:=by
 intro i
 induction i with
 | zero=>intro h;exact ⟨0,.refl 0,Nat.le_refl _,(grpE_b h).1⟩
 | succ i ih=>
  intro h
  obtain ⟨g,h1,h2,h3⟩:=ih (by omega)
  by_cases q:i+1<grpE ls g
  ·exact ⟨g,h1,by omega,q⟩
  ·have e:grpE ls g=i+1:=by omega
   have:=h1.next (by omega)
   rw [e] at this
   exact ⟨i+1,this,Nat.le_refl _,(grpE_b h).1⟩
theorem LStep_mono {L:List Int} (h:LStep L) (i:Nat):∀ d,i+d<L.length→L.getD i 0≤L.getD (i+d) 0:=by
 intro d
 induction d with
 | zero=>intro _;exact Int.le_refl _
 | succ d ih=>
  intro hd
  have:=ih (by omega)
  rcases h.1 (i+d) (by omega) with q | q
  ·rw [show i+(d+1)=i+d+1 by omega,q];exact this
  ·rw [show i+(d+1)=i+d+1 by omega,q];omega
theorem LStep_grp {L:List Int} (h:LStep L) {g i k:Nat} (hg:g≤i) (hi:i<grpE L g) (hl:g<L.length) (hik:i≤k) (hk:k<L.length) (e:L.getD i 0=L.getD k 0):k<grpE L g:=by
 rcases Nat.lt_or_ge k (grpE L g) with q | q
 ·exact q
 ·have h1:=grpE_in hg hi hl
  have h2:=grpE_out (ls:=L) (b:=g) (by omega)
  have h3:=LStep_mono h i (grpE L g - i) (by omega)
  have h4:=LStep_mono h (grpE L g) (k - grpE L g) (by omega)
  rw [show i+(grpE L g - i)=grpE L g by omega] at h3
  rw [show grpE L g+(k - grpE L g)=k by omega] at h4
  omega
theorem sumI_part {Ws:List Int} (h:∀ x∈Ws,0≤x∧x≤40000000000000000) (g m:Nat) (hl:Ws.length≤12):0≤sumI ((Ws.drop g).take m)∧sumI ((Ws.drop g).take m)≤480000000000000000:=by
 have:=sumI_b (l:=(Ws.drop g).take m) (fun x hx=>h x (List.mem_of_mem_drop (List.mem_of_mem_take hx)))
 have hl2:((Ws.drop g).take m).length≤12:=by simp;omega
 omega
theorem parV_geo {cs:List Cor} (hcs:CorsOk2 cs) {w:Int} (hw:0≤w∧w≤1000) {p:Par} (hp:p.ok) :
  (∀ x∈parV cs w p,-1000000000000000000≤x.x∧x.x≤1000000000000000000∧0≤x.w∧x.w≤40000000000000000) ∧
  ∀ i k (hi:i<(parV cs w p).length) (hk:k<(parV cs w p).length),i≠k→(parV cs w p)[i].l=(parV cs w p)[k].l→(parV cs w p)[i].x+(parV cs w p)[i].w≤(parV cs w p)[k].x∨(parV cs w p)[k].x+(parV cs w p)[k].w≤(parV cs w p)[i].x:=by
 obtain ⟨ht,hf,hat⟩:=hp
 have hn:=splT_len p.t
 obtain ⟨n,en⟩:∃ n,(splT p.t).length=n:=⟨_,rfl⟩
 have hWl:(widthsN cs p.t p.s).length=n:=by rw [←en];simp [widthsN,hf]
 have hWb:=widthsN_b hcs (t:=p.t) hf
 have hLl:(linesN cs p.t p.s w).length=n:=by rw [←en];exact fillN_len
 have hst:LStep (linesN cs p.t p.s w):=fillN_step
 have hV:parV cs w p=plcL (fontsN cs p.t) (linesN cs p.t p.s w) (xsF (widthsN cs p.t p.s) (levT p.t) (splT p.t) (linesN cs p.t p.s w) (decide (baseN p.t=2)) w n 0 (zerosI n)) (widthsN cs p.t p.s) n:=by
  unfold parV placesN;rw [if_pos hf,en]
 obtain ⟨Ws,eW⟩:∃ Ws,widthsN cs p.t p.s=Ws:=⟨_,rfl⟩
 obtain ⟨ls,el⟩:∃ ls,linesN cs p.t p.s w=ls:=⟨_,rfl⟩
 rw [eW] at hWl hWb hV
 rw [el] at hLl hst hV
 have hW0:∀ i,0≤Ws.getD i 0∧Ws.getD i 0≤40000000000000000:=fun i=>by
  by_cases q:i<Ws.length
  ·rw [List.getD_eq_getElem?_getD,List.getElem?_eq_getElem q];exact hWb _ (by simp)
  ·rw [List.getD_eq_getElem?_getD,List.getElem?_eq_none (by omega)];simp
 obtain ⟨t1,_,t3⟩:=xsF_tile (LV:=levT p.t) (T:=splT p.t) (rt:=decide (baseN p.t=2)) (w:=w) hWl hLl (fun i=>(hW0 i).1) n 0 (zerosI n) (by omega) (by simp [zerosI]) (by omega)
 obtain ⟨X,eX⟩:∃ X,xsF Ws (levT p.t) (splT p.t) ls (decide (baseN p.t=2)) w n 0 (zerosI n)=X:=⟨_,rfl⟩
 rw [eX] at t1 t3 hV
 rw [hV]
 have hlen:=plcL_len (fontsN cs p.t) ls X Ws n
 have hn12:n≤12:=by omega
 refine ⟨fun x hx=>?_,fun i k hi hk hik e=>?_⟩
 ·obtain ⟨i,hi,rfl⟩:=List.mem_iff_getElem.1 hx
  rw [plcL_get]
  dsimp only
  obtain ⟨g,g1,g2,g3⟩:=Rch_ex (ls:=ls) i (by omega)
  obtain ⟨x0,T,hx0⟩:=t3 g g1 (by omega)
  have s1:=sumI_part hWb g (grpE ls g - g) (by omega)
  have a1:=T.lo i g2 g3
  have a2:=T.hi i g2 g3
  have a3:=hW0 i
  omega
 ·rw [plcL_get,plcL_get] at e
  rw [plcL_get,plcL_get]
  dsimp only at e ⊢
  obtain ⟨g,g1,g2,g3⟩:=Rch_ex (ls:=ls) (min i k) (by omega)
  obtain ⟨x0,T,hx0⟩:=t3 g g1 (by omega)
  have hgl:g<ls.length:=by omega
  have hi2:i<grpE ls g:=by
   rcases Nat.lt_or_ge i k with q | q
   ·have:min i k=i:=by omega
    omega
   ·have:min i k=k:=by omega
    exact LStep_grp hst (i:=k) (by omega) (by omega) hgl q (by omega) e.symm
  have hk2:k<grpE ls g:=by
   rcases Nat.lt_or_ge i k with q | q
   ·have:min i k=i:=by omega
    exact LStep_grp hst (i:=i) (by omega) (by omega) hgl (by omega) (by omega) e
   ·have:min i k=k:=by omega
    omega
  exact T.dis i k (by omega) hi2 (by omega) hk2 hik
end
section
attribute [local simp ↓] awp_scope awp_label
set_option maxHeartbeats 1000000
attribute [local simp] evC
attribute [local simp ↓] oneI oneS oneSS oneK oneF oneC oneLl onePa onePi onePl oneD2
def BndP (p:Plc):Prop:=-1000000000000000000≤p.x∧p.x≤1000000000000000000∧0≤p.w∧p.w≤40000000000000000
def BndL (l:List Dpl):Prop:=∀ p∈l,BndP p.2
def hitB (line x:Int) (p:Dpl):Bool:=decide (0<p.2.w) && (decide (p.2.l=line) && decide (p.2.x≤x) && decide (x<p.2.x+p.2.w))
theorem b46 (p:Dpl) (hp:BndP p.2) (line x:Int):Best Tryz.prog 46 [.agg (dplRow p),.ro [.int .i64 x],.ro [.int .i64 line]] (.p (.bool (hitB line x p))):=by
 obtain ⟨k,i,f,l,px,pw⟩:=p
 obtain ⟨h1,h2,h3,h4⟩:=hp
 dsimp only at h1 h2 h3 h4
 have w1:R (px+pw):=⟨by omega,by omega⟩
 have w2:R (px+pw - 1):=⟨by omega,by omega⟩
 refine best mixed fn46 ok46 (by simp [dplRow]) ?_
 by_cases c1:0<pw
 ·by_cases c2:l=line
  ·subst c2
   by_cases c3:min (max x px) (px+pw - 1)=x
   ·have e:hitB l x (k,⟨i,f,l,px,pw⟩)=true:=by simp [hitB,c1];omega
    simp -dsimp [ac46,dplRow,wr w1,wr w2,c1,c3,e]
   ·have e:hitB l x (k,⟨i,f,l,px,pw⟩)=false:=by simp [hitB,c1];omega
    simp -dsimp [ac46,dplRow,wr w1,wr w2,c1,c3,e]
  ·have e:hitB line x (k,⟨i,f,l,px,pw⟩)=false:=by simp [hitB,c2]
   simp -dsimp [ac46,dplRow,wr w1,wr w2,c1,c2,e]
 ·have e:hitB line x (k,⟨i,f,l,px,pw⟩)=false:=by simp [hitB,c1]
  simp -dsimp [ac46,dplRow,wr w1,wr w2,c1,e]
def pickI (line x:Int) (L:List Dpl):Int:=match L.findIdx? (hitB line x) with
 | some k=>k
 | none=>-1
theorem pickI_at {line x:Int} {L:List Dpl} {k:Nat} (h:k<L.length) (hk:hitB line x L[k]=true) (hn:∀ j (q:j<k),hitB line x (L[j]'(by omega))=false):pickI line x L=k:=by
 have:L.findIdx? (hitB line x)=some k:=by
  rw [List.findIdx?_eq_some_iff_getElem]
  exact ⟨h,hk,fun j q=>by simp [hn j q]⟩
 simp only [pickI,this]
theorem pickI_none {line x:Int} {L:List Dpl} (hn:∀ j (q:j<L.length),hitB line x L[j]=false):pickI line x L=-1:=by
 have:L.findIdx? (hitB line x)=none:=by
  rw [List.findIdx?_eq_none_iff]
  intro y hy
  obtain ⟨j,q,rfl⟩:=List.mem_iff_getElem.1 hy
  exact hn j q
 simp only [pickI,this]
theorem b45 (L:List Dpl) (hL:BndL L) (hl:L.length≤1000) (line x:Int):Best Tryz.prog 45 [.sl 6 (L.map dplRow),.clo (.func 46) [] [.ro [.int .i64 x],.ro [.int .i64 line]]] (.p (.int .i64 (pickI line x L))):=by
 refine best mixed fn45 ok45 (by simp) ?_
 simp -dsimp [ac45]
 refine loopC L.length (fun k=>⟨[(0,.p (.sl 6 (L.map dplRow))),(1,.p (.clo (.func 46) [] [.ro [.int .i64 x],.ro [.int .i64 line]])),(7,.p (.int .i64 L.length)),(8,.p (.int .i64 k))],[]⟩) (fun k=>∀ j (q:j<L.length),j<k→hitB line x L[j]=false) (fun k hk hall=>?_) (by intro j q h;omega) (by simp)
 by_cases h:k<L.length
 ·obtain ⟨p,ep⟩:∃ p,L[k]=p:=⟨_,rfl⟩
  have hp:=hL p (by rw [←ep];simp)
  have q:=b46 p hp line x
  have wk:R ((k:Int)+1):=⟨by omega,by omega⟩
  cases e:hitB line x p with
  | true=>
   have hr:=pickI_at (line:=line) (x:=x) h (by rw [ep];exact e) (fun j q=>hall j (by omega) q)
   rw [e] at q
   simp -dsimp [h,ep,dplRow]
   refine call_p q (by simp [dplRow]) (by simp) ?_
   simp -dsimp [hr]
  | false=>
   rw [e] at q
   simp -dsimp [h,ep,dplRow]
   refine call_p q (by simp [dplRow]) (by simp) ?_
   simp -dsimp [wr wk]
   refine ⟨h,fun j q1 q2=>?_⟩
   by_cases hjk:j=k
   ·subst hjk;rw [ep];exact e
   ·exact hall j q1 (by omega)
 ·have:k=L.length:=by omega
  subst this
  have hr:=pickI_none (line:=line) (x:=x) (fun j q=>hall j q q)
  simp -dsimp [h,hr]
theorem docL_bnd {cs:List Cor} (hcs:CorsOk2 cs) {w:Int} (hw:0≤w∧w≤1000) {ps:List Par} (hp:ParsOk ps):BndL (docL cs w ps):=by
 intro x hx
 obtain ⟨k,_,hk⟩:=List.mem_flatMap.1 hx
 unfold paraK at hk
 split at hk
 ·rename_i p hq
  obtain ⟨y,hy,rfl⟩:=List.mem_map.1 hk
  exact (parV_geo hcs hw (hp.2 p (List.mem_of_getElem? hq))).1 y hy
 ·simp at hk
theorem b18 (cs:List Cor) (hcs:CorsOk2 cs) (w:Int) (hw:0≤w∧w≤1000) (pn:List Cor) (ps:List Par) (hp:ParsOk ps) (line x:Int):Best Tryz.prog 18 [.agg (docRow w pn ps),.sl 9 (cs.map corRow),.int .i64 line,.int .i64 x] (.p (.tup [.int .i64 (max (pickI line x (docL cs w ps)) 0),.bool (decide (0≤pickI line x (docL cs w ps)))])):=by
 have q:=b15 cs hcs w hw pn ps hp
 have hl:=allK_len (cs:=cs) (w:=w) hp ps.length
 have h3:=hp.1
 have q2:=b45 (docL cs w ps) (docL_bnd hcs hw hp) (by unfold docL;omega) line x
 refine best mixed fn18 ok18 (by simp) ?_
 simp only [docRow] at q
 simp -dsimp [ac18,docRow]
 refine call_p q (by simp) (by simp) ?_
 simp -dsimp
 refine call_p q2 (by simp) (by simp) ?_
 simp -dsimp
end
end Go.Abs.A30
namespace Go.Abs.A30
open Go Go.Abs Go.Proofs
set_option maxRecDepth 100000
set_option maxHeartbeats 4000000
set_option linter.unusedVariables false
def ac12:AC:=by
 apply fun (y:AC) (_:@Eq AC (let e0:=[11,34,35,36,37,38,39,40,41,42];let e1:=[11,29,32];let e2:=[11,26,27,28,29,30,31,32,33,38,39,40,41,42];let e3:=[11,26,27,28,29,30,31,32,33,34,35,36,37,38];let e4:=[0,1,2,3,4,5,6,7,8,9,10,11];let e5:=[1,5,6,7,8,19,20,21];let e6:=[11,26,27,28,29,30,31,32,33,34,35,36,37];let e7:=[0,1,2,3,4,5,6,7,8,9,10,11,12];let e8:=[0,1,2,3,4,5,6,7];let e9:=[11];let e10:=[44,47,48,49,50,51,52];let e11:=[44,45,46,49,50,51,52];let e12:=[0,1,2,3,4];(qk [0,1] (qs (qr [(qp 4 (.mov (.c .nsl)))]) (qk [0,1] (qs (qr [(ym 12 0),(ym 13 1),(qi 14 (.call 21 [.v 12,.v 13]) [0,1]),(ym 15 1),(qi 16 (.call 22 [.v 15]) [3,2]),(yn 5 14 [2,4,0,1,2]),(yn 6 16 [4,5,0,1,2,3,4,5])]) (qk [1,5,6] (qs (qr [(qp 7 (.mov (.c .nsl)))]) (.ghost (.own 7 55 80 3) (qk [1,5,6,7] (qs (qr [(qp 17 (.build [.bool false,.int .i64 0,.int .i64 0] [(0,1,.c (.bool true))])),(qp 8 (.alloc [.bool false,.int .i64 0,.int .i64 0])),(qo (.store 3 (.v 8) (.v 17)) [1,0,0,1])]) (qk [1,5,6,7,8] (qs (qs (qr [(ym 18 1),(qi 19 (.call 23 [.v 18]) [0]),(yh 20 19 [1]),(qp 21 (.mov (qz 0)))]) (qk e5 (.block 0 (.loop (qk e5 (qs (qr [(qp 22 (qb .lss 21 20))]) (qk [1,5,6,7,8,19,20,21,22] (qs (qq (.v 22) .skip (.exit 0)) (qk e5 (qs (.block 1 (qs (qr [(ym 23 21),(qp 24 (qj 2 19 21)),(qi 25 (qt 2 24) [1]),(qp 10 (.alloc [.int .i64 0,.int .i64 0])),(yn 9 23 [0,0,1,2,3]),(qo (.store 2 (.v 10) (.v 25)) [3,2,4,0,1,2,3,4])]) (qk [1,5,6,7,8,9,10,19,20,21] (qs (qd [(qa (ym 26 1) [11,27,28,29,34,35,36,37,38,39,40,41,42] [11,29] [] [] 2),(qa (ym 27 1) [11,26,28,34,35,36,37,38,39,40,41,42] e9 [] [0] 2),(qa (qp 28 (qt 2 10)) [11,26,27,34,35,36,37,38,39,40,41,42] e9 [] [0,1] 0),(qa (qi 29 (.call 25 [.v 27,.v 28]) [1,2]) [11,26,34,35,36,37,38,39,40,41,42] e9 [29] [0] 0),(qa (qi 30 (.idxS (.v 26) (.v 29)) [0,3]) e0 e9 [] [] 2),(qa (qi 31 (.conv .i64 (.v 30)) [4]) e0 e9 [] [] 2),(qa (qi 32 (.call 24 [.v 31]) [5,3]) e0 e9 [32] [] 0),(qa (yc 33 .eql 32 (qz 1) [6]) e0 e9 [] [] 2),(qa (ym 34 5) [11,26,27,28,29,30,31,32,33,35,38,39,40,41,42] e1 [] e8 2),(qa (ym 35 9) [11,26,27,28,29,30,31,32,33,34,38,39,40,41,42] e1 [] [0,1,2,3,4,5,6,7,8] 2),(qa (yj 36 1 34 35 [8,9]) e2 e1 [] e8 2),(qa (yk 37 36 [10]) e2 e1 [] e8 0),(qa (ym 38 6) [11,26,27,28,29,30,31,32,33,34,35,36,37,39,40] e1 [] e4 2),(qa (qp 39 (qf 0 10)) e3 e1 [] e7 2),(qa (yk 40 39 [13]) e3 e1 [] e7 0),(qa (yj 41 1 38 40 [12,14]) e6 e1 [] e4 2),(qa (yk 42 41 [15]) e6 e1 [] e4 0),(qa (qi 43 (.build [.bool false,.int .i64 0,.int .i64 0] [(0,1,.v 33),(1,1,.v 37),(2,1,.v 42)]) [7,11,16]) e9 e9 [] [] 2),(qa (qp 11 (.alloc [.bool false,.int .i64 0,.int .i64 0])) [26,27,28,29,30,31,32,33,34,35,36,37,38,39,40,41,42,43] [29,32] e9 [0,1,2,3,4,5,6,7,8,9,10,11,12,13,14,15,16,17] 0),(qa (qo (.store 3 (.v 11) (.v 43)) [18,17,6,0,1,2,3,4,5,6,7,8,9,10,11,12,13,14,15,16,17,18]) [] [] e9 [] 1)]) (qk [1,5,6,7,8,9,10,11,19,20,21] (qs (.block 2 (qs (qr [(qp 57 (qf 0 11)),(yk 58 57 [0]),(yn 56 58 [1])]) (qk [1,5,6,7,8,9,10,11,19,20,21,56] (qq (.v 56) .skip (qs (qr [(qp 60 (qt 3 11)),(qp 61 (qt 3 8)),(qi 62 (.eqs false 3 [(0,0),(1,1),(2,1)] (.v 60) (.v 61)) [0,1]),(yn 59 62 [2])]) (qk [1,5,6,7,8,9,10,11,19,20,21,59] (qq (.v 59) (qr [(ym 63 7),(ym 64 7),(yh 65 64 [1]),(yc 66 .sub 65 (qz 1) [2]),(qp 67 (qf 1 10)),(yk 68 67 [4]),(yj 69 3 63 66 [0,3,0,1,2,3,4,5]),(yf 70 1 69 [6,0,1,2,3,4,5]),(qo (.store 1 (.v 70) (.v 68)) [7,5,0,1,2,3,4,5])]) (qd [(qa (ym 44 7) [45,46,47,48,49,50,51,52,53,54] [54] [] [] 2),(qe (qp 45 (qf 0 10)) e10 [0] 2),(qe (yk 46 45 [1]) e10 [0] 2),(qe (qp 47 (qf 1 10)) e11 [0,1,2] 2),(qe (yk 48 47 [3]) e11 [0,1,2] 2),(qe (ym 49 5) [44,45,46,47,48,50] e12 2),(qe (ym 50 9) [44,45,46,47,48,49] [0,1,2,3,4,5] 2),(qe (yj 51 1 49 50 [5,6]) [44,45,46,47,48] e12 2),(qe (yk 52 51 [7]) [44,45,46,47,48] e12 2),(qe (qi 53 (.build [.int .i64 0,.int .i64 0,.int .i64 0] [(0,1,.v 46),(1,1,.v 48),(2,1,.v 52)]) [2,4,8]) [44] [0] 2),(qa (qi 54 (.bslice 80 3 1 [.int .i64 0,.int .i64 0,.int .i64 0] [(0,3,.v 53)]) [9]) [44] [] [54] [0] 1),(qa (qi 55 (.app 80 3 24 (.v 44) (.v 54)) [0,10]) [] [] [55] [] 1),(qe (yn 7 55 [11,11,0,1,2,3,4,5,6,7,8,9,10,11]) [] [] 2)])))))))) (qk [1,5,6,7,8,11,19,20,21] (qr [(qp 71 (qt 3 11)),(qo (.store 3 (.v 8) (.v 71)) [0,0])])))))))) (qk e5 (qr [(qp 72 (qc .add 21 (qz 1))),(yn 21 72 [0])])))))))))))) (qk [7] (qs (qr [(ym 73 7),(yn 4 73 [0,0])]) (qk [4] .ret))))))))))))))) y)=>y
 dsimp
theorem fn12:factOf Tryz.prog 12=some (ac12.strip,[.tmp 4],74):=by kernel_rfl
theorem ok12:ac12.okAll=true:=by kernel_rfl
def ac11:AC:=by
 apply fun (y:AC) (_:@Eq AC (qk [0,1] (qs (qr [(qp 4 (.mov (.c (.bool false))))]) (qk [0,1] (qs (qs (qr [(ym 6 0),(yh 7 6 [0]),(ym 8 1),(yh 9 8 [2]),(yb 10 .neq 7 9 [1,3])]) (qk [0,1,10] (qq (.v 10) (qs (qr [(qp 4 (.mov (.c (.bool false))))]) (qk [4] .ret)) .skip))) (qk [0,1] (qs (qs (qr [(qp 5 (.mov (qz 0)))]) (qk [0,1,5] (.block 0 (.loop (qk [0,1,5] (qs (qs (qr [(ym 11 5),(ym 12 0),(yh 13 12 [1]),(yb 14 .lss 11 13 [0,2])]) (qk [0,1,5,14] (qq (.v 14) .skip (.exit 0)))) (qk [0,1,5] (qs (.block 1 (qs (qd [(qe (ym 17 0) [18,21,22,23,24] [] 2),(qe (ym 18 5) [17,21,22,23,24] [0] 2),(qe (yj 19 3 17 18 [0,1]) [21,22,23,24] [] 2),(qe (qi 20 (qt 3 19) [2]) [21,22,23,24] [] 2),(qe (ym 21 1) [17,18,19,20,22] [0,1,2,3] 2),(qe (ym 22 5) [17,18,19,20,21] [0,1,2,3,4] 2),(qe (yj 23 3 21 22 [4,5]) [17,18,19,20] [0,1,2,3] 2),(qe (qi 24 (qt 3 23) [6]) [17,18,19,20] [0,1,2,3] 2),(qe (qi 25 (.eqs true 3 [(0,1),(1,1),(2,1)] (.v 20) (.v 24)) [3,7]) [] [] 2)]) (qk [0,1,5,25] (qq (.v 25) (qs (qr [(qp 4 (.mov (.c (.bool false))))]) (qk [4] .ret)) .skip)))) (qk [0,1,5] (qr [(ym 15 5),(yc 16 .add 15 (qz 1) [0]),(yn 5 16 [1,0,1])])))))))))) (qk [] (qs (qr [(qp 4 (.mov (.c (.bool true))))]) (qk [4] .ret))))))))) y)=>y
 dsimp
theorem fn11:factOf Tryz.prog 11=some (ac11.strip,[.tmp 4],26):=by kernel_rfl
theorem ok11:ac11.okAll=true:=by kernel_rfl
def ac16:AC:=by
 apply fun (y:AC) (_:@Eq AC (qk [0,1] (qs (qr [(qp 4 (.mov (.c (.bool false))))]) (qk [0,1] (qs (qs (qr [(ym 6 0),(yh 7 6 [0]),(ym 8 1),(yh 9 8 [2]),(yb 10 .neq 7 9 [1,3])]) (qk [0,1,10] (qq (.v 10) (qs (qr [(qp 4 (.mov (.c (.bool false))))]) (qk [4] .ret)) .skip))) (qk [0,1] (qs (qs (qr [(qp 5 (.mov (qz 0)))]) (qk [0,1,5] (.block 0 (.loop (qk [0,1,5] (qs (qs (qr [(ym 11 5),(ym 12 0),(yh 13 12 [1]),(yb 14 .lss 11 13 [0,2])]) (qk [0,1,5,14] (qq (.v 14) .skip (.exit 0)))) (qk [0,1,5] (qs (.block 1 (qs (qd [(qe (ym 17 0) [18,21,22,23,24] [] 2),(qe (ym 18 5) [17,21,22,23,24] [0] 2),(qe (yj 19 6 17 18 [0,1]) [21,22,23,24] [] 2),(qe (qi 20 (qt 6 19) [2]) [21,22,23,24] [] 2),(qe (ym 21 1) [17,18,19,20,22] [0,1,2,3] 2),(qe (ym 22 5) [17,18,19,20,21] [0,1,2,3,4] 2),(qe (yj 23 6 21 22 [4,5]) [17,18,19,20] [0,1,2,3] 2),(qe (qi 24 (qt 6 23) [6]) [17,18,19,20] [0,1,2,3] 2),(qe (qi 25 (.eqs true 6 [(0,1),(1,1),(2,1),(3,1),(4,1),(5,1)] (.v 20) (.v 24)) [3,7]) [] [] 2)]) (qk [0,1,5,25] (qq (.v 25) (qs (qr [(qp 4 (.mov (.c (.bool false))))]) (qk [4] .ret)) .skip)))) (qk [0,1,5] (qr [(ym 15 5),(yc 16 .add 15 (qz 1) [0]),(yn 5 16 [1,0,1])])))))))))) (qk [] (qs (qr [(qp 4 (.mov (.c (.bool true))))]) (qk [4] .ret))))))))) y)=>y
 dsimp
theorem fn16:factOf Tryz.prog 16=some (ac16.strip,[.tmp 4],26):=by kernel_rfl
theorem ok16:ac16.okAll=true:=by kernel_rfl
def ac29:AC:=by
 apply fun (y:AC) (_:@Eq AC (anF Tryz.prog 29 mu1 [] 0 0 []) y)=>y
 conv=>lhs;reduce;dsimp
theorem fn29:factOf Tryz.prog 29=some (ac29.strip,[.tmp 8],33):=by kernel_rfl
theorem ok29:ac29.okAll=true:=by kernel_rfl
def ac9:AC:=by
 apply fun (y:AC) (_:@Eq AC (anF Tryz.prog 9 mu1 [] 0 0 []) y)=>y
 conv=>lhs;reduce;dsimp
theorem fn9:factOf Tryz.prog 9=some (ac9.strip,[.tmp 0],97):=by kernel_rfl
theorem ok9:ac9.okAll=true:=by kernel_rfl
def ac28:AC:=by
 apply fun (y:AC) (_:@Eq AC (anD [⟨4,[.freeze (8,0),.freeze (10,0),.freeze (14,0)],[],none⟩] (anF Tryz.prog 28 mu1 [] 0 0 [])) y)=>y
 conv=>lhs;reduce;dsimp
theorem fn28:factOf Tryz.prog 28=some (ac28.strip,[.cell 0 true 3,.tmp 1],26):=by kernel_rfl
theorem ok28:ac28.okAll=true:=by kernel_rfl
end Go.Abs.A30
namespace Go.Abs.A30
open Go Go.Abs Go.Proofs
set_option maxRecDepth 100000
set_option linter.unusedVariables false
set_option linter.unusedSimpArgs false
attribute [local simp ↓] awp_skip awp_seq awp_cond awp_block awp_exit awp_ret awp_reg awp_draw awp_ghost awp_loop awp_rfun awpR_nil awpR_cons awpX_nil awpX_0 awpX_1 awpX_2 awpI_eq awpI_t awpI_f awpStep_eq
attribute [local simp] condL_true condL_false condL_dec evDel evV evN evS evA initFr Ghost.app Fr.var Fr.blk Fr.ff FF.val Abs.look Fr.app Fr.erase Fr.noSlot AV.noSlot AV.noSlotL Blk.noSlot Fr.spoken AV.fz AV.fzL Blk.fz binV binI shI binS unV fillA FF.parts FF.vals headO intO boundO lenV scalarEq leavesEq AV.aggc AV.cells FF.read FF.rows AV.one PV.one chunk freshB newS pickV retK evRs evRl evR resOf mkTup mkAgg allP cloOf okP_nil okX_p okX okP addN Del.noSlot Del.owners Rnd reify_p normM insM Fr.back Fr.backV Fr.setPs normV insV
attribute [local simp] renF Fr.trim Blk.trim AV.rn AV.rnL Blk.rn AV.among AV.amongL Blk.among okF retM fixS BIG initFF
attribute [local simp] FF.reify FF.reifyL PV.flat
section
attribute [local simp ↓] awp_scope awp_label
set_option maxHeartbeats 1000000
attribute [local simp] evC
attribute [local simp ↓] oneI oneS oneSS oneK oneSp oneN
attribute [local simp] ba_size wb ba_at w1
abbrev Knd:=Bool×Int×Int
def kndK (t:List UInt8) (Fs LV:List Int) (k:Nat):Knd:=(decide (clsT t (baseT t ((splT t).getD k (0,0)).1 ((splT t).getD k (0,0)).2)=1),Fs.getD k 0,LV.getD ((splT t).getD k (0,0)).1 0)
def setTo (o:List (Int×Int×Int)) (b:Int):List (Int×Int×Int):=match o.getLast? with
 | some (x,_,z)=>o.dropLast++[(x,b,z)]
 | none=>[]
def pcF (t:List UInt8) (Fs LV:List Int):Nat→List (Int×Int×Int)×Knd
 | 0=>([],(true,0,0))
 | k+1=>
  let o:=(pcF t Fs LV k).1
  let own:=kndK t Fs LV k
  (if own.1=true then o else if own=(pcF t Fs LV k).2 then setTo o ((splT t).getD k (0,0)).2 else o++[((((splT t).getD k (0,0)).1:Int),(((splT t).getD k (0,0)).2:Int),own.2.1)],own)
def kRow (x:Knd):List AV:=[.p (.bool x.1),.p (.int .i64 x.2.1),.p (.int .i64 x.2.2)]
attribute [local simp] kRow
theorem pcF_ne (t:List UInt8) (Fs LV:List Int) (k:Nat) (h:(pcF t Fs LV k).2.1=false):(pcF t Fs LV k).1≠[]:=by
 cases k with
 | zero=>simp [pcF] at h
 | succ k=>
  simp only [pcF] at h ⊢
  rw [h]
  simp only [Bool.false_eq_true,if_false]
  split
  ·rename_i e
   have hne:(pcF t Fs LV k).1≠[]:=pcF_ne t Fs LV k (by rw [←e];exact h)
   unfold setTo
   rw [List.getLast?_eq_some_getLast hne]
   simp
  ·simp
theorem pcF_len (t:List UInt8) (Fs LV:List Int) (k:Nat):(pcF t Fs LV k).1.length≤k:=by
 induction k with
 | zero=>simp [pcF]
 | succ k ih=>
  simp only [pcF]
  split
  ·omega
  ·split
   ·unfold setTo
    split<;>simp<;>omega
   ·simp;omega
noncomputable def piecesN (cs:List Cor) (t:List UInt8):List (Int×Int×Int):=(pcF t (fontsN cs t) (levT t) (splT t).length).1
theorem b12 (cs:List Cor) (hcs:CorsOk2 cs) (t:List UInt8) (hl:t.length≤1000):Best Tryz.prog 12 [.sl 9 (cs.map corRow),.str (ba t)] (.p (.sl 3 ((piecesN cs t).map i3Row))):=by
 refine best mixed fn12 ok12 (by simp) ?_
 have q1:=b21 cs hcs.one t (by omega)
 have q2:=b22 t (by omega)
 have q3:=b23 t (by omega)
 have hsl:=splT_len t
 have hFl:(fontsN cs t).length=(splT t).length:=by simp [fontsN]
 have hLl:=levT_len t
 unfold piecesN
 obtain ⟨Fs,eF⟩:∃ Fs,fontsN cs t=Fs:=⟨_,rfl⟩
 obtain ⟨LV,eL⟩:∃ LV,levT t=LV:=⟨_,rfl⟩
 rw [eF] at q1 hFl
 rw [eL] at q2 hLl
 rw [eF,eL]
 simp -dsimp [ac12]
 refine call_p q1 (by simp) (by simp) ?_
 simp -dsimp
 refine call_p q2 (by simp) (by simp) ?_
 simp -dsimp
 refine call_p q3 (by simp) (by simp) ?_
 simp -dsimp
 refine loopE (splT t).length (fun k (c:Nat)=>⟨[(1,.p (.str (ba t))),(5,.p (.sl 1 (Fs.map intRow))),(6,.p (.sl 1 (LV.map intRow))),(7,.ref (55,c) 3 0 (pcF t Fs LV k).1.length),(8,.ptr (8,0) 3 0 0),(19,.p (.sl 2 ((splT t).map spRow))),(20,.p (.int .i64 (splT t).length)),(21,.p (.int .i64 k))],[((8,0),.box (kRow (pcF t Fs LV k).2)),((55,c),.sl 80 3 ((pcF t Fs LV k).1.map i3Row))]⟩) (fun _ _=>True) 0 (fun k c hk _=>?_) trivial (by simp [pcF,kRow])
 by_cases h:k<(splT t).length
 ·obtain ⟨⟨a,b⟩,ex⟩:∃ x,(splT t)[k]=x:=⟨_,rfl⟩
  obtain ⟨hab,hb,h6⟩:=splT_mem (t:=t) (a:=a) (b:=b) (by rw [←ex];simp)
  have exd:(splT t).getD k (0,0)=(a,b):=by simp [h,ex]
  have q4:=b25 t a b hab hb (by omega)
  have hbl:=baseT_le hab (t:=t)
  have wk:R ((k:Int)+1):=⟨by omega,by omega⟩
  have hkF:k<Fs.length:=by omega
  have haL:a<LV.length:=by omega
  obtain ⟨f,ef⟩:∃ f,Fs[k]=f:=⟨_,rfl⟩
  obtain ⟨v,ev⟩:∃ v,LV[a]=v:=⟨_,rfl⟩
  have hkn:kndK t Fs LV k=(decide (clsT t (baseT t a b)=1),f,v):=by unfold kndK;rw [exd];simp [hkF,ef,haL,ev]
  have hne:=pcF_ne t Fs LV k
  have hpl:=pcF_len t Fs LV k
  have hs:pcF t Fs LV (k+1)=(if (kndK t Fs LV k).1=true then (pcF t Fs LV k).1 else if kndK t Fs LV k=(pcF t Fs LV k).2 then setTo (pcF t Fs LV k).1 ((splT t).getD k (0,0)).2 else (pcF t Fs LV k).1++[((((splT t).getD k (0,0)).1:Int),(((splT t).getD k (0,0)).2:Int),(kndK t Fs LV k).2.1)],kndK t Fs LV k):=rfl
  rw [exd,hkn] at hs
  obtain ⟨P,eP⟩:∃ P,pcF t Fs LV k=P:=⟨_,rfl⟩
  obtain ⟨o,l1,l2,l3⟩:=P
  rw [eP] at hs hne hpl ⊢
  dsimp only at hs hne hpl ⊢
  have hbt:baseT t a b<t.length:=by omega
  have hcl:clsN (cT t (baseT t a b))=clsT t (baseT t a b):=rfl
  have q5:=b24 (cT t (baseT t a b))
  rw [hcl] at q5
  have hcT:((bT t (baseT t a b)).toNat:Int)=cT t (baseT t a b):=rfl
  have wcT:IntKind.i64.wrap (cT t (baseT t a b))=cT t (baseT t a b):=wr ⟨by unfold cT;omega,by unfold cT;have:=(bT t (baseT t a b)).toNat_lt;omega⟩
  by_cases he:clsT t (baseT t a b)=1
  ·rw [if_pos (by simp [he])] at hs
   simp -dsimp [h,ex,spRow]
   refine call_p q4 (by simp [spRow]) (by simp) ?_
   simp -dsimp [hbt,hcT,wcT]
   refine call_p q5 (by simp) (by simp) ?_
   simp -dsimp [h,hkF,ef,haL,ev,he,hs,intRow,wr wk]
  ·have hd:decide (clsT t (baseT t a b)=1)=false:=by simp [he]
   rw [hd] at hs
   simp only [Bool.false_eq_true,if_false] at hs
   by_cases hsame:l1=false∧f=l2∧v=l3
   ·obtain ⟨rfl,rfl,rfl⟩:=hsame
    rw [if_pos rfl] at hs
    obtain ⟨o',⟨x,y,z⟩,rfl⟩:∃ o' u,o=o'++[u]:=⟨o.dropLast,o.getLast (hne rfl),(List.dropLast_concat_getLast _).symm⟩
    have hset:setTo (o'++[(x,y,z)]) b=o'++[(x,(b:Int),z)]:=by simp [setTo]
    rw [hset] at hs
    have wl:R ((o'.length:Int)+1 - 1):=⟨by omega,by simp at hpl;omega⟩
    have el:(o'.length:Int)+1 - 1=o'.length:=by omega
    have hlt:(o'.length:Int)<o'.length+1:=by omega
    have wl2:R (o'.length:Int):=⟨by omega,by simp at hpl;omega⟩
    simp -dsimp [h,ex,spRow]
    refine call_p q4 (by simp [spRow]) (by simp) ?_
    simp -dsimp [hbt,hcT,wcT]
    refine call_p q5 (by simp) (by simp) ?_
    simp -dsimp [h,hkF,ef,haL,ev,he,hs,intRow,wr wk,wr wl,el,wr wl2,hlt,i3Row]
   ·rw [if_neg (by simp only [Prod.mk.injEq];exact fun q=>hsame ⟨q.1.symm,q.2.1,q.2.2⟩)] at hs
    have m1:o.length+1≤maxLen:=by unfold maxLen;omega
    have m2:(o.length+1)*24≤140737488355328:=by omega
    simp -dsimp [h,ex,spRow]
    refine call_p q4 (by simp [spRow]) (by simp) ?_
    simp -dsimp [hbt,hcT,wcT]
    refine call_p q5 (by simp) (by simp) ?_
    have hsame':l1=false→f=l2→¬v=l3:=fun h1 h2 h3=>hsame ⟨h1,h2,h3⟩
    cases l1 with
    | true=>
     simp -dsimp [h,hkF,ef,haL,ev,he,hs,intRow,wr wk,m1,m2,i3Row,List.range,List.range.loop]
      | false=>
     by_cases h1:f=l2
     ·have h2:¬v=l3:=hsame' rfl h1
      simp -dsimp [h,hkF,ef,haL,ev,he,hs,intRow,wr wk,m1,m2,h1,h2,i3Row,List.range,List.range.loop]
     ·simp -dsimp [h,hkF,ef,haL,ev,he,hs,intRow,wr wk,m1,m2,h1,i3Row,List.range,List.range.loop]
 ·have:k=(splT t).length:=by omega
  subst this
  have ht:List.take (pcF t Fs LV (splT t).length).1.length ((pcF t Fs LV (splT t).length).1.map i3Row)=(pcF t Fs LV (splT t).length).1.map i3Row:=List.take_of_length_le (by simp)
  simp -dsimp [h,ht]
end
end Go.Abs.A30
