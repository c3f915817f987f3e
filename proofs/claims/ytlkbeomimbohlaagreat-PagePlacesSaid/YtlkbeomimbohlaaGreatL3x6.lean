/- A part of the proof: an abstract reading of the model, contracts of functions. -/
import Derived.Test.YtlkbeomimbohlaaGreatL3x5
set_option linter.unusedVariables false
set_option linter.unusedSimpArgs false
namespace Go.Abs.A30
open Go Go.Abs Go.Proofs
set_option maxRecDepth 100000
set_option linter.unusedVariables false
set_option linter.unusedSimpArgs false
attribute [local simp ↓] awp_skip awp_seq awp_cond awp_block awp_exit awp_ret awp_reg awp_draw awp_ghost awp_loop awp_rfun awpR_nil awpR_cons awpX_nil awpX_0 awpX_1 awpX_2 awpI_eq awpI_t awpI_f awpStep_eq
attribute [local simp] condL_true condL_false condL_dec evDel evV evN evS evA initFr Ghost.app Fr.var Fr.blk Fr.ff FF.val Abs.look Fr.app Fr.erase Fr.noSlot AV.noSlot AV.noSlotL Blk.noSlot Fr.spoken AV.fz AV.fzL Blk.fz binV binI shI binS unV fillA FF.parts FF.vals headO intO boundO lenV scalarEq leavesEq AV.aggc AV.cells FF.read FF.rows AV.one PV.one chunk freshB newS pickV retK evRs evRl evR resOf mkTup mkAgg allP cloOf okP_nil okX_p okX okP addN Del.noSlot Del.owners Rnd reify_p normM insM Fr.back Fr.backV Fr.setPs normV insV
attribute [local simp] renF Fr.trim Blk.trim AV.rn AV.rnL Blk.rn AV.among AV.amongL Blk.among okF retM fixS BIG initFF
attribute [local simp] FF.reify FF.reifyL PV.flat
section
theorem getD_set (l:List Int) (i j:Nat) (v:Int) (hi:i<l.length):(l.set i v).getD j 0=if i=j then v else l.getD j 0:=by
 by_cases e:i=j
 ·subst e;simp [List.getD_eq_getElem?_getD,hi]
 ·rw [if_neg e];simp [List.getD_eq_getElem?_getD,List.getElem?_set,e]
theorem sumI_cons (x:Int) (l:List Int):sumI (x :: l)=x+sumI l:=by
 show (x :: l).foldl (·+·) 0=_;rw [List.foldl_cons,sumI_from];omega
theorem sumI_perm {l m:List Int} (h:l.Perm m):sumI l=sumI m:=by
 induction h with
 | nil=>rfl
 | cons x _ ih=>rw [sumI_cons,sumI_cons,ih]
 | swap x y l=>rw [sumI_cons,sumI_cons,sumI_cons,sumI_cons];omega
 | trans _ _ ih1 ih2=>rw [ih1,ih2]
theorem xK_sum (Ws X:List Int) (b:Nat) (O:List Int) (x0:Int):∀ k,k≤O.length→(xK Ws X b O x0 k).2=x0+sumI ((O.take k).map fun o=>Ws.getD (b+o.toNat) 0)
 | 0,_=>by simp [xK,sumI]
 | k+1,h=>by
  have ih:=xK_sum Ws X b O x0 k (by omega);have hk:k<O.length:=by omega
  rw [xK,ih,List.take_add_one,List.getElem?_eq_getElem hk];simp only [Option.toList_some,List.map_append,List.map_cons,List.map_nil];rw [sumI_snoc];have:O.getD k 0=O[k]:=by simp [List.getD_eq_getElem?_getD,hk]
  rw [this];omega
theorem xK_le {Ws X:List Int} {b:Nat} {O:List Int} {x0:Int} (hW:∀ i,0≤Ws.getD i 0) (j:Nat):∀ d,(xK Ws X b O x0 j).2≤(xK Ws X b O x0 (j+d)).2
 | 0=>Int.le_refl _
 | d+1=>by
  have ih:=xK_le (X:=X) (b:=b) (O:=O) (x0:=x0) hW j d;have:=hW (b+(O.getD (j+d) 0).toNat);rw [show j+(d+1)=(j+d)+1 by omega,xK];dsimp only;omega
theorem xK_get {Ws X:List Int} {b n m:Nat} {O:List Int} {x0:Int} (hX:X.length=n) (hb:b+m≤n) (hO:∀ k,k<m→(O.getD k 0).toNat<m) (hnd:∀ k j,k<m→j<m→(O.getD k 0).toNat=(O.getD j 0).toNat→k=j) :
  ∀ k,k≤m→(∀ j,j<k→(xK Ws X b O x0 k).1.getD (b+(O.getD j 0).toNat) 0=(xK Ws X b O x0 j).2)∧(∀ i,i<b∨b+m≤i→(xK Ws X b O x0 k).1.getD i 0=X.getD i 0)
 | 0,_=>⟨fun j h=>by omega,fun i _=>rfl⟩
 | k+1,h=>by
  have ih:=xK_get (Ws:=Ws) (x0:=x0) hX hb hO hnd k (by omega);have hl:=xK_len Ws X b O x0 k;have hk:=hO k (by omega);have e:(xK Ws X b O x0 (k+1)).1=(xK Ws X b O x0 k).1.set (b+(O.getD k 0).toNat) (xK Ws X b O x0 k).2:=by rw [xK]
  rw [e];refine ⟨fun j hj=>?_,fun i hi=>?_⟩
  ·rw [getD_set _ _ _ _ (by omega)]
   by_cases q:j=k
   ·subst q;rw [if_pos rfl]
   ·rw [if_neg (fun h'=>q (hnd j k (by omega) (by omega) (by omega)))];exact ih.1 j (by omega)
  ·rw [getD_set _ _ _ _ (by omega),if_neg (by omega)];exact ih.2 i hi
structure Tile (X Ws:List Int) (b e:Nat) (x0 S:Int):Prop where
 lo:∀ i,b≤i→i<e→x0≤X.getD i 0
 hi:∀ i,b≤i→i<e→X.getD i 0+Ws.getD i 0≤x0+S
 atlo:∃ i,b≤i∧i<e∧X.getD i 0=x0
 athi:∃ i,b≤i∧i<e∧X.getD i 0+Ws.getD i 0=x0+S
 dis:∀ i k,b≤i→i<e→b≤k→k<e→i≠k→X.getD i 0+Ws.getD i 0≤X.getD k 0∨X.getD k 0+Ws.getD k 0≤X.getD i 0
theorem Tile.same {X Y Ws:List Int} {b e:Nat} {x0 S:Int} (h:Tile X Ws b e x0 S) (hY:∀ i,i<e→Y.getD i 0=X.getD i 0):Tile Y Ws b e x0 S:=by
 refine ⟨fun i h1 h2=>by rw [hY i h2];exact h.lo i h1 h2,fun i h1 h2=>by rw [hY i h2];exact h.hi i h1 h2,?_,?_,fun i k h1 h2 h3 h4 h5=>by rw [hY i h2,hY k h4];exact h.dis i k h1 h2 h3 h4 h5⟩
 ·obtain ⟨i,h1,h2,h3⟩:=h.atlo;exact ⟨i,h1,h2,by rw [hY i h2];exact h3⟩
 ·obtain ⟨i,h1,h2,h3⟩:=h.athi;exact ⟨i,h1,h2,by rw [hY i h2];exact h3⟩
theorem ordI_get {m k:Nat} (h:k<m):(k:Int)∈ordI m:=List.mem_map.2 ⟨k,by simpa using h,rfl⟩
theorem xK_tile {Ws X:List Int} {b n m:Nat} {O:List Int} {x0:Int} (hX:X.length=n) (hWl:Ws.length=n) (hb:b+m≤n) (hm:0<m) (hp:O.Perm (ordI m)) (hW:∀ i,0≤Ws.getD i 0) :
  Tile (xK Ws X b O x0 m).1 Ws b (b+m) x0 (sumI ((Ws.drop b).take m))∧(∀ i,i<b∨b+m≤i→(xK Ws X b O x0 m).1.getD i 0=X.getD i 0):=by
 have hOl:O.length=m:=by rw [hp.length_eq];simp [ordI]
 have hmem:∀ k,k<m→∃ i:Nat,O.getD k 0=i∧i<m:=fun k hk=>by
  have:O.getD k 0∈O:=by rw [show O.getD k 0=O[k]'(by omega) by simp [List.getD_eq_getElem?_getD,hOl,hk]];exact List.getElem_mem _
  obtain ⟨i,hi,e⟩:=List.mem_map.1 (hp.mem_iff.1 this);exact ⟨i,e.symm,by simpa using hi⟩
 have hO:∀ k,k<m→(O.getD k 0).toNat<m:=fun k hk=>by obtain ⟨i,e,hi⟩:=hmem k hk;rw [e];simpa using hi
 have hN:(ordI m).Nodup:=by
  unfold ordI;refine List.Pairwise.map _ (fun a c h e=>h (by omega)) List.nodup_range
 have hN':O.Nodup:=hp.nodup_iff.2 hN;have hnd:∀ k j,k<m→j<m→(O.getD k 0).toNat=(O.getD j 0).toNat→k=j:=fun k j hk hj e=>by
  obtain ⟨i,e1,_⟩:=hmem k hk;obtain ⟨i',e2,_⟩:=hmem j hj;rw [e1,e2] at e;have e3:O.getD k 0=O.getD j 0:=by rw [e1,e2];omega
  rw [show O.getD k 0=O[k]'(by omega) by simp [List.getD_eq_getElem?_getD,hOl,hk],show O.getD j 0=O[j]'(by omega) by simp [List.getD_eq_getElem?_getD,hOl,hj]] at e3;exact (List.getElem_inj hN').1 e3
 have hg:=xK_get (Ws:=Ws) (x0:=x0) hX hb hO hnd m (Nat.le_refl m);have hsum:(xK Ws X b O x0 m).2=x0+sumI ((Ws.drop b).take m):=by
  rw [xK_sum Ws X b O x0 m (by omega)];have h1:O.take m=O:=List.take_of_length_le (by omega);rw [h1,sumI_perm (hp.map _)];have h2:(ordI m).map (fun o=>Ws.getD (b+o.toNat) 0)=(Ws.drop b).take m:=by
   apply List.ext_getElem (by simp [ordI];omega)
   intro i h3 h4;have hi:i<m:=by simpa [ordI] using h3
   have hbi:b+i<Ws.length:=by omega
   simp [ordI,List.getD_eq_getElem?_getD,hbi]
  rw [h2]
 have surj:∀ i,b≤i→i<b+m→∃ k,k<m∧i=b+(O.getD k 0).toNat:=fun i h1 h2=>by
  have:((i - b:Nat):Int)∈O:=hp.mem_iff.2 (ordI_get (by omega));obtain ⟨k,hk,e⟩:=List.mem_iff_getElem.1 this;refine ⟨k,by omega,?_⟩;rw [show O.getD k 0=O[k] by simp [List.getD_eq_getElem?_getD,hk],e];omega
 have hnx:∀ k,(xK Ws X b O x0 (k+1)).2=(xK Ws X b O x0 k).2+Ws.getD (b+(O.getD k 0).toNat) 0:=fun k=>by rw [xK]
 have hle:∀ j k,j≤k→(xK Ws X b O x0 j).2≤(xK Ws X b O x0 k).2:=fun j k h=>by
  have:=xK_le (X:=X) (b:=b) (O:=O) (x0:=x0) hW j (k - j)
  rwa [show j+(k - j)=k by omega] at this
 have h0:(xK Ws X b O x0 0).2=x0:=rfl;refine ⟨⟨fun i h1 h2=>?_,fun i h1 h2=>?_,?_,?_,fun i k h1 h2 h3 h4 h5=>?_⟩,hg.2⟩
 ·obtain ⟨k,hk,rfl⟩:=surj i h1 h2;rw [hg.1 k hk];have:=hle 0 k (by omega);omega
 ·obtain ⟨k,hk,rfl⟩:=surj i h1 h2;rw [hg.1 k hk,←hnx k,←hsum];exact hle _ _ hk
 ·have:=hO 0 hm;exact ⟨b+(O.getD 0 0).toNat,by omega,by omega,by rw [hg.1 0 hm,h0]⟩
 ·have:=hO (m - 1) (by omega);refine ⟨b+(O.getD (m - 1) 0).toNat,by omega,by omega,?_⟩;rw [hg.1 (m - 1) (by omega),←hnx,←hsum,show m - 1+1=m by omega]
 ·obtain ⟨j,hj,rfl⟩:=surj i h1 h2;obtain ⟨j',hj',rfl⟩:=surj k h3 h4;rw [hg.1 j hj,hg.1 j' hj',←hnx,←hnx];rcases Nat.lt_or_ge j j' with q | q
  ·left;exact hle _ _ q
  ·right;have:j≠j':=fun e=>h5 (by rw [e])
   exact hle _ _ (by omega)
inductive Rch (ls:List Int):Nat→Nat→Prop
 | refl (b:Nat):Rch ls b b
 | step {b g:Nat}:b<ls.length→Rch ls (grpE ls b) g→Rch ls b g
theorem Rch.next {ls:List Int} {b g:Nat} (h:Rch ls b g) (hg:g<ls.length):Rch ls b (grpE ls g):=by
 induction h with
 | refl b=>exact .step hg (.refl _)
 | step h1 _ ih=>exact .step h1 (ih hg)
theorem grpE_b {ls:List Int} {b:Nat} (h:b<ls.length):b<grpE ls b∧grpE ls b≤ls.length:=by
 have hel:=runE_le (q:=fun x=>decide (x=ls.getD b 0)) (l:=ls) (key:=true) (i:=b) (by omega);have hout:=runE_out (q:=fun x=>decide (x=ls.getD b 0)) (l:=ls) (key:=true) (i:=b);have hge:grpE ls b=runE (fun x=>decide (x=ls.getD b 0)) ls true b:=rfl;rw [←hge] at hel hout;refine ⟨?_,hel.2⟩;rcases Nat.lt_or_ge b (grpE ls b) with q | q
 ·exact q
 ·have e:grpE ls b=b:=by omega
  rw [e] at hout;have:=hout h
  simp at this
theorem grpE_in {ls:List Int} {b j:Nat} (h1:b≤j) (h2:j<grpE ls b) (h3:b<ls.length):ls.getD j 0=ls.getD b 0:=by
 have hb:=grpE_b h3;have:=runE_in (q:=fun x=>decide (x=ls.getD b 0)) (l:=ls) (key:=true) (i:=b) (j:=j) h1 h2 (by omega);simpa using this
theorem grpE_out {ls:List Int} {b:Nat} (h:grpE ls b<ls.length):ls.getD (grpE ls b) 0≠ls.getD b 0:=by
 have:=runE_out (q:=fun x=>decide (x=ls.getD b 0)) (l:=ls) (key:=true) (i:=b) h;have hge:grpE ls b=runE (fun x=>decide (x=ls.getD b 0)) ls true b:=rfl;rw [←hge] at this;simpa using this
theorem Rch.lt {ls:List Int} {b g:Nat} (h:Rch ls b g) (hb:b≤ls.length):b≤g∧g≤ls.length:=by
 induction h with
 | refl b=>exact ⟨Nat.le_refl _,hb⟩
 | step h1 _ ih=>
  have:=grpE_b h1;have:=ih this.2;omega
theorem xsF_tile {Ws LV:List Int} {T:List (Nat×Nat)} {ls:List Int} {rt:Bool} {w:Int} {n:Nat} (hWl:Ws.length=n) (hls:ls.length=n) (hW:∀ i,0≤Ws.getD i 0) :
  ∀ (m b:Nat) (X:List Int),n - b≤m→X.length=n→b≤n→(xsF Ws LV T ls rt w m b X).length=n∧(∀ i,i<b→(xsF Ws LV T ls rt w m b X).getD i 0=X.getD i 0) ∧
   ∀ g,Rch ls b g→g<n→∃ x0,Tile (xsF Ws LV T ls rt w m b X) Ws g (grpE ls g) x0 (sumI ((Ws.drop g).take (grpE ls g - g)))∧(x0=0∨x0+sumI ((Ws.drop g).take (grpE ls g - g))=w)
 | 0,b,X,h1,h2,h3=>by
  rw [xsF];refine ⟨h2,fun i _=>rfl,fun g hg hgn=>?_⟩;have:=hg.lt (by omega);omega
 | m+1,b,X,h1,h2,h3=>by
  by_cases hb:b<ls.length
  ·rw [xsF,if_pos hb];have hg:=grpE_b hb;obtain ⟨e,ee⟩:=gn (grpE ls b);rw [ee] at hg;obtain ⟨x0,ex0⟩:=gn ((if rt=true then w - sumI ((Ws.drop b).take (e - b)) else 0))
   have hp:(vsN (lvG LV T b e)).Perm (ordI (e - b)):=by
    have:=vsL_perm (lvG LV T b e) 9
    rwa [show (lvG LV T b e).length=e - b by simp [lvG]] at this
   have ht:=xK_tile (x0:=x0) h2 hWl (show b+(e - b)≤n by omega) (by omega) hp hW;rw [show b+(e - b)=e by omega] at ht;rw [ee,ex0];have hl:=xK_len Ws X b (vsN (lvG LV T b e)) x0 (e - b)
   obtain ⟨X1,eX1⟩:=gn ((xK Ws X b (vsN (lvG LV T b e)) x0 (e - b)).1);rw [eX1] at hl ht ⊢;have ih:=xsF_tile (LV:=LV) (T:=T) (rt:=rt) (w:=w) hWl hls hW m e X1 (by omega) (by omega) (by omega)
   refine ⟨ih.1,fun i hi=>by rw [ih.2.1 i (by omega),ht.2 i (.inl hi)],fun g hr hgn=>?_⟩;cases hr with
   | refl=>
    rw [ee];refine ⟨x0,ht.1.same ih.2.1,?_⟩;rw [←ex0];split
    ·right;omega
    ·left;rfl
   | step _ hr=>rw [ee] at hr;exact ih.2.2 g hr hgn
  ·rw [xsF,if_neg hb];refine ⟨h2,fun i _=>rfl,fun g hg hgn=>?_⟩;have:=hg.lt (by omega);omega
end
section
attribute [local simp ↓] awp_scope awp_label
set_option maxHeartbeats 2000000
attribute [local simp] evC
attribute [local simp ↓] oneI oneS oneSS oneK oneF oneC oneLl onePa onePi onePl
attribute [local simp ↓] awpY_skip awpY_seq awpY_cond awpY_block awpY_loop awpY_exit awpY_ret awpY_reg awpY_draw awpY_ghost awpY_yt awpY_yf stepY_eq awpY_scope awpY_label
attribute [local simp] coreY Fr.pure AV.pur
abbrev Dpl:=Int×Plc
def dplRow (x:Dpl):List PV:=[.int .i64 x.1,.int .i64 x.2.i,.int .i64 x.2.f,.int .i64 x.2.l,.int .i64 x.2.x,.int .i64 x.2.w]
theorem oneD2 (l:List Dpl):((l.map dplRow).all fun r=>r.all PV.one)=true:=by
 rw [List.all_eq_true];intro r hr;obtain ⟨u,_,rfl⟩:=List.mem_map.1 hr;rfl
attribute [local simp ↓] oneD2
def shiftP (k line:Int) (p:Plc):Dpl:=(k,⟨p.i,p.f,p.l+line,p.x,p.w⟩)
def maxL (V:List Plc):Int:=V.foldl (fun m p=>max m (p.l+1)) 1
def mixL (V:List Plc) (k line:Int) (i:Nat):List Dpl:=(V.take i).map (shiftP k line)++(V.drop i).map (fun p=>(0,p))
theorem mixL_0 (V:List Plc) (k line:Int):(mixL V k line 0).map dplRow=V.map plcRow:=by
 simp [mixL,dplRow,plcRow,Function.comp_def]
theorem mixL_end (V:List Plc) (k line:Int):mixL V k line V.length=V.map (shiftP k line):=by simp [mixL]
theorem mixL_len (V:List Plc) (k line:Int) (i:Nat):(mixL V k line i).length=V.length:=by
 simp only [mixL,List.length_append,List.length_map,List.length_take,List.length_drop];omega
theorem mixL_get (V:List Plc) (k line:Int) (i:Nat) (h:i<V.length) (h2:i<(mixL V k line i).length):(mixL V k line i)[i]=(0,V[i]):=by
 simp only [mixL];rw [List.getElem_append_right (by simp;omega)];simp
 congr 1
 omega
theorem mixL_set (V:List Plc) (k line:Int) (i:Nat) (h:i<V.length):(mixL V k line i).set i (shiftP k line V[i])=mixL V k line (i+1):=by
 have hl:min i V.length=i:=by omega
 apply List.ext_getElem?
 intro j;rw [List.getElem?_set,mixL_len]
 by_cases hij:i=j
 ·subst hij;rw [if_pos rfl,if_pos h];simp only [mixL];rw [List.getElem?_append_left (by simp;omega)];simp [List.getElem?_take,h]
 ·rw [if_neg hij];simp only [mixL,List.getElem?_append,List.getElem?_map,List.getElem?_take,List.getElem?_drop,List.length_map,List.length_take]
  by_cases h1:j<i
  ·rw [if_pos (by omega),if_pos (by omega),if_pos (by omega)];split<;>first | rfl | omega
  ·rw [if_neg (by omega),if_neg (by omega)]
   congr 2
   omega
theorem maxL_succ (V:List Plc) (i:Nat) (h:i<V.length):maxL (V.take (i+1))=max (maxL (V.take i)) (V[i].l+1):=by
 unfold maxL;rw [List.take_add_one,List.getElem?_eq_getElem h,List.foldl_append];rfl
theorem maxL_b {V:List Plc} (h:∀ p∈V,0≤p.l∧p.l≤1000) (i:Nat):1≤maxL (V.take i)∧maxL (V.take i)≤1001:=by
 induction i with
 | zero=>simp [maxL]
 | succ i ih=>
  by_cases hi:i<V.length
  ·rw [maxL_succ V i hi];have:=h V[i] (by simp);omega
  ·rwa [List.take_of_length_le (by omega),←List.take_of_length_le (i:=i) (l:=V) (by omega)]
noncomputable def parV (cs:List Cor) (w:Int) (p:Par):List Plc:=placesN cs p.t p.s w
noncomputable def lineK (cs:List Cor) (w:Int) (ps:List Par):Nat→Int
 | 0=>0
 | k+1=>lineK cs w ps k+(match ps[k]? with | some p=>maxL (parV cs w p) | none=>0)
noncomputable def paraK (cs:List Cor) (w:Int) (ps:List Par) (k:Nat):List Dpl:=match ps[k]? with
 | some p=>(parV cs w p).map (shiftP k (lineK cs w ps k))
 | none=>[]
noncomputable def parsR (cs:List Cor) (w:Int) (ps:List Par):List (List PV):=(List.range ps.length).map fun (k:Nat)=>[.int .i64 k,.sl 6 ((paraK cs w ps k).map dplRow)]
theorem placesN_get {cs:List Cor} {t:List UInt8} {s:Stg} {w:Int} (h:fitN s=true):∃ X,placesN cs t s w=plcL (fontsN cs t) (linesN cs t s w) X (widthsN cs t s) (splT t).length:=by
 unfold placesN;rw [if_pos h];exact ⟨_,rfl⟩
theorem placesN_len {cs:List Cor} {t:List UInt8} {s:Stg} {w:Int} (h:fitN s=true):(placesN cs t s w).length=(splT t).length:=by
 obtain ⟨X,e⟩:=placesN_get (cs:=cs) (t:=t) (w:=w) h;rw [e,plcL_len]
theorem plcL_get (Fs ls X Ws:List Int) (n i:Nat) (h:i<(plcL Fs ls X Ws n).length):(plcL Fs ls X Ws n)[i]=⟨i,Fs.getD i 0,ls.getD i 0,X.getD i 0,Ws.getD i 0⟩:=by
 simp [plcL]
theorem LStep_b {L:List Int} (h:LStep L):∀ i,i<L.length→0≤L.getD i 0∧L.getD i 0≤i:=by
 intro i
 induction i with
 | zero=>intro hi;have:=h.2 hi;omega
 | succ i ih=>
  intro hi;have:=ih (by omega);rcases h.1 i hi with q | q<;>omega
theorem parV_b {cs:List Cor} {w:Int} {p:Par} (hp:p.ok):(parV cs w p).length≤12∧∀ x∈parV cs w p,0≤x.l∧x.l≤1000:=by
 have h1:=splT_len p.t;have hl:(parV cs w p).length≤12:=by
  unfold parV;rw [placesN_len hp.2.1];have:=hp.1;omega
 refine ⟨hl,fun x hx=>?_⟩;obtain ⟨X,e⟩:=placesN_get (cs:=cs) (t:=p.t) (w:=w) hp.2.1;unfold parV at hx hl;rw [e] at hx hl;obtain ⟨i,hi,rfl⟩:=List.mem_iff_getElem.1 hx
 rw [plcL_get];have hs:LStep (linesN cs p.t p.s w):=fillN_step;dsimp only
 by_cases hi2:i<(linesN cs p.t p.s w).length
 ·have:=LStep_b hs i hi2;rw [plcL_len] at hi hl;omega
 ·rw [List.getD_eq_getElem?_getD,List.getElem?_eq_none (by omega)];simp
theorem lineK_b {cs:List Cor} {w:Int} {ps:List Par} (hp:ParsOk ps) (k:Nat) (hk:k≤ps.length):0≤lineK cs w ps k∧lineK cs w ps k≤1001*k:=by
 induction k with
 | zero=>simp [lineK]
 | succ k ih=>
  have:=ih (by omega);have hlt:k<ps.length:=by omega
  simp only [lineK,List.getElem?_eq_getElem hlt];have hb:=parV_b (cs:=cs) (w:=w) (hp.2 ps[k] (by simp));have:=maxL_b hb.2 (parV cs w ps[k]).length;rw [List.take_length] at this;omega
theorem g84 (cs:List Cor) (hcs:CorsOk2 cs) (w:Int) (hw:0≤w∧w≤1000) (pn:List Cor) (ps:List Par) (hp:ParsOk ps):Gens Tryz.prog 84 [] [.ro (docRow w pn ps),.ro [.sl 9 (cs.map corRow)]] (parsR cs w ps):=by
 refine gens mixed fn84 ok84 (by simp) fun l=>?_
 simp -dsimp [ac84,docRow];refine loopYP ps.length (fun k=>⟨[(0,.p (.clo (.yield l) [] [])),(1,.p (.ro [.int .i64 w,.sl 3 (pn.map pinRow),.sl 4 (ps.map parRow)])),(2,.p (.ro [.sl 9 (cs.map corRow)])),(4,.p (.int .i64 (lineK cs w ps k))),(11,.p (.sl 4 (ps.map parRow))),(12,.p (.int .i64 ps.length)),(13,.p (.int .i64 k))],[]⟩) (fun k=>k) (fun k hk=>?_) rfl (by simp [lineK])
 by_cases h:k<ps.length
 ·obtain ⟨⟨t,s⟩,ex⟩:=gn ps[k];have hpk:=hp.2 ⟨t,s⟩ (by rw [←ex];simp);obtain ⟨ht,hs1,hs2⟩:=id hpk;dsimp only at ht hs1 hs2;have hb:=parV_b (cs:=cs) (w:=w) hpk
  have hlb:=lineK_b (cs:=cs) (w:=w) hp k hk;have h3:=hp.1;have q:=b19 cs hcs t (by omega) s (by omega) w ⟨by omega,by omega⟩ hs1;have eV:placesN cs t s w=parV cs w ⟨t,s⟩:=rfl;rw [eV] at q;have hsucc:lineK cs w ps (k+1)=lineK cs w ps k+maxL (parV cs w ⟨t,s⟩):=by
   simp only [lineK,List.getElem?_eq_getElem h,ex]
  have hitem:(parsR cs w ps)[k]?=some [.int .i64 k,.sl 6 (((parV cs w ⟨t,s⟩).map (shiftP k (lineK cs w ps k))).map dplRow)]:=by
   simp only [parsR,List.getElem?_map,List.getElem?_range h,Option.map_some,paraK,List.getElem?_eq_getElem h,ex]
  obtain ⟨V,eV2⟩:=gn (parV cs w ⟨t,s⟩);rw [eV2] at q hb hsucc hitem;obtain ⟨line,el⟩:=gn (lineK cs w ps k)
  rw [el] at hlb hsucc hitem;rw [el,hsucc];have hall:((V.map plcRow).all fun r=>r.all PV.one)=true:=onePl V
  simp -dsimp [h,ex,parRow];refine call_o q (by simp [stgRow]) (by simp) ?_;simp -dsimp;refine loopYP V.length (fun i=>⟨[(0,.p (.clo (.yield l) [] [])),(1,.p (.ro [.int .i64 w,.sl 3 (pn.map pinRow),.sl 4 (ps.map parRow)])),(2,.p (.ro [.sl 9 (cs.map corRow)])),(4,.p (.int .i64 line)),(5,.p (.int .i64 k)),(7,.ref (25,0) 6 0 V.length),(8,.p (.int .i64 (maxL (V.take i)))),(11,.p (.sl 4 (ps.map parRow))),(12,.p (.int .i64 ps.length)),(13,.p (.int .i64 k)),(27,.p (.int .i64 V.length)),(28,.p (.int .i64 i))],[((25,0),.sl 60 6 ((mixL V k line i).map dplRow))]⟩) (fun _=>k) (fun i hi=>?_) rfl (by simp [mixL_0,maxL]);have hml:=mixL_len V k line i;have hmb:=maxL_b hb.2 i
  by_cases hi2:i<V.length
  ·obtain ⟨⟨pi,pf,pl,px,pw⟩,ep⟩:=gn V[i];have hpl:=hb.2 ⟨pi,pf,pl,px,pw⟩ (by rw [←ep];simp);dsimp only at hpl;have hmi:i<(mixL V k line i).length:=by omega
   have hget:=mixL_get V k line i hi2 hmi;have hset:=mixL_set V k line i hi2;have hmax:=maxL_succ V i hi2;rw [ep] at hget hset hmax;dsimp only at hmax;have hset2:((mixL V k line i).map dplRow).set i (dplRow (shiftP k line ⟨pi,pf,pl,px,pw⟩))=(mixL V k line (i+1)).map dplRow:=by
    rw [←hset,List.map_set]
   simp only [dplRow,shiftP] at hset2;have wi:R ((i:Int)+1):=rO (by omega)
   have wl:R (pl+1):=rO (by omega);have wl2:R (pl+line):=rO (by omega);simp -dsimp [hi2,hml,hget,dplRow,wr wi,wr wl,wr wl2,List.set_set];exact ⟨hmax.symm,hset2⟩
  ·have:i=V.length:=by omega
   subst this;have ht2:List.take V.length ((V.map (shiftP k line)).map dplRow)=(V.map (shiftP k line)).map dplRow:=List.take_of_length_le (by simp);have wk:R ((k:Int)+1):=rO (by omega);have hmm:=maxL_b hb.2 V.length;rw [List.take_length] at hmm;have wl:R (line+maxL V):=rO (by omega)
   simp -dsimp [hi2,mixL_end,ht2,wr wl,hitem,wr wk,h];exact (List.take_of_length_le (by simp)).symm
 ·have:k=ps.length:=by omega
  subst this;simp -dsimp [h,parsR]
end
section
attribute [local simp ↓] awp_scope awp_label
set_option maxHeartbeats 1000000
attribute [local simp] evC
attribute [local simp ↓] oneI oneS oneSS oneK oneF oneC oneLl onePa onePi onePl oneD2
theorem b41 (w:Int) (pn cs:List Cor) (ps:List Par):Bt 41 [.agg (docRow w pn ps),.sl 9 (cs.map corRow)] (.p (.clo (.func 84) [] [.ro (docRow w pn ps),.ro [.sl 9 (cs.map corRow)]])):=by
 refine best mixed fn41 ok41 (by simp) ?_;simp -dsimp [ac41,docRow]
noncomputable def allK (cs:List Cor) (w:Int) (ps:List Par) (k:Nat):List Dpl:=(List.range k).flatMap (paraK cs w ps)
theorem allK_succ (cs:List Cor) (w:Int) (ps:List Par) (k:Nat):allK cs w ps (k+1)=allK cs w ps k++paraK cs w ps k:=by
 simp [allK,List.range_succ]
noncomputable def docL (cs:List Cor) (w:Int) (ps:List Par):List Dpl:=allK cs w ps ps.length
theorem paraK_len {cs:List Cor} {w:Int} {ps:List Par} (hp:ParsOk ps) (k:Nat):(paraK cs w ps k).length≤12:=by
 unfold paraK;split
 ·rename_i p hq;have:=(parV_b (cs:=cs) (w:=w) (hp.2 p (List.mem_of_getElem? hq))).1;simpa using this
 ·simp
theorem allK_len {cs:List Cor} {w:Int} {ps:List Par} (hp:ParsOk ps) (k:Nat):(allK cs w ps k).length≤12*k:=by
 induction k with
 | zero=>simp [allK]
 | succ k ih=>
  rw [allK_succ,List.length_append];have:=paraK_len (cs:=cs) (w:=w) hp k;omega
theorem b15 (cs:List Cor) (hcs:CorsOk2 cs) (w:Int) (hw:0≤w∧w≤1000) (pn:List Cor) (ps:List Par) (hp:ParsOk ps):Bt 15 [.agg (docRow w pn ps),.sl 9 (cs.map corRow)] (.p (.sl 6 ((docL cs w ps).map dplRow))):=by
 refine best mixed fn15 ok15 (by simp) ?_;have q:=b41 w pn cs ps;have hG:=g84 cs hcs w hw pn ps hp;have h3:=hp.1;simp only [docRow] at q hG;simp -dsimp [ac15,docRow];refine cP q ?_;simp -dsimp;refine rfunL_rule rfl rfl hG (fun k F=>k≤ps.length∧F=⟨[(5,.ptr (5,0) 1 0 0),(10,.p (.clo (.func 84) [] [.ro [.int .i64 w,.sl 3 (pn.map pinRow),.sl 4 (ps.map parRow)],.ro [.sl 9 (cs.map corRow)]]))],[((5,0),.box [.ref (15,k) 6 0 (allK cs w ps k).length]),((15,k),.sl 60 6 ((allK cs w ps k).map dplRow))]⟩) ?_ ?_ (by simp [allK])
 ·rintro k z F hz ⟨hk,rfl⟩
  have hk2:k<ps.length:=by have:=(List.getElem?_eq_some_iff.1 hz).1;simpa [parsR] using this
  simp only [parsR,List.getElem?_map,List.getElem?_range hk2,Option.map_some,Option.some.injEq] at hz;subst hz;have l1:=paraK_len (cs:=cs) (w:=w) hp k
  have l2:=allK_len (cs:=cs) (w:=w) hp k;have hs:=allK_succ cs w ps k;obtain ⟨A,eA⟩:=gn (allK cs w ps k);obtain ⟨B,eB⟩:=gn (paraK cs w ps k);rw [eA,eB] at hs;rw [eA] at l2 ⊢;rw [eB] at l1 ⊢;rw [hs];have m1:A.length+B.length≤maxLen:=by unfold maxLen;omega
  have e1:(A.length+B.length)*48≤140737488355328:=by omega
  refine ⟨rfl,?_⟩;simp -dsimp [m1,e1,List.range,List.range.loop];omega
 ·rintro F ⟨hk,rfl⟩
  have hl:(parsR cs w ps).length=ps.length:=by simp [parsR]
  rw [hl];have ht:List.take (docL cs w ps).length ((docL cs w ps).map dplRow)=(docL cs w ps).map dplRow:=List.take_of_length_le (by simp);have e:allK cs w ps ps.length=docL cs w ps:=rfl;rw [e];simp -dsimp [ht]
end
section
theorem Rch_ex {ls:List Int}:∀ i,i<ls.length→∃ g,Rch ls 0 g∧g≤i∧i<grpE ls g:=by
 intro i
 induction i with
 | zero=>intro h;exact ⟨0,.refl 0,Nat.le_refl _,(grpE_b h).1⟩
 | succ i ih=>
  intro h;obtain ⟨g,h1,h2,h3⟩:=ih (by omega)
  by_cases q:i+1<grpE ls g
  ·exact ⟨g,h1,by omega,q⟩
  ·have e:grpE ls g=i+1:=by omega
   have:=h1.next (by omega);rw [e] at this;exact ⟨i+1,this,Nat.le_refl _,(grpE_b h).1⟩
theorem LStep_mono {L:List Int} (h:LStep L) (i:Nat):∀ d,i+d<L.length→L.getD i 0≤L.getD (i+d) 0:=by
 intro d
 induction d with
 | zero=>intro _;exact Int.le_refl _
 | succ d ih=>
  intro hd;have:=ih (by omega);rcases h.1 (i+d) (by omega) with q | q
  ·rw [show i+(d+1)=i+d+1 by omega,q];exact this
  ·rw [show i+(d+1)=i+d+1 by omega,q];omega
theorem LStep_grp {L:List Int} (h:LStep L) {g i k:Nat} (hg:g≤i) (hi:i<grpE L g) (hl:g<L.length) (hik:i≤k) (hk:k<L.length) (e:L.getD i 0=L.getD k 0):k<grpE L g:=by
 rcases Nat.lt_or_ge k (grpE L g) with q | q
 ·exact q
 ·have h1:=grpE_in hg hi hl;have h2:=grpE_out (ls:=L) (b:=g) (by omega);have h3:=LStep_mono h i (grpE L g - i) (by omega);have h4:=LStep_mono h (grpE L g) (k - grpE L g) (by omega);rw [show i+(grpE L g - i)=grpE L g by omega] at h3;rw [show grpE L g+(k - grpE L g)=k by omega] at h4;omega
theorem sumI_part {Ws:List Int} (h:∀ x∈Ws,0≤x∧x≤40000000000000000) (g m:Nat) (hl:Ws.length≤12):0≤sumI ((Ws.drop g).take m)∧sumI ((Ws.drop g).take m)≤480000000000000000:=by
 have:=sumI_b (l:=(Ws.drop g).take m) (fun x hx=>h x (List.mem_of_mem_drop (List.mem_of_mem_take hx)));have hl2:((Ws.drop g).take m).length≤12:=by simp;omega
 omega
theorem parV_geo {cs:List Cor} (hcs:CorsOk2 cs) {w:Int} (hw:0≤w∧w≤1000) {p:Par} (hp:p.ok) :
  (∀ x∈parV cs w p,-1000000000000000000≤x.x∧x.x≤1000000000000000000∧0≤x.w∧x.w≤40000000000000000) ∧
  ∀ i k (hi:i<(parV cs w p).length) (hk:k<(parV cs w p).length),i≠k→(parV cs w p)[i].l=(parV cs w p)[k].l→(parV cs w p)[i].x+(parV cs w p)[i].w≤(parV cs w p)[k].x∨(parV cs w p)[k].x+(parV cs w p)[k].w≤(parV cs w p)[i].x:=by
 obtain ⟨ht,hf,hat⟩:=hp;have hn:=splT_len p.t;obtain ⟨n,en⟩:=gn ((splT p.t).length);have hWl:(widthsN cs p.t p.s).length=n:=by rw [←en];simp [widthsN,hf]
 have hWb:=widthsN_b hcs (t:=p.t) hf;have hLl:(linesN cs p.t p.s w).length=n:=by rw [←en];exact fillN_len
 have hst:LStep (linesN cs p.t p.s w):=fillN_step;have hV:parV cs w p=plcL (fontsN cs p.t) (linesN cs p.t p.s w) (xsF (widthsN cs p.t p.s) (levT p.t) (splT p.t) (linesN cs p.t p.s w) (decide (baseN p.t=2)) w n 0 (zerosI n)) (widthsN cs p.t p.s) n:=by
  unfold parV placesN;rw [if_pos hf,en]
 obtain ⟨Ws,eW⟩:=gn (widthsN cs p.t p.s);obtain ⟨ls,el⟩:=gn (linesN cs p.t p.s w);rw [eW] at hWl hWb hV;rw [el] at hLl hst hV;have hW0:∀ i,0≤Ws.getD i 0∧Ws.getD i 0≤40000000000000000:=fun i=>by
  by_cases q:i<Ws.length
  ·rw [List.getD_eq_getElem?_getD,List.getElem?_eq_getElem q];exact hWb _ (by simp)
  ·rw [List.getD_eq_getElem?_getD,List.getElem?_eq_none (by omega)];simp
 obtain ⟨t1,_,t3⟩:=xsF_tile (LV:=levT p.t) (T:=splT p.t) (rt:=decide (baseN p.t=2)) (w:=w) hWl hLl (fun i=>(hW0 i).1) n 0 (zerosI n) (by omega) (by simp [zerosI]) (by omega);obtain ⟨X,eX⟩:=gn (xsF Ws (levT p.t) (splT p.t) ls (decide (baseN p.t=2)) w n 0 (zerosI n));rw [eX] at t1 t3 hV;rw [hV];have hlen:=plcL_len (fontsN cs p.t) ls X Ws n
 have hn12:n≤12:=by omega
 refine ⟨fun x hx=>?_,fun i k hi hk hik e=>?_⟩
 ·obtain ⟨i,hi,rfl⟩:=List.mem_iff_getElem.1 hx;rw [plcL_get];dsimp only;obtain ⟨g,g1,g2,g3⟩:=Rch_ex (ls:=ls) i (by omega);obtain ⟨x0,T,hx0⟩:=t3 g g1 (by omega);have s1:=sumI_part hWb g (grpE ls g - g) (by omega);have a1:=T.lo i g2 g3;have a2:=T.hi i g2 g3;have a3:=hW0 i;omega
 ·rw [plcL_get,plcL_get] at e;rw [plcL_get,plcL_get];dsimp only at e ⊢;obtain ⟨g,g1,g2,g3⟩:=Rch_ex (ls:=ls) (min i k) (by omega)
  obtain ⟨x0,T,hx0⟩:=t3 g g1 (by omega);have hgl:g<ls.length:=by omega
  have hi2:i<grpE ls g:=by
   rcases Nat.lt_or_ge i k with q | q
   ·have:min i k=i:=by omega
    omega
   ·have:min i k=k:=by omega
    exact LStep_grp hst (i:=k) (by omega) (by omega) hgl q (by omega) e.symm
  have hk2:k<grpE ls g:=by
   rcases Nat.lt_or_ge i k with q | q
   ·have:min i k=i:=by omega
    exact LStep_grp hst (i:=i) (by omega) (by omega) hgl (by omega) (by omega) e
   ·have:min i k=k:=by omega
    omega
  exact T.dis i k (by omega) hi2 (by omega) hk2 hik
end
section
attribute [local simp ↓] awp_scope awp_label
set_option maxHeartbeats 1000000
attribute [local simp] evC
attribute [local simp ↓] oneI oneS oneSS oneK oneF oneC oneLl onePa onePi onePl oneD2
def BndP (p:Plc):Prop:=-1000000000000000000≤p.x∧p.x≤1000000000000000000∧0≤p.w∧p.w≤40000000000000000
def BndL (l:List Dpl):Prop:=∀ p∈l,BndP p.2
def hitB (line x:Int) (p:Dpl):Bool:=decide (0<p.2.w) && (decide (p.2.l=line) && decide (p.2.x≤x) && decide (x<p.2.x+p.2.w))
theorem b46 (p:Dpl) (hp:BndP p.2) (line x:Int):Bt 46 [.agg (dplRow p),.ro [.int .i64 x],.ro [.int .i64 line]] (.p (.bool (hitB line x p))):=by
 obtain ⟨k,i,f,l,px,pw⟩:=p;obtain ⟨h1,h2,h3,h4⟩:=hp;dsimp only at h1 h2 h3 h4;have w1:R (px+pw):=rO (by omega)
 have w2:R (px+pw - 1):=rO (by omega);refine best mixed fn46 ok46 (by simp [dplRow]) ?_
 by_cases c1:0<pw
 ·by_cases c2:l=line
  ·subst c2
   by_cases c3:min (max x px) (px+pw - 1)=x
   ·have e:hitB l x (k,⟨i,f,l,px,pw⟩)=true:=by simp [hitB,c1];omega
    simp -dsimp [ac46,dplRow,wr w1,wr w2,c1,c3,e]
   ·have e:hitB l x (k,⟨i,f,l,px,pw⟩)=false:=by simp [hitB,c1];omega
    simp -dsimp [ac46,dplRow,wr w1,wr w2,c1,c3,e]
  ·have e:hitB line x (k,⟨i,f,l,px,pw⟩)=false:=by simp [hitB,c2]
   simp -dsimp [ac46,dplRow,wr w1,wr w2,c1,c2,e]
 ·have e:hitB line x (k,⟨i,f,l,px,pw⟩)=false:=by simp [hitB,c1]
  simp -dsimp [ac46,dplRow,wr w1,wr w2,c1,e]
def pickI (line x:Int) (L:List Dpl):Int:=match L.findIdx? (hitB line x) with
 | some k=>k
 | none=>-1
theorem pickI_at {line x:Int} {L:List Dpl} {k:Nat} (h:k<L.length) (hk:hitB line x L[k]=true) (hn:∀ j (q:j<k),hitB line x (L[j]'(by omega))=false):pickI line x L=k:=by
 have:L.findIdx? (hitB line x)=some k:=by
  rw [List.findIdx?_eq_some_iff_getElem];exact ⟨h,hk,fun j q=>by simp [hn j q]⟩
 simp only [pickI,this]
theorem pickI_none {line x:Int} {L:List Dpl} (hn:∀ j (q:j<L.length),hitB line x L[j]=false):pickI line x L=-1:=by
 have:L.findIdx? (hitB line x)=none:=by
  rw [List.findIdx?_eq_none_iff];intro y hy;obtain ⟨j,q,rfl⟩:=List.mem_iff_getElem.1 hy;exact hn j q
 simp only [pickI,this]
theorem b45 (L:List Dpl) (hL:BndL L) (hl:L.length≤1000) (line x:Int):Bt 45 [.sl 6 (L.map dplRow),.clo (.func 46) [] [.ro [.int .i64 x],.ro [.int .i64 line]]] (.p (.int .i64 (pickI line x L))):=by
 refine best mixed fn45 ok45 (by simp) ?_;simp -dsimp [ac45];refine loopC L.length (fun k=>⟨[(0,.p (.sl 6 (L.map dplRow))),(1,.p (.clo (.func 46) [] [.ro [.int .i64 x],.ro [.int .i64 line]])),(7,.p (.int .i64 L.length)),(8,.p (.int .i64 k))],[]⟩) (fun k=>∀ j (q:j<L.length),j<k→hitB line x L[j]=false) (fun k hk hall=>?_) (by intro j q h;omega) (by simp)
 by_cases h:k<L.length
 ·obtain ⟨p,ep⟩:=gn L[k];have hp:=hL p (by rw [←ep];simp);have q:=b46 p hp line x;have wk:R ((k:Int)+1):=rO (by omega);cases e:hitB line x p with
  | true=>
   have hr:=pickI_at (line:=line) (x:=x) h (by rw [ep];exact e) (fun j q=>hall j (by omega) q);rw [e] at q;simp -dsimp [h,ep,dplRow];refine call_p q (by simp [dplRow]) (by simp) ?_;simp -dsimp [hr]
  | false=>
   rw [e] at q;simp -dsimp [h,ep,dplRow];refine call_p q (by simp [dplRow]) (by simp) ?_;simp -dsimp [wr wk];refine ⟨h,fun j q1 q2=>?_⟩
   by_cases hjk:j=k
   ·subst hjk;rw [ep];exact e
   ·exact hall j q1 (by omega)
 ·have:k=L.length:=by omega
  subst this;have hr:=pickI_none (line:=line) (x:=x) (fun j q=>hall j q q);simp -dsimp [h,hr]
theorem docL_bnd {cs:List Cor} (hcs:CorsOk2 cs) {w:Int} (hw:0≤w∧w≤1000) {ps:List Par} (hp:ParsOk ps):BndL (docL cs w ps):=by
 intro x hx;obtain ⟨k,_,hk⟩:=List.mem_flatMap.1 hx;unfold paraK at hk;split at hk
 ·rename_i p hq;obtain ⟨y,hy,rfl⟩:=List.mem_map.1 hk;exact (parV_geo hcs hw (hp.2 p (List.mem_of_getElem? hq))).1 y hy
 ·simp at hk
theorem b18 (cs:List Cor) (hcs:CorsOk2 cs) (w:Int) (hw:0≤w∧w≤1000) (pn:List Cor) (ps:List Par) (hp:ParsOk ps) (line x:Int):Bt 18 [.agg (docRow w pn ps),.sl 9 (cs.map corRow),.int .i64 line,.int .i64 x] (.p (.tup [.int .i64 (max (pickI line x (docL cs w ps)) 0),.bool (decide (0≤pickI line x (docL cs w ps)))])):=by
 have q:=b15 cs hcs w hw pn ps hp;have hl:=allK_len (cs:=cs) (w:=w) hp ps.length;have h3:=hp.1;have q2:=b45 (docL cs w ps) (docL_bnd hcs hw hp) (by unfold docL;omega) line x;refine best mixed fn18 ok18 (by simp) ?_;simp only [docRow] at q;simp -dsimp [ac18,docRow];refine cP q ?_;simp -dsimp;refine cP q2 ?_;simp -dsimp
end
section
attribute [local simp ↓] awp_scope awp_label
set_option maxHeartbeats 1000000
attribute [local simp] evC
attribute [local simp ↓] oneI oneS oneSS oneK oneSp oneN
attribute [local simp] ba_size wb ba_at w1
abbrev Knd:=Bool×Int×Int
def kndK (t:List UInt8) (Fs LV:List Int) (k:Nat):Knd:=(decide (clsT t (baseT t ((splT t).getD k (0,0)).1 ((splT t).getD k (0,0)).2)=1),Fs.getD k 0,LV.getD ((splT t).getD k (0,0)).1 0)
def setTo (o:List (Int×Int×Int)) (b:Int):List (Int×Int×Int):=match o.getLast? with
 | some (x,_,z)=>o.dropLast++[(x,b,z)]
 | none=>[]
def pcF (t:List UInt8) (Fs LV:List Int):Nat→List (Int×Int×Int)×Knd
 | 0=>([],(true,0,0))
 | k+1=>
  let o:=(pcF t Fs LV k).1
  let own:=kndK t Fs LV k
  (if own.1=true then o else if own=(pcF t Fs LV k).2 then setTo o ((splT t).getD k (0,0)).2 else o++[((((splT t).getD k (0,0)).1:Int),(((splT t).getD k (0,0)).2:Int),own.2.1)],own)
def kRow (x:Knd):List AV:=[.p (.bool x.1),.p (.int .i64 x.2.1),.p (.int .i64 x.2.2)]
attribute [local simp] kRow
theorem pcF_ne (t:List UInt8) (Fs LV:List Int) (k:Nat) (h:(pcF t Fs LV k).2.1=false):(pcF t Fs LV k).1≠[]:=by
 cases k with
 | zero=>simp [pcF] at h
 | succ k=>
  simp only [pcF] at h ⊢;rw [h];simp only [Bool.false_eq_true,if_false];split
  ·rename_i e;have hne:(pcF t Fs LV k).1≠[]:=pcF_ne t Fs LV k (by rw [←e];exact h);unfold setTo;rw [List.getLast?_eq_some_getLast hne];simp
  ·simp
theorem pcF_len (t:List UInt8) (Fs LV:List Int) (k:Nat):(pcF t Fs LV k).1.length≤k:=by
 induction k with
 | zero=>simp [pcF]
 | succ k ih=>
  simp only [pcF];split
  ·omega
  ·split
   ·unfold setTo;split<;>simp<;>omega
   ·simp;omega
noncomputable def piecesN (cs:List Cor) (t:List UInt8):List (Int×Int×Int):=(pcF t (fontsN cs t) (levT t) (splT t).length).1
theorem b12 (cs:List Cor) (hcs:CorsOk2 cs) (t:List UInt8) (hl:t.length≤1000):Bt 12 [.sl 9 (cs.map corRow),.str (ba t)] (.p (.sl 3 ((piecesN cs t).map i3Row))):=by
 refine best mixed fn12 ok12 (by simp) ?_;have q1:=b21 cs hcs.one t (by omega);have q2:=b22 t (by omega);have q3:=b23 t (by omega);have hsl:=splT_len t;have hFl:(fontsN cs t).length=(splT t).length:=by simp [fontsN]
 have hLl:=levT_len t;unfold piecesN;obtain ⟨Fs,eF⟩:=gn (fontsN cs t);obtain ⟨LV,eL⟩:=gn (levT t);rw [eF] at q1 hFl;rw [eL] at q2 hLl;rw [eF,eL];simp -dsimp [ac12];refine cP q1 ?_;simp -dsimp;refine cP q2 ?_;simp -dsimp;refine cP q3 ?_;simp -dsimp;refine loopE (splT t).length (fun k (c:Nat)=>⟨[(1,.p (.str (ba t))),(5,.p (.sl 1 (Fs.map intRow))),(6,.p (.sl 1 (LV.map intRow))),(7,.ref (55,c) 3 0 (pcF t Fs LV k).1.length),(8,.ptr (8,0) 3 0 0),(19,.p (.sl 2 ((splT t).map spRow))),(20,.p (.int .i64 (splT t).length)),(21,.p (.int .i64 k))],[((8,0),.box (kRow (pcF t Fs LV k).2)),((55,c),.sl 80 3 ((pcF t Fs LV k).1.map i3Row))]⟩) (fun _ _=>True) 0 (fun k c hk _=>?_) trivial (by simp [pcF,kRow])
 by_cases h:k<(splT t).length
 ·obtain ⟨⟨a,b⟩,ex⟩:=gn ((splT t)[k]);obtain ⟨hab,hb,h6⟩:=splT_mem (t:=t) (a:=a) (b:=b) (by rw [←ex];simp);have exd:(splT t).getD k (0,0)=(a,b):=by simp [h,ex]
  have q4:=b25 t a b hab hb (by omega);have hbl:=baseT_le hab (t:=t);have wk:R ((k:Int)+1):=rO (by omega);have hkF:k<Fs.length:=by omega
  have haL:a<LV.length:=by omega
  obtain ⟨f,ef⟩:=gn Fs[k];obtain ⟨v,ev⟩:=gn LV[a];have hkn:kndK t Fs LV k=(decide (clsT t (baseT t a b)=1),f,v):=by unfold kndK;rw [exd];simp [hkF,ef,haL,ev]
  have hne:=pcF_ne t Fs LV k;have hpl:=pcF_len t Fs LV k;have hs:pcF t Fs LV (k+1)=(if (kndK t Fs LV k).1=true then (pcF t Fs LV k).1 else if kndK t Fs LV k=(pcF t Fs LV k).2 then setTo (pcF t Fs LV k).1 ((splT t).getD k (0,0)).2 else (pcF t Fs LV k).1++[((((splT t).getD k (0,0)).1:Int),(((splT t).getD k (0,0)).2:Int),(kndK t Fs LV k).2.1)],kndK t Fs LV k):=rfl;rw [exd,hkn] at hs;obtain ⟨P,eP⟩:=gn (pcF t Fs LV k)
  obtain ⟨o,l1,l2,l3⟩:=P;rw [eP] at hs hne hpl ⊢;dsimp only at hs hne hpl ⊢;have hbt:baseT t a b<t.length:=by omega
  have hcl:clsN (cT t (baseT t a b))=clsT t (baseT t a b):=rfl;have q5:=b24 (cT t (baseT t a b));rw [hcl] at q5;have hcT:((bT t (baseT t a b)).toNat:Int)=cT t (baseT t a b):=rfl
  have wcT:IntKind.i64.wrap (cT t (baseT t a b))=cT t (baseT t a b):=wr ⟨by unfold cT;omega,by unfold cT;have:=(bT t (baseT t a b)).toNat_lt;omega⟩
  by_cases he:clsT t (baseT t a b)=1
  ·rw [if_pos (by simp [he])] at hs;simp -dsimp [h,ex,spRow];refine call_p q4 (by simp [spRow]) (by simp) ?_;simp -dsimp [hbt,hcT,wcT];refine cP q5 ?_;simp -dsimp [h,hkF,ef,haL,ev,he,hs,intRow,wr wk]
  ·have hd:decide (clsT t (baseT t a b)=1)=false:=by simp [he]
   rw [hd] at hs;simp only [Bool.false_eq_true,if_false] at hs
   by_cases hsame:l1=false∧f=l2∧v=l3
   ·obtain ⟨rfl,rfl,rfl⟩:=hsame;rw [if_pos rfl] at hs;obtain ⟨o',⟨x,y,z⟩,rfl⟩:∃ o' u,o=o'++[u]:=⟨o.dropLast,o.getLast (hne rfl),(List.dropLast_concat_getLast _).symm⟩
    have hset:setTo (o'++[(x,y,z)]) b=o'++[(x,(b:Int),z)]:=by simp [setTo]
    rw [hset] at hs;have wl:R ((o'.length:Int)+1 - 1):=⟨by omega,by simp at hpl;omega⟩
    have el:(o'.length:Int)+1 - 1=o'.length:=by omega
    have hlt:(o'.length:Int)<o'.length+1:=by omega
    have wl2:R (o'.length:Int):=⟨by omega,by simp at hpl;omega⟩;simp -dsimp [h,ex,spRow];refine call_p q4 (by simp [spRow]) (by simp) ?_;simp -dsimp [hbt,hcT,wcT];refine cP q5 ?_;simp -dsimp [h,hkF,ef,haL,ev,he,hs,intRow,wr wk,wr wl,el,wr wl2,hlt,i3Row]
   ·rw [if_neg (by simp only [Prod.mk.injEq];exact fun q=>hsame ⟨q.1.symm,q.2.1,q.2.2⟩)] at hs;have m1:o.length+1≤maxLen:=by unfold maxLen;omega
    have m2:(o.length+1)*24≤140737488355328:=by omega
    simp -dsimp [h,ex,spRow];refine call_p q4 (by simp [spRow]) (by simp) ?_;simp -dsimp [hbt,hcT,wcT];refine cP q5 ?_;have hsame':l1=false→f=l2→¬v=l3:=fun h1 h2 h3=>hsame ⟨h1,h2,h3⟩
    cases l1 with
    | true=>
     simp -dsimp [h,hkF,ef,haL,ev,he,hs,intRow,wr wk,m1,m2,i3Row,List.range,List.range.loop]
      | false=>
     by_cases h1:f=l2
     ·have h2:¬v=l3:=hsame' rfl h1;simp -dsimp [h,hkF,ef,haL,ev,he,hs,intRow,wr wk,m1,m2,h1,h2,i3Row,List.range,List.range.loop]
     ·simp -dsimp [h,hkF,ef,haL,ev,he,hs,intRow,wr wk,m1,m2,h1,i3Row,List.range,List.range.loop]
 ·have:k=(splT t).length:=by omega
  subst this;have ht:List.take (pcF t Fs LV (splT t).length).1.length ((pcF t Fs LV (splT t).length).1.map i3Row)=(pcF t Fs LV (splT t).length).1.map i3Row:=List.take_of_length_le (by simp);simp -dsimp [h,ht]
end
end Go.Abs.A30
namespace Go.Proofs
open Go Go.RowKit
set_option maxRecDepth 100000
set_option maxHeartbeats 2000000
theorem Tryz.copyCheck_used (b:Nat) (w:World) (h0:w.cell? ⟨b,0,none⟩=some (.pointer (some ⟨b,0,none⟩))) :
  Calls Tryz.prog 85 #[.pointer (some ⟨b,0,none⟩)] w fun e w'=>e=.returned (.tuple #[])∧w'=w:=by
 have hj:(Tryz.prog.info? 98).isSome=true:=by kernel_rfl
 obtain ⟨j,hj⟩:=Option.isSome_iff_exists.1 hj
 go_enter Tryz.func85,Tryz.ntmps85
 go_wp2
 rw [Lib.run_neq_ptr_same w _ (by kernel_rfl) hj]
 go_wp2
 go_end0
 exact ⟨rfl,rfl⟩
theorem lies0 {P:Program} {e:TypeId} (hc:P.cellsOf e≠0) (count:Nat) (hn:1≤count):liesAt P P.depth e count 0 e 1=true:=by
 have hd:P.depth=(2*(P.types.size+Made.depth)+1)+1:=rfl;rw [hd];simp only [liesAt,Bool.or_eq_true];left;rw [hd];simp [rowAt,hn,hc,sameLayout]
theorem Tryz.copyCheck_fresh (b:Nat) (w:World) (h0:w.cell? ⟨b,0,none⟩=some (.pointer none)) (n:Nat) (hsh:w.shape? b=some (98,n)) (hn:2≤n) (hfz:w.frozen? ⟨b,0,none⟩=false) :
  Calls Tryz.prog 85 #[.pointer (some ⟨b,0,none⟩)] w fun e w'=>e=.returned (.tuple #[])∧w'=w.setCell ⟨b,0,none⟩ (.pointer (some ⟨b,0,none⟩)):=by
 have hj:(Tryz.prog.info? 98).map (·.size)=some 2:=by kernel_rfl
 obtain ⟨j,hj,hjs⟩:=Option.map_eq_some_iff.1 hj
 go_enter Tryz.func85,Tryz.ntmps85
 go_wp2
 rw [Lib.run_to_unsafe w ⟨b,0,none⟩ (t:=98) (by kernel_rfl) (by kernel_rfl) hj (by rw [hjs];decide) hsh (by dsimp only;omega)];simp only [Result.andThen];rw [Oper.upon_value]
 go_wp2
 rw [run_callFunc_extern Tryz.func135 (by kernel_rfl) (by kernel_rfl) (by kernel_rfl) (e:=Extern.AbiNoEscape.same) (by kernel_rfl)];rw [Lib.run_noEscape];simp only [Result.andThen];rw [Oper.upon_value]
 go_wp2
 rw [Lib.run_from_unsafe w ⟨b,0,none⟩ (u:=98) (by kernel_rfl) (by kernel_rfl) hj hsh (by
  have hc:Tryz.prog.cellsOf 98=2:=by kernel_rfl
  exact lies0 (by rw [hc];decide) _ (by rw [hc];omega))]
 simp only [Result.andThen];rw [Oper.upon_value]
 go_wp2
 go_end0
 exact ⟨rfl,rfl⟩
structure Kx (b:Nat) (r:Option Nat) (w w':World):Prop where
 os:w'.os=w.os
 tape:w'.tape=w.tape
 output:w'.output=w.output
 size:w.heap.size≤w'.heap.size
 block:∀ k,k<w.heap.size→k≠b→r≠some k→w'.heap[k]?=w.heap[k]?
def OwnR (w:World) (e:TypeId) (v:Value) (n:Nat) (xs:List Value):Prop:=
 xs.length=n∧((v=.slice none 0 0∧n=0)∨∃ g cap cur,v=.slice (some ⟨g,0,none⟩) n cap∧w.heap[g]?=some (.cells cur e (0,0))∧n≤cap∧cap≤cur.size∧cur.size≤maxLen∧cur.toList.take n=xs)
theorem OwnR.same {w w':World} {e:TypeId} {v:Value} {n:Nat} {xs:List Value} (h:OwnR w e v n xs) (hh:∀ g,v.ownBlock=some g→w'.heap[g]?=w.heap[g]?):OwnR w' e v n xs:=by
 obtain ⟨h1,h2⟩:=h;refine ⟨h1,h2.imp id ?_⟩
 rintro ⟨g,cap,cur,rfl,q,r⟩
 exact ⟨g,cap,cur,rfl,(hh g rfl).trans q,r⟩
theorem OwnR.of {w:World} {e:TypeId} {v:Value} {n:Nat} {xs:List Value} {B:Nat} (h:w.ownsRow B e 1 v n xs):OwnR w e v n xs:=by
 obtain ⟨h1,h2⟩:=h;refine ⟨by simpa using h1,h2.imp id ?_⟩
 rintro ⟨g,cap,cur,hv,_,hg,a,b,c,d⟩
 exact ⟨g,cap,cur,hv,hg,a,by omega,by omega,by simpa using d⟩
theorem app_str {P:Program} (w:World) (t u ty e:TypeId) (i:TypeInfo) (ht:P.underlying t=some (.slice e)) (hu:P.underlying u=some .string) (hi:P.info? e=some i) (hz:i.zero=some (.int .u8 0))
  (hsize:i.size=1) (hby:i.bytes=1) (v:Value) (n:Nat) (xs:List Value) (hown:OwnR w e v n xs) (s:ByteArray) (hb:n+s.size≤140737488355328) :
  ∃ v' w',(Builtin.append_ #[t,u] ty #[v,.string s]).run P w=.ok v' w'∧OwnR w' e v' (n+s.size) (xs++Lib.strCells s)∧w.grownBy w' v.ownBlock ∧
   ∀ g,v'.ownBlock=some g→v.ownBlock=some g∨w.heap.size≤g:=by
 have h63:n+s.size≤maxLen:=by unfold maxLen;omega
 have hxl:=hown.1;rcases hown.2 with ⟨rfl,rfl⟩ | ⟨g0,cap,cur,rfl,hg0,hnc,hcc,hcm,htake⟩
 ·have hx:xs=[]:=List.eq_nil_of_length_eq_zero hxl;subst hx;obtain ⟨v2,w2,e1,e2,e3,_⟩:=Lib.run_append_own_string (P:=P) w w.heap.size t u ty e i ht hu hi hz hsize hby (.slice none 0 0) 0 [] (World.ownsRow_nil _ _ _ _) s h63 hb (Nat.le_refl _);refine ⟨v2,w2,e1,.of e2,e3,fun g hg=>?_⟩;rcases e2.2 with ⟨q,_⟩ | ⟨g1,_,_,q,q2,_⟩
  ·rw [q] at hg;simp [Value.ownBlock] at hg
  ·rw [q] at hg;simp [Value.ownBlock] at hg;subst hg;exact .inr q2
 ·by_cases hroom:n+s.size≤cap
  ·refine ⟨_,_,Lib.run_append_room_string (P:=P) w t u ty e i ht hu hi hsize g0 n cap cur hg0 s hroom (by omega),⟨by simp [hxl,Lib.strCells_length],.inr ⟨g0,cap,_,rfl,setRow_heap w g0 cur _ e _ hg0,hroom,?_,?_,?_⟩⟩,⟨rfl,rfl,rfl,by simp,fun k _ hk=>setRow_other w g0 k _ (fun e=>hk (by simp [Value.ownBlock,e]))⟩,fun g hg=>.inl hg⟩
   ·simp only [List.size_toArray,List.length_append,List.length_take,List.length_drop,Array.length_toList,Lib.strCells_length];omega
   ·simp only [List.size_toArray,List.length_append,List.length_take,List.length_drop,Array.length_toList,Lib.strCells_length];omega
   ·have hlen:(xs++Lib.strCells s).length=n+s.size:=by simp [hxl,Lib.strCells_length]
    rw [htake,←hlen];exact List.take_left
  ·have holds:∀ j u,xs[j]?=some u→w.cell? ((⟨g0,0,none⟩:Addr).add j)=some u:=fun j u q=>by
    rw [←htake,List.getElem?_take] at q;split at q
    ·have q':cur[j]?=some u:=by simpa using q
     by_cases h:j=0
     ·subst h;simp [Addr.add,World.cell?,hg0,q']
     ·simp [Addr.add,h,World.cell?,hg0,q']
    ·simp at q
   have hge:=grownCap_ge w (n+s.size) cap e;have hcm2:grownCap w (n+s.size) cap e≤maxLen:=grownCap_le_maxLen w (n+s.size) cap e h63;have hz1:(Value.int IntKind.u8 0).cells.size=1:=rfl;refine ⟨_,_,Lib.run_append_grow_string (P:=P) w t u ty e i (.int .u8 0) ht hu hi hz ⟨g0,0,none⟩ n cap xs (by rw [hxl,hsize,Nat.mul_one]) holds s (by omega) (by omega) (by rw [hby];exact growslice_fits (by omega) (by omega)),⟨by simp [hxl,Lib.strCells_length],.inr ⟨w.heap.size,_,_,rfl,heap_alloc_new w.drew _,hge,?_,?_,?_⟩⟩,⟨rfl,rfl,rfl,by simp,fun k hk _=>by exact Lib.alloc_old w.drew _ k hk⟩,fun g hg=>by simp [Value.ownBlock] at hg;exact .inr (by omega)⟩
   ·simp only [Array.size_append,List.size_toArray,size_zeroCells,hz1,hxl,Lib.strCells_length];omega
   ·simp only [Array.size_append,List.size_toArray,size_zeroCells,hz1,hxl,Lib.strCells_length];omega
   ·have hlen:(xs++Lib.strCells s).length=n+s.size:=by simp [hxl,Lib.strCells_length]
    simp only [Array.toList_append,List.append_assoc];rw [←List.append_assoc,←hlen];exact List.take_left
theorem wp_app_str {P:Program} (w:World) {ops:Array Oper} {rest:List Oper} {o:Oper} {a:Act} {Q:Exit→Act→World→Prop} (hgd:o.guard=none) (sl x:Operand) (t u:TypeId)
  (ho:o.op=.call { callee:=.builtin .append,args:=#[sl,x],argTypes:=#[t,u] })
  (e:TypeId) (i:TypeInfo) (ht:P.underlying t=some (.slice e)) (hu:P.underlying u=some .string) (hi:P.info? e=some i) (hz:i.zero=some (.int .u8 0))
  (hsize:i.size=1) (hby:i.bytes=1) (v:Value) (n:Nat) (xs:List Value) (hs:a.eval sl=v) (hown:OwnR w e v n xs) (s:ByteArray) (hx:a.eval x=.string s) (hb:n+s.size≤140737488355328)
  (h:∀ v' w',OwnR w' e v' (n+s.size) (xs++Lib.strCells s)→w.grownBy w' v.ownBlock→(∀ g,v'.ownBlock=some g→v.ownBlock=some g∨w.heap.size≤g)→wpList P ops Q rest (a.put o.dst v') w'):wpList P ops Q (o :: rest) a w:=by
 refine wpList_plain hgd fun K hK=>?_
 obtain ⟨v',w',hr,h2,h3,h4⟩:=app_str (P:=P) w t u o.type e i ht hu hi hz hsize hby v n xs hown s hb;unfold Oper.wp execOp;simp only [ho,resolve,invoke,builtin,Sem.run_bind,Sem.run_pure,Result.andThen_ok,List.map_toArray,List.map_cons,List.map_nil,hs,hx,hr];exact hK _ _ (h v' w' h2 h3 h4)
def BuildOk (b:Nat) (p:Value) (T:TypeId):Prop:=(p=.pointer none∧T=98)∨p=.pointer (some ⟨b,0,none⟩)
theorem set_heap {w:World} {b j:Nat} {c:Array Value} {T:TypeId} (h:w.heap[b]?=some (.cells c T (0,0))) (u:Value):(w.setCell ⟨b,j,none⟩ u).heap[b]?=some (.cells (c.setIfInBounds j u) T (0,0)):=by
 simp [World.setCell,Array.getElem?_modify,h]
theorem Tryz.writeString (b:Nat) (p v:Value) (T:TypeId) (c:Array Value) (bs:List Value) (s:ByteArray) (w:World) (hbk:w.heap[b]?=some (.cells c T (0,0))) (h0:c[0]?=some p) (h1:c[1]?=some v) (hp:BuildOk b p T) (hown:OwnR w 5 v bs.length bs) (hne:v.ownBlock≠some b) (hlen:bs.length+s.size≤140737488355328) :
  Calls Tryz.prog 42 #[.pointer (some ⟨b,0,none⟩),.string s] w fun e w'=>e=.returned (.tuple #[.int .i64 s.size,.nilIface]) ∧
   ∃ v' c',w'.heap[b]?=some (.cells c' T (0,0))∧c'.size=c.size∧c'[0]?=some (.pointer (some ⟨b,0,none⟩))∧c'[1]?=some v'∧OwnR w' 5 v' (bs.length+s.size) (bs++Lib.strCells s)∧v'.ownBlock≠some b∧(∀ g,v'.ownBlock=some g→v.ownBlock=some g∨w.heap.size≤g)∧Kx b v.ownBlock w w':=by
 have hlt:b<w.heap.size:=by
  rcases Nat.lt_or_ge b w.heap.size with h' | h'
  ·exact h'
  ·simp [Array.getElem?_eq_none h'] at hbk
 have hc2:2≤c.size:=by
  rcases Nat.lt_or_ge 1 c.size with h' | h'
  ·exact h'
  ·simp [Array.getElem?_eq_none h'] at h1
 have cc:Calls Tryz.prog 85 #[.pointer (some ⟨b,0,none⟩)] w fun e w1=>e=.returned (.tuple #[])∧(∃ c1,w1.heap[b]?=some (.cells c1 T (0,0))∧c1.size=c.size∧c1[0]?=some (.pointer (some ⟨b,0,none⟩))∧c1[1]?=some v)∧OwnR w1 5 v bs.length bs∧Kx b v.ownBlock w w1∧w1.heap.size=w.heap.size:=by
  rcases hp with ⟨rfl,rfl⟩ | rfl
  ·refine (Tryz.copyCheck_fresh b w (by rw [Lib.cell_of_heap hbk];exact h0) c.size (by simp [World.shape?,hbk]) hc2 (Lib.frozen_of_heap hbk 0)).mono ?_
   rintro e w' ⟨rfl,rfl⟩
   refine ⟨rfl,⟨_,set_heap hbk _,by simp,by rw [Array.getElem?_setIfInBounds,if_pos rfl,if_pos (by omega)],by rw [Array.getElem?_setIfInBounds,if_neg (by decide)];exact h1⟩,?_,⟨rfl,rfl,rfl,by simp [World.setCell],fun k _ hk _=>Below.heap_setCell _ _ _ _ (fun e=>hk (by simp [e]))⟩,by simp [World.setCell]⟩;exact hown.same fun g hg=>Below.heap_setCell _ _ _ _ (fun e=>hne (by rw [hg,e]))
  ·refine (Tryz.copyCheck_used b w (by rw [Lib.cell_of_heap hbk];exact h0)).mono ?_
   rintro e w' ⟨rfl,rfl⟩
   exact ⟨rfl,⟨c,hbk,rfl,h0,h1⟩,hown,⟨rfl,rfl,rfl,Nat.le_refl _,fun _ _ _ _=>rfl⟩,rfl⟩
 have hi:(Tryz.prog.info? 5).map (fun i=>(i.zero,i.size,i.bytes))=some (some (.int .u8 0),1,1):=by kernel_rfl
 obtain ⟨i0,hi,hi2⟩:=Option.map_eq_some_iff.1 hi;simp only [Prod.mk.injEq] at hi2;obtain ⟨hz0,hz1,hz2⟩:=hi2
 go_enter Tryz.func42,Tryz.ntmps42
 go_wp2_with (go_at_call 85;refine cc.mono ?_)
 rintro e w1 ⟨rfl,⟨k1,hbk1,hs1,k10,k11⟩,hown1,hkx,hsz⟩
 have c0:w1.cell? ⟨b,0,none⟩=some (.pointer (some ⟨b,0,none⟩)):=by rw [Lib.cell_of_heap hbk1];exact k10
 have c1:w1.cell? ⟨b,1,none⟩=some v:=by rw [Lib.cell_of_heap hbk1];exact k11
 go_wp2_with (at_builtin;refine wp_app_str _ rfl _ _ 96 9 rfl 5 i0 (by kernel_rfl) (by kernel_rfl) hi hz0 hz1 hz2 _ _ _ rfl hown1 s rfl hlen ?_)
 intro v' w2 hown' hgrow hfr;have hb2:w2.heap[b]?=some (.cells k1 T (0,0)):=by
  rw [hgrow.block b (by omega) (fun e=>hne e.symm)];exact hbk1
 have d0:w2.cell? ⟨b,0,none⟩=some (.pointer (some ⟨b,0,none⟩)):=by rw [Lib.cell_of_heap hb2];exact k10
 have d1:w2.cell? ⟨b,1,none⟩=some v:=by rw [Lib.cell_of_heap hb2];exact k11
 have f1:w2.frozen? ⟨b,1,none⟩=false:=Lib.frozen_of_heap hb2 1;have hne':v'.ownBlock≠some b:=fun e=>by
  rcases hfr b e with q | q
  ·exact hne q
  ·omega
 obtain ⟨ao,n',cap,rfl⟩:∃ ao n' cap,v'=.slice ao n' cap:=by
  rcases hown'.2 with ⟨hv,_⟩ | ⟨g,cap,cur,hv,_⟩
  ·exact ⟨_,_,_,hv⟩
  ·exact ⟨_,_,_,hv⟩
 go_wp2
 go_ret2
 refine ⟨rfl,_,_,set_heap hb2 _,by simp [hs1],by rw [Array.getElem?_setIfInBounds,if_neg (by decide)];exact k10,by rw [Array.getElem?_setIfInBounds,if_pos rfl,if_pos (by omega)],?_,hne',fun g hg=>?_,?_⟩
 ·exact hown'.same fun g hg=>Below.heap_setCell _ _ _ _ (fun e=>hne' (by rw [hg,e]))
 ·rcases hfr g hg with q | q
  ·exact .inl q
  ·exact .inr (by omega)
 ·refine ⟨by rw [World.setCell];exact hgrow.os.trans hkx.os,hgrow.tape.trans hkx.tape,hgrow.output.trans hkx.output,by have:=hgrow.size;simp [World.setCell];omega,fun k hk h1 h2=>?_⟩;rw [Below.heap_setCell _ _ _ _ (fun e=>h1 (by simp [e]))];rw [hgrow.block k (by omega) (fun e=>h2 e.symm)];exact hkx.block k hk h1 h2
end Go.Proofs
namespace Go.Proofs
open Go Go.RowKit
set_option maxRecDepth 100000
set_option maxHeartbeats 2000000
theorem Tryz.str_nil (b:Nat) (c:Array Value) (T:TypeId) (w:World) (hbk:w.heap[b]?=some (.cells c T (0,0))) (h1:c[1]?=some (.slice none 0 0)) :
  Calls Tryz.prog 44 #[.pointer (some ⟨b,0,none⟩)] w fun e w'=>e=.returned (.string ⟨#[]⟩)∧w'=w.drew:=by
 have hUS:∀ (W:World) (q:Option Addr),(Builtin.unsafeString_ #[156,3] 9 #[.pointer q,.int .i64 0]).run Tryz.prog W=.ok (.string .empty) W:=fun W q=>Lib.run_unsafeString_none W _ _ _ q
 have c1:w.drew.cell? ⟨b,1,none⟩=some (.slice none 0 0):=by
  have:w.drew.heap[b]?=some (.cells c T (0,0)):=hbk;rw [Lib.cell_of_heap this];exact h1
 have hSD:(Builtin.unsafeSliceData_ #[96] 156 #[.slice none 0 0]).run Tryz.prog w.drew=.ok (.pointer none) w.drew:=rfl;have mixed:Tryz.prog.follows .mixedOrders=true:=by kernel_rfl
 go_enter Tryz.func44,Tryz.ntmps44
 go_wp2
 go_region_o
 all_goals (go_wp2;go_ret;exact ⟨rfl,rfl⟩)
theorem Tryz.str_row (b g cap:Nat) (c:Array Value) (T:TypeId) (cur:Array Value) (l:List UInt8) (w:World) (hbk:w.heap[b]?=some (.cells c T (0,0))) (h1:c[1]?=some (.slice (some ⟨g,0,none⟩) l.length cap)) (hg:w.heap[g]?=some (.cells cur 5 (0,0))) (h0:l≠[]) (hcap:cap≠0) (hcur:l.length≤cur.size) (hm:l.length≤9223372036854775807)
  (hcell:∀ (j:Nat) (x:UInt8),l[j]?=some x→cur[j]?=some (Value.int .u8 x.toNat)) :
  Calls Tryz.prog 44 #[.pointer (some ⟨b,0,none⟩)] w fun e w'=>e=.returned (.string ⟨l.toArray⟩)∧w'=w.drew.freeze ⟨g,0,none⟩ l.length:=by
 have c1:w.drew.cell? ⟨b,1,none⟩=some (.slice (some ⟨g,0,none⟩) l.length cap):=by
  have:w.drew.heap[b]?=some (.cells c T (0,0)):=hbk;rw [Lib.cell_of_heap this];exact h1
 have hSD:(Builtin.unsafeSliceData_ #[96] 156 #[.slice (some ⟨g,0,none⟩) l.length cap]).run Tryz.prog w.drew=.ok (.pointer (some ⟨g,0,none⟩)) w.drew:=
  Lib.run_unsafeSliceData_row _ _ _ _ _ _ hcap
 have hUS:(Builtin.unsafeString_ #[156,3] 9 #[.pointer (some ⟨g,0,none⟩),.int .i64 l.length]).run Tryz.prog w.drew=.ok (.string ⟨l.toArray⟩) (w.drew.freeze ⟨g,0,none⟩ l.length):=by
  refine Lib.run_unsafeString_row w.drew 156 3 9 5 (by kernel_rfl) (by kernel_rfl) g cur.size (by have hg':w.drew.heap[g]?=some (.cells cur 5 (0,0)):=hg;simp [World.shape?,hg']) l h0 hcur hm ?_;intro j x hx;have hg':w.drew.heap[g]?=some (.cells cur 5 (0,0)):=hg;have:=hcell j x hx
  by_cases h:j=0
  ·subst h;simp [Addr.add,World.cell?,hg',this]
  ·simp [Addr.add,h,World.cell?,hg',this]
 have mixed:Tryz.prog.follows .mixedOrders=true:=by kernel_rfl
 go_enter Tryz.func44,Tryz.ntmps44
 go_wp2
 go_region_o
 all_goals (go_wp2;go_ret;exact ⟨rfl,rfl⟩)
end Go.Proofs
