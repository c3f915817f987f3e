/- Proved: the law FlowLines returns true for every input, and its arguments read behind the call as they did; no condition beyond the given row. -/
import Derived.Test.YtinblgdfhmllnaaGreatC27
import Derived.Test.YtinblgdfhmllnaaGreatProg
set_option linter.unusedVariables false
set_option linter.unusedSimpArgs false
namespace Go.Abs.A29
open Go Go.Abs Go.Proofs
set_option maxRecDepth 100000
set_option linter.unusedVariables false
set_option linter.unusedSimpArgs false
attribute [local simp ↓] awp_skip awp_seq awp_cond awp_block awp_exit awp_ret awp_reg awp_draw awp_ghost awp_loop awp_rfun awpR_nil awpR_cons awpX_nil awpX_0 awpX_1 awpX_2 awpI_eq awpI_t awpI_f awpStep_eq
attribute [local simp] condL_true condL_false condL_dec evDel evV evN evS evA initFr Ghost.app Fr.var Fr.blk Fr.ff FF.val Abs.look Fr.app Fr.erase Fr.noSlot AV.noSlot AV.noSlotL Blk.noSlot Fr.spoken AV.fz AV.fzL Blk.fz binV binI shI binS unV fillA FF.parts FF.vals headO intO boundO lenV scalarEq leavesEq AV.aggc AV.cells FF.read FF.rows AV.one PV.one chunk freshB newS pickV retK evRs evRl evR resOf mkTup mkAgg allP cloOf okP_nil okX_p okX okP addN Del.noSlot Del.owners Rnd reify_p normM insM Fr.back Fr.backV Fr.setPs normV insV
attribute [local simp] renF Fr.trim Blk.trim AV.rn AV.rnL Blk.rn AV.among AV.amongL Blk.among okF retM fixS BIG initFF
attribute [local simp] FF.reify FF.reifyL PV.flat
attribute [local simp] ym yn yl yk yb yc yf yj yh qp qe qi qo qg qa qk qz qm ql qt qf qj qn qb qc qs qr qq qd
section
theorem getD_set (l:List Int) (i j:Nat) (v:Int) (hi:i<l.length):(l.set i v).getD j 0=if i=j then v else l.getD j 0:=by
 by_cases e:i=j
 ·subst e;simp [List.getD_eq_getElem?_getD,hi]
 ·rw [if_neg e];simp [List.getD_eq_getElem?_getD,List.getElem?_set,e]
theorem sumI_cons (x:Int) (l:List Int):sumI (x :: l)=x+sumI l:=by
 show (x :: l).foldl (·+·) 0=_
 rw [List.foldl_cons,sumI_from];omega
theorem sumI_perm {l m:List Int} (h:l.Perm m):sumI l=sumI m:=by
 induction h with
 | nil=>rfl
 | cons x _ ih=>rw [sumI_cons,sumI_cons,ih]
 | swap x y l=>rw [sumI_cons,sumI_cons,sumI_cons,sumI_cons];omega
 | trans _ _ ih1 ih2=>rw [ih1,ih2]
theorem xK_sum (Ws X:List Int) (b:Nat) (O:List Int) (x0:Int):∀ k,k≤O.length→(xK Ws X b O x0 k).2=x0+sumI ((O.take k).map fun o=>Ws.getD (b+o.toNat) 0)
 | 0,_=>by simp [xK,sumI]
 | k+1,h=>by
  have ih:=xK_sum Ws X b O x0 k (by omega)
  have hk:k<O.length:=by omega
  rw [xK,ih,List.take_add_one,List.getElem?_eq_getElem hk]
  simp only [Option.toList_some,List.map_append,List.map_cons,List.map_nil]
  rw [sumI_snoc]
  have:O.getD k 0=O[k]:=by simp [List.getD_eq_getElem?_getD,hk]
  rw [this];omega
theorem xK_le {Ws X:List Int} {b:Nat} {O:List Int} {x0:Int} (hW:∀ i,0≤Ws.getD i 0) (j:Nat):∀ d,(xK Ws X b O x0 j).2≤(xK Ws X b O x0 (j+d)).2
 | 0=>Int.le_refl _
 | d+1=>by
  have ih:=xK_le (X:=X) (b:=b) (O:=O) (x0:=x0) hW j d
  have:=hW (b+(O.getD (j+d) 0).toNat)
  rw [show j+(d+1)=(j+d)+1 by omega,xK]
  dsimp only
  omega
theorem xK_get {Ws X:List Int} {b n m:Nat} {O:List Int} {x0:Int} (hX:X.length=n) (hb:b+m≤n) (hO:∀ k,k<m→(O.getD k 0).toNat<m) (hnd:∀ k j,k<m→j<m→(O.getD k 0).toNat=(O.getD j 0).toNat→k=j) :
  ∀ k,k≤m→(∀ j,j<k→(xK Ws X b O x0 k).1.getD (b+(O.getD j 0).toNat) 0=(xK Ws X b O x0 j).2)∧(∀ i,i<b∨b+m≤i→(xK Ws X b O x0 k).1.getD i 0=X.getD i 0)
 | 0,_=>⟨fun j h=>by omega,fun i _=>rfl⟩
 | k+1,h=>by
  have ih:=xK_get (Ws:=Ws) (x0:=x0) hX hb hO hnd k (by omega)
  have hl:=xK_len Ws X b O x0 k
  have hk:=hO k (by omega)
  have e:(xK Ws X b O x0 (k+1)).1=(xK Ws X b O x0 k).1.set (b+(O.getD k 0).toNat) (xK Ws X b O x0 k).2:=by rw [xK]
  rw [e]
  refine ⟨fun j hj=>?_,fun i hi=>?_⟩
  ·rw [getD_set _ _ _ _ (by omega)]
   by_cases q:j=k
   ·subst q;rw [if_pos rfl]
   ·rw [if_neg (fun h'=>q (hnd j k (by omega) (by omega) (by omega)))]
    exact ih.1 j (by omega)
  ·rw [getD_set _ _ _ _ (by omega),if_neg (by omega)]
   exact ih.2 i hi
structure Tile (X Ws:List Int) (b e:Nat) (x0 S:Int):Prop where
 lo:∀ i,b≤i→i<e→x0≤X.getD i 0
 hi:∀ i,b≤i→i<e→X.getD i 0+Ws.getD i 0≤x0+S
 atlo:∃ i,b≤i∧i<e∧X.getD i 0=x0
 athi:∃ i,b≤i∧i<e∧X.getD i 0+Ws.getD i 0=x0+S
 dis:∀ i k,b≤i→i<e→b≤k→k<e→i≠k→X.getD i 0+Ws.getD i 0≤X.getD k 0∨X.getD k 0+Ws.getD k 0≤X.getD i 0
theorem Tile.same {X Y Ws:List Int} {b e:Nat} {x0 S:Int} (h:Tile X Ws b e x0 S) (hY:∀ i,i<e→Y.getD i 0=X.getD i 0):Tile Y Ws b e x0 S:=by
 refine ⟨fun i h1 h2=>by rw [hY i h2];exact h.lo i h1 h2,fun i h1 h2=>by rw [hY i h2];exact h.hi i h1 h2,?_,?_,fun i k h1 h2 h3 h4 h5=>by rw [hY i h2,hY k h4];exact h.dis i k h1 h2 h3 h4 h5⟩
 ·obtain ⟨i,h1,h2,h3⟩:=h.atlo;exact ⟨i,h1,h2,by rw [hY i h2];exact h3⟩
 ·obtain ⟨i,h1,h2,h3⟩:=h.athi;exact ⟨i,h1,h2,by rw [hY i h2];exact h3⟩
theorem ordI_get {m k:Nat} (h:k<m):(k:Int)∈ordI m:=List.mem_map.2 ⟨k,by simpa using h,rfl⟩
theorem xK_tile {Ws X:List Int} {b n m:Nat} {O:List Int} {x0:Int} (hX:X.length=n) (hWl:Ws.length=n) (hb:b+m≤n) (hm:0<m) (hp:O.Perm (ordI m)) (hW:∀ i,0≤Ws.getD i 0) :
  Tile (xK Ws X b O x0 m).1 Ws b (b+m) x0 (sumI ((Ws.drop b).take m))∧(∀ i,i<b∨b+m≤i→(xK Ws X b O x0 m).1.getD i 0=X.getD i 0):=by
 have hOl:O.length=m:=by rw [hp.length_eq];simp [ordI]
 have hmem:∀ k,k<m→∃ i:Nat,O.getD k 0=i∧i<m:=fun k hk=>by
  have:O.getD k 0∈O:=by rw [show O.getD k 0=O[k]'(by omega) by simp [List.getD_eq_getElem?_getD,hOl,hk]];exact List.getElem_mem _
  obtain ⟨i,hi,e⟩:=List.mem_map.1 (hp.mem_iff.1 this)
  exact ⟨i,e.symm,by simpa using hi⟩
 have hO:∀ k,k<m→(O.getD k 0).toNat<m:=fun k hk=>by obtain ⟨i,e,hi⟩:=hmem k hk;rw [e];simpa using hi
 have hN:(ordI m).Nodup:=by
  unfold ordI
  refine List.Pairwise.map _ (fun a c h e=>h (by omega)) List.nodup_range
 have hN':O.Nodup:=hp.nodup_iff.2 hN
 have hnd:∀ k j,k<m→j<m→(O.getD k 0).toNat=(O.getD j 0).toNat→k=j:=fun k j hk hj e=>by
  obtain ⟨i,e1,_⟩:=hmem k hk
  obtain ⟨i',e2,_⟩:=hmem j hj
  rw [e1,e2] at e
  have e3:O.getD k 0=O.getD j 0:=by rw [e1,e2];omega
  rw [show O.getD k 0=O[k]'(by omega) by simp [List.getD_eq_getElem?_getD,hOl,hk],show O.getD j 0=O[j]'(by omega) by simp [List.getD_eq_getElem?_getD,hOl,hj]] at e3
  exact (List.getElem_inj hN').1 e3
 have hg:=xK_get (Ws:=Ws) (x0:=x0) hX hb hO hnd m (Nat.le_refl m)
 have hsum:(xK Ws X b O x0 m).2=x0+sumI ((Ws.drop b).take m):=by
  rw [xK_sum Ws X b O x0 m (by omega)]
  have h1:O.take m=O:=List.take_of_length_le (by omega)
  rw [h1,sumI_perm (hp.map _)]
  have h2:(ordI m).map (fun o=>Ws.getD (b+o.toNat) 0)=(Ws.drop b).take m:=by
   apply List.ext_getElem (by simp [ordI];omega)
   intro i h3 h4
   have hi:i<m:=by simpa [ordI] using h3
   have hbi:b+i<Ws.length:=by omega
   simp [ordI,List.getD_eq_getElem?_getD,hbi]
  rw [h2]
 have surj:∀ i,b≤i→i<b+m→∃ k,k<m∧i=b+(O.getD k 0).toNat:=fun i h1 h2=>by
  have:((i - b:Nat):Int)∈O:=hp.mem_iff.2 (ordI_get (by omega))
  obtain ⟨k,hk,e⟩:=List.mem_iff_getElem.1 this
  refine ⟨k,by omega,?_⟩
  rw [show O.getD k 0=O[k] by simp [List.getD_eq_getElem?_getD,hk],e]
  omega
 have hnx:∀ k,(xK Ws X b O x0 (k+1)).2=(xK Ws X b O x0 k).2+Ws.getD (b+(O.getD k 0).toNat) 0:=fun k=>by rw [xK]
 have hle:∀ j k,j≤k→(xK Ws X b O x0 j).2≤(xK Ws X b O x0 k).2:=fun j k h=>by
  have:=xK_le (X:=X) (b:=b) (O:=O) (x0:=x0) hW j (k - j)
  rwa [show j+(k - j)=k by omega] at this
 have h0:(xK Ws X b O x0 0).2=x0:=rfl
 refine ⟨⟨fun i h1 h2=>?_,fun i h1 h2=>?_,?_,?_,fun i k h1 h2 h3 h4 h5=>?_⟩,hg.2⟩
 ·obtain ⟨k,hk,rfl⟩:=surj i h1 h2
  rw [hg.1 k hk]
  have:=hle 0 k (by omega)
  omega
 ·obtain ⟨k,hk,rfl⟩:=surj i h1 h2
  rw [hg.1 k hk,←hnx k,←hsum]
  exact hle _ _ hk
 ·have:=hO 0 hm
  exact ⟨b+(O.getD 0 0).toNat,by omega,by omega,by rw [hg.1 0 hm,h0]⟩
 ·have:=hO (m - 1) (by omega)
  refine ⟨b+(O.getD (m - 1) 0).toNat,by omega,by omega,?_⟩
  rw [hg.1 (m - 1) (by omega),←hnx,←hsum,show m - 1+1=m by omega]
 ·obtain ⟨j,hj,rfl⟩:=surj i h1 h2
  obtain ⟨j',hj',rfl⟩:=surj k h3 h4
  rw [hg.1 j hj,hg.1 j' hj',←hnx,←hnx]
  rcases Nat.lt_or_ge j j' with q | q
  ·left;exact hle _ _ q
  ·right
   have:j≠j':=fun e=>h5 (by rw [e])
   exact hle _ _ (by omega)
inductive Rch (ls:List Int):Nat→Nat→Prop
 | refl (b:Nat):Rch ls b b
 | step {b g:Nat}:b<ls.length→Rch ls (grpE ls b) g→Rch ls b g
theorem Rch.next {ls:List Int} {b g:Nat} (h:Rch ls b g) (hg:g<ls.length):Rch ls b (grpE ls g):=by
 induction h with
 | refl b=>exact .step hg (.refl _)
 | step h1 _ ih=>exact .step h1 (ih hg)
theorem grpE_b {ls:List Int} {b:Nat} (h:b<ls.length):b<grpE ls b∧grpE ls b≤ls.length:=by
 have hel:=runE_le (q:=fun x=>decide (x=ls.getD b 0)) (l:=ls) (key:=true) (i:=b) (by omega)
 have hout:=runE_out (q:=fun x=>decide (x=ls.getD b 0)) (l:=ls) (key:=true) (i:=b)
 have hge:grpE ls b=runE (fun x=>decide (x=ls.getD b 0)) ls true b:=rfl
 rw [←hge] at hel hout
 refine ⟨?_,hel.2⟩
 rcases Nat.lt_or_ge b (grpE ls b) with q | q
 ·exact q
 ·have e:grpE ls b=b:=by omega
  rw [e] at hout
  have:=hout h
  simp at this
theorem grpE_in {ls:List Int} {b j:Nat} (h1:b≤j) (h2:j<grpE ls b) (h3:b<ls.length):ls.getD j 0=ls.getD b 0:=by
 have hb:=grpE_b h3
 have:=runE_in (q:=fun x=>decide (x=ls.getD b 0)) (l:=ls) (key:=true) (i:=b) (j:=j) h1 h2 (by omega)
 simpa using this
theorem grpE_out {ls:List Int} {b:Nat} (h:grpE ls b<ls.length):ls.getD (grpE ls b) 0≠ls.getD b 0:=by
 have:=runE_out (q:=fun x=>decide (x=ls.getD b 0)) (l:=ls) (key:=true) (i:=b) h
 have hge:grpE ls b=runE (fun x=>decide (x=ls.getD b 0)) ls true b:=rfl
 rw [←hge] at this
 simpa using this
theorem Rch.lt {ls:List Int} {b g:Nat} (h:Rch ls b g) (hb:b≤ls.length):b≤g∧g≤ls.length:=by
 induction h with
 | refl b=>exact ⟨Nat.le_refl _,hb⟩
 | step h1 _ ih=>
  have:=grpE_b h1
  have:=ih this.2
  omega
theorem xsF_tile {Ws LV:List Int} {T:List (Nat×Nat)} {ls:List Int} {rt:Bool} {w:Int} {n:Nat} (hWl:Ws.length=n) (hls:ls.length=n) (hW:∀ i,0≤Ws.getD i 0) :
  ∀ (m b:Nat) (X:List Int),n - b≤m→X.length=n→b≤n→(xsF Ws LV T ls rt w m b X).length=n∧(∀ i,i<b→(xsF Ws LV T ls rt w m b X).getD i 0=X.getD i 0) ∧
   ∀ g,Rch ls b g→g<n→∃ x0,Tile (xsF Ws LV T ls rt w m b X) Ws g (grpE ls g) x0 (sumI ((Ws.drop g).take (grpE ls g - g)))∧(x0=0∨x0+sumI ((Ws.drop g).take (grpE ls g - g))=w)
 | 0,b,X,h1,h2,h3=>by
  rw [xsF]
  refine ⟨h2,fun i _=>rfl,fun g hg hgn=>?_⟩
  have:=hg.lt (by omega)
  omega
 | m+1,b,X,h1,h2,h3=>by
  by_cases hb:b<ls.length
  ·rw [xsF,if_pos hb]
   have hg:=grpE_b hb
   obtain ⟨e,ee⟩:∃ e,grpE ls b=e:=⟨_,rfl⟩
   rw [ee] at hg
   obtain ⟨x0,ex0⟩:∃ x0,(if rt=true then w - sumI ((Ws.drop b).take (e - b)) else 0)=x0:=⟨_,rfl⟩
   have hp:(vsN (lvG LV T b e)).Perm (ordI (e - b)):=by
    have:=vsL_perm (lvG LV T b e) 9
    rwa [show (lvG LV T b e).length=e - b by simp [lvG]] at this
   have ht:=xK_tile (x0:=x0) h2 hWl (show b+(e - b)≤n by omega) (by omega) hp hW
   rw [show b+(e - b)=e by omega] at ht
   rw [ee,ex0]
   have hl:=xK_len Ws X b (vsN (lvG LV T b e)) x0 (e - b)
   obtain ⟨X1,eX1⟩:∃ X1,(xK Ws X b (vsN (lvG LV T b e)) x0 (e - b)).1=X1:=⟨_,rfl⟩
   rw [eX1] at hl ht ⊢
   have ih:=xsF_tile (LV:=LV) (T:=T) (rt:=rt) (w:=w) hWl hls hW m e X1 (by omega) (by omega) (by omega)
   refine ⟨ih.1,fun i hi=>by rw [ih.2.1 i (by omega),ht.2 i (.inl hi)],fun g hr hgn=>?_⟩
   cases hr with
   | refl=>
    rw [ee]
    refine ⟨x0,ht.1.same ih.2.1,?_⟩
    rw [←ex0]
    split
    ·right;omega
    ·left;rfl
   | step _ hr=>rw [ee] at hr;exact ih.2.2 g hr hgn
  ·rw [xsF,if_neg hb]
   refine ⟨h2,fun i _=>rfl,fun g hg hgn=>?_⟩
   have:=hg.lt (by omega)
   omega
end
section
theorem capN_mono {a b:Int} (h:a≤b):capN a≤capN b:=by unfold capN;omega
theorem fgo_low {ws:List Int} {sp:List Bool} {ms:List Int} {W:Int} {s n:Nat} {L:Int}:∀ (m i fit:Nat) (opp tot run:Int),(0≤opp→L≤opp)→L≤fit→L≤i→L≤fgo ws sp ms W s n m i fit opp tot run
 | 0,i,fit,opp,tot,run,h1,h2,h3=>by
  rw [fgo];unfold finN;split
  ·rename_i h;exact h1 h.2
  ·exact h2
 | m+1,i,fit,opp,tot,run,h1,h2,h3=>by
  rw [fgo]
  split
  ·unfold finN;split
   ·rename_i h;exact h1 h.2
   ·exact h2
  ·split
   ·unfold finN;split
    ·rename_i h;exact h1 h.2
    ·exact h3
   ·split
    ·exact h3
    ·refine fgo_low m _ _ _ _ _ (fun h=>?_) h3 (by omega)
     split
     ·exact h3
     ·rename_i h5;rw [if_neg h5] at h;exact h1 h
theorem fgo_mono {ws:List Int} {sp:List Bool} {ms:List Int} {W W':Int} {s s' n:Nat} (hW:W≤W') (hs:s≤s') (hn:s'<n) :
  ∀ (m i fit fit':Nat) (opp opp' tot tot' run run':Int),i+m=n→s'≤i→(s'<i→fit=i - 1∧fit'=i - 1)→(i=s'→fit≤s'∧fit'=s') →
   -1≤opp→opp<i→(0≤opp→(s:Int)≤opp)→(0≤opp'→(s':Int)≤opp')→(opp'=opp∨(opp<s'∧opp'=-1))→tot'≤tot→tot'+run'≤tot+run →
   fgo ws sp ms W s n m i fit opp tot run≤fgo ws sp ms W' s' n m i fit' opp' tot' run'
 | 0,i,fit,fit',opp,opp',tot,tot',run,run',h1,h2,h3,h4,h5,h6,h7,h8,h9,h10,h11=>by
  have:=h3 (by omega)
  rw [fgo,fgo]
  unfold finN
  rw [if_neg (by omega),if_neg (by omega)]
  omega
 | m+1,i,fit,fit',opp,opp',tot,tot',run,run',h1,h2,h3,h4,h5,h6,h7,h8,h9,h10,h11=>by
  have hc:=capN_mono hW
  have hT:totN (sp.getD i false) tot' run' (capN (ws.getD i 0))≤totN (sp.getD i false) tot run (capN (ws.getD i 0)):=by
   unfold totN;split<;>omega
  have hU:totN (sp.getD i false) tot' run' (capN (ws.getD i 0))+rnN (sp.getD i false) run' (capN (ws.getD i 0))≤totN (sp.getD i false) tot run (capN (ws.getD i 0))+rnN (sp.getD i false) run (capN (ws.getD i 0)):=by
   unfold totN rnN;split<;>omega
  have hf:(fit:Int)≤fit'∧(fit':Int)≤i∧(i:Int) - 1≤fit'∧(s':Int)≤fit':=by
   rcases Nat.lt_or_ge s' i with h | h
   ·have:=h3 h;omega
   ·have:=h4 (by omega);omega
  rw [fgo]
  split
  ·rename_i h
   have hL:finN n fit opp≤fit'∧finN n fit opp≤i∧(0≤opp'→finN n fit opp≤opp'):=by
    unfold finN
    by_cases c:(fit:Int)<(n:Int) - 1∧0≤opp
    ·rw [if_pos c]
     refine ⟨?_,by omega,fun h'=>?_⟩<;>omega
    ·rw [if_neg c]
     refine ⟨by omega,by omega,fun h'=>?_⟩
     rcases Nat.lt_or_ge s' i with h | h
     ·have:=h3 h;omega
     ·have:=h4 (by omega);omega
   exact fgo_low (m+1) i fit' opp' tot' run' hL.2.2 hL.1 hL.2.1
  ·split
   ·rename_i h h'
    have hi:i=s:=by
     rcases Nat.lt_or_ge s i with q | q
     ·exact absurd ⟨h',q⟩ h
     ·omega
    have ho:opp=-1:=by omega
    have e:finN n i opp=i:=by unfold finN;rw [if_neg (by omega)]
    rw [e]
    have:=h4 (by omega)
    exact fgo_low (m+1) i fit' opp' tot' run' (fun h=>by omega) (by omega) (by omega)
   ·rename_i h h'
    rw [show fgo ws sp ms W' s' n (m+1) i fit' opp' tot' run'=if ms.getD i 0=2 then (i:Int)
     else fgo ws sp ms W' s' n m (i+1) i (if ms.getD i 0=1 then (i:Int) else opp') (totN (sp.getD i false) tot' run' (capN (ws.getD i 0))) (rnN (sp.getD i false) run' (capN (ws.getD i 0))) by
      rw [fgo,if_neg (by omega),if_neg (by omega)]]
    split
    ·exact Int.le_refl _
    ·refine fgo_mono hW hs hn m (i+1) i i _ _ _ _ _ _ (by omega) (by omega) (fun _=>by omega) (fun _=>by omega) ?_ ?_ ?_ ?_ ?_ hT hU
     all_goals (split<;>omega)
theorem endN_mono1 {ws:List Int} {sp:List Bool} {ms:List Int} {W W':Int} {s n:Nat} (hW:W≤W') (hn:s<n):endN ws sp ms W n s≤endN ws sp ms W' n s:=
 fgo_mono hW (Nat.le_refl s) hn _ _ _ _ _ _ _ _ _ _ (by omega) (by omega) (fun h=>by omega) (fun _=>by omega) (by omega) (by omega) (by omega) (by omega) (.inl rfl) (by omega) (by omega)
theorem endN_mono2 {ws:List Int} {sp:List Bool} {ms:List Int} {W:Int} {s n:Nat} (hn:s+1<n):endN ws sp ms W n s≤endN ws sp ms W n (s+1):=by
 have hr:=endN_range (ws:=ws) (sp:=sp) (ms:=ms) (W:=W) hn
 obtain ⟨m,hm⟩:∃ m,n - s=m+1:=⟨n - s - 1,by omega⟩
 have hm2:n - (s+1)=m:=by omega
 have e:finN n s (-1)=s:=by unfold finN;rw [if_neg (by omega)]
 have hc:=capN_b (ws.getD s 0)
 unfold endN at hr ⊢
 rw [hm,fgo,e]
 split
 ·omega
 ·split
  ·omega
  ·split
   ·omega
   ·rw [hm2]
    refine fgo_mono (Int.le_refl _) (by omega) hn m (s+1) s (s+1) _ _ _ _ _ _ (by omega) (by omega) (fun _=>by omega) (fun _=>by omega) ?_ ?_ ?_ ?_ ?_ ?_ ?_
    ·split<;>omega
    ·split<;>omega
    ·split<;>omega
    ·omega
    ·right;split<;>omega
    ·unfold totN;split<;>omega
    ·unfold totN rnN;split<;>omega
theorem endN_mono {ws:List Int} {sp:List Bool} {ms:List Int} {W W':Int} {s n:Nat} (hW:W≤W') (d:Nat) (hn:s+d<n):endN ws sp ms W n s≤endN ws sp ms W' n (s+d):=by
 induction d with
 | zero=>exact endN_mono1 hW hn
 | succ d ih=>exact Int.le_trans (ih (by omega)) (endN_mono2 hn)
theorem fillF_pre {E:Nat→Int} {n:Nat}:∀ (m:Nat) (L:List Int) (line:Int),(∀ i,i<L.length→(fillF E n m L line).getD i 0=L.getD i 0)∧(∀ i,L.length≤i→i<(fillF E n m L line).length→line≤(fillF E n m L line).getD i 0)
 | 0,L,line=>by rw [fillF];exact ⟨fun _ _=>rfl,fun i h1 h2=>by omega⟩
 | m+1,L,line=>by
  rw [fillF]
  split
  ·obtain ⟨k,ek⟩:∃ k,(E L.length).toNat+1 - L.length=k:=⟨_,rfl⟩
   rw [ek]
   have ih:=fillF_pre (E:=E) (n:=n) m (L++List.replicate k line) (line+1)
   refine ⟨fun i hi=>?_,fun i hi h2=>?_⟩
   ·rw [ih.1 i (by simp;omega)]
    simp [List.getD_eq_getElem?_getD,List.getElem?_append_left hi]
   ·by_cases h:i<(L++List.replicate k line).length
    ·rw [ih.1 i h]
     have hk:i - L.length<k:=by simp at h;omega
     simp [List.getD_eq_getElem?_getD,List.getElem?_append_right hi,hk]
    ·have:=ih.2 i (by omega) h2
     omega
  ·exact ⟨fun _ _=>rfl,fun i h1 h2=>by omega⟩
theorem fillF_mono {E E':Nat→Int} {n:Nat} (hE:∀ s,s<n→(s:Int)≤E s∧E s<n) (hE':∀ s,s<n→(s:Int)≤E' s∧E' s<n) (hm:∀ s d,s+d<n→E s≤E' (s+d)) :
  ∀ (m:Nat) (L L':List Int) (line:Int),n - L.length≤m→L.length≤L'.length→L'.length≤n→(∀ i,i<L.length→L'.getD i 0≤L.getD i 0)→(∀ i,L.length≤i→i<L'.length→L'.getD i 0<line) →
   ∀ i,i<n→(fillF E' n m L' line).getD i 0≤(fillF E n m L line).getD i 0
 | 0,L,L',line,h1,h2,h3,h4,h5,i,hi=>by rw [fillF,fillF];exact h4 i (by omega)
 | m+1,L,L',line,h1,h2,h3,h4,h5,i,hi=>by
  by_cases c':L'.length<n
  ·have c:L.length<n:=by omega
   have a1:=hE L.length c
   have a2:=hE' L'.length c'
   have a3:=hm L.length (L'.length - L.length) (by omega)
   rw [show L.length+(L'.length - L.length)=L'.length by omega] at a3
   rw [fillF,if_pos c',fillF,if_pos c]
   obtain ⟨k,ek⟩:∃ k,(E L.length).toNat+1 - L.length=k:=⟨_,rfl⟩
   obtain ⟨k',ek'⟩:∃ k,(E' L'.length).toNat+1 - L'.length=k:=⟨_,rfl⟩
   rw [ek,ek']
   refine fillF_mono hE hE' hm m _ _ _ (by simp;omega) (by simp;omega) (by simp;omega) (fun j hj=>?_) (fun j hj hj'=>?_) i hi
   ·by_cases q:j<L.length
    ·have e1:(L++List.replicate k line).getD j 0=L.getD j 0:=by simp [List.getD_eq_getElem?_getD,List.getElem?_append_left q]
     have e2:(L'++List.replicate k' line).getD j 0=L'.getD j 0:=by simp [List.getD_eq_getElem?_getD,List.getElem?_append_left (show j<L'.length by omega)]
     rw [e1,e2];exact h4 j q
    ·have hk:j - L.length<k:=by simp at hj;omega
     have e1:(L++List.replicate k line).getD j 0=line:=by simp [List.getD_eq_getElem?_getD,List.getElem?_append_right (show L.length≤j by omega),hk]
     rw [e1]
     by_cases q':j<L'.length
     ·have e2:(L'++List.replicate k' line).getD j 0=L'.getD j 0:=by simp [List.getD_eq_getElem?_getD,List.getElem?_append_left q']
      rw [e2];have:=h5 j (by omega) q';omega
     ·have hk':j - L'.length<k':=by simp at hj;omega
      have e2:(L'++List.replicate k' line).getD j 0=line:=by simp [List.getD_eq_getElem?_getD,List.getElem?_append_right (show L'.length≤j by omega),hk']
      rw [e2];omega
   ·simp at hj hj'
    by_cases q':j<L'.length
    ·have e2:(L'++List.replicate k' line).getD j 0=L'.getD j 0:=by simp [List.getD_eq_getElem?_getD,List.getElem?_append_left q']
     rw [e2];have:=h5 j (by omega) q';omega
    ·have hk':j - L'.length<k':=by omega
     have e2:(L'++List.replicate k' line).getD j 0=line:=by simp [List.getD_eq_getElem?_getD,List.getElem?_append_right (show L'.length≤j by omega),hk']
     rw [e2];omega
  ·rw [fillF_end E' n (m+1) L' line c']
   have hp:=fillF_pre (E:=E) (n:=n) (m+1) L line
   have hl:(fillF E n (m+1) L line).length=n:=fillF_len hE (m+1) L line h1 (by omega)
   by_cases q:i<L.length
   ·rw [hp.1 i q];exact h4 i q
   ·have:=hp.2 i (by omega) (by omega)
    have:=h5 i (by omega) (by omega)
    omega
theorem fillN_mono {ws ms:List Int} {sp:List Bool} {W W':Int} {n:Nat} (hW:W≤W') (i:Nat) (hi:i<n):(fillN ws ms sp W' n).getD i 0≤(fillN ws ms sp W n).getD i 0:=
 fillF_mono (fun s h=>endN_range h) (fun s h=>endN_range h) (fun s d h=>endN_mono hW d h) n [] [] 0 (by simp) (by simp) (by simp) (by simp) (by simp) i hi
def LStep (L:List Int):Prop:=(∀ i,i+1<L.length→L.getD (i+1) 0=L.getD i 0∨L.getD (i+1) 0=L.getD i 0+1)∧(0<L.length→L.getD 0 0=0)
theorem fillF_step {E:Nat→Int} {n:Nat} (hE:∀ s,s<n→(s:Int)≤E s∧E s<n):∀ (m:Nat) (L:List Int) (line:Int),LStep L→(0<L.length→L.getD (L.length - 1) 0=line - 1)→(L.length=0→line=0)→LStep (fillF E n m L line)
 | 0,L,line,h1,_,_=>by rw [fillF];exact h1
 | m+1,L,line,h1,h2,h3=>by
  rw [fillF]
  split
  ·rename_i c
   have a:=hE _ c
   obtain ⟨k,ek⟩:∃ k,(E L.length).toNat+1 - L.length=k:=⟨_,rfl⟩
   rw [ek]
   have hk:0<k:=by omega
   have g1:∀ j,j<L.length→(L++List.replicate k line).getD j 0=L.getD j 0:=fun j q=>by simp [List.getD_eq_getElem?_getD,List.getElem?_append_left q]
   have g2:∀ j,L.length≤j→j<L.length+k→(L++List.replicate k line).getD j 0=line:=fun j q q'=>by
    have:j - L.length<k:=by omega
    simp [List.getD_eq_getElem?_getD,List.getElem?_append_right q,this]
   refine fillF_step hE m _ _ ⟨fun i hi=>?_,fun _=>?_⟩ (fun _=>?_) (fun h=>by simp at h;omega)
   ·simp at hi
    by_cases q:i+1<L.length
    ·rw [g1 _ q,g1 i (by omega)];exact h1.1 i q
    ·rw [g2 (i+1) (by omega) (by omega)]
     by_cases q2:i<L.length
     ·rw [g1 i q2]
      have:=h2 (by omega)
      rw [show L.length - 1=i by omega] at this
      omega
     ·rw [g2 i (by omega) (by omega)];omega
   ·by_cases q:0<L.length
    ·rw [g1 0 q];exact h1.2 q
    ·rw [g2 0 (by omega) (by omega)];exact h3 (by omega)
   ·rw [g2 _ (by simp;omega) (by simp;omega)];omega
  ·exact h1
theorem fillN_step {ws ms:List Int} {sp:List Bool} {W:Int} {n:Nat}:LStep (fillN ws ms sp W n):=
 fillF_step (fun s h=>endN_range h) n [] 0 ⟨fun i h=>by simp at h,fun h=>by simp at h⟩ (fun h=>by simp at h) (fun _=>rfl)
end
section
def ac7:AC:=by
 apply fun (y:AC) (_:@Eq AC (let e0:=[12,13,14,15,16];let e1:=[25,26,27,28,29];let e2:=[5,10,11,12];let e3:=[50,51,52,53,54];let e4:=[45,46,47,48,49];let e5:=[62,63,64,65,66];let e6:=[57,58,59,60,61];let e7:=[75,76,77,78,79];let e8:=[70,71,72,73,74];let e9:=[0,1,2,3,4];(qk [0,1] (qs (qr [(qp 2 (.box (.v 0))),(qp 4 (.mov (.c (.bool false))))]) (qk [1,2] (qs (qr [(qp 13 (.call 8 [])),(yn 5 13 [0,0,0])]) (qk [1,2,5] (qs (qr [(qp 15 (qt 9 2)),(qi 16 (.call 9 [.v 15]) [0]),(yn 14 16 [1]),(qi 17 (.ext (.v 14) 0) [2]),(qi 18 (.ext (.v 14) 1) [2]),(qi 19 (.ext (.v 14) 2) [2]),(qi 20 (.ext (.v 14) 3) [2]),(qp 8 (.alloc [.int .i64 0,.nsl,.int .i64 0])),(yn 6 17 [3,1,0,1,2,3,7]),(yn 7 18 [4,8,0,1,2,3,4,7,8]),(qo (.store 3 (.v 8) (.v 19)) [7,5,9,0,1,2,3,4,5,7,8,9]),(yn 9 20 [6,10,0,1,2,3,4,5,6,7,8,9,10])]) (qk [1,5,6,7,8,9] (qs (qr [(ym 21 6),(ym 22 7),(qp 23 (qt 3 8)),(ym 24 9),(qi 25 (.call 17 [.v 21,.v 22,.v 23,.v 24]) [0,1,2,3]),(yn 10 25 [4,4,0,1,2,3,4])]) (qk [1,5,6,7,8,9,10] (qs (qr [(ym 26 6),(ym 27 7),(qp 28 (qt 3 8)),(ym 29 9),(ym 30 1),(qi 31 (.conv .i64 (.v 30)) [4]),(yb 32 .add 29 31 [3,5]),(qi 33 (.call 17 [.v 26,.v 27,.v 28,.v 32]) [0,1,2,6]),(yn 11 33 [7,7,0,1,2,3,4,5,6,7])]) (qk [5,10,11] (qs (qs (qr [(ym 34 10),(yh 35 34 [0]),(ym 36 11),(yh 37 36 [2]),(yb 38 .neq 35 37 [1,3])]) (qk [5,10,11,38] (qq (.v 38) (qs (qr [(qp 4 (.mov (.c (.bool false))))]) (qk [4] .ret)) .skip))) (qk [5,10,11] (qs (qs (qr [(qp 12 (.mov (qz 0)))]) (qk e2 (.block 0 (.loop (qk e2 (qs (qs (qr [(ym 39 12),(ym 40 10),(yh 41 40 [1]),(yb 42 .lss 39 41 [0,2])]) (qk [5,10,11,12,42] (qq (.v 42) .skip (.exit 0)))) (qk e2 (qs (.block 1 (qs (qd [(qe (ym 45 11) [46,50,51,52,53,54] [] 2),(qe (ym 46 12) [45,50,51,52,53,54] [0] 2),(qe (yj 47 6 45 46 [0,1]) e3 [] 2),(qe (yf 48 3 47 [2]) e3 [] 2),(qe (yk 49 48 [3]) e3 [] 2),(qe (ym 50 10) [45,46,47,48,49,51] e9 2),(qe (ym 51 12) [45,46,47,48,49,50] [0,1,2,3,4,5] 2),(qe (yj 52 6 50 51 [5,6]) e4 e9 2),(qe (yf 53 3 52 [7]) e4 e9 2),(qe (yk 54 53 [8]) e4 e9 2),(qe (yb 55 .gtr 49 54 [4,9]) [] [] 2),(qe (yn 56 55 [10]) [] [] 2),(qe (qg 57 (qm 11) 56 false [11]) [58,62,63,64,65,66] [] 2),(qe (qg 58 (qm 12) 56 false [11]) [57,62,63,64,65,66] [12] 2),(qe (qg 59 (qj 6 57 58) 56 false [12,13,11]) e5 [] 2),(qe (qg 60 (qf 5 59) 56 false [14,11]) e5 [] 2),(qe (qg 61 (ql 60) 56 false [15,11]) e5 [] 2),(qe (qg 62 (qm 10) 56 false [11]) [57,58,59,60,61,63] e0 2),(qe (qg 63 (qm 12) 56 false [11]) [57,58,59,60,61,62] [12,13,14,15,16,17] 2),(qe (qg 64 (qj 6 62 63) 56 false [17,18,11]) e6 e0 2),(qe (qg 65 (qf 5 64) 56 false [19,11]) e6 e0 2),(qe (qg 66 (ql 65) 56 false [20,11]) e6 e0 2),(qe (qg 67 (qb .neq 61 66) 56 false [16,21,11]) [] [] 2),(qe (qi 68 (.pick (.v 56) (.c (.bool true)) (.v 67)) [11,22]) [] [] 2),(qe (yn 69 68 [23,11]) [] [] 2),(qe (qg 70 (qm 11) 69 false [24]) [71,75,76,77,78,79] [] 2),(qe (qg 71 (qm 12) 69 false [24]) [70,75,76,77,78,79] [25] 2),(qe (qg 72 (qj 6 70 71) 69 false [25,26,24]) e7 [] 2),(qe (qg 73 (qf 2 72) 69 false [27,24]) e7 [] 2),(qe (qg 74 (ql 73) 69 false [28,24]) e7 [] 2),(qe (qg 75 (qm 10) 69 false [24]) [70,71,72,73,74,76] e1 2),(qe (qg 76 (qm 12) 69 false [24]) [70,71,72,73,74,75] [25,26,27,28,29,30] 2),(qe (qg 77 (qj 6 75 76) 69 false [30,31,24]) e8 e1 2),(qe (qg 78 (qf 2 77) 69 false [32,24]) e8 e1 2),(qe (qg 79 (ql 78) 69 false [33,24]) e8 e1 2),(qe (qg 80 (qb .neq 74 79) 69 false [29,34,24]) [] [] 2),(qe (qi 81 (.pick (.v 69) (.c (.bool true)) (.v 80)) [24,35]) [] [] 2)]) (qk [5,10,11,12,81] (qq (.v 81) (qs (qr [(qp 4 (.mov (.c (.bool false))))]) (qk [4] .ret)) .skip)))) (qk e2 (qr [(ym 43 12),(yc 44 .add 43 (qz 1) [0]),(yn 12 44 [1,0,1])])))))))))) (qk [5] (qs (qr [(ym 82 5),(yn 4 82 [0,0])]) (qk [4] .ret)))))))))))))))))) y)=>y
 dsimp
theorem fn7:factOf Tryz.prog 7=some (ac7.strip,[.tmp 4],83):=by kernel_rfl
theorem ok7:ac7.okAll=true:=by kernel_rfl
end
section
attribute [local simp ↓] awp_scope awp_label
attribute [local simp] w1
set_option maxHeartbeats 400000
attribute [local simp] evC
attribute [local simp ↓] oneN oneI oneSp oneCor onePl
theorem placesN_get {cs:List Cor} {t:List UInt8} {s:Stg} {w:Int} (h:fitN s=true):∃ X,placesN cs t s w=plcL (fontsN cs t) (linesN cs t s w) X (widthsN cs t s) (splT t).length:=by
 unfold placesN
 rw [if_pos h]
 exact ⟨_,rfl⟩
theorem placesN_len {cs:List Cor} {t:List UInt8} {s:Stg} {w:Int} (h:fitN s=true):(placesN cs t s w).length=(splT t).length:=by
 obtain ⟨X,e⟩:=placesN_get (cs:=cs) (t:=t) (w:=w) h
 rw [e,plcL_len]
theorem plcL_get (Fs ls X Ws:List Int) (n i:Nat) (h:i<(plcL Fs ls X Ws n).length):(plcL Fs ls X Ws n)[i]=⟨i,Fs.getD i 0,ls.getD i 0,X.getD i 0,Ws.getD i 0⟩:=by
 simp [plcL]
theorem b7 (h8:Best Tryz.prog 8 [] (.p (.bool true))) (p:Pg) (hp:p.ok) (more:Nat) (hm:more<256):Best Tryz.prog 7 [.agg (pgRow p),.int .u8 more] (.p (.bool true)):=by
 refine best mixed fn7 ok7 (by simp [pgRow]) ?_
 obtain ⟨cs,hl,hcs,q9⟩:=p.made hp
 have ht:=p.txt_len
 have ha:=p.at_len
 have hf:=p.fit
 have hw:=p.wid_b
 have q17:=b17 cs hcs p.txt (by omega) p.set (by omega) p.wid (by omega)
 have q17':=b17 cs hcs p.txt (by omega) p.set (by omega) (p.wid+more) (by omega)
 have hn:(splT p.txt).length≤20:=by have:=splT_len p.txt;omega
 have hP:(placesN cs p.txt p.set p.wid).length≤20:=by rw [placesN_len hf];exact hn
 have hP':(placesN cs p.txt p.set (p.wid+more)).length=(placesN cs p.txt p.set p.wid).length:=by rw [placesN_len hf,placesN_len hf]
 have key:∀ (k:Nat) (h:k<(placesN cs p.txt p.set p.wid).length) (h':k<(placesN cs p.txt p.set (p.wid+more)).length),(placesN cs p.txt p.set (p.wid+more))[k].l≤(placesN cs p.txt p.set p.wid)[k].l∧(placesN cs p.txt p.set (p.wid+more))[k].w=(placesN cs p.txt p.set p.wid)[k].w∧(placesN cs p.txt p.set (p.wid+more))[k].f=(placesN cs p.txt p.set p.wid)[k].f:=by
  obtain ⟨X,e⟩:=placesN_get (cs:=cs) (t:=p.txt) (w:=p.wid) hf
  obtain ⟨X',e'⟩:=placesN_get (cs:=cs) (t:=p.txt) (w:=p.wid+more) hf
  rw [e,e']
  intro k h h'
  rw [plcL_get,plcL_get]
  rw [plcL_len] at h
  exact ⟨fillN_mono (by omega) k h,rfl,rfl⟩
 generalize p.txt=T at *
 generalize p.set=S at *
 generalize p.wid=W at *
 obtain ⟨P,eP⟩:∃ P,placesN cs T S W=P:=⟨_,rfl⟩
 obtain ⟨P',eP'⟩:∃ P,placesN cs T S (W+more)=P:=⟨_,rfl⟩
 simp only [eP,eP'] at hP hP' q17 q17' key
 have wW:R (W+more):=⟨by omega,by omega⟩
 have wm:R (more:Int):=⟨by omega,by omega⟩
 have hPl:¬(P.length:Int)≠P'.length:=by omega
 simp -dsimp [ac7,pgRow]
 refine call_p h8 (by simp) (by simp) ?_
 simp -dsimp
 refine call_p q9 (by simp [pgRow]) (by simp) ?_
 simp -dsimp [stgRow]
 refine call_p q17 (by simp [stgRow]) (by simp) ?_
 simp -dsimp [wr wm,wr wW]
 refine call_p q17' (by simp [stgRow]) (by simp) ?_
 simp -dsimp [hP']
 refine loopC P.length (fun k=>⟨[(5,.p (.bool true)),(10,.p (.sl 6 (P.map plcRow))),(11,.p (.sl 6 (P'.map plcRow))),(12,.p (.int .i64 k))],[]⟩) (fun _=>True) (fun k hk _=>?_) trivial (by simp)
 by_cases h:k<P.length
 ·have wk:R ((k:Int)+1):=⟨by omega,by omega⟩
  have h':k<P'.length:=by omega
  have hk:=key k h h'
  obtain ⟨⟨i,f,l,x,w⟩,e⟩:∃ p,P[k]=p:=⟨_,rfl⟩
  obtain ⟨⟨i',f',l',x',w'⟩,e'⟩:∃ p,P'[k]=p:=⟨_,rfl⟩
  rw [e,e'] at hk
  obtain ⟨k1,k2,k3⟩:=hk
  dsimp only at k1 k2 k3
  subst k2 k3
  have k4:¬l<l':=by omega
  simp -dsimp [h,h',hP',e,e',plcRow,k1,k4,wr wk]
 ·have:k=P.length:=by omega
  subst this
  simp -dsimp [h,resOf]
end
section
def xc5b:AC:=by
 apply fun (y:AC) (_:@Eq AC (let e0:=[3,7,8,9,10,11,12,13,14];let e1:=[136,137,138,139,140,141,142,143,144,145,146];let e2:=[154,155,156,157,158,159,160,161,162,163,164];let e3:=[18,19,20,21,22,23,24,25,26,27];let e4:=[131,132,133,134,135,141,142,143,144,145];let e5:=[131,132,133,134,135,136,137,138,139,140];let e6:=[149,150,151,152,153,159,160,161,162,163];let e7:=[149,150,151,152,153,154,155,156,157,158];let e8:=[3,7,8,9,10,11,12,13,14,15];let e9:=[0,1,2,3,4,5,6,7,8,9];let e10:=[18,19,20,21,22];let e11:=[112,118,119,120,121,122];let e12:=[112,113,114,115,116,117];let e13:=[0,1,2,3,4,5];let e14:=[0,1,2,3,4];let e15:=[0,1];(qs (qr [(ym 89 8),(ym 90 9),(yj 91 6 89 90 e15),(yf 92 4 91 [2]),(yk 93 92 [3]),(yn 12 93 [4,0,1,2,3,4])]) (qk [3,7,8,9,10,11,12] (qs (qr [(ym 94 8),(ym 95 9),(yj 96 6 94 95 e15),(yf 97 4 96 [2]),(yk 98 97 [3]),(yn 13 98 [4,0,1,2,3,4])]) (qk [3,7,8,9,10,11,12,13] (qs (qs (qr [(ym 99 9),(yn 14 99 [0,0])]) (qk e0 (.block 4 (.loop (qk e0 (qs (qs (qr [(ym 100 14),(ym 101 10),(yb 102 .lss 100 101 e15)]) (qk [3,7,8,9,10,11,12,13,14,102] (qq (.v 102) .skip (.exit 4)))) (qk e0 (qs (.block 5 (qs (qr [(ym 105 12),(ym 106 8),(ym 107 14),(yj 108 6 106 107 [1,2]),(yf 109 4 108 [3]),(yk 110 109 [4]),(qi 111 (.mm false (.v 105) (.v 110)) [0,5]),(yn 12 111 [6,0,1,2,3,4,5,6])]) (qk e0 (qs (qd [(qe (ym 112 13) [113,114,115,116,117,118,119,120,121,122,123] [] 2),(qe (ym 113 8) [112,114,118,119,120,121,122] [0] 2),(qe (ym 114 14) [112,113,118,119,120,121,122] e15 2),(qe (yj 115 6 113 114 [1,2]) e11 [0] 2),(qe (yf 116 4 115 [3]) e11 [0] 2),(qe (yk 117 116 [4]) e11 [0] 2),(qe (ym 118 8) [112,113,114,115,116,117,119] e13 2),(qe (ym 119 14) [112,113,114,115,116,117,118] [0,1,2,3,4,5,6] 2),(qe (yj 120 6 118 119 [6,7]) e12 e13 2),(qe (yf 121 5 120 [8]) e12 e13 2),(qe (yk 122 121 [9]) e12 e13 2),(qe (yb 123 .add 117 122 [5,10]) [112] [0] 2),(qe (qi 124 (.mm true (.v 112) (.v 123)) [0,11]) [] [] 2),(qe (yn 13 124 [12,0,1,2,3,4,5,6,7,8,9,10,11,12]) [] [] 2)]) (qk e0 (qs (qs (qr [(ym 125 9),(yn 15 125 [0,0])]) (qk e8 (.block 6 (.loop (qk e8 (qs (qs (qr [(ym 126 15),(ym 127 14),(yb 128 .lss 126 127 e15)]) (qk [3,7,8,9,10,11,12,13,14,15,128] (qq (.v 128) .skip (.exit 6)))) (qk e8 (qs (.block 7 (qs (qd [(qe (ym 131 8) [132,136,137,138,139,140,141,142,143,144,145,146] [] 2),(qe (ym 132 14) [131,136,137,138,139,140,141,142,143,144,145,146] [0] 2),(qe (yj 133 6 131 132 e15) e1 [] 2),(qe (yf 134 4 133 [2]) e1 [] 2),(qe (yk 135 134 [3]) e1 [] 2),(qe (ym 136 8) [131,132,133,134,135,137,141,142,143,144,145] e14 2),(qe (ym 137 15) [131,132,133,134,135,136,141,142,143,144,145] e13 2),(qe (yj 138 6 136 137 [5,6]) e4 e14 2),(qe (yf 139 4 138 [7]) e4 e14 2),(qe (yk 140 139 [8]) e4 e14 2),(qe (ym 141 8) [131,132,133,134,135,136,137,138,139,140,142] e9 2),(qe (ym 142 15) [131,132,133,134,135,136,137,138,139,140,141] [0,1,2,3,4,5,6,7,8,9,10] 2),(qe (yj 143 6 141 142 [10,11]) e5 e9 2),(qe (yf 144 5 143 [12]) e5 e9 2),(qe (yk 145 144 [13]) e5 e9 2),(qe (yb 146 .add 140 145 [9,14]) [131,132,133,134,135] e14 2),(qe (yb 147 .lss 135 146 [4,15]) [] [] 2),(qe (yn 148 147 [16]) [] [] 2),(qe (qg 149 (qm 8) 148 true [17]) [150,154,155,156,157,158,159,160,161,162,163,164] [] 2),(qe (qg 150 (qm 15) 148 true [17]) [149,154,155,156,157,158,159,160,161,162,163,164] [18] 2),(qe (qg 151 (qj 6 149 150) 148 true [18,19,17]) e2 [] 2),(qe (qg 152 (qf 4 151) 148 true [20,17]) e2 [] 2),(qe (qg 153 (ql 152) 148 true [21,17]) e2 [] 2),(qe (qg 154 (qm 8) 148 true [17]) [149,150,151,152,153,155,159,160,161,162,163] e10 2),(qe (qg 155 (qm 14) 148 true [17]) [149,150,151,152,153,154,159,160,161,162,163] [18,19,20,21,22,23] 2),(qe (qg 156 (qj 6 154 155) 148 true [23,24,17]) e6 e10 2),(qe (qg 157 (qf 4 156) 148 true [25,17]) e6 e10 2),(qe (qg 158 (ql 157) 148 true [26,17]) e6 e10 2),(qe (qg 159 (qm 8) 148 true [17]) [149,150,151,152,153,154,155,156,157,158,160] e3 2),(qe (qg 160 (qm 14) 148 true [17]) [149,150,151,152,153,154,155,156,157,158,159] [18,19,20,21,22,23,24,25,26,27,28] 2),(qe (qg 161 (qj 6 159 160) 148 true [28,29,17]) e7 e3 2),(qe (qg 162 (qf 5 161) 148 true [30,17]) e7 e3 2),(qe (qg 163 (ql 162) 148 true [31,17]) e7 e3 2),(qe (qg 164 (qb .add 158 163) 148 true [27,32,17]) [149,150,151,152,153] e10 2),(qe (qg 165 (qb .lss 153 164) 148 true [22,33,17]) [] [] 2),(qe (qi 166 (.pick (.v 148) (.v 165) (.c (.bool false))) [17,34]) [] [] 2),(qe (yn 167 166 [35,17]) [] [] 2),(qe (qg 168 (qm 8) 167 true [36]) [169] [] 2),(qe (qg 169 (qm 14) 167 true [36]) [168] [37] 2),(qe (qg 170 (qj 6 168 169) 167 true [37,38,36]) [] [] 2),(qe (qg 171 (qf 5 170) 167 true [39,36]) [] [] 2),(qe (qg 172 (ql 171) 167 true [40,36]) [] [] 2),(qe (qg 173 (qc .gtr 172 (qz 0)) 167 true [41,36]) [] [] 2),(qe (qi 174 (.pick (.v 167) (.v 173) (.c (.bool false))) [36,42]) [] [] 2),(qe (yn 175 174 [43,36]) [] [] 2),(qe (qg 176 (qm 8) 175 true [44]) [177] [] 2),(qe (qg 177 (qm 15) 175 true [44]) [176] [45] 2),(qe (qg 178 (qj 6 176 177) 175 true [45,46,44]) [] [] 2),(qe (qg 179 (qf 5 178) 175 true [47,44]) [] [] 2),(qe (qg 180 (ql 179) 175 true [48,44]) [] [] 2),(qe (qg 181 (qc .gtr 180 (qz 0)) 175 true [49,44]) [] [] 2),(qe (qi 182 (.pick (.v 175) (.v 181) (.c (.bool false))) [44,50]) [] [] 2)]) (qk [3,7,8,9,10,11,12,13,14,15,182] (qq (.v 182) (qs (qr [(qp 2 (.mov (.c (.bool false))))]) (qk [2] .ret)) .skip)))) (qk e8 (qr [(ym 129 15),(yc 130 .add 129 (qz 1) [0]),(yn 15 130 [1,0,1])])))))))))) (qk e0 (qs (qr [(ym 183 8),(ym 184 14),(yj 185 6 183 184 e15),(yf 186 1 185 [2]),(yk 187 186 [3]),(ym 188 14),(yb 189 .neq 187 188 [4,5]),(yn 190 189 [6]),(qg 191 (qm 8) 190 false [7]),(qg 192 (qm 14) 190 false [7]),(qg 193 (qj 6 191 192) 190 false [8,9,7]),(qg 194 (qf 0 193) 190 false [10,7]),(qg 195 (ql 194) 190 false [11,7]),(qg 196 (qc .neq 195 (qz 0)) 190 false [12,7]),(qi 197 (.pick (.v 190) (.c (.bool true)) (.v 196)) [7,13]),(yn 198 197 [14,7]),(qg 199 (qm 8) 198 false [15]),(qg 200 (qm 14) 198 false [15]),(qg 201 (qj 6 199 200) 198 false [16,17,15]),(qg 202 (qf 5 201) 198 false [18,15]),(qg 203 (ql 202) 198 false [19,15]),(qg 204 (qc .lss 203 (qz 0)) 198 false [20,15]),(qi 205 (.pick (.v 198) (.c (.bool true)) (.v 204)) [15,21])]) (qk [3,7,8,9,10,11,12,13,14,205] (qq (.v 205) (qs (qr [(qp 2 (.mov (.c (.bool false))))]) (qk [2] .ret)) .skip)))))))))) (qk e0 (qr [(ym 103 14),(yc 104 .add 103 (qz 1) [0]),(yn 14 104 [1,0,1])])))))))))) (qk [3,7,8,10,11,12,13] (qs (qs (qr [(ym 206 13),(ym 207 12),(yb 208 .sub 206 207 e15),(ym 209 11),(yb 210 .neq 208 209 [2,3]),(yn 211 210 [4]),(qg 212 (qm 12) 211 false [5]),(qg 213 (qc .neq 212 (qz 0)) 211 false [6,5]),(qg 214 (qm 213) 211 false [7,5,5]),(qg 215 (qm 13) 214 true [8]),(qg 216 (qm 7) 214 true [8]),(qg 217 (qb .neq 215 216) 214 true [9,10,8]),(qg 218 (.pick (.v 214) (.v 217) (.c (.bool false))) 211 false [8,11,5]),(qi 219 (.pick (.v 211) (.c (.bool true)) (.v 218)) [5,12])]) (qk [3,7,8,10,219] (qq (.v 219) (qs (qr [(qp 2 (.mov (.c (.bool false))))]) (qk [2] .ret)) .skip))) (qk [3,7,8,10] (qr [(ym 220 10),(yn 9 220 [0,0])])))))))))) y)=>y
 dsimp
def ac5:AC:=by
 apply fun (y:AC) (_:@Eq AC (let e0:=[5,6,7,8,9];let e1:=[3,7,8,9,10,11];let e2:=[65,66,67,68,69];let e3:=[70,71,72,73,74,75];let e4:=[44,45,46,47,48];let e5:=[39,40,41,42,43];(qk [0] (qs (qr [(qp 1 (.box (.v 0))),(qp 2 (.mov (.c (.bool false))))]) (qk [1] (qs (qr [(qp 16 (.call 8 [])),(yn 3 16 [0,0,0])]) (qk [1,3] (qs (qr [(qp 18 (qt 9 1)),(qi 19 (.call 9 [.v 18]) [0]),(yn 17 19 [1]),(qi 20 (.ext (.v 17) 0) [2]),(qi 21 (.ext (.v 17) 1) [2]),(qi 22 (.ext (.v 17) 2) [2]),(qi 23 (.ext (.v 17) 3) [2]),(qp 6 (.alloc [.int .i64 0,.nsl,.int .i64 0])),(yn 4 20 [3,1,0,1,2,3,7]),(yn 5 21 [4,8,0,1,2,3,4,7,8]),(qo (.store 3 (.v 6) (.v 22)) [7,5,9,0,1,2,3,4,5,7,8,9]),(yn 7 23 [6,10,0,1,2,3,4,5,6,7,8,9,10])]) (qk [3,4,5,6,7] (qs (qr [(ym 24 4),(ym 25 5),(qp 26 (qt 3 6)),(ym 27 7),(qi 28 (.call 17 [.v 24,.v 25,.v 26,.v 27]) [0,1,2,3]),(yn 8 28 [4,4,0,1,2,3,4])]) (qk [3,7,8] (qs (qs (qr [(qp 9 (.mov (qz 0)))]) (qk [3,7,8,9] (.block 0 (.loop (qk [3,7,8,9] (qs (qs (qr [(ym 29 9),(ym 30 8),(yh 31 30 [1]),(yb 32 .lss 29 31 [0,2])]) (qk [3,7,8,9,32] (qq (.v 32) .skip (.exit 0)))) (qk [3,7,8,9] (.block 1 (qs (qr [(ym 33 9),(yn 10 33 [0,0])]) (qk [3,7,8,9,10] (qs (qr [(qp 11 (.mov (qz 0)))]) (qk e1 (qs (.block 2 (.loop (qk e1 (qs (qs (qd [(qe (ym 34 10) [35,36] [] 2),(qe (ym 35 8) [34] [0] 2),(qe (yh 36 35 [1]) [34] [0] 2),(qe (yb 37 .lss 34 36 [0,2]) [] [] 2),(qe (yn 38 37 [3]) [] [] 2),(qe (qg 39 (qm 8) 38 true [4]) [40,44,45,46,47,48] [] 2),(qe (qg 40 (qm 10) 38 true [4]) [39,44,45,46,47,48] [5] 2),(qe (qg 41 (qj 6 39 40) 38 true [5,6,4]) e4 [] 2),(qe (qg 42 (qf 3 41) 38 true [7,4]) e4 [] 2),(qe (qg 43 (ql 42) 38 true [8,4]) e4 [] 2),(qe (qg 44 (qm 8) 38 true [4]) [39,40,41,42,43,45] e0 2),(qe (qg 45 (qm 9) 38 true [4]) [39,40,41,42,43,44] [5,6,7,8,9,10] 2),(qe (qg 46 (qj 6 44 45) 38 true [10,11,4]) e5 e0 2),(qe (qg 47 (qf 3 46) 38 true [12,4]) e5 e0 2),(qe (qg 48 (ql 47) 38 true [13,4]) e5 e0 2),(qe (qg 49 (qb .eql 43 48) 38 true [9,14,4]) [] [] 2),(qe (qi 50 (.pick (.v 38) (.v 49) (.c (.bool false))) [4,15]) [] [] 2)]) (qk [3,7,8,9,10,11,50] (qq (.v 50) .skip (.exit 2)))) (qk e1 (.block 3 (qs (qr [(ym 51 11),(ym 52 8),(ym 53 10),(yj 54 6 52 53 [1,2]),(yf 55 5 54 [3]),(yk 56 55 [4]),(yb 57 .add 51 56 [0,5]),(yn 11 57 [6,0,1,2,3,4,5,6])]) (qk e1 (qr [(ym 58 10),(yc 59 .add 58 (qz 1) [0]),(yn 10 59 [1,0,1])]))))))))) (qk e1 (qs (qs (qd [(qe (ym 60 10) [61,62] [] 2),(qe (ym 61 8) [60] [0] 2),(qe (yh 62 61 [1]) [60] [0] 2),(qe (yb 63 .lss 60 62 [0,2]) [] [] 2),(qe (yn 64 63 [3]) [] [] 2),(qe (qg 65 (qm 8) 64 true [4]) [66,70,71,72,73,74,75] [] 2),(qe (qg 66 (qm 10) 64 true [4]) [65,70,71,72,73,74,75] [5] 2),(qe (qg 67 (qj 6 65 66) 64 true [5,6,4]) e3 [] 2),(qe (qg 68 (qf 3 67) 64 true [7,4]) e3 [] 2),(qe (qg 69 (ql 68) 64 true [8,4]) e3 [] 2),(qe (qg 70 (qm 8) 64 true [4]) [65,66,67,68,69,71] e0 2),(qe (qg 71 (qm 9) 64 true [4]) [65,66,67,68,69,70] [5,6,7,8,9,10] 2),(qe (qg 72 (qj 6 70 71) 64 true [10,11,4]) e2 e0 2),(qe (qg 73 (qf 3 72) 64 true [12,4]) e2 e0 2),(qe (qg 74 (ql 73) 64 true [13,4]) e2 e0 2),(qe (qg 75 (qc .add 74 (qz 1)) 64 true [14,4]) e2 e0 2),(qe (qg 76 (qb .neq 69 75) 64 true [9,15,4]) [] [] 2),(qe (qi 77 (.pick (.v 64) (.v 76) (.c (.bool false))) [4,16]) [] [] 2),(qe (yn 78 77 [17,4]) [] [] 2),(qe (qg 79 (qm 9) 78 false [18]) [] [] 2),(qe (qg 80 (qc .eql 79 (qz 0)) 78 false [19,18]) [] [] 2),(qe (qg 81 (qm 80) 78 false [20,18,18]) [] [] 2),(qe (qg 82 (qm 8) 81 true [21]) [] [] 2),(qe (qg 83 (.iaddr 6 (.v 82) (qz 0)) 81 true [22,21]) [] [] 2),(qe (qg 84 (qf 3 83) 81 true [23,21]) [] [] 2),(qe (qg 85 (ql 84) 81 true [24,21]) [] [] 2),(qe (qg 86 (qc .neq 85 (qz 0)) 81 true [25,21]) [] [] 2),(qe (qg 87 (.pick (.v 81) (.v 86) (.c (.bool false))) 78 false [21,26,18]) [] [] 2),(qe (qi 88 (.pick (.v 78) (.c (.bool true)) (.v 87)) [18,27]) [] [] 2)]) (qk [3,7,8,9,10,11,88] (qq (.v 88) (qs (qr [(qp 2 (.mov (.c (.bool false))))]) (qk [2] .ret)) .skip))) (qk e1 xc5b)))))))))))))))) (qk [3] (qs (qr [(ym 221 3),(yn 2 221 [0,0])]) (qk [2] .ret)))))))))))))) y)=>y
 dsimp
theorem fn5:factOf Tryz.prog 5=some (ac5.strip,[.tmp 2],222):=by kernel_rfl
theorem ok5:ac5.okAll=true:=by kernel_rfl
end
section
attribute [local simp ↓] awp_scope awp_label
attribute [local simp] w1
set_option maxHeartbeats 400000
attribute [local simp] evC
attribute [local simp ↓] oneN oneI oneSp oneCor onePl
def sW (W:Nat→Int) (b:Nat):Nat→Int
 | 0=>0
 | d+1=>sW W b d+W (b+d)
def lW (X:Nat→Int) (b:Nat):Nat→Int
 | 0=>X b
 | d+1=>min (lW X b d) (X (b+d))
def mW (X W:Nat→Int) (b:Nat):Nat→Int
 | 0=>X b
 | d+1=>max (mW X W b d) (X (b+d)+W (b+d))
structure TileF (X W:Nat→Int) (b e:Nat) (x0 S:Int):Prop where
 lo:∀ i,b≤i→i<e→x0≤X i
 hi:∀ i,b≤i→i<e→X i+W i≤x0+S
 atlo:∃ i,b≤i∧i<e∧X i=x0
 athi:∃ i,b≤i∧i<e∧X i+W i=x0+S
 dis:∀ i k,b≤i→i<e→b≤k→k<e→i≠k→X i+W i≤X k∨X k+W k≤X i
theorem lW_b {X W:Nat→Int} {b e:Nat} {x0 S:Int} (h:TileF X W b e x0 S) (hbe:b<e):∀ d,b+d≤e→x0≤lW X b d∧(∀ i,b≤i→i<b+d→lW X b d≤X i)
 | 0,_=>⟨h.lo b (Nat.le_refl b) hbe,fun i h1 h2=>by omega⟩
 | d+1,hd=>by
  have ih:=lW_b h hbe d (by omega)
  have:=h.lo (b+d) (by omega) (by omega)
  rw [lW]
  refine ⟨by omega,fun i h1 h2=>?_⟩
  by_cases q:i<b+d
  ·have:=ih.2 i h1 q;omega
  ·have:i=b+d:=by omega
   subst this;omega
theorem mW_b {X W:Nat→Int} {b e:Nat} {x0 S:Int} (h:TileF X W b e x0 S) (hW:∀ j,0≤W j) (hbe:b<e):∀ d,b+d≤e→mW X W b d≤x0+S∧x0≤mW X W b d∧(∀ i,b≤i→i<b+d→X i+W i≤mW X W b d)
 | 0,_=>by
  have h1:=h.hi b (Nat.le_refl b) hbe
  have h2:=h.lo b (Nat.le_refl b) hbe
  have h3:=hW b
  exact ⟨by rw [mW];omega,by rw [mW];omega,fun i h1 h2=>by omega⟩
 | d+1,hd=>by
  have ih:=mW_b h hW hbe d (by omega)
  have:=h.hi (b+d) (by omega) (by omega)
  rw [mW]
  refine ⟨by omega,by omega,fun i h1 h2=>?_⟩
  by_cases q:i<b+d
  ·have:=ih.2.2 i h1 q;omega
  ·have:i=b+d:=by omega
   subst this;omega
theorem x5b {Kc:AE→Fr→Prop} (P:List Plc) (n:Nat) (hP:P.length=n) (hn:n≤20) (F L X W:Nat→Int) (hget:∀ j (h:j<P.length),P[j]=⟨j,F j,L j,X j,W j⟩) (w:Int) (hw:0≤w∧w<200) (b e:Nat) (hbe:b<e) (hen:e≤n) (x0 S:Int) (hS:0≤S∧S≤4000000000000000000) (hx0:-4000000000000001000≤x0∧x0≤1000)
  (hT:TileF X W b e x0 S) (hside:x0=0∨x0+S=w) (hW:∀ j,0≤W j) (hK:∀ F,(Ghost.keep [3,7,8,9]).app F=some ⟨[(3,.p (.bool true)),(7,.p (.int .i64 w)),(8,.p (.sl 6 (P.map plcRow))),(9,.p (.int .i64 e))],[]⟩→Kc .normal F) :
  awp Tryz.prog xc5b Kc ⟨[(3,.p (.bool true)),(7,.p (.int .i64 w)),(8,.p (.sl 6 (P.map plcRow))),(9,.p (.int .i64 b)),(10,.p (.int .i64 e)),(11,.p (.int .i64 S))],[]⟩:=by
 have hb:b<P.length:=by omega
 have eb:=hget b hb
 simp -dsimp [xc5b,hb,eb,plcRow]
 refine loopC (e - b) (fun d=>⟨[(3,.p (.bool true)),(7,.p (.int .i64 w)),(8,.p (.sl 6 (P.map plcRow))),(9,.p (.int .i64 b)),(10,.p (.int .i64 e)),(11,.p (.int .i64 S)),(12,.p (.int .i64 (lW X b d))),(13,.p (.int .i64 (mW X W b d))),(14,.p (.int .i64 ((b+d:Nat):Int)))],[]⟩) (fun _=>True) (fun d hd _=>?_) trivial (by simp [lW,mW])
 have hlb:=lW_b hT hbe d (by omega)
 have hmb:=mW_b hT hW hbe d (by omega)
 by_cases h:b+d<e
 ·have hd2:d<e - b:=by omega
  rw [lW,mW,show b+(d+1)=(b+d)+1 by omega]
  obtain ⟨i,ei⟩:∃ i,b+d=i:=⟨_,rfl⟩
  rw [ei] at h ⊢
  have hi:i<P.length:=by omega
  have gi:=hget i hi
  have q1:=hT.lo i (by omega) h
  have q2:=hT.hi i (by omega) h
  have q3:=hW i
  have wi:R ((i:Int)+1):=⟨by omega,by omega⟩
  have wx:R (X i+W i):=⟨by omega,by omega⟩
  have h':(i:Int)<e:=by omega
  simp -dsimp [h,h',hi,gi,plcRow,wr wx]
  obtain ⟨l1,el1⟩:∃ x,min (lW X b d) (X i)=x:=⟨_,rfl⟩
  obtain ⟨m1,em1⟩:∃ x,max (mW X W b d) (X i+W i)=x:=⟨_,rfl⟩
  rw [el1,em1]
  refine loopC (i - b) (fun c=>⟨[(3,.p (.bool true)),(7,.p (.int .i64 w)),(8,.p (.sl 6 (P.map plcRow))),(9,.p (.int .i64 b)),(10,.p (.int .i64 e)),(11,.p (.int .i64 S)),(12,.p (.int .i64 l1)),(13,.p (.int .i64 m1)),(14,.p (.int .i64 i)),(15,.p (.int .i64 ((b+c:Nat):Int)))],[]⟩) (fun _=>True) (fun c hc _=>?_) trivial (by simp)
  by_cases g:b+c<i
  ·have hc2:c<i - b:=by omega
   rw [show b+(c+1)=(b+c)+1 by omega]
   obtain ⟨k,ek⟩:∃ k,b+c=k:=⟨_,rfl⟩
   rw [ek] at g ⊢
   have hk:k<P.length:=by omega
   have gk:=hget k hk
   have r1:=hT.lo k (by omega) (by omega)
   have r2:=hT.hi k (by omega) (by omega)
   have r3:=hW k
   have wk:R ((k:Int)+1):=⟨by omega,by omega⟩
   have wxk:R (X k+W k):=⟨by omega,by omega⟩
   have g':(k:Int)<i:=by omega
   rcases hT.dis i k (by omega) h (by omega) (by omega) (by omega) with o | o
   ·have o':¬X k<X i+W i:=by omega
    by_cases o2:X i<X k+W k
    ·simp -dsimp [g,g',hi,gi,hk,gk,plcRow,wr wx,wr wxk,wr wk,o',o2,hc2]
    ·simp -dsimp [g,g',hi,gi,hk,gk,plcRow,wr wx,wr wxk,wr wk,o2,hc2]
   ·have o2:¬X i<X k+W k:=by omega
    simp -dsimp [g,g',hi,gi,hk,gk,plcRow,wr wx,wr wxk,wr wk,o2,hc2]
  ·have hc2:b+c=i:=by omega
   have q4:¬W i<0:=by omega
   rw [hc2]
   simp -dsimp [hi,gi,plcRow,q4,wr wi,hd2,el1,em1]
 ·have hd2:d=e - b:=by omega
  have hde:b+d=e:=by omega
  have hl:lW X b d=x0:=by
   obtain ⟨i,h1,h2,h3⟩:=hT.atlo
   have:=hlb.2 i h1 (by omega)
   omega
  have hm:mW X W b d=x0+S:=by
   obtain ⟨i,h1,h2,h3⟩:=hT.athi
   have:=hmb.2.2 i h1 (by omega)
   omega
  rw [hde,hl,hm]
  have wS:R (x0+S - x0):=⟨by omega,by omega⟩
  have eS:x0+S - x0=S:=by omega
  by_cases c0:x0=0
  ·subst c0
   have eS0:0+S - 0=S:=by omega
   have wS':R S:=⟨by omega,by omega⟩
   simp -dsimp [wr wS']
   refine hK _ ?_
   simp
  ·have c1:x0+S=w:=by omega
   have eS1:w - x0=S:=by omega
   rw [c1]
   have wS':R S:=⟨by omega,by omega⟩
   simp -dsimp [wr wS',c0,eS1]
   refine hK _ ?_
   simp
end
section
attribute [local simp ↓] awp_scope awp_label
attribute [local simp] w1
set_option maxHeartbeats 400000
attribute [local simp] evC
attribute [local simp ↓] oneN oneI oneSp oneCor onePl
theorem sW_sum (Ws:List Int) (b:Nat):∀ d,b+d≤Ws.length→sW (fun i=>Ws.getD i 0) b d=sumI ((Ws.drop b).take d)
 | 0,_=>by simp [sW,sumI]
 | d+1,h=>by
  have ih:=sW_sum Ws b d (by omega)
  have hj:b+d<Ws.length:=by omega
  rw [sW,ih,List.take_add_one,List.getElem?_drop,List.getElem?_eq_getElem hj]
  simp only [Option.toList_some]
  rw [sumI_snoc]
  simp [hj]
theorem Tile.fn {X Ws:List Int} {b e:Nat} {x0 S:Int} (h:Tile X Ws b e x0 S):TileF (fun i=>X.getD i 0) (fun i=>Ws.getD i 0) b e x0 S:=⟨h.lo,h.hi,h.atlo,h.athi,h.dis⟩
theorem LStep_b {L:List Int} (h:LStep L):∀ i,i<L.length→0≤L.getD i 0∧L.getD i 0≤i
 | 0,hi=>by rw [h.2 hi];simp
 | i+1,hi=>by
  have ih:=LStep_b h i (by omega)
  have:=h.1 i hi
  push_cast
  omega
theorem b5w (P:List Plc) (n:Nat) (hn:n≤20) (Fs ls X Ws:List Int) (eP:P=plcL Fs ls X Ws n) (hW:Ws.length=n) (hls:ls.length=n) (w:Int) (hw:0≤w∧w<200) (hWb:∀ x∈Ws,0≤x∧x≤40000000000000000) (hst:LStep ls)
  (ht:∀ g,Rch ls 0 g→g<n→∃ x0,Tile X Ws g (grpE ls g) x0 (sumI ((Ws.drop g).take (grpE ls g - g)))∧(x0=0∨x0+sumI ((Ws.drop g).take (grpE ls g - g))=w))
  (h8:Best Tryz.prog 8 [] (.p (.bool true))) (p:Pg) (CS:PV) (T:ByteArray) (s:Stg) (q9:Best Tryz.prog 9 [.agg (pgRow p)] (.p (.tup [CS,.str T,.agg (stgRow s),.int .i64 w]))) (q17:Best Tryz.prog 17 [CS,.str T,.agg (stgRow s),.int .i64 w] (.p (.sl 6 (P.map plcRow)))) :
  Best Tryz.prog 5 [.agg (pgRow p)] (.p (.bool true)):=by
 refine best mixed fn5 ok5 (by simp [pgRow]) ?_
 have hP:P.length=n:=by rw [eP,plcL_len]
 have hget:∀ j (h:j<P.length),P[j]=⟨j,Fs.getD j 0,ls.getD j 0,X.getD j 0,Ws.getD j 0⟩:=by
  subst eP;exact fun j h=>plcL_get Fs ls X Ws n j h
 have hW0:∀ j,0≤Ws.getD j 0:=fun j=>by
  rw [List.getD_eq_getElem?_getD]
  cases e:Ws[j]? with
  | none=>simp
  | some y=>exact (hWb y (List.mem_of_getElem? e)).1
 simp -dsimp [ac5,pgRow,↓ awpC_of xc5b]
 refine call_p h8 (by simp) (by simp) ?_
 simp -dsimp [↓ awpC_of xc5b]
 refine call_p q9 (by simp [pgRow]) (by simp) ?_
 simp -dsimp [stgRow,↓ awpC_of xc5b]
 refine call_p q17 (by simp [stgRow]) (by simp) ?_
 simp -dsimp [↓ awpC_of xc5b]
 refine loopE n (fun k (z:Nat)=>⟨[(3,.p (.bool true)),(7,.p (.int .i64 w)),(8,.p (.sl 6 (P.map plcRow))),(9,.p (.int .i64 z))],[]⟩) (fun k z=>k≤z∧z≤n∧Rch ls 0 z) 0 (fun k b hk hz=>?_) ⟨by simp,by simp,.refl 0⟩ (by simp)
 obtain ⟨z1,z2,z3⟩:=hz
 by_cases h:b<n
 ·obtain ⟨x0,hT,hside⟩:=ht b z3 h
  have hg:=grpE_b (ls:=ls) (b:=b) (by omega)
  have hin:=fun j h1 h2=>grpE_in (ls:=ls) (b:=b) (j:=j) h1 h2 (by omega)
  have hout:=grpE_out (ls:=ls) (b:=b)
  have hnx:=z3.next (by omega)
  obtain ⟨e,ee⟩:∃ e,grpE ls b=e:=⟨_,rfl⟩
  rw [ee] at hT hside hg hin hout hnx
  have hSs:=sW_sum Ws b (e - b) (by omega)
  have hSb:=sumI_b (l:=(Ws.drop b).take (e - b)) (fun x hx=>hWb x (List.mem_of_mem_drop (List.mem_of_mem_take hx)))
  have hSl:((Ws.drop b).take (e - b)).length≤20:=by simp;omega
  rw [←hSs] at hT hside hSb
  have hTF:=hT.fn
  have hL1:e<n→ls.getD e 0=ls.getD b 0+1:=fun q=>by
   have h1:=hst.1 (e - 1) (by omega)
   rw [show e - 1+1=e by omega,hin (e - 1) (by omega) (by omega)] at h1
   have h2:=hout (by omega)
   omega
  have hL0:b=0→ls.getD b 0=0:=fun q=>by rw [q];exact hst.2 (by omega)
  have hpart:∀ d,d≤e - b→0≤sW (fun i=>Ws.getD i 0) b d∧sW (fun i=>Ws.getD i 0) b d≤800000000000000000:=fun d hd=>by
   rw [sW_sum Ws b d (by omega)]
   have h1:=sumI_b (l:=(Ws.drop b).take d) (fun x hx=>hWb x (List.mem_of_mem_drop (List.mem_of_mem_take hx)))
   have h2:((Ws.drop b).take d).length≤20:=by simp;omega
   omega
  have hfin:=fun (Kc:AE→Fr→Prop) hK=>x5b (Kc:=Kc) P n hP hn (fun i=>Fs.getD i 0) (fun i=>ls.getD i 0) (fun i=>X.getD i 0) (fun i=>Ws.getD i 0) hget w hw b e (by omega) (by omega) x0 (sW (fun i=>Ws.getD i 0) b (e - b)) (by have:=hpart (e - b) (Nat.le_refl _);omega) (by have:=hpart (e - b) (Nat.le_refl _);omega) hTF hside hW0 hK
  have hLb:=LStep_b hst b (by omega)
  have hb:b<P.length:=by omega
  have gb:=hget b hb
  obtain ⟨F,eF⟩:∃ f:Nat→Int,(fun i=>Fs.getD i 0)=f:=⟨_,rfl⟩
  obtain ⟨L,eL⟩:∃ f:Nat→Int,(fun i=>ls.getD i 0)=f:=⟨_,rfl⟩
  obtain ⟨Xf,eX⟩:∃ f:Nat→Int,(fun i=>X.getD i 0)=f:=⟨_,rfl⟩
  obtain ⟨W,eW⟩:∃ f:Nat→Int,(fun i=>Ws.getD i 0)=f:=⟨_,rfl⟩
  have aF:∀ i,Fs.getD i 0=F i:=fun i=>by rw [←eF]
  have aL:∀ i,ls.getD i 0=L i:=fun i=>by rw [←eL]
  have aX:∀ i,X.getD i 0=Xf i:=fun i=>by rw [←eX]
  have aW:∀ i,Ws.getD i 0=W i:=fun i=>by rw [←eW]
  simp only [aF,aL,aX,aW] at gb hget hL1 hL0 hLb hpart hfin hin hout hW0
  replace hpart:∀ d,d≤e - b→0≤sW W b d∧sW W b d≤800000000000000000:=hpart
  have hbn:(b:Int)<n:=by omega
  simp -dsimp [h,hbn,hP,hb,gb,plcRow,↓ awpC_of xc5b]
  refine loopC (e - b) (fun d=>⟨[(3,.p (.bool true)),(7,.p (.int .i64 w)),(8,.p (.sl 6 (P.map plcRow))),(9,.p (.int .i64 b)),(10,.p (.int .i64 ((b+d:Nat):Int))),(11,.p (.int .i64 (sW W b d)))],[]⟩) (fun _=>True) (fun d hd _=>?_) trivial (by simp [sW])
  have hpd:=hpart d hd
  by_cases hje:b+d<e
  ·have hd2:d<e - b:=by omega
   have hpe:=hpart (d+1) (by omega)
   rw [sW] at hpe ⊢
   rw [show b+(d+1)=(b+d)+1 by omega]
   obtain ⟨j,ej⟩:∃ j,b+d=j:=⟨_,rfl⟩
   rw [ej] at hje hpe ⊢
   have hj:j<P.length:=by omega
   have gj:=hget j hj
   have lj:=hin j (by omega) hje
   have wj:R ((j:Int)+1):=⟨by omega,by omega⟩
   have wS:R (sW W b d+W j):=⟨by omega,by omega⟩
   have hjn:j<n:=by omega
   have hjn':(j:Int)<n:=by omega
   simp -dsimp [h,hjn,hjn',hP,hj,gj,hb,gb,lj,plcRow,wr wj,wr wS,hd2,↓ awpC_of xc5b]
  ·have hde:b+d=e:=by omega
   have hd2:d=e - b:=by omega
   rw [hde,hd2]
   by_cases he:e<n
   ·have he':(e:Int)<n:=by omega
    have hep:e<P.length:=by omega
    have ge:=hget e hep
    have le:=hL1 he
    have ln:¬L b+1=L b:=by omega
    have wL:R (L b+1):=⟨by omega,by omega⟩
    by_cases b0:b=0
    ·have l0:=hL0 b0
     subst b0
     simp -dsimp [h,he,he',hP,hep,ge,hb,gb,le,l0,plcRow,wr wL,↓ awpC_of xc5b]
     refine awpC_in (hfin _ (fun F hF=>?_))
     dsimp only [Rnd]
     exact ⟨by omega,e,⟨by omega,by omega,hnx⟩,hF⟩
    ·have b0':¬(b:Int)=0:=by omega
     simp -dsimp [h,he,he',hP,hep,ge,hb,gb,le,ln,b0,b0',plcRow,wr wL,↓ awpC_of xc5b]
     refine awpC_in (hfin _ (fun F hF=>?_))
     dsimp only [Rnd]
     exact ⟨by omega,e,⟨by omega,by omega,hnx⟩,hF⟩
   ·have he':¬(e:Int)<n:=by omega
    by_cases b0:b=0
    ·have l0:=hL0 b0
     subst b0
     simp -dsimp [h,he,he',hP,hb,gb,l0,plcRow,↓ awpC_of xc5b]
     refine awpC_in (hfin _ (fun F hF=>?_))
     dsimp only [Rnd]
     exact ⟨by omega,e,⟨by omega,by omega,hnx⟩,hF⟩
    ·have b0':¬(b:Int)=0:=by omega
     simp -dsimp [h,he,he',hP,hb,gb,b0,b0',plcRow,↓ awpC_of xc5b]
     refine awpC_in (hfin _ (fun F hF=>?_))
     dsimp only [Rnd]
     exact ⟨by omega,e,⟨by omega,by omega,hnx⟩,hF⟩
 ·have hb:b=n:=by omega
  have hbn:¬(b:Int)<n:=by omega
  simp -dsimp [h,hbn,hP,resOf,↓ awpC_of xc5b]
theorem b5 (h8:Best Tryz.prog 8 [] (.p (.bool true))) (p:Pg) (hp:p.ok):Best Tryz.prog 5 [.agg (pgRow p)] (.p (.bool true)):=by
 obtain ⟨cs,hl,hcs,q9⟩:=p.made hp
 have ht:=p.txt_len
 have ha:=p.at_len
 have hf:=p.fit
 have hw:=p.wid_b
 have q17:=b17 cs hcs p.txt (by omega) p.set (by omega) p.wid (by omega)
 have hn:(splT p.txt).length≤20:=by have:=splT_len p.txt;omega
 have hWl:(widthsN cs p.txt p.set).length=(splT p.txt).length:=by simp [widthsN,hf]
 have hWb:=widthsN_b hcs (t:=p.txt) hf
 have hls:(linesN cs p.txt p.set p.wid).length=(splT p.txt).length:=fillN_len
 have hst:LStep (linesN cs p.txt p.set p.wid):=fillN_step
 have hW0:∀ j,0≤(widthsN cs p.txt p.set).getD j 0:=fun j=>by
  rw [List.getD_eq_getElem?_getD]
  cases e:(widthsN cs p.txt p.set)[j]? with
  | none=>simp
  | some y=>exact (hWb y (List.mem_of_getElem? e)).1
 have hx:=xsF_tile (LV:=levT p.txt) (T:=splT p.txt) (rt:=decide (baseN p.txt=2)) (w:=p.wid) hWl hls hW0 (splT p.txt).length 0 (zerosI (splT p.txt).length) (by omega) (zerosI_len _) (by omega)
 have eP:placesN cs p.txt p.set p.wid=plcL (fontsN cs p.txt) (linesN cs p.txt p.set p.wid) (xsF (widthsN cs p.txt p.set) (levT p.txt) (splT p.txt) (linesN cs p.txt p.set p.wid) (decide (baseN p.txt=2)) p.wid (splT p.txt).length 0 (zerosI (splT p.txt).length)) (widthsN cs p.txt p.set) (splT p.txt).length:=by
  unfold placesN;rw [if_pos hf]
 exact b5w _ _ hn _ _ _ _ eP hWl hls p.wid hw hWb hst hx.2.2 h8 p _ _ _ q9 q17
end
end Go.Abs.A29
namespace Go.Proofs.YtinblgdfhmllnaaGreat
open Go Go.Abs Go.ChangeShapes Go.WideShapes Go.RowKit Go.Proofs Go.Abs.A29
set_option maxRecDepth 100000
set_option linter.unusedVariables false
theorem flowLines_lifted (os:Os) (started:os.Started) (H:Type) (enc:TypeId×Value→H) :
  ReturnsInHanded {} Tryz.checked os 5 .any (ChangeSpec.pre6 enc Tryz.prog Tryz.f5 Rows.flowLinesSpec [] false)
   (Rows.flowLinesSpec.post enc Tryz.prog Tryz.f5 false true false false):=by
 refine returnsInHanded_of_change (C:=Tryz.checked) own started (by kernel_rfl) Tryz.func5
  (ChangeSpec.witness6_at (enc:=enc) (C:=Tryz.checked) (os:=os) false (restWorld os) #[.agg #[.slice none 0 0,.slice none 0 0,.slice none 0 0,.int .u8 0,.slice none 0 0,.slice none 0 0,.int .i64 0,.int .i64 0,.int .i64 0]] 8 rfl (by kernel_rfl) (by kernel_rfl) (by kernel_rfl) (by kernel_rfl) (by kernel_rfl)) ?_
 intro W base args ds gs before hval hW _ _
 have hW':=hW
 obtain ⟨p,q,hA,hV,-,-,-⟩:=hW'
 have hA:DataW.TrodAll enc Tryz.prog W 0 (fun _=>true) true Tryz.f5.params.toList args.toList ds p:=hA
 rw [Tryz.params5] at hA
 have hval:∀ (j:Nat) t v,Tryz.f5.params[j]?=some t→args[j]?=some v→Value.okWide Tryz.prog W .any base t v:=hval
 rw [Tryz.params5] at hval
 obtain ⟨v0,d0,rfl,rfl,h0⟩:=trodAll_one hA
 obtain ⟨a0,o0,r0⟩:=Rd.argT Tryz.underlying26 rd_page (hval 0 26 v0 rfl rfl) h0
 exact law_step rfl rfl hW rfl (by decide +kernel) ((b5 b8 a0 o0)) (Ps.one r0)
theorem flowLines_holds:Rows.FlowLinesSaid:=
 OpenClaim.holds_of_wide 5 Tryz.f5 rfl rfl rfl rfl rfl rfl rfl ⟨rfl,rfl,rfl,rfl,rfl⟩ rfl rfl rfl rfl rfl (by kernel_rfl) Tryz.func5 (by kernel_rfl)
  (of_decide_eq_true (by kernel_rfl)) (by unfold Func.isWrapper;rw [if_neg (of_decide_eq_false (by kernel_rfl))];exact ⟨rfl,rfl⟩)
  (fun os started H enc _=>flowLines_lifted os started H enc)
end Go.Proofs.YtinblgdfhmllnaaGreat
