/- A part of the proof: an abstract reading of the model, contracts of functions. -/
import Derived.Test.YtlkbeomimbohlaaGreatC8
import Derived.IntWalk
namespace Go.Abs
open Go
set_option linter.unusedSimpArgs false
set_option linter.unusedVariables false
theorem awpStep_mono {P:Program} {G:FF} {i:AB} {ok:Del→Bool} {K K':Del→Prop} (h:∀ δ,K δ→K' δ) (e:awpStep P G i ok K):awpStep P G i ok K':=by
 unfold awpStep at *
 split at e
 ·split at e
  ·obtain ⟨δ,h1,h2,h3⟩:=e;exact ⟨δ,h1,h2,h δ h3⟩
  ·exact e
 ·split at e
  ·split at e
   ·obtain ⟨δ,h1,h2,h3⟩:=e;exact ⟨δ,h1,h2,h δ h3⟩
   ·exact e
  ·exact e
 ·split at e
  ·exact ⟨e.1,h _ e.2⟩
  ·exact e
theorem awpI_mono {P:Program} {G:FF} {i:AB} {ok:Del→Bool} {K K':Del→Prop} (h:∀ δ,K δ→K' δ) (e:awpI P G i ok K):awpI P G i ok K':=by
 unfold awpI at *
 split at e
 ·exact awpStep_mono h e
 ·split at e
  ·exact ⟨fun q=>awpStep_mono h (e.1 q),fun q=>h _ (e.2 q)⟩
  ·exact h _ e
  ·exact e
theorem awpR_mono {P:Program} {K K':Fr→Prop} (h:∀ F,K F→K' F):∀ {l:List AB} {F:Fr},awpR P l K F→awpR P l K' F
 | [],F,e=>h F e
 | i :: l,F,e=>awpI_mono (fun δ e=>awpR_mono h e) e
theorem awpX_mono {P:Program} {F0:Fr} {K K':Fr→Prop} (h:∀ F,K F→K' F):∀ {l:List AI} {k:Nat} {hist:List Del} {hn:List (Nat×List Slot)} {F:Fr},awpX P F0 k hist hn l K F→awpX P F0 k hist hn l K' F
 | [],_,_,_,F,e=>h F e
 | ⟨b,dr,ds,ks,na,pl⟩ :: l,_,_,_,F,e=>by
  match pl with
  | 0=>exact awpI_mono (fun δ e=>awpX_mono h e) e
  | 1=>exact awpI_mono (fun δ e=>awpX_mono h e) e
  | n+2=>exact awpI_mono (fun δ e=>awpX_mono h e) e
def Mono (b:APT):Prop:=∀ (K K':AE→Fr→Prop) (F:Fr),(∀ e F,K e F→K' e F)→b K F→b K' F
theorem lp_mono {b:APT} (hb:Mono b) {K K':AE→Fr→Prop} (h:∀ e F,K e F→K' e F):∀ {n:Nat} {F:Fr},lp b n K F→lp b n K' F
 | 0,F,e=>e
 | n+1,F,e=>hb _ _ F (fun e F q=>by
  cases e with
  | normal=>exact lp_mono hb h (n:=n) q
  | exit i=>exact h _ _ q
  | ret=>exact h _ _ q) e
theorem rounds_mono {A B:APT} (hA:Mono A) (hB:Mono B) {ps dd:List Nat}:∀ {xs:List (List PV)} {K K':AE→Fr→Prop} {F:Fr},(∀ e F,K e F→K' e F)→rounds A B ps dd xs K F→rounds A B ps dd xs K' F
 | [],K,K',F,h,e=>h _ _ e
 | x :: xs,K,K',F,h,e=>by
  refine ⟨e.1,hA _ _ _ (fun e F1 q=>?_) e.2⟩
  cases e with
  | normal=>
   refine hB _ _ _ (fun e F2 q=>?_) q
   cases e with
   | normal=>exact rounds_mono hA hB h q
   | exit i=>exact h _ _ q
   | ret=>exact h _ _ q
  | exit i=>exact q
  | ret=>exact q
theorem awp_mono {P:Program}:∀ {ac:AC} {K K':AE→Fr→Prop} {F:Fr},(∀ e F,K e F→K' e F)→awp P ac K F→awp P ac K' F:=by
 intro ac
 induction ac with
 | skip=>intro K K' F h e;exact h _ _ e
 | seq x y ihx ihy=>
  intro K K' F h e
  refine ihx (fun e F q=>?_) e
  cases e with
  | normal=>exact ihy h q
  | exit i=>exact h _ _ q
  | ret=>exact h _ _ q
 | cond c x y ihx ihy=>
  intro K K' F h e
  simp only [awp] at e ⊢
  split at e
  ·exact ⟨fun q=>ihx h (e.1 q),fun q=>ihy h (e.2 q)⟩
  ·exact e
 | block id x ih=>
  intro K K' F h e
  refine ih (fun e F q=>?_) e
  cases e with
  | exit i=>dsimp only at q ⊢;split<;>(rename_i hi;simp only [hi] at q;exact h _ _ (by simpa using q))
  | normal=>exact h _ _ q
  | ret=>exact h _ _ q
 | loop x ih=>intro K K' F h e;obtain ⟨n,hn⟩:=e;exact ⟨n,lp_mono (b:=awp P x) (fun K K' F h e=>ih h e) h hn⟩
 | scope x ih=>intro K K' F h e;exact ih h e
 | label l=>intro K K' F h e;exact h _ _ e
 | exit id=>intro K K' F h e;exact h _ _ e
 | ret=>intro K K' F h e;exact h _ _ e
 | reg l=>intro K K' F h e;exact awpR_mono (fun F q=>h _ _ q) e
 | draw l=>intro K K' F h e;exact awpX_mono (fun F q=>h _ _ q) e
 | ghost g x ih=>
  intro K K' F h e
  simp only [awp] at e ⊢
  split at e
  ·exact ih h e
  ·exact e
 | rfun g ps dd x y ihx ihy=>
  intro K K' F h e
  simp only [awp] at e ⊢
  split at e
  ·split at e
   ·obtain ⟨fi',ca',xs,h1,h2,h3,h4⟩:=e
    exact ⟨fi',ca',xs,h1,h2,h3,rounds_mono (A:=awp P x) (B:=awp P y) (fun K K' F h e=>ihx h e) (fun K K' F h e=>ihy h e) h h4⟩
   ·exact e
  ·exact e
theorem lp_le {b:APT} (hb:Mono b) {K:AE→Fr→Prop}:∀ {n m:Nat} {F:Fr},n≤m→lp b n K F→lp b m K F
 | 0,m,F,h,e=>e.elim
 | n+1,0,F,h,e=>by omega
 | n+1,m+1,F,h,e=>hb _ _ F (fun e F q=>by
  cases e with
  | normal=>exact lp_le hb (n:=n) (m:=m) (by omega) q
  | exit i=>exact q
  | ret=>exact q) e
def Rnd (I:Fr→Prop) (K:AE→Fr→Prop):AE→Fr→Prop:=fun e F=>match e with | .normal=>I F | e=>K e F
theorem loop_rule {P:Program} {x:AC} {K:AE→Fr→Prop} (I:Nat→Fr→Prop) (step:∀ n F,I n F→awp P x (Rnd (fun F'=>∃ m,m<n∧I m F') K) F) {n:Nat} {F:Fr} (h:I n F):awp P (.loop x) K F:=by
 have key:∀ n F,I n F→lp (awp P x) (n+1) K F:=by
  intro n
  induction n using Nat.strongRecOn with
  | _ n ih=>
   intro F hI
   refine awp_mono (fun e F' q=>?_) (step n F hI)
   cases e with
   | normal=>
    obtain ⟨m,h1,h2⟩:=q
    exact lp_le (b:=awp P x) (fun K K' F h e=>awp_mono h e) (n:=m+1) (m:=n) h1 (ih m h1 F' h2)
   | exit i=>exact q
   | ret=>exact q
 exact ⟨n+1,key n F h⟩
theorem rounds_rule {A B:APT} (hA:Mono A) (hB:Mono B) {ps dd:List Nat} {xs:List (List PV)} {K:AE→Fr→Prop} (I:Nat→Fr→Prop) (step:∀ k x F,xs[k]?=some x→I k F→x.length=ps.length∧A (fun e F1=>match e with
   | .normal=>B (fun e F2=>match e with
    | .normal=>I (k+1) (F2.back dd)
    | e=>K e (F2.back dd)) F1
   | _=>False) (F.setPs ps x)) (hend:∀ F,I xs.length F→K .normal F) {F:Fr} (h:I 0 F):rounds A B ps dd xs K F:=by
 have key:∀ (m k:Nat) (F:Fr),k+m=xs.length→I k F→rounds A B ps dd (xs.drop k) K F:=by
  intro m
  induction m with
  | zero=>
   intro k F hk hI
   have:xs.drop k=[]:=by rw [List.drop_eq_nil_iff];omega
   rw [this]
   have hk':k=xs.length:=by omega
   exact hend F (hk' ▸ hI)
  | succ m ih=>
   intro k F hk hI
   have hlt:k<xs.length:=by omega
   rw [List.drop_eq_getElem_cons hlt]
   obtain ⟨h1,h2⟩:=step k _ F (List.getElem?_eq_getElem hlt) hI
   refine ⟨h1,hA _ _ _ (fun e F1 q=>?_) h2⟩
   cases e with
   | normal=>
    refine hB _ _ _ (fun e F2 q=>?_) q
    cases e with
    | normal=>exact ih (k+1) _ (by omega) q
    | exit i=>exact q
    | ret=>exact q
   | exit i=>exact q
   | ret=>exact q
 simpa using key xs.length 0 F (by omega) h
theorem awp_Mono {P:Program} {ac:AC}:Mono (awp P ac):=fun _ _ _ h e=>awp_mono h e
structure Tag {α β:Type} (x:α) (y:β):Type
def callL (P:Program) (ok:Del→Bool) (K:Del→Prop) (G:FF) (t:Tag (ok,G) K) (d:Nat) (f:FuncId) (vs:List AV):Prop:=callK P G d f vs ok K
def loopL (P:Program) (x:AC) (K:AE→Fr→Prop) (t:Tag x K) (F:Fr):Prop:=awp P (.loop x) K F
def rfunL (P:Program) (x y:AC) (ps dd:List Nat) (K:AE→Fr→Prop) (t:Tag (x,y) (ps,dd,K)) (F:Fr) (f:FuncId) (fi ca:List AV):Prop:=
 ∃ fi' ca' xs,allP fi=some fi'∧allP ca=some ca'∧Gens P f fi' ca' xs∧rounds (awp P x) (awp P y) ps dd xs K F
theorem awp_loop {P:Program} {x:AC} {K:AE→Fr→Prop} {F:Fr}:awp P (.loop x) K F=loopL P x K {} F:=Eq.trans rfl rfl
theorem awp_rfun {P:Program} {g:Opd} {x y:AC} {ps dd:List Nat} {K:AE→Fr→Prop} {F:Fr}:awp P (.rfun g ps dd x y) K F=(match F.ff.val g with
  | some u=>match cloOf u with
   | some (f,fi,ca)=>rfunL P x y ps dd K {} F f fi ca
   | none=>False
  | none=>False):=Eq.trans rfl rfl
theorem awpR_nil {P:Program} {K:Fr→Prop} {F:Fr}:awpR P [] K F=K F:=Eq.trans rfl rfl
theorem awpR_cons {P:Program} {i:AB} {l:List AB} {K:Fr→Prop} {F:Fr}:awpR P (i :: l) K F=awpI P F.ff i (freshB F i.op) (fun δ=>awpR P l K (F.app i.dst δ)):=Eq.trans rfl rfl
theorem awpX_nil {P:Program} {F0 F:Fr} {k:Nat} {hist:List Del} {hn:List (Nat×List Slot)} {K:Fr→Prop}:awpX P F0 k hist hn [] K F=K F:=Eq.trans rfl rfl
theorem awpX_0 {P:Program} {F0 F:Fr} {k:Nat} {hist:List Del} {hn:List (Nat×List Slot)} {b:AB} {dr ds ks na:List Nat} {l:List AI} {K:Fr→Prop}:awpX P F0 k hist hn (⟨b,dr,ds,ks,na,0⟩ :: l) K F=awpI P (F.erase dr ds).ff b (okX F0 hist hn ⟨b,dr,ds,ks,na,0⟩) (fun δ=>awpX P F0 (k+1) (δ :: hist) (addN k (newS b.op δ) hn) l K (F.app b.dst δ)):=Eq.trans rfl rfl
theorem awpX_1 {P:Program} {F0 F:Fr} {k:Nat} {hist:List Del} {hn:List (Nat×List Slot)} {b:AB} {dr ds ks na:List Nat} {l:List AI} {K:Fr→Prop}:awpX P F0 k hist hn (⟨b,dr,ds,ks,na,1⟩ :: l) K F=awpI P F.ff b (okX F0 hist hn ⟨b,dr,ds,ks,na,1⟩) (fun δ=>awpX P F0 (k+1) (δ :: hist) (addN k (newS b.op δ) hn) l K (F.app b.dst δ)):=Eq.trans rfl rfl
theorem awpX_2 {P:Program} {F0 F:Fr} {k:Nat} {hist:List Del} {hn:List (Nat×List Slot)} {b:AB} {dr ds ks na:List Nat} {l:List AI} {K:Fr→Prop}:awpX P F0 k hist hn (⟨b,dr,ds,ks,na,2⟩ :: l) K F=awpI P F.ff b (okP hn na) (fun δ=>awpX P F0 (k+1) (δ :: hist) hn l K (F.app b.dst δ)):=Eq.trans rfl rfl
theorem awpStep_eq {P:Program} {G:FF} {i:AB} {ok:Del→Bool} {K:Del→Prop}:awpStep P G i ok K=(match i.op with
 | .call f args=>match G.vals args with
  | some vs=>callL P ok K G {} (i.dst.getD 0) f vs
  | none=>False
 | .callv x args=>match G.val x,G.vals args with
  | some u,some vs=>match cloOf u with
   | some (f,fi,ca)=>callL P ok K G {} (i.dst.getD 0) f (fi++vs++ca)
   | none=>False
  | _,_=>False
 | op=>match evDel G (i.dst.getD 0) op with
  | some δ=>ok δ=true∧K δ
  | none=>False):=Eq.trans rfl rfl
theorem awpI_eq {P:Program} {G:FF} {d:Option Nat} {op:AOp} {a:List Nat} {ok:Del→Bool} {K:Del→Prop}:awpI P G ⟨d,op,none,a⟩ ok K=awpStep P G ⟨d,op,none,a⟩ ok K:=Eq.trans rfl rfl
def condL (A B:Prop) (t:Tag A B) (b:Bool):Prop:=(b=true→A)∧(b=false→B)
theorem condL_true {A B:Prop} {t:Tag A B}:condL A B t true=A:=by simp [condL]
theorem condL_false {A B:Prop} {t:Tag A B}:condL A B t false=B:=by simp [condL]
theorem condL_dec {A B p:Prop} {t:Tag A B} [Decidable p]:condL A B t (decide p)=((p→A)∧(¬p→B)):=by simp [condL]
theorem awpI_t {P:Program} {G:FF} {d:Option Nat} {op:AOp} {t:Nat} {a:List Nat} {ok:Del→Bool} {K:Del→Prop}:awpI P G ⟨d,op,some (t,true),a⟩ ok K=(match G.var t with
  | some (.p (.bool b))=>condL (awpStep P G ⟨d,op,some (t,true),a⟩ ok K) (K ⟨.p (.tup []),[],[]⟩) {} b
  | some (.p (.tup []))=>K ⟨.p (.tup []),[],[]⟩
  | _=>False):=by
 simp only [awpI]
 cases G.var t with
 | none=>rfl
 | some v=>cases v with
  | p q=>cases q with
   | bool b=>cases b<;>simp [condL]
   | tup l=>cases l<;>rfl
   | _=>rfl
  | _=>rfl
theorem awpI_f {P:Program} {G:FF} {d:Option Nat} {op:AOp} {t:Nat} {a:List Nat} {ok:Del→Bool} {K:Del→Prop}:awpI P G ⟨d,op,some (t,false),a⟩ ok K=(match G.var t with
  | some (.p (.bool b))=>condL (K ⟨.p (.tup []),[],[]⟩) (awpStep P G ⟨d,op,some (t,false),a⟩ ok K) {} b
  | some (.p (.tup []))=>K ⟨.p (.tup []),[],[]⟩
  | _=>False):=by
 simp only [awpI]
 cases G.var t with
 | none=>rfl
 | some v=>cases v with
  | p q=>cases q with
   | bool b=>cases b<;>simp [condL]
   | tup l=>cases l<;>rfl
   | _=>rfl
  | _=>rfl
section
variable {P:Program} {K:AE→Fr→Prop} {F:Fr}
theorem awp_skip:awp P .skip K F=K .normal F:=Eq.trans rfl rfl
theorem awp_seq {x y:AC}:awp P (.seq x y) K F=awp P x (fun e F'=>match e with | .normal=>awp P y K F' | e=>K e F') F:=Eq.trans rfl rfl
theorem awp_cond {c:Opd} {x y:AC}:awp P (.cond c x y) K F=(match F.ff.val c with
  | some (.p (.bool b))=>condL (awp P x K F) (awp P y K F) {} b
  | _=>False):=Eq.trans rfl rfl
theorem awp_block {id:Nat} {x:AC}:awp P (.block id x) K F=awp P x (fun e F'=>match e with | .exit i=>if i=id then K .normal F' else K (.exit i) F' | e=>K e F') F:=Eq.trans rfl rfl
theorem awp_scope {x:AC}:awp P (.scope x) K F=awp P x K F:=Eq.trans rfl rfl
theorem awp_label {l:Nat}:awp P (.label l) K F=K .normal F:=Eq.trans rfl rfl
theorem awp_exit {id:Nat}:awp P (.exit id) K F=K (.exit id) F:=Eq.trans rfl rfl
theorem awp_ret:awp P .ret K F=K .ret F:=Eq.trans rfl rfl
theorem awp_reg {l:List AB}:awp P (.reg l) K F=awpR P l (K .normal) F:=Eq.trans rfl rfl
theorem awp_draw {l:List AI}:awp P (.draw l) K F=awpX P F 0 [] [] l (K .normal) F:=Eq.trans rfl rfl
theorem awp_ghost {g:Ghost} {x:AC}:awp P (.ghost g x) K F=(match g.app F with
  | some F'=>awp P x K F'
  | none=>False):=Eq.trans rfl rfl
end
theorem call_p {P:Program} {G:FF} {d:Nat} {f:FuncId} {vs:List AV} {ok:Del→Bool} {K:Del→Prop} {ps:List PV} {v:PV} (h:Best P f ps (.p v)) (ha:allP vs=some ps) (hok:ok ⟨.p v,[],[]⟩=true) (hK:K ⟨.p v,[],[]⟩):callL P ok K G {} d f vs:=
 ⟨_,.inl ⟨ps,.p v,ha,h,rfl⟩,hok,hK⟩
theorem call_f {P:Program} {G:FF} {d:Nat} {f:FuncId} {vs:List AV} {ok:Del→Bool} {K:Del→Prop} {ps:List PV} {v:PV} (h:Best P f ps (.p v)) (ha:G.reifyL vs=some ps) (hf:v.flat=true) (hok:ok ⟨.p v,[],[]⟩=true) (hK:K ⟨.p v,[],[]⟩):callL P ok K G {} d f vs:=
 ⟨_,.inr (.inl ⟨ps,v,ha,h,hf,rfl⟩),hok,hK⟩
theorem call_m {P:Program} {G:FF} {d:Nat} {f:FuncId} {vs:List AV} {ok:Del→Bool} {K:Del→Prop} {M0 M1:List (Slot×Blk)} {L:List Slot} {v:AV} (h:BestF P f M0 vs L v M1) (hM:retM G M0) (hF:okF M0 L v M1=true) (hok:ok ⟨v,M1,M0.map (·.1)⟩=true) (hK:K ⟨v,M1,M0.map (·.1)⟩):callL P ok K G {} d f vs:=
 ⟨_,.inr (.inr (.inl ⟨M0,L,v,M1,retM_look hM,h,hF,rfl⟩)),hok,hK⟩
theorem call_c {P:Program} {G:FF} {d:Nat} {f:FuncId} {vs:List AV} {ok:Del→Bool} {K:Del→Prop} {ps:List PV} {e:TypeId} {sz:Nat} {rows:List (List PV)} (h:Best P f ps (.own (fun s=>.ref s sz 0 rows.length) (.sl e sz rows))) (ha:G.reifyL vs=some ps) (hf:(rows.all fun r=>r.all PV.flat)=true) (hok:ok ⟨.p (.sl sz rows),[],[]⟩=true) (hK:K ⟨.p (.sl sz rows),[],[]⟩):callL P ok K G {} d f vs:=
 ⟨_,.inr (.inr (.inr ⟨ps,e,sz,rows,ha,h,hf,rfl⟩)),hok,hK⟩
theorem call_o {P:Program} {G:FF} {d:Nat} {f:FuncId} {vs:List AV} {ok:Del→Bool} {K:Del→Prop} {ps:List PV} {v:Slot→AV} {k:Blk} (h:Best P f ps (.own v k)) (ha:allP vs=some ps) (hok:ok ⟨v (d,0),[((d,0),k)],[]⟩=true) (hK:K ⟨v (d,0),[((d,0),k)],[]⟩):callL P ok K G {} d f vs:=
 ⟨_,.inl ⟨ps,.own v k,ha,h,rfl⟩,hok,hK⟩
theorem loopL_rule {P:Program} {x:AC} {K:AE→Fr→Prop} {t:Tag x K} (I:Nat→Fr→Prop) (step:∀ n F,I n F→awp P x (Rnd (fun F'=>∃ m,m<n∧I m F') K) F) {n:Nat} {F:Fr} (h:I n F):loopL P x K t F:=loop_rule I step h
theorem rfunL_rule {P:Program} {x y:AC} {ps dd:List Nat} {K:AE→Fr→Prop} {t:Tag (x,y) (ps,dd,K)} {F:Fr} {f:FuncId} {fi ca:List AV} {fi' ca':List PV} {xs:List (List PV)} (h1:allP fi=some fi') (h2:allP ca=some ca') (hG:Gens P f fi' ca' xs) (I:Nat→Fr→Prop)
  (step:∀ k z F,xs[k]?=some z→I k F→z.length=ps.length∧awp P x (fun e F1=>match e with
   | .normal=>awp P y (fun e F2=>match e with
    | .normal=>I (k+1) (F2.back dd)
    | e=>K e (F2.back dd)) F1
   | _=>False) (F.setPs ps z)) (hend:∀ F,I xs.length F→K .normal F) (h:I 0 F):rfunL P x y ps dd K t F f fi ca:=
 ⟨fi',ca',xs,h1,h2,hG,rounds_rule awp_Mono awp_Mono I step hend h⟩
theorem reify_p {F:FF} {n:Nat} {v:PV}:F.reify n (.p v)=some v:=by cases n<;>rfl
theorem Best.args {P:Program} {f:FuncId} {ps ps':List PV} {r:Res} (h:∀ S xs,Ps S ps' xs→Ps S ps xs) (b:Best P f ps r):Best P f ps' r:=⟨b.1,fun S w xs hS hx=>b.2 S w xs hS (h S xs hx)⟩
theorem PRel.nsl_sl {S:Snap} {v:Value} (h:PRel S .nsl v) (n:Nat):PRel S (.sl n []) v:=by
 cases h
 exact .sl n [] none 0 (fun _ _=>undef) (Nat.le_refl _) (by simp) (by simp) (by simp)
theorem loopC {P:Program} {g:Ghost} {x:AC} {K:AE→Fr→Prop} {t:Tag (AC.ghost g x) K} (n:Nat) (fr:Nat→Fr) (Q:Nat→Prop) (step:∀ k,k≤n→Q k→awp P x (Rnd (fun F'=>k<n∧Q (k+1)∧g.app F'=some (fr (k+1))) K) (fr k)) {F:Fr} (h0:Q 0) (hF:g.app F=some (fr 0)):loopL P (.ghost g x) K t F:=by
 refine loop_rule (fun m F=>∃ k,k≤n∧m=n - k∧Q k∧g.app F=some (fr k)) (fun m F h=>?_) (n:=n) ⟨0,Nat.zero_le _,by simp,h0,hF⟩
 obtain ⟨k,h1,rfl,h2,h3⟩:=h
 rw [awp_ghost,h3]
 refine awp_mono (fun e F' q=>?_) (step k h1 h2)
 cases e with
 | normal=>exact ⟨n - (k+1),by have:=q.1;omega,k+1,by have:=q.1;omega,rfl,q.2⟩
 | exit i=>exact q
 | ret=>exact q
theorem wrap_i64 {n:Int} (h1:-9223372036854775808≤n) (h2:n≤9223372036854775807):IntKind.i64.wrap n=n:=by
 rw [IntKind.wrap_i64];omega
end Go.Abs
namespace Go.Abs
open Go
set_option linter.unusedSimpArgs false
set_option linter.unusedVariables false
section
variable {α:Type} {P:Program}
theorem awpStep_some {G:FF} {i:AB} {ok:Del→Bool} {K:α→Del→Prop} (e:awpStep P G i ok fun δ=>∃ a,K a δ):∃ a,awpStep P G i ok (K a):=by
 unfold awpStep at *
 split at e
 ·split at e
  ·obtain ⟨δ,h1,h2,a,h3⟩:=e;exact ⟨a,δ,h1,h2,h3⟩
  ·exact e.elim
 ·split at e
  ·split at e
   ·obtain ⟨δ,h1,h2,a,h3⟩:=e;exact ⟨a,δ,h1,h2,h3⟩
   ·exact e.elim
  ·exact e.elim
 ·split at e
  ·obtain ⟨h1,a,h2⟩:=e;exact ⟨a,h1,h2⟩
  ·exact e.elim
theorem awpI_some {G:FF} {i:AB} {ok:Del→Bool} {K:α→Del→Prop} (e:awpI P G i ok fun δ=>∃ a,K a δ):∃ a,awpI P G i ok (K a):=by
 unfold awpI at *
 split at e
 ·exact awpStep_some e
 ·rename_i t want _
  split at e
  ·rename_i b _
   by_cases h:b=want
   ·obtain ⟨a,ha⟩:=awpStep_some (e.1 h);exact ⟨a,fun _=>ha,fun q=>absurd h q⟩
   ·obtain ⟨a,ha⟩:=e.2 h;exact ⟨a,fun q=>absurd q h,fun _=>ha⟩
  ·exact e
  ·exact e.elim
theorem awpR_some {K:α→Fr→Prop}:∀ {l:List AB} {F:Fr},awpR P l (fun F=>∃ a,K a F) F→∃ a,awpR P l (K a) F
 | [],F,e=>e
 | i :: l,F,e=>by
  have e':awpI P F.ff i (freshB F i.op) fun δ=>∃ a,awpR P l (K a) (F.app i.dst δ):=awpI_mono (fun δ e=>awpR_some e) e
  exact awpI_some e'
theorem awpX_some {F0:Fr} {K:α→Fr→Prop}:∀ {l:List AI} {k:Nat} {hist:List Del} {hn:List (Nat×List Slot)} {F:Fr},awpX P F0 k hist hn l (fun F=>∃ a,K a F) F→∃ a,awpX P F0 k hist hn l (K a) F
 | [],_,_,_,F,e=>e
 | ⟨b,dr,ds,ks,na,pl⟩ :: l,k,hist,hn,F,e=>by
  match pl with
  | 0=>exact awpI_some (K:=fun a δ=>awpX P F0 (k+1) (δ :: hist) (addN k (newS b.op δ) hn) l (K a) (F.app b.dst δ)) (awpI_mono (fun δ e=>awpX_some e) e)
  | 1=>exact awpI_some (K:=fun a δ=>awpX P F0 (k+1) (δ :: hist) (addN k (newS b.op δ) hn) l (K a) (F.app b.dst δ)) (awpI_mono (fun δ e=>awpX_some e) e)
  | n+2=>exact awpI_some (K:=fun a δ=>awpX P F0 (k+1) (δ :: hist) hn l (K a) (F.app b.dst δ)) (awpI_mono (fun δ e=>awpX_some e) e)
def Some' (b:APT):Prop:=∀ (K:α→AE→Fr→Prop) (F:Fr),b (fun e F=>∃ a,K a e F) F→∃ a,b (K a) F
theorem lp_some {b:APT} (hm:Mono b) (hb:Some' (α:=α) b) {K:α→AE→Fr→Prop}:∀ {n:Nat} {F:Fr},lp b n (fun e F=>∃ a,K a e F) F→∃ a,lp b n (K a) F
 | 0,F,e=>e.elim
 | n+1,F,e=>hb (fun a e F'=>match e with | .normal=>lp b n (K a) F' | e=>K a e F') F (hm _ _ F (fun e F q=>by
  cases e with
  | normal=>exact lp_some hm hb (n:=n) q
  | exit i=>exact q
  | ret=>exact q) e)
theorem rounds_some {A B:APT} (mA:Mono A) (mB:Mono B) (hA:Some' (α:=α) A) (hB:Some' (α:=α) B) {ps dd:List Nat}:∀ {xs:List (List PV)} {K:α→AE→Fr→Prop} {F:Fr},rounds A B ps dd xs (fun e F=>∃ a,K a e F) F→∃ a,rounds A B ps dd xs (K a) F
 | [],K,F,e=>e
 | x :: xs,K,F,e=>by
  obtain ⟨Q,hQ⟩:∃ Q:α→AE→Fr→Prop,Q=fun a e F1=>match e with
    | .normal=>B (fun e F2=>match e with
     | .normal=>rounds A B ps dd xs (K a) (F2.back dd)
     | e=>K a e (F2.back dd)) F1
    | _=>False:=⟨_,rfl⟩
  have h2:A (fun e F1=>∃ a,Q a e F1) (F.setPs ps x):=by
   refine mA _ _ _ (fun e F1 q=>?_) e.2
   rw [hQ]
   cases e with
   | normal=>
    refine hB _ _ (mB _ _ _ (fun e F2 q=>?_) q)
    cases e with
    | normal=>exact rounds_some mA mB hA hB q
    | exit i=>exact q
    | ret=>exact q
   | exit i=>exact q.elim
   | ret=>exact q.elim
  obtain ⟨a,ha⟩:=hA _ _ h2
  rw [hQ] at ha
  exact ⟨a,e.1,ha⟩
theorem awp_some:∀ {ac:AC} {K:α→AE→Fr→Prop} {F:Fr},awp P ac (fun e F=>∃ a,K a e F) F→∃ a,awp P ac (K a) F:=by
 intro ac
 induction ac with
 | skip=>intro K F e;exact e
 | seq x y ihx ihy=>
  intro K F e
  refine ihx (K:=fun a e F'=>match e with | .normal=>awp P y (K a) F' | e=>K a e F') (awp_mono (fun e F q=>?_) e)
  cases e with
  | normal=>exact ihy q
  | exit i=>exact q
  | ret=>exact q
 | cond c x y ihx ihy=>
  intro K F e
  simp only [awp] at e ⊢
  split at e
  ·rename_i b hb
   cases b with
   | true=>obtain ⟨a,ha⟩:=ihx (e.1 rfl);exact ⟨a,fun _=>ha,fun q=>by simp at q⟩
   | false=>obtain ⟨a,ha⟩:=ihy (e.2 rfl);exact ⟨a,fun q=>by simp at q,fun _=>ha⟩
  ·exact e.elim
 | block id x ih=>
  intro K F e
  refine ih (K:=fun a e F'=>match e with | .exit i=>if i=id then K a .normal F' else K a (.exit i) F' | e=>K a e F') (awp_mono (fun e F q=>?_) e)
  cases e with
  | exit i=>dsimp only at q ⊢;split<;>(rename_i hi;simp only [hi] at q;simpa using q)
  | normal=>exact q
  | ret=>exact q
 | loop x ih=>
  intro K F e
  obtain ⟨n,hn⟩:=e
  obtain ⟨a,ha⟩:=lp_some (b:=awp P x) (fun K K' F h e=>awp_mono h e) (fun K F e=>ih e) hn
  exact ⟨a,n,ha⟩
 | scope x ih=>intro K F e;exact ih e
 | label l=>intro K F e;exact e
 | exit id=>intro K F e;exact e
 | ret=>intro K F e;exact e
 | reg l=>intro K F e;exact awpR_some e
 | draw l=>intro K F e;exact awpX_some e
 | ghost g x ih=>
  intro K F e
  simp only [awp] at e ⊢
  split at e
  ·exact ih e
  ·exact e.elim
 | rfun g ps dd x y ihx ihy=>
  intro K F e
  simp only [awp] at e ⊢
  split at e
  ·split at e
   ·obtain ⟨fi',ca',xs,h1,h2,h3,h4⟩:=e
    obtain ⟨a,ha⟩:=rounds_some (A:=awp P x) (B:=awp P y) (fun K K' F h e=>awp_mono h e) (fun K K' F h e=>awp_mono h e) (fun K F e=>ihx e) (fun K F e=>ihy e) h4
    exact ⟨a,fi',ca',xs,h1,h2,h3,ha⟩
   ·exact e.elim
  ·exact e.elim
end
def retE (rs:List RO) (Q:PV→Prop):AE→Fr→Prop:=fun e F=>(match e with | .exit _=>False | _=>True)∧∃ u v,evRs F.ff rs=some u∧F.ff.reify 4 u=some v∧Q v
theorem bestE {P:Program} (hm:P.follows .mixedOrders=true) {f:FuncId} {ac:AC} {rs:List RO} {n:Nat} (hf:factOf P f=some (ac.strip,rs,n)) (ho:ac.okAll=true) {args:List PV} (hl:args.length≤n) {Q:PV→Prop} (h:awp P ac (retE rs Q) (initFr args)):∃ v,Q v∧Best P f args (.p v):=by
 obtain ⟨⟨v,hq⟩,hv⟩:=awp_some (α:={ v:PV // Q v }) (K:=fun v e F=>retK rs (.p v.1) e F) (awp_mono (fun e F q=>by
  obtain ⟨q1,u,v,q2,q3,q4⟩:=q
  exact ⟨⟨v,q4⟩,q1,u,q2,q3⟩) h)
 exact ⟨v,hq,best hm hf ho hl hv⟩
def retEF {α:Type} (rs:List RO) (v:α→AV) (M1:α→List (Slot×Blk)) (Q:α→Prop):AE→Fr→Prop:=fun e F=>(match e with | .exit _=>False | _=>True)∧∃ a,evRs F.ff rs=some (v a)∧retM F.ff (M1 a)∧Q a
theorem bestEF {P:Program} (hm:P.follows .mixedOrders=true) {f:FuncId} {ac:AC} {rs:List RO} {n:Nat} (hf:factOf P f=some (ac.strip,rs,n)) (ho:ac.okAll=true) {args:List AV} (hl:args.length≤n) {M0:List (Slot×Blk)} {K:List Slot} (hK:∀ s∈K,fixS s) {α:Type} {v:α→AV} {M1:α→List (Slot×Blk)} {Q:α→Prop}
  (h:awp P ac (retEF rs v M1 Q) (initFF args M0)):∃ a,Q a∧BestF P f M0 args K (v a) (M1 a):=by
 obtain ⟨⟨a,hq⟩,hv⟩:=awp_some (α:={ a:α // Q a }) (K:=fun a e F=>retF rs (v a.1) (M1 a.1) e F) (awp_mono (fun e F q=>by
  obtain ⟨q1,a,q2,q3,q4⟩:=q
  exact ⟨⟨a,q4⟩,q1,q2,q3⟩) h)
 exact ⟨a,hq,bestF hm hf ho hl hK hv⟩
theorem loopE {P:Program} {g:Ghost} {x:AC} {K:AE→Fr→Prop} {t:Tag (AC.ghost g x) K} {α:Type} (n:Nat) (fr:Nat→α→Fr) (Q:Nat→α→Prop) (a0:α) (step:∀ k a,k≤n→Q k a→awp P x (Rnd (fun F'=>k<n∧∃ a',Q (k+1) a'∧g.app F'=some (fr (k+1) a')) K) (fr k a)) {F:Fr} (h0:Q 0 a0) (hF:g.app F=some (fr 0 a0)):loopL P (.ghost g x) K t F:=by
 refine loop_rule (fun m F=>∃ k a,k≤n∧m=n - k∧Q k a∧g.app F=some (fr k a)) (fun m F h=>?_) (n:=n) ⟨0,a0,Nat.zero_le _,by simp,h0,hF⟩
 obtain ⟨k,a,h1,rfl,h2,h3⟩:=h
 rw [awp_ghost,h3]
 refine awp_mono (fun e F' q=>?_) (step k a h1 h2)
 cases e with
 | normal=>obtain ⟨q1,a',q2,q3⟩:=q;exact ⟨n - (k+1),by omega,k+1,a',by omega,rfl,q2,q3⟩
 | exit i=>exact q
 | ret=>exact q
theorem loopM {P:Program} {g:Ghost} {x:AC} {K:AE→Fr→Prop} {t:Tag (AC.ghost g x) K} {α:Type} (m:α→Nat) (fr:α→Fr) (Q:α→Prop) (a0:α) (step:∀ a,Q a→awp P x (Rnd (fun F'=>∃ a',m a'<m a∧Q a'∧g.app F'=some (fr a')) K) (fr a)) {F:Fr} (h0:Q a0) (hF:g.app F=some (fr a0)):loopL P (.ghost g x) K t F:=by
 refine loop_rule (fun n F=>∃ a,n=m a∧Q a∧g.app F=some (fr a)) (fun n F h=>?_) (n:=m a0) ⟨a0,rfl,h0,hF⟩
 obtain ⟨a,rfl,h2,h3⟩:=h
 rw [awp_ghost,h3]
 refine awp_mono (fun e F' q=>?_) (step a h2)
 cases e with
 | normal=>obtain ⟨a',q1,q2,q3⟩:=q;exact ⟨m a',q1,a',rfl,q2,q3⟩
 | exit i=>exact q
 | ret=>exact q
mutual
def AV.rnF (ρ:Slot→Slot):AV→AV
 | .ref t size off len=>.ref (ρ t) size off len
 | .ptr t size row off=>.ptr (ρ t) size row off
 | .agg cs=>.agg (AV.rnFL ρ cs)
 | .tup cs=>.tup (AV.rnFL ρ cs)
 | .clo fn f c=>.clo fn (AV.rnFL ρ f) (AV.rnFL ρ c)
 | .p v=>.p v
 | .top=>.top
def AV.rnFL (ρ:Slot→Slot):List AV→List AV
 | []=>[]
 | v :: l=>v.rnF ρ :: AV.rnFL ρ l
end
def Blk.rnF (ρ:Slot→Slot):Blk→Blk
 | .box cells=>.box (AV.rnFL ρ cells)
 | k=>k
def rnM (ρ:Slot→Slot) (M:List (Slot×Blk)):List (Slot×Blk):=M.map fun x=>(ρ x.1,x.2.rnF ρ)
theorem rnFL_len {ρ:Slot→Slot}:∀ {l:List AV},(AV.rnFL ρ l).length=l.length
 | []=>rfl
 | x :: l=>by simp [AV.rnFL,rnFL_len]
theorem rnFL_get {ρ:Slot→Slot}:∀ {l:List AV} {j:Nat},(AV.rnFL ρ l)[j]?=l[j]?.map (AV.rnF ρ)
 | [],j=>by simp [AV.rnFL]
 | x :: l,0=>by simp [AV.rnFL]
 | x :: l,j+1=>by simp [AV.rnFL,rnFL_get]
theorem rnF_back {ι:Inj} {S:Snap} {ρ:Slot→Slot} {u:AV} {x:Value} (h:AVRel ι S u x):∀ {v:AV},u=v.rnF ρ→AVRel (fun s=>ι (ρ s)) S v x:=by
 have lst:∀ {cells us:List AV} {vs:List Value},AV.rnFL ρ us=cells→(∀ (j:Nat) (p:AV) (v:Value),cells[j]?=some p→vs[j]?=some v→∀ {v':AV},p=v'.rnF ρ→AVRel (fun s=>ι (ρ s)) S v' v)→∀ (j:Nat) (p:AV) (v:Value),us[j]?=some p→vs[j]?=some v→AVRel (fun s=>ι (ρ s)) S p v:=by
  intro cells us vs e ih j p v e1 e2
  refine ih j (p.rnF ρ) v ?_ e2 rfl
  rw [←e,rnFL_get,e1];rfl
 induction h with
 | p v x h=>intro u e;cases u<;>simp [AV.rnF] at e;subst e;exact .p _ _ h
 | ref s size off len b total cap a h1 hc hl ha=>intro u e;cases u<;>simp [AV.rnF] at e;obtain ⟨rfl,rfl,rfl,rfl⟩:=e;exact .ref _ _ _ _ b total cap a h1 hc hl ha
 | refnil s size h1=>intro u e;cases u<;>simp [AV.rnF] at e;obtain ⟨rfl,rfl,rfl,rfl⟩:=e;exact .refnil _ _ h1
 | ptr s size row off b total h1=>intro u e;cases u<;>simp [AV.rnF] at e;obtain ⟨rfl,rfl,rfl,rfl⟩:=e;exact .ptr _ _ _ _ b total h1
 | agg cells vs hl h ih=>intro u e;cases u<;>simp [AV.rnF] at e;subst e;exact .agg _ vs (by rw [hl,rnFL_len]) (lst rfl ih)
 | tup cells vs hl h ih=>intro u e;cases u<;>simp [AV.rnF] at e;subst e;exact .tup _ vs (by rw [hl,rnFL_len]) (lst rfl ih)
 | clo fn first captured fs cs hf hc h1 h2 ih1 ih2=>
  intro u e
  cases u<;>simp [AV.rnF] at e
  obtain ⟨rfl,rfl,rfl⟩:=e
  exact .clo _ _ _ fs cs (by rw [hf,rnFL_len]) (by rw [hc,rnFL_len]) (lst rfl ih1) (lst rfl ih2)
 | top x=>intro u e;cases u<;>simp [AV.rnF] at e;exact .top x
theorem rnF_forth {ι:Inj} {S:Snap} {ρ τ:Slot→Slot} {l:List Slot} (hτ:∀ s∈l,τ (ρ s)=s) {v:AV} {x:Value} (h:AVRel ι S v x) (hn:v.among l=true):AVRel (fun s=>ι (τ s)) S (v.rnF ρ) x:=by
 induction h with
 | p v x h=>exact .p _ _ h
 | ref s size off len b total cap a h1 hc hl ha=>exact .ref _ _ _ _ b total cap a (by rw [hτ s (by simpa [AV.among] using hn)];exact h1) hc hl ha
 | refnil s size h1=>exact .refnil _ _ (by rw [hτ s (by simpa [AV.among] using hn)];exact h1)
 | ptr s size row off b total h1=>exact .ptr _ _ _ _ b total (by rw [hτ s (by simpa [AV.among] using hn)];exact h1)
 | agg cells vs hl h ih=>
  refine .agg _ vs (by rw [hl,rnFL_len]) fun j p v e1 e2=>?_
  rw [rnFL_get,Option.map_eq_some_iff] at e1
  obtain ⟨q,e3,rfl⟩:=e1
  exact ih j q v e3 e2 (AV.amongL_get (by simpa [AV.among] using hn) e3)
 | tup cells vs hl h ih=>
  refine .tup _ vs (by rw [hl,rnFL_len]) fun j p v e1 e2=>?_
  rw [rnFL_get,Option.map_eq_some_iff] at e1
  obtain ⟨q,e3,rfl⟩:=e1
  exact ih j q v e3 e2 (AV.amongL_get (by simpa [AV.among] using hn) e3)
 | clo fn first captured fs cs hf hc h1 h2 ih1 ih2=>
  simp [AV.among] at hn
  refine .clo _ _ _ fs cs (by rw [hf,rnFL_len]) (by rw [hc,rnFL_len]) (fun j p v e1 e2=>?_) (fun j p v e1 e2=>?_)
  ·rw [rnFL_get,Option.map_eq_some_iff] at e1
   obtain ⟨q,e3,rfl⟩:=e1
   exact ih1 j q v e3 e2 (AV.amongL_get hn.1 e3)
  ·rw [rnFL_get,Option.map_eq_some_iff] at e1
   obtain ⟨q,e3,rfl⟩:=e1
   exact ih2 j q v e3 e2 (AV.amongL_get hn.2 e3)
 | top x=>exact .top x
theorem rnF_size {ρ:Slot→Slot} {k:Blk}:(k.rnF ρ).size=k.size∧(k.rnF ρ).nrows=k.nrows:=by
 cases k<;>simp [Blk.rnF,Blk.size,Blk.nrows,rnFL_len]
theorem rnF_cell {ρ:Slot→Slot} {k:Blk} {i j:Nat}:(k.rnF ρ).cell i j=(k.cell i j).map (AV.rnF ρ):=by
 cases k with
 | sl e sz rows=>
  simp only [Blk.rnF,Blk.cell]
  cases rows[i]?.bind (·[j]?)<;>simp [AV.rnF]
 | box cells=>
  simp only [Blk.rnF,Blk.cell]
  split
  ·exact rnFL_get
  ·rfl
theorem rnB_back {ι:Inj} {S:Snap} {w:World} {ρ:Slot→Slot} {s:Slot} {k:Blk} (h:BRel ι S w (ρ s) (k.rnF ρ)):BRel (fun s=>ι (ρ s)) S w s k:=by
 obtain ⟨h1,h2⟩:=h
 refine ⟨by cases k<;>exact h1,?_⟩
 have e:=rnF_size (ρ:=ρ) (k:=k)
 rw [e.1,e.2] at h2
 refine h2.imp id fun ⟨b,total,t,c,e1,e2,e3,e4,e5,e6,e7⟩=>⟨b,total,t,c,e1,e2,by cases k<;>exact e3,e4,e5,e6,fun i j av q=>?_⟩
 obtain ⟨v,v1,v2⟩:=e7 i j (av.rnF ρ) (by rw [rnF_cell,q];rfl)
 exact ⟨v,v1,rnF_back v2 rfl⟩
theorem rnB_forth {ι:Inj} {S:Snap} {w:World} {ρ τ:Slot→Slot} {l:List Slot} (hτ:∀ s∈l,τ (ρ s)=s) {s:Slot} {k:Blk} (hs:s∈l) (h:BRel ι S w s k) (hn:k.among l=true):BRel (fun s=>ι (τ s)) S w (ρ s) (k.rnF ρ):=by
 obtain ⟨h1,h2⟩:=h
 refine ⟨by cases k<;>exact h1,?_⟩
 have e:=rnF_size (ρ:=ρ) (k:=k)
 rw [e.1,e.2]
 dsimp only
 rw [hτ s hs]
 refine h2.imp id fun ⟨b,total,t,c,e1,e2,e3,e4,e5,e6,e7⟩=>⟨b,total,t,c,e1,e2,by cases k<;>exact e3,e4,e5,e6,fun i j av q=>?_⟩
 rw [rnF_cell,Option.map_eq_some_iff] at q
 obtain ⟨u,q1,rfl⟩:=q
 obtain ⟨v,v1,v2⟩:=e7 i j u q1
 exact ⟨v,v1,rnF_forth hτ v2 (Blk.cell_among hn q1)⟩
theorem look_rnM {ρ τ:Slot→Slot} {t:Slot} {k':Blk}:∀ {M:List (Slot×Blk)},(∀ x∈M,τ (ρ x.1)=x.1)→look t (rnM ρ M)=some k'→∃ s k,look s M=some k∧t=ρ s∧k'=k.rnF ρ
 | [],_,h=>by simp [rnM,look] at h
 | (s,k) :: M,hτ,h=>by
  simp only [rnM,List.map_cons,look] at h
  by_cases e:t=ρ s
  ·rw [if_pos e] at h;simp at h;exact ⟨s,k,by simp [look],e,h.symm⟩
  ·rw [if_neg e] at h
   obtain ⟨s',k1,h1,h2,h3⟩:=look_rnM (fun x hx=>hτ x (by simp [hx])) (show look t (rnM ρ M)=some k' from h)
   refine ⟨s',k1,?_,h2,h3⟩
   simp only [look]
   rw [if_neg (fun e'=>e (by rw [h2,e'])),h1]
theorem look_rnM' {ρ τ:Slot→Slot} {s:Slot} {k:Blk}:∀ {M:List (Slot×Blk)},(∀ x∈M,τ (ρ x.1)=x.1)→look s M=some k→look (ρ s) (rnM ρ M)=some (k.rnF ρ)
 | [],_,h=>by simp [look] at h
 | (s',k') :: M,hτ,h=>by
  simp only [look] at h
  simp only [rnM,List.map_cons,look]
  split at h
  ·rename_i e;simp at h;subst e;subst h;simp
  ·rename_i e
   have hs:τ (ρ s)=s:=hτ (s,k) (List.mem_cons_of_mem _ (look_mem h))
   have hs':τ (ρ s')=s':=hτ (s',k') (by simp)
   rw [if_neg (fun q=>e (by rw [←hs,q,hs']))]
   exact look_rnM' (fun x hx=>hτ x (by simp [hx])) h
theorem BestF.ren {P:Program} {f:FuncId} {M0 M1:List (Slot×Blk)} {args:List AV} {K:List Slot} {v:AV} (ρ τ:Slot→Slot) (h:BestF P f M0 args K v M1) (h0:∀ x∈M0,τ (ρ x.1)=x.1) (h1:∀ x∈M1,τ (ρ x.1)=x.1) (hK:∀ s∈K,τ (ρ s)=s)
  (hv:v.among (M1.map (·.1))=true) (hm:∀ x∈M1,x.2.among (M1.map (·.1))=true):BestF P f (rnM ρ M0) (AV.rnFL ρ args) (K.map ρ) (v.rnF ρ) (rnM ρ M1):=by
 have hl:∀ s∈M1.map (·.1),τ (ρ s)=s:=by
  intro s hs
  obtain ⟨x,hx,rfl⟩:=List.mem_map.1 hs
  exact h1 x hx
 refine ⟨h.1,fun ι S w xs hS hP hr=>?_⟩
 have hlent:∀ b,Lent (fun s=>ι (ρ s)) M0 b→Lent ι (rnM ρ M0) b:=fun b ⟨s,k,t,e,hi⟩=>⟨ρ s,_,t,look_rnM' h0 e,hi⟩
 refine (h.2 (fun s=>ι (ρ s)) S w xs hS ⟨fun s k e=>rnB_back (hP.mem _ _ (look_rnM' h0 e)),fun s k e b t hi=>hP.own _ _ (look_rnM' h0 e) b t hi,fun s s' k k' e e' hne b t b' t' i1 i2=>hP.sep _ _ _ _ (look_rnM' h0 e) (look_rnM' h0 e') (fun q=>hne (by
   have a1:=h0 (s,k) (look_mem e)
   have a2:=h0 (s',k') (look_mem e')
   dsimp only at a1 a2
   rw [←a1,q,a2])) b t b' t' i1 i2⟩ ⟨by rw [hr.1,rnFL_len],fun j p x e1 e2=>rnF_back (hr.2 j (p.rnF ρ) x (by rw [rnFL_get,e1];rfl) e2) rfl⟩).mono ?_
 rintro e w' ⟨x,ι',S',rfl,g1,g2,g3,g4,g5,g6,g7,g8⟩
 refine ⟨x,fun t=>ι' (τ t),S',rfl,⟨g1.os,g1.tape,g1.output,g1.size,fun k hk hm=>g1.heap k hk fun q=>hm (hlent k q)⟩,g2,g3,fun a u q=>(g4 a u q).imp id fun q=>q.imp id (hlent _),rnF_forth hl g5 hv,⟨?_,?_,?_⟩,?_,?_⟩
 ·intro t k' q
  obtain ⟨s,k,q1,rfl,rfl⟩:=look_rnM h1 q
  exact rnB_forth hl (List.mem_map_of_mem (look_mem q1)) (g6.mem s k q1) (hm _ (look_mem q1))
 ·intro t k' q b c hi
  obtain ⟨s,k,q1,rfl,rfl⟩:=look_rnM h1 q
  replace hi:ι' (τ (ρ s))=some (b,c):=hi
  rw [hl s (List.mem_map_of_mem (look_mem q1))] at hi
  exact g6.own s k q1 b c hi
 ·intro t1 t2 k1 k2 q1 q2 hne b c b' c' i1 i2
  obtain ⟨s1,c1,r1,rfl,rfl⟩:=look_rnM h1 q1
  obtain ⟨s2,c2,r2,rfl,rfl⟩:=look_rnM h1 q2
  replace i1:ι' (τ (ρ s1))=some (b,c):=i1
  replace i2:ι' (τ (ρ s2))=some (b',c'):=i2
  rw [hl s1 (List.mem_map_of_mem (look_mem r1))] at i1
  rw [hl s2 (List.mem_map_of_mem (look_mem r2))] at i2
  exact g6.sep s1 s2 c1 c2 r1 r2 (fun q=>hne (by rw [q])) b c b' c' i1 i2
 ·intro t ht
  obtain ⟨s,hs,rfl⟩:=List.mem_map.1 ht
  dsimp only
  rw [hK s hs]
  exact g7 s hs
 ·intro t k' q b c hi
  obtain ⟨s,k,q1,rfl,rfl⟩:=look_rnM h1 q
  replace hi:ι' (τ (ρ s))=some (b,c):=hi
  rw [hl s (List.mem_map_of_mem (look_mem q1))] at hi
  exact (g8 s k q1 b c hi).imp id (hlent b)
end Go.Abs
namespace Go.Abs
open Go
set_option linter.unusedSimpArgs false
set_option linter.unusedVariables false
section
variable {P:Program} {r:Option Nat} {n:Nat}
theorem toInT {D:Nat→Prop} {ops:Array Oper} {X:Act→World→Prop} {Q:Exit→Act→World→Prop} {a0:Act} {l2:List Nat} (hD:Dsts D ops) (hn:NoDefer ops) (hX:∀ a w,X a w→Same D a0 a→wpOpsIn (Fz r) n P ops Q l2 a w) :
  ∀ (l:List Nat) (a:Act) (w:World),wpOps P ops (Qn X) l a w→Same D a0 a→wpOpsIn (Fz r) n P ops Q (l++l2) a w
 | [],a,w,h,hs=>hX a w h hs
 | i :: l,a,w,h,hs=>by
  simp only [wpOps,wpOpsIn,List.cons_append] at h ⊢
  split
  ·rename_i hi;rw [hi] at h;exact toInT hD hn hX l a w h hs
  ·rename_i o hi
   rw [hi] at h
   simp only at h
   split
   ·rename_i hw
    rw [if_pos hw] at h
    rcases h with h | h
    ·exact wpIn_same (hD i o hi) hs (wp_fz (hn i o hi) h) fun a w h1 h2=>toInT hD hn hX l a w h2 h1
    ·obtain ⟨_,_,_,q⟩:=h;exact q.elim
   ·rename_i hw
    rw [if_neg hw] at h
    exact ⟨fun _ _=>trivial,toInT hD hn hX l _ w h (hs.trans (.put (hD i o hi)))⟩
def lst (c m:Nat):Array Bool:=Array.replicate c true++Array.replicate m false
theorem lst_get (c m k:Nat):(lst c m).getD k false=decide (k<c):=by
 simp only [lst,Array.getD_eq_getD_getElem?,Array.getElem?_append,Array.size_replicate,Array.getElem?_replicate]
 by_cases h:k<c
 ·simp [h]
 ·simp only [h,if_false,decide_false]
  split<;>rfl
theorem lst_set (c m:Nat):(lst c (m+1)).setIfInBounds c true=lst (c+1) m:=by
 refine Array.ext_getElem? fun i=>?_
 simp only [lst,Array.getElem?_setIfInBounds,Array.getElem?_append,Array.size_append,Array.size_replicate,Array.getElem?_replicate]
 by_cases h1:c=i
 ·subst h1
  simp
 ·rw [if_neg h1]
  repeat' split
  all_goals first | rfl | (exfalso;omega)
theorem getD_or {l:Array Bool} {k:Nat} (h:k<l.size):l.getD k true=l.getD k false:=by simp [Array.getD,h]
theorem chainIn {ops:Array Oper} {Q:Exit→Act→World→Prop} {c:Nat} (hch:∀ (k:Nat) (o:Oper),c≤k→ops[k]?=some o→(∀ e∈afterOf o,e<k)∧(c<k→k - 1∈afterOf o)) :
  ∀ (m j:Nat),c≤j→j+m=ops.size→∀ a w,wpOpsIn (Fz r) n P ops Q (List.range' j m) a w→wpAnyIn (Fz r) n P .any ops Q m (lst j m) a w
 | 0,j,hj,hs,a,w,h=>by
  refine ⟨?_,h⟩
  rw [List.eq_nil_iff_forall_not_mem]
  intro k hk
  obtain ⟨h1,h2,_⟩:=ready_iff.1 hk
  rw [getD_or (by simp [lst];omega),lst_get] at h2
  simp at h2;omega
 | m+1,j,hj,hs,a,w,h=>by
  have hjlt:j<ops.size:=by omega
  have hoj:ops[j]?=some ops[j]:=by simp [hjlt]
  refine ⟨fun hr=>?_,fun i hi=>?_⟩
  ·exfalso
   have:j∈Region.ready .any ops (lst j (m+1)):=by
    refine ready_iff.2 ⟨hjlt,by rw [getD_or (by simp [lst]),lst_get];simp,ops[j],hoj,fun e he=>?_⟩
    rw [lst_get];simpa using (hch j _ hj hoj).1 e he
   rw [hr] at this;simp at this
  ·obtain ⟨h1,h2,o,h3,h4⟩:=ready_iff.1 hi
   have hij:i=j:=by
    rw [getD_or (by simp [lst];omega),lst_get] at h2
    simp at h2
    by_cases hlt:j<i
    ·have:=h4 _ ((hch i o (by omega) h3).2 (by omega))
     rw [lst_get] at this;simp at this;omega
    ·omega
   subst hij
   rw [lst_set]
   rw [List.range'_succ,wpOpsIn_cons] at h
   exact wpOpIn_mono (fun a w h=>chainIn hch m (i+1) (by omega) (by omega) a w h) h
theorem preIn {D:Nat→Prop} {ops opsP:Array Oper} {X:Act→World→Prop} {Q:Exit→Act→World→Prop} {a0:Act} {c m:Nat} (hD:Dsts D ops) (hn:NoDefer ops) (hcs:opsP.size=c) (hsz:ops.size=c+m) (hm0:0<m)
  (hP:∀ (k:Nat) (o:Oper),opsP[k]?=some o→ops[k]?=some o∧(∀ e∈afterOf o,e<k)∧∀ j w,o.guard=some (j,w)→j<c)
  (hC:∀ listed:Array Bool,listed.size=c→(∀ (k:Nat) (o:Oper),opsP[k]?=some o→listed.getD k false=true→∀ e∈afterOf o,listed.getD e false=true)→∀ o,ops[c]?=some o→(∀ e∈afterOf o,listed.getD e false=true)→∀ j,j<c→listed.getD j false=true)
  (hch:∀ (k:Nat) (o:Oper),c<k→ops[k]?=some o→k - 1∈afterOf o)
  (hX:∀ a w,X a w→Same D a0 a→wpAnyIn (Fz r) n P .any ops Q m (lst c m) a w) :
  ∀ (fuel:Nat) (listed:Array Bool) (a:Act) (w:World),listed.size=c→((List.range c).filter fun j=>!(listed.getD j false)).length=fuel →
   (∀ (k:Nat) (o:Oper),opsP[k]?=some o→listed.getD k false=true→∀ e∈afterOf o,listed.getD e false=true) →
   wpAny P .any opsP (Qn X) fuel listed a w→Same D a0 a→wpAnyIn (Fz r) n P .any ops Q (fuel+m) (listed++Array.replicate m false) a w:=by
 have app:∀ (listed:Array Bool),listed.size=c→∀ k,(listed++Array.replicate m false).getD k false=listed.getD k false:=by
  intro listed hl k
  simp only [Array.getD_eq_getD_getElem?,Array.getElem?_append,Array.getElem?_replicate]
  split
  ·rfl
  ·rename_i h
   rw [Array.getElem?_eq_none (by omega)]
   split<;>rfl
 have hget:∀ k,k<c→∃ o,opsP[k]?=some o:=fun k hk=>⟨opsP[k],by simp⟩
 intro fuel
 induction fuel with
 | zero=>
  intro listed a w hl hf hcl h hs
  have hall:∀ j,j<c→listed.getD j false=true:=by
   intro j hj
   have:=List.eq_nil_of_length_eq_zero hf
   rw [List.filter_eq_nil_iff] at this
   have:=this j (by simpa using hj)
   simpa using this
  have:listed=Array.replicate c true:=by
   apply Array.ext
   ·simp [hl]
   ·intro i h1 h2
    have:=hall i (by omega)
    simpa [Array.getD,h1] using this
  rw [this,Nat.zero_add]
  exact hX a w h.2 hs
 | succ fuel ih=>
  intro listed a w hl hf hcl h hs
  have hex:∃ j,(j<c∧listed.getD j false=false)∧∀ i,i<j→¬(i<c∧listed.getD i false=false):=by
   have:((List.range c).filter fun j=>!(listed.getD j false))≠[]:=by intro q;rw [q] at hf;simp at hf
   obtain ⟨j,hj⟩:=List.exists_mem_of_ne_nil _ this
   simp only [List.mem_filter,List.mem_range,Bool.not_eq_true'] at hj
   exact least (p:=fun j=>j<c∧listed.getD j false=false) ⟨j,hj⟩
  obtain ⟨j,⟨hj1,hj2⟩,hj3⟩:=hex
  rw [Nat.succ_add]
  refine ⟨fun hr=>?_,fun i hi=>?_⟩
  ·exfalso
   obtain ⟨o,ho⟩:=hget j hj1
   obtain ⟨g1,g2,_⟩:=hP j o ho
   have:j∈Region.ready .any ops (listed++Array.replicate m false):=by
    refine ready_iff.2 ⟨by omega,by rw [getD_or (by simp;omega),app listed hl];exact hj2,o,g1,fun e he=>?_⟩
    rw [app listed hl]
    have hlt:=g2 e he
    cases hle:listed.getD e false with
    | true=>rfl
    | false=>exact absurd ⟨by omega,hle⟩ (hj3 e hlt)
   rw [hr] at this;simp at this
  ·obtain ⟨h1,h2,o,h3,h4⟩:=ready_iff.1 hi
   rw [getD_or (by simp;omega),app listed hl] at h2
   have h4':∀ e∈afterOf o,listed.getD e false=true:=fun e he=>by have:=h4 e he;rwa [app listed hl] at this
   have hic:i<c:=by
    rcases Nat.lt_trichotomy i c with h5 | h5 | h5
    ·exact h5
    ·subst h5
     have:=hC listed hl hcl o h3 h4' j hj1
     rw [hj2] at this;simp at this
    ·have:=h4' _ (hch i o h5 h3)
     simp only [Array.getD_eq_getD_getElem?] at this
     rw [Array.getElem?_eq_none (by omega)] at this
     simp at this
   obtain ⟨o',ho'⟩:=hget i hic
   obtain ⟨g1,g2,g3⟩:=hP i o' ho'
   have:o'=o:=by rw [g1] at h3;simpa using h3
   subst this
   have hready:i∈Region.ready .any opsP listed:=ready_iff.2 ⟨by omega,by rw [getD_or (by omega)];exact h2,o',ho',h4'⟩
   have h5:=h.2 i hready
   have hset:(listed++Array.replicate m false).setIfInBounds i true=listed.setIfInBounds i true++Array.replicate m false:=by
    rw [Array.setIfInBounds_append_left (by omega)]
   rw [hset]
   have hget':∀ k,(listed.setIfInBounds i true).getD k false=(k == i || listed.getD k false):=by
    intro k
    by_cases hk:k=i
    ·subst hk;simp [Array.getD,hl,hic]
    ·have:(k == i)=false:=by simpa using hk
     rw [this,Bool.false_or]
     simp only [Array.getD_eq_getD_getElem?,Array.getElem?_setIfInBounds,if_neg (fun q:i=k=>hk q.symm)]
   have hnext:∀ a w,wpAny P .any opsP (Qn X) fuel (listed.setIfInBounds i true) a w→Same D a0 a→wpAnyIn (Fz r) n P .any ops Q (fuel+m) (listed.setIfInBounds i true++Array.replicate m false) a w:=by
    intro a w h6 hs'
    refine ih _ a w (by simp [hl]) ?_ (fun k o hk hlk e he=>?_) h6 hs'
    ·have hp:((List.range c).filter fun j=>!((listed.setIfInBounds i true).getD j false))=((List.range c).filter fun j=>!(listed.getD j false)).erase i:=by
      have hnd:((List.range c).filter fun j=>!(listed.getD j false)).Nodup:=List.Pairwise.filter _ List.nodup_range
      rw [hnd.erase_eq_filter,List.filter_filter]
      congr 1
      funext k
      rw [hget' k]
      cases hjk:(k == i)<;>simp [hjk,bne]
     rw [hp,List.length_erase_of_mem (by simp only [List.mem_filter,List.mem_range,Bool.not_eq_true'];exact ⟨hic,h2⟩),hf]
     rfl
    ·rw [hget'] at hlk ⊢
     simp only [Bool.or_eq_true] at hlk ⊢
     rcases hlk with hlk | hlk
     ·have:k=i:=by simpa using hlk
      subst this
      have:o=o':=by rw [ho'] at hk;simpa using hk.symm
      subst this
      exact .inr (h4' e he)
     ·exact .inr (hcl k o hk hlk e he)
   unfold wpOp at h5
   rw [ho'] at h5
   unfold wpOpIn
   rw [g1]
   simp only at h5 ⊢
   have hyld:Region.wanted o' (yielded opsP a.tmps)=Region.wanted o' (yielded ops a.tmps):=by
    unfold Region.wanted
    cases hg:o'.guard with
    | none=>rfl
    | some q=>
     obtain ⟨j',w'⟩:=q
     have hj':=g3 j' w' hg
     obtain ⟨o2,ho2⟩:=hget j' hj'
     have:yielded opsP a.tmps j'=yielded ops a.tmps j':=by
      unfold yielded
      rw [ho2,(hP j' o2 ho2).1]
     simp only [this]
   rw [hyld] at h5
   split
   ·rename_i hw
    rw [if_pos hw] at h5
    rcases h5 with h5 | h5
    ·exact wpIn_same (hD i o' g1) hs (wp_fz (hn i o' g1) h5) fun a w h1 h2=>hnext a w h2 h1
    ·obtain ⟨_,_,_,q⟩:=h5;exact q.elim
   ·rename_i hw
    rw [if_neg hw] at h5
    exact ⟨fun _ _=>trivial,hnext _ w h5 (hs.trans (.put (hD i o' g1)))⟩
end
end Go.Abs
namespace Go.Abs
open Go
set_option linter.unusedSimpArgs false
set_option linter.unusedVariables false
inductive AY where
 | skip
 | seq (x y:AY)
 | cond (c:Opd) (x y:AY)
 | block (id:Nat) (x:AY)
 | loop (x:AY)
 | exit (id:Nat)
 | ret
 | reg (l:List AB)
 | draw (l:List AI)
 | ghost (g:Ghost) (x:AY)
 | yield (d:Bool) (pre:List AI) (y:AB) (post:List AB)
 | scope (x:AY)
 | label (l:Nat)
 deriving Inhabited
def bare (b:AB):AI:=⟨b,[],[],[],[],0⟩
def AY.strip:AY→AC
 | .skip=>.skip
 | .seq x y=>.seq x.strip y.strip
 | .cond c x y=>.cond c x.strip y.strip
 | .block id x=>.block id x.strip
 | .loop x=>.loop x.strip
 | .scope x=>.scope x.strip
 | .label l=>.label l
 | .exit id=>.exit id
 | .ret=>.ret
 | .reg l=>.reg l
 | .draw l=>.draw (l.map fun i=>bare i.b)
 | .ghost _ x=>x.strip
 | .yield d pre y post=>if d then .draw ((pre.map (·.b)++y :: post).map bare) else .reg (pre.map (·.b)++y :: post)
def okPre (pre:List AI) (y:AB) (post:List AB):Bool:=
 let ms:=masks (pre.map (·.b.after)) []
 (List.range pre.length).all (fun j=>y.after.any fun e=>e == j || (ms.getD e 0).testBit j) && y.after.all (fun e=>decide (e<pre.length)) &&
 (List.range post.length).all (fun i=>(post.getD i default).after.all (fun e=>decide (e<pre.length+1+i)) && (post.getD i default).after.contains (pre.length+i)) &&
 pre.all fun i=>match i.b.guard with
  | none=>true
  | some (t,_)=>(y :: post).all fun b=>!(b.dst == some t)
def AY.okAll:AY→Bool
 | .seq x y=>x.okAll && y.okAll
 | .cond _ x y=>x.okAll && y.okAll
 | .block _ x=>x.okAll
 | .loop x=>x.okAll
 | .scope x=>x.okAll
 | .draw l=>okMarks l && okPl l
 | .ghost _ x=>x.okAll
 | .yield d pre y post=>!d || (okMarks pre && okPl pre && okPre pre y post)
 | _=>true
abbrev YPT:=(AE→Fr→Option Nat→Prop)→Fr→Option Nat→Prop
def lpY (b:YPT):Nat→YPT
 | 0=>fun _ _ _=>False
 | n+1=>fun K F p=>b (fun e F' p'=>match e with | .normal=>lpY b n K F' p' | e=>K e F' p') F p
def AV.pur:AV→AV
 | .p v=>.p v
 | _=>.top
def Fr.pure (F:Fr):Fr:=⟨F.vars.map fun x=>(x.1,x.2.pur),[]⟩
def coreY (P:Program) (l:Nat) (xs:List (List PV)) (x:Opd) (args:List Opd) (dst:Option Nat) (post:List AB) (K:Fr→Option Nat→Prop) (F:Fr) (p:Option Nat):Prop:=
 F.ff.val x=some (.p (.clo (.yield l) [] []))∧match F.ff.vals args with
 | some vs=>match allP vs,p with
  | some it,some k=>xs[k]?=some it∧∀ b:Bool,awpR P post (fun F'=>K F' (if b then some (k+1) else none)) (F.pure.app dst ⟨.p (.bool b),[],[]⟩)
  | _,_=>False
 | none=>False
def stepY (P:Program) (l:Nat) (xs:List (List PV)) (y:AB) (post:List AB) (K:Fr→Option Nat→Prop) (F:Fr) (p:Option Nat):Prop:=
 match y.op with
 | .callv x args=>match y.guard with
  | none=>coreY P l xs x args y.dst post K F p
  | some (t,want)=>match F.ff.var t with
   | some (.p (.bool b))=>(b=want→coreY P l xs x args y.dst post K F p)∧(b≠want→awpR P post (fun F'=>K F' p) (F.app y.dst ⟨.p (.tup []),[],[]⟩))
   | _=>False
 | _=>False
def awpY (P:Program) (l:Nat) (xs:List (List PV)):AY→YPT
 | .skip=>fun K F p=>K .normal F p
 | .seq x y=>fun K F p=>awpY P l xs x (fun e F' p'=>match e with | .normal=>awpY P l xs y K F' p' | e=>K e F' p') F p
 | .cond c x y=>fun K F p=>match F.ff.val c with
  | some (.p (.bool b))=>(b=true→awpY P l xs x K F p)∧(b=false→awpY P l xs y K F p)
  | _=>False
 | .block id x=>fun K F p=>awpY P l xs x (fun e F' p'=>match e with | .exit i=>if i=id then K .normal F' p' else K (.exit i) F' p' | e=>K e F' p') F p
 | .loop x=>fun K F p=>∃ n,lpY (awpY P l xs x) n K F p
 | .scope x=>awpY P l xs x
 | .label _=>fun K F p=>K .normal F p
 | .exit id=>fun K F p=>K (.exit id) F p
 | .ret=>fun K F p=>K .ret F p
 | .reg ops=>fun K F p=>awpR P ops (fun F'=>K .normal F' p) F
 | .draw ops=>fun K F p=>awpX P F 0 [] [] ops (fun F'=>K .normal F' p) F
 | .ghost g x=>fun K F p=>match g.app F with
  | some F'=>awpY P l xs x K F' p
  | none=>False
 | .yield d pre y post=>fun K F p=>if d then awpX P F 0 [] [] pre (fun F1=>stepY P l xs y post (K .normal) F1 p) F else awpR P (pre.map (·.b)) (fun F1=>stepY P l xs y post (K .normal) F1 p) F
section
variable {P:Program} {N:Nat} {ι:Inj} {S:Snap} {F:FF} {a:Act} {w:World}
theorem callv_inv {op:Op} {x:Opd} {args:List Opd} (hr:resolveOp P op=some (.callv x args)):∃ (c:Call) (g:Operand),op=.call c∧c.callee=.value g∧rO g=some x∧rOs c.args.toList=some args:=by
 cases hop:op with
 | call c=>
  obtain ⟨callee,cargs,argTypes⟩:=c
  simp only [hop,resolveOp,resolveCall] at hr
  split at hr
  ·repeat' split at hr
   all_goals first
   | (simp at hr;done)
   | (simp only [Option.map_eq_some_iff] at hr;obtain ⟨q,h1,h2⟩:=hr;simp at h2;done)
  ·split at hr
   ·rename_i g1 g2
    simp at hr
    obtain ⟨rfl,rfl⟩:=hr
    exact ⟨_,_,rfl,rfl,g1,g2⟩
   ·simp at hr
  all_goals (repeat' split at hr)
  all_goals first
  | (simp at hr;done)
  | (simp only [Option.map_eq_some_iff] at hr;obtain ⟨q,h1,h2⟩:=hr;simp at h2;done)
 | slice t x lo hi mx=>
  exfalso
  cases mx with
  | some m=>simp [hop,resolveOp] at hr
  | none=>
   simp only [hop,resolveOp] at hr
   repeat' split at hr
   all_goals (simp at hr;done)
 | _=>
  exfalso
  simp only [hop,resolveOp] at hr
  first
  | (simp at hr;done)
  | (simp only [Option.map_eq_some_iff] at hr;obtain ⟨q,h1,h2⟩:=hr;first | (simp at h2;done) | (unfold allocOf at h2;split at h2<;>simp at h2;done))
  | (repeat' split at hr
     all_goals first
     | (simp at hr;done)
     | (simp only [Option.map_eq_some_iff] at hr;obtain ⟨q,h1,h2⟩:=hr;simp at h2;done))
theorem resolveI_inv {ops:Array Oper} {o:Oper} {i:AB} (hr:resolveI P N ops o=some i):resolveOp P o.op=some i.op∧i.dst=o.dst∧(∀ d,o.dst=some d→d<N)∧i.after=afterOf o∧((o.guard=none∧i.guard=none)∨∃ j want t,o.guard=some (j,want)∧(ops[j]?).bind (·.dst)=some t∧i.guard=some (t,want)):=by
 unfold resolveI at hr
 split at hr
 ·simp at hr
 ·rename_i op h1
  split at hr
  ·rename_i h2
   have hd:∀ d,o.dst=some d→d<N:=by
    intro d hd;rw [hd] at h2;simpa [dstOk] using h2
   split at hr
   ·rename_i h3;simp at hr;subst hr;exact ⟨h1,rfl,hd,rfl,.inl ⟨h3,rfl⟩⟩
   ·rename_i j want h3
    split at hr
    ·rename_i t h4;simp at hr;subst hr;exact ⟨h1,rfl,hd,rfl,.inr ⟨j,want,t,h3,h4,rfl⟩⟩
    ·simp at hr
  ·simp at hr
theorem pure_var {F:Fr} {t:Nat} {v:AV} (h:F.pure.ff.var t=some v):∃ u,F.ff.var t=some u∧v=u.pur:=by
 obtain ⟨u,h1,h2⟩:=look_map (g:=AV.pur) (show look t (F.vars.map fun x=>(x.1,x.2.pur))=some v from h)
 exact ⟨u,h1,h2.symm⟩
def PB (b:Base):Prop:=b.D=[]∧(∀ k,¬b.M k)∧∀ s,b.J s=none
theorem PB.keep {b:Base} (h:PB b) {N:Nat} {ι:Inj} {S:Snap} {F:FF} {a:Act} {w:World} (hst:St N b ι S F a w):Keep b.w w:=hst.keep.keep h.2.1
theorem PB.snew {b:Base} (h:PB b) {N:Nat} {ι:Inj} {S:Snap} {F:FF} {a:Act} {w:World} (hst:St N b ι S F a w):∀ x v,S x=some v→b.S x=some v∨b.w.heap.size≤x.block:=fun x v q=>(hst.snew x v q).imp id fun q=>q.elim id fun q=>(h.2.1 _ q).elim
theorem PB.new (w:World) (S:Snap):PB { w:=w,S:=S }:=⟨rfl,fun _ q=>q,fun _=>rfl⟩
def GSt (N:Nat) (J:Nat→Snap→World→Prop) (E:Snap→World→Prop) (F:Fr) (p:Option Nat) (a:Act) (w:World):Prop:=
 ∃ b ι S,PB b∧St N b ι S F.ff a w∧match p with | some k=>J k b.S b.w | none=>E b.S b.w
def SoundY (P:Program) (N:Nat) (J:Nat→Snap→World→Prop) (E:Snap→World→Prop) (b:YPT) (c:Code):Prop:=
 ∀ (n:Nat) (K:AE→Fr→Option Nat→Prop) (F:Fr) (p:Option Nat) (a:Act) (w:World) (Q:Exit→Act→World→Prop),b K F p→GSt N J E F p a w →
  (∀ e F' p' a' w',K e F' p'→GSt N J E F' p' a' w'→Q e.toExit a' w')→c.wpIn (Fz none) n P Q a w
variable {J:Nat→Snap→World→Prop} {E:Snap→World→Prop} {l:Nat} {xs:List (List PV)}
theorem stepY_ok (hJ:∀ k,Stab (J k)) (hround:∀ k x S1 w1 vs,xs[k]?=some x→S1.holds w1→J k S1 w1→Ps S1 x vs→Round P l vs w1 S1 fun b S2 w2=>if b then J (k+1) S2 w2 else E S2 w2)
  {ops:Array Oper} {c:Nat} {o:Oper} {y:AB} {post:List AB} (hn:NoDefer ops) (ho:ops[c]?=some o) (hy:resolveI P N ops o=some y) (hp:∀ j i,post[j]?=some i→∃ o,ops[c+1+j]?=some o∧resolveI P N ops o=some i)
  {n:Nat} {K:Fr→Option Nat→Prop} {F:Fr} {p:Option Nat} {a:Act} {w:World} {Q:Exit→Act→World→Prop} (h:stepY P l xs y post K F p) (hst:GSt N J E F p a w)
  (hQ:∀ F' p' a' w',K F' p'→GSt N J E F' p' a' w'→Q .normal a' w'):wpOpsIn (Fz none) n P ops Q (c :: List.range' (c+1) post.length) a w:=by
 obtain ⟨b,ι,S,hD,hst,hpos⟩:=hst
 obtain ⟨g1,g2,g3,_,g5⟩:=resolveI_inv hy
 have rest:∀ (F3:Fr) (p3:Option Nat) (b3:Base) (ι3:Inj) (S3:Snap) (a3:Act) (w3:World),awpR P post (fun F'=>K F' p3) F3→PB b3→St N b3 ι3 S3 F3.ff a3 w3→(match p3 with | some k=>J k b3.S b3.w | none=>E b3.S b3.w)→wpOpsIn (Fz none) n P ops Q (List.range' (c+1) post.length) a3 w3:=by
  intro F3 p3 b3 ι3 S3 a3 w3 h1 h2 h3 h4
  refine toIn (D:=fun _=>True) (a0:=a3) (X:=fun a' w'=>∃ F' ι' S',K F' p3∧St N b3 ι' S' F'.ff a' w') (fun _ _ _ _ _=>trivial) hn ?_ _ a3 w3 ?_ (.refl _ _)
  ·rintro a' w' ⟨F',ι',S',q1,q2⟩ _
   exact hQ F' p3 a' w' q1 ⟨b3,ι',S',h2,q2,h4⟩
  ·exact awpR_ok (Q:=Qn _) post (c+1) F3 ι3 S3 a3 w3 hp h1 h3 (fun F' ι' S' a' w' hk hst'=>⟨F',ι',S',hk,hst'⟩)
 rw [wpOpsIn_cons]
 unfold wpOpIn
 rw [ho]
 simp only
 unfold stepY at h
 split at h
 ·rename_i x args hop
  rw [hop] at g1
  obtain ⟨call,g,hc1,hc2,hc3,hc4⟩:=callv_inv g1
  have core:coreY P l xs x args y.dst post K F p→o.wpIn (Fz none) n P a w (wpOpsIn (Fz none) n P ops Q (List.range' (c+1) post.length)) Q:=by
   rintro ⟨e1,e2⟩
   split at e2
   ·rename_i vs hvs
    split at e2
    ·rename_i it k hit
     obtain ⟨e3,e4⟩:=e2
     have hclo:a.eval g=.func (.yield l) #[] #[]:=by
      have:=(hst.val hc3 e1).inv_p
      generalize a.eval g=yv at this
      cases this with
      | clo _ _ _ fs cs hf hc q1 q2=>
       have h1:fs=[]:=List.eq_nil_of_length_eq_zero (by simpa using hf)
       have h2:cs=[]:=List.eq_nil_of_length_eq_zero (by simpa using hc)
       subst h1;subst h2;rfl
     have hps:=(hst.vals hc4 hvs).toPs hit
     have hJk:J k S w:=hJ k _ _ S w hpos hst.sle hst.snap (hD.keep hst) (hD.snew hst)
     obtain ⟨fn,tmps,assign,body,r1,r2⟩:=hround k it S w _ e3 hst.snap hJk hps
     refine ⟨fun _ _=>trivial,?_⟩
     have hexec:(o.semAt (Fz none).round a.eval).run P w=.ok (.round l fn tmps assign body) w:=by
      rw [Oper.semAt_eq _ _ _ (hn c o ho)]
      obtain ⟨callee,cargs,argTypes⟩:=call
      simp only at hc2 hc4
      subst hc2
      have e2:cargs.map a.eval=(cargs.toList.map a.eval).toArray:=by apply Array.ext';simp
      simp only [execOp,hc1,resolve,hclo,Deferred.ofValue,Sem.run_bind,Sem.run_pure,Result.andThen_ok,invoke]
      rw [e2]
      simpa using r1
     rw [hexec]
     refine ⟨fun q=>by simp [Fz,Fence.wide] at q,?_⟩
     refine RoundIn.mono (show RoundIn (Fz none) (n - 1) P l fn tmps assign body w _ from ⟨trivial,fun c cs _=>r2.2 c cs (room_wide _)⟩) ?_
     rintro e w2 ⟨bb,S2,rfl,q1,q2,q3⟩
     simp only
     have hst2:St N { w:=w2,S:=S2 } ι S2 F.pure.ff a w2:=by
      refine ⟨hst.nt,hst.nb,fun s hs=>by rw [hst.fix s hs,hD.2.2 s],by rw [hst.df,hD.1],fun r o e=>by simp at e,(Keep.refl _).toX,fun _ _ q=>q,fun _ _ q=>.inl q,q2,fun t v e=>?_,fun s k e=>by simp [Fr.pure,Fr.ff,Fr.blk,look] at e,fun s k e=>by simp [Fr.pure,Fr.ff,Fr.blk,look] at e,fun s s' k k' e=>by simp [Fr.pure,Fr.ff,Fr.blk,look] at e⟩
      obtain ⟨u,u1,rfl⟩:=pure_var e
      obtain ⟨xv,x1,x2⟩:=hst.vars t u u1
      refine ⟨xv,x1,?_⟩
      cases u with
      | p q=>exact .p _ _ (x2.inv_p.mono q1)
      | _=>exact .top _
     have hput:=hst2.put (dst:=o.dst) (v:=.p (.bool bb)) (x:=.bool bb) (.p _ _ (.bool _)) g3
     have happ:(F.pure.app o.dst ⟨.p (.bool bb),[],[]⟩).ff={ F.pure.ff with var:=fun t=>if o.dst=some t then some (.p (.bool bb)) else F.pure.ff.var t }:=by
      rw [Fr.app_ff,FF.app_val]
     have e4:=e4 bb
     rw [g2] at e4
     refine rest (F.pure.app o.dst ⟨.p (.bool bb),[],[]⟩) _ { w:=w2,S:=S2 } ι S2 (a.put o.dst (.bool bb)) w2 e4 (PB.new w2 S2) (by rw [happ];exact hput) ?_
     cases bb
     ·simpa using q3
     ·simpa using q3
    ·exact e2.elim
   ·exact e2.elim
  rcases g5 with ⟨k1,k2⟩ | ⟨j,want,t,k1,k2,k3⟩
  ·rw [k2] at h
   have:Region.wanted o (yielded ops a.tmps)=true:=by simp [Region.wanted,k1]
   rw [if_pos this]
   exact core h
  ·rw [k3] at h
   simp only at h
   split at h
   ·rename_i bg hbg
    obtain ⟨xv,q4,q5⟩:=hst.vars t _ hbg
    obtain rfl:=inv_bool q5
    have hyl:yielded ops a.tmps j=some bg:=by simp [yielded,k2,q4]
    have hw:Region.wanted o (yielded ops a.tmps)=(bg == want):=by
     simp only [Region.wanted,k1,hyl]
     cases bg<;>cases want<;>rfl
    rw [hw]
    by_cases hb:bg=want
    ·subst hb
     simp only [beq_self_eq_true,if_true]
     exact core (h.1 rfl)
    ·have:(bg == want)=false:=by cases bg<;>cases want<;>first | rfl | exact absurd rfl hb
     rw [this]
     simp only [Bool.false_eq_true,if_false]
     have h2:=h.2 hb
     rw [g2] at h2
     have hput:=hst.put (dst:=o.dst) (v:=.p (.tup [])) (x:=undef) (.p _ _ (.tup [] [] rfl (by simp))) g3
     refine ⟨fun _ _=>trivial,rest _ p b ι S _ w h2 hD ?_ hpos⟩
     rw [Fr.app_ff,FF.app_val]
     exact hput
   ·exact h.elim
 ·exact h.elim
end
end Go.Abs
