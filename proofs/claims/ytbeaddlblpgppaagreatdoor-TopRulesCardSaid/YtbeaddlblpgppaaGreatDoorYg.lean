/- Part 7 of the proof of TopRules (watchtowertop). Conditions: none. -/
import Derived.Test.YtbeaddlblpgppaaGreatDoorYf
import Derived.Laws.EntriesVeiled
set_option maxRecDepth 100000
set_option maxHeartbeats 8000000
set_option linter.unusedVariables false
set_option linter.unusedSimpArgs false
set_option linter.defProp false
open Go.Lib renaming hid->E
open Go.IntKind renaming i64->I,wrap_i64->b7
open Go.Value renaming int->J,slice->O,string->ap,bool->aG,agg->aY,pointer->bl,tuple->bn
open Option renaming none->M,some->ad,map_some->tG
open Go.Addr renaming mk->ab
open Go renaming World->aB,Value->aE,Calls->aN,Addr->aX,Act->bb,TypeId->bf,Oper->bv,results->bz,bodyPost_ret->bF,maxLen->bK,Program->cp,undef->cu,yielded->dR,run_underlying->mf,heap_alloc_new->qR
open Go.Obj renaming cells->aD
open Go.Proofs.Tryz renaming prog->aH
open Nat renaming le_refl->aO,le_trans->a8,zero_le->bV,lt_of_lt_of_le->da,lt_or_ge->gy,zero_add->ig,eq_zero_or_pos->kJ,le_succ->mg,ne_of_lt->mW,mul_le_mul_right->sa,ne_of_gt->sh
open Go.Ending renaming returned->aQ
open Go.RowKit renaming Below->aS,Hid->a6
open Go.RowKit.Below renaming refl->bk,heap_setCell->yv
open List renaming mem_singleton->bD,length_append->b2,getD_eq_getElem?_getD->dd,getElem_mem->dl,mem_cons->ee,mem_map->hM,mem_append->kf,not_mem_nil->kg,map_append->lK,size_toArray->lM,append_assoc->mV,length_nil->nF,length_drop->oy,length_cons->pY,length_map->p6,take_length->pZ,drop_length->qT,mem_iff_getElem->qV,eq_nil_of_length_eq_zero->sb,map_cons->sd,length_take->tH,getElem?_eq_some_iff->yy,take_succ_eq_append_getElem->yz
open Bool renaming and_eq_true->b9,false_eq_true->tL
open Go.Region renaming wanted->dz,ready->iW
open Go.World renaming setCell->eB,size_alloc->eO,cell?_of_block->wK
open And renaming intro->iC
open Go.Instr renaming slice->iV,index->mX
open Array renaming getElem?_eq_some_iff->lJ,getElem?_eq_none->tK,replicate->tN
open Exists renaming intro->lL
open Go.Builtin renaming zeroCells->pg,append_->tI
open Go.Proofs.Tryz
namespace Go.Proofs.YtbeaddlblpgppaaGreatDoor
open Go.RowKit
variable {w:aB} {P:Prop} {v:aE} {g i n k j:Nat} {a:bb} {o oj oi:bv} {t:bf} {cs:Array aE} {Q:Exit->bb->aB->Prop} {ops:Array bv} {listed:Array Bool} {Φ:bb->aB->Prop}
inductive e7 where
 |nil
 |k (n i:Nat) (js:e7)
 |t (n i:Nat) (js:e7)
 |l7 (i:Nat) (js:e7) (j:Nat) (ks:e7)
 |zH (i:Nat) (js:e7) (j:Nat) (ks:e7) (k:Nat) (ls:e7)
abbrev e7.q:=e7.k 0
abbrev e7.p:=e7.k 1
abbrev e7.r:=e7.k 2
abbrev e7.c:=e7.t 0
abbrev e7.s:=e7.t 1
abbrev e7.z:=e7.t 2
section
variable {P:cp} {ops:Array bv} {Q:Exit->bb->aB->Prop} {R F G:aB->aB->Prop} {ss:List Nat×List Nat}
def v6 (ss:List Nat×List Nat) (j:Nat):Nat:=if ss.2.contains j then 2 else if ss.1.contains j then 1 else 0
def rR (R F:aB->aB->Prop):Nat->aB->aB->Prop
 |0=>R
 |1=>F
 |_=>λ_ _=>True
def uD (R F:aB->aB->Prop) (ss:List Nat×List Nat) (j:Nat) (w w':aB):Prop:=rR R F (v6 ss j) w w'
inductive rS (P:cp) (ops:Array bv) (R G:aB->aB->Prop) (o:bv) (v:aE) (a:bb) (b:aB):Prop|off:dz o (dR ops a.tmps)=false->v=cu->rS P ops R G o v a b|on:dz o (dR ops a.tmps)=true->(∀w,G b w->nd P R o a w v)->rS P ops R G o v a b
theorem aa0 {P:Prop} (h:P:=by
 have h3:=h2 w hw;unfold wpOp;simp only[hi];unfold nd at h3;simp only[h1,if_true,Oper.wp];generalize(execOp a.eval o).run P w=r at h3⊢;left;cases r with
 |ok n w'=>
  cases n<;>simp only[Dh] at h3;case value u=>obtain⟨rfl,rfl⟩:=h3;exact hK _ (hr _)
  case enter f args=>
   obtain⟨rfl,h4⟩:=h3;refine h4.ah ?_;rintro e w'⟨rfl,h5⟩;exact hK w' h5
 |halt x w'=>simp only[Dh] at h3
 ):P:=h
def rS.run (hr:∀w,R w w) {i:Nat} {o:bv} {v:aE} {a:bb} {b:aB} (hi:ops[i]?=ad o) (h:rS P ops R G o v a b):∀w,G b w->∀K:bb->aB->Prop,(∀w',R w w'->K (a.put o.dst v) w')->wpOp P ops Q i K a w:=by
 intro w hw K hK;have h':Calm P ops (λx y=>x=y\/R x y) o v a w->wpOp P ops Q i K a w:=λ_=>by
  cases h with
  |off h1 h2=>
   unfold wpOp;simp only[hi,h1,tL,if_false];exact h2▸hK w (hr w)
  |on h1 h2=>
   exact aa0
 by_cases c:dz o (dR ops a.tmps)=true
 ·cases h with
  |off h1 h2=>rw[c] at h1;cases h1
  |on h1 h2=>
   exact aa0
 ·cases h with
  |off h1 h2=>
   unfold wpOp;simp only[hi,h1,tL,if_false];exact h2▸hK w (hr w)
  |on h1 h2=>exact ae h1 c
def rS.of_same {d:bb} {b b':aB} (f:∀w,G b' w->G b w) (h:rS P ops R G o v a b) (g:execOp d.eval o=execOp a.eval o) (e:dz o (dR ops d.tmps)=dz o (dR ops a.tmps)):rS P ops R G o v d b':=by
 cases h with
 |off c h2=>exact .off (e.trans c) h2
 |on c h2=>exact .on (e.trans c) λw Z=>by unfold nd;rw[g];exact h2 w (f w Z)
def aky {S:aB->aB->Prop} (m:∀{a b c},G a b->G b c->G a c) (p:∀{a b},S a b->G a b) (hj:ops[j]?=ad oj) (k:oi.apart ops oj=true) (l:∀cs b,oi.op≠.select cs b) (PC:∀cs b,oj.op≠.select cs b) (hQ:∀c a w,Q (.panic c) (a.put oi.dst v) w->Q (.panic c) a w) {K:bb->aB->Prop} {a:bb} {w:aB} (hy:rS P ops R G oi v a w) (h:wpOp P ops Q j (λg w'=>S w w'/\K g w') (a.put oi.dst v) w):wpOp P ops Q j (λg w'=>S w w'/\rS P ops R G oi v g w'/\K (g.put oi.dst v) w') a w:=by
 obtain⟨h1,h2,i⟩:=Oper.apart_spec k;have keep:∀(a:bb) (w':aB),S w w'->rS P ops R G oi v a w->∀u,rS P ops R G oi v (a.put oj.dst u) w':=λa w' o hy u=>hy.of_same (λ_ Z=>m (p o) Z) (execOp_put oi l a oj.dst u i) (wanted_put oi a oj.dst u i);have Wt:∀d,rS P ops R G oi v {a with defers:=d::a.defers} w:=λd=>hy.of_same (λ_ Z=>Z) rfl rfl;unfold wpOp at*;simp only[hj] at*;rw[wanted_put oj a oi.dst v h1] at h;split
 ·exact Wr
 ·rename_i hw;simp only[hw] at h;exact⟨h.1,keep a _ h.1 hy _,aq3⟩
def B8 (P:cp) (ops:Array bv) (Q:Exit->bb->aB->Prop) (R F:aB->aB->Prop) (ss:List Nat×List Nat):Nat->Array Bool->bb->aB->Prop
 |0,listed,a,w=>iW .any ops listed=[]/\Q .normal a w
 |fuel+1,listed,a,w=>
  (iW .any ops listed=[]->Q .normal a w)/\
  ∀i∈iW .any ops listed,wpOp P ops Q i (λa' w'=>uD R F ss i w w'/\∀cT,R w' cT->B8 P ops Q R F ss fuel (listed.setIfInBounds i true) a' cT) a w
def aa1 (c:∀w,R w w):∀(fuel:Nat) (b:Array Bool) (a:bb) (w:aB),B8 P ops Q R F ss fuel b a w->wpAny P .any ops Q fuel b a w
 |0,_,_,_,h=>h
 |fuel+1,_,_,_,h=>⟨h.1,λi hi=>wpOp_mono (λd w' h'=>aa1 c fuel _ d w' (h'.2 w' (c w'))) (h.2 i hi)⟩
def aa2 (D:∀w,R w w) (q:∀{a b c},R a b->R b c->R a c) (B:∀{a b c},G a b->G b c->G a c) (z:∀{a b},R a b->G a b) {i:Nat} {d:bv} {v:aE} (hi:ops[i]?=ad d) (Y:v6 ss i=0) (A:∀(j:Nat) (o:bv) cs b,ops[j]?=ad o->o.op≠.select cs b) (V:∀c a w,Q (.panic c) (a.put d.dst v) w->Q (.panic c) a w):∀(fuel:Nat) (listed:Array Bool) (a:bb) (b:aB),(∀j m,ops[j]?=ad m->j≠i->listed.getD j true=false->(∀e∈m.after,Region.binds .any e=true->e.on≠i)->d.apart ops m=true/\∀{x y},uD R F ss j x y->G x y)->i∈iW .any ops listed->rS P ops R G d v a b->(∀w,R b w->B8 P ops Q R F ss fuel (listed.setIfInBounds i true) (a.put d.dst v) w)->∀w,R b w->B8 P ops Q R F ss (fuel+1) listed a w:=by
 have own:∀{x y:aB},R x y->uD R F ss i x y:=λh=>by unfold uD;rw[Y];exact h
 intro fuel;induction fuel with
 |zero=>
  intro listed a b _ er p H w g;refine⟨λh=>arq,λj hj=>?_⟩;by_cases f:j=i
  ·subst f;exact p.run D hi w (z g) _ (λw' n=>⟨own n,λl t=>H l (q (q g n) t)⟩)
  ·have:=ready_mono hj f;rw[(H w g).1] at this;cases this
 |succ fuel O=>
  intro listed a b L er p H w g;refine⟨λh=>arq,λj hj=>?_⟩;by_cases f:j=i
  ·subst f;exact p.run D hi w (z g) _ (λw' n=>⟨own n,λl t=>H l (q (q g n) t)⟩)
  ·have h1:=(H w g).2 j (ready_mono hj f);obtain⟨J,m,r,iY⟩:=mem_ready.1 hj;have M:∀e∈m.after,Region.binds .any e=true->e.on≠i:=λe he Z Wv=>by
    exact Wu
   have X:rS P ops R G d v a w:=p.of_same (λ_ Z=>B (z g) Z) rfl rfl;have E:=L j m r f J M;have h2:=aky (R:=R) (G:=G) (w:=w) (S:=uD R F ss j) (K:=λu w'=>∀l,R w' l->B8 P ops Q R F ss fuel ((listed.setIfInBounds i true).setIfInBounds j true) u l) B E.2 r E.1 (λcs b=>A i d cs b hi) (λcs b=>A j m cs b r) V X h1;have W:∀k ok,ops[k]?=ad ok->k≠i->(listed.setIfInBounds j true).getD k true=false->(∀e∈ok.after,Region.binds .any e=true->e.on≠i)->d.apart ops ok=true/\∀{x y},uD R F ss k x y->G x y:=λk ok U N C T=>by
    refine L k ok U N ?_ T;by_cases I:j=k
    ·subst I;exact J
    ·rw[getD_set_ne true I] at C;exact C
   refine wpOp_mono (λu w' s=>⟨s.1,?_⟩) h2;refine O (listed.setIfInBounds j true) u w' W (ready_mono er (Ne.symm f)) s.2.1 ?_;intro l n;rw[Array.setIfInBounds_comm _ _ f];exact s.2.2 l n
def Ec (P:cp) (ops:Array bv) (Q:Exit->bb->aB->Prop) (R S:aB->aB->Prop) (i:Nat) (a:bb) (b:aB) (Φ:bb->aB->Prop):Prop:=∃o,ops[i]?=ad o/\∀w,R b w->∀K:bb->aB->Prop,(∀a' w',S w w'->Φ a' w'->K a' w')->if dz o (dR ops a.tmps)=true then o.wp P a w K Q else K (a.put o.dst cu) w
def v8 (P:cp) (ops:Array bv) (Q:Exit->bb->aB->Prop) (R F:aB->aB->Prop):e7->bb->aB->Prop
 |.nil,a,b=>∀w,R b w->Q .normal a w
 |.k n i js,a,b=>∃o,ops[i]?=ad o/\(if dz o (dR ops a.tmps) then∃v,(∀w,rR R F n b w->nd P R o a w v)/\v8 P ops Q R F js (a.put o.dst v) b else v8 P ops Q R F js (a.put o.dst cu) b)
 |.t n i js,a,b=>Ec P ops Q R (rR R F n) i a b (v8 P ops Q R F js)
 |.l7 i js j ks,a,b=>Ec P ops Q R R i a b (v8 P ops Q R F js)/\Ec P ops Q R R j a b (v8 P ops Q R F ks)
 |.zH i js j ks k ls,a,b=>Ec P ops Q R R i a b (v8 P ops Q R F js)/\Ec P ops Q R R j a b (v8 P ops Q R F ks)/\Ec P ops Q R R k a b (v8 P ops Q R F ls)
def uE:e7->List Nat×List Nat
 |.nil=>([],[])
 |.k _ _ js=>uE js
 |.t 0 _ js=>uE js
 |.t 1 i js=>(i::(uE js).1,(uE js).2)
 |.t _ i js=>((uE js).1,i::(uE js).2)
 |.l7 _ js _ _=>uE js
 |.zH _ js _ _ _ _=>uE js
def rT:e7->Nat
 |.nil=>0
 |.k _ _ js=>rT js+1
 |.t _ _ js=>rT js+1
 |.l7 _ js _ _=>rT js+1
 |.zH _ js _ _ _ _=>rT js+1
def wl6 (ss:List Nat×List Nat):Nat->List Nat
 |0=>ss.1++ss.2
 |1=>ss.2
 |_=>[]
def Sv (ops:Array bv) (j i:Nat):Bool:=match ops[j]? with|some o=>o.after.any λe=>e.on==i&&Region.binds .any e|none=>false
def pL (ops:Array bv) (ss:List Nat×List Nat):e7->Array Bool->Bool
 |.nil,L=>iW .any ops L==[]
 |.k n i js,L=>Region.free .any ops L i&&(iW .any ops L).contains i&&(v6 ss i==0)&&((wl6 ss n).all λj=>L.getD j true||Sv ops j i)&&pL ops ss js (L.setIfInBounds i true)
 |.t n i js,L=>(iW .any ops L==[i])&&decide (n<=v6 ss i)&&pL ops ss js (L.setIfInBounds i true)
 |.l7 i js j ks,L=>(iW .any ops L==[i,j])&&(v6 ss i==0)&&(v6 ss j==0)&&(rT js==rT ks)&&pL ops ss js (L.setIfInBounds i true)&&pL ops ss ks (L.setIfInBounds j true)
 |.zH i js j ks k ls,L=>(iW .any ops L==[i,j,k])&&(v6 ss i==0)&&(v6 ss j==0)&&(v6 ss k==0)&&(rT js==rT ks)&&(rT js==rT ls)&&pL ops ss js (L.setIfInBounds i true)&&pL ops ss ks (L.setIfInBounds j true)&&pL ops ss ls (L.setIfInBounds k true)
def akz (h:k=0->j∉ss.1/\j∉ss.2) (a:k=1->j∉ss.2):v6 ss j<=k:=by
 unfold v6;rcases kJ k with rfl|hk
 ·rw[af (am ((h rfl).2)),af (am ((h rfl).1))];exact aO _
 ·rcases gy 1 k with h2|h2
  ·split
   ·omega
   ·split<;>omega
  ·obtain rfl:k=1:=by omega
   rw[af (am (a rfl))];split<;>omega
def Sw (d:∀{a b},R a b->F a b) {j k:Nat} (h:j<=k) {a b:aB} (c:rR R F j a b):rR R F k a b:=by
 match j,k,h with
 |0,0,_=>exact c
 |0,1,_=>exact d c
 |0,k+2,_=>exact trivial
 |1,1,_=>exact c
 |1,k+2,_=>exact trivial
 |j+2,k+2,_=>exact trivial
def aa3 (e:∀{a b c},R a b->R b c->R a c) (d:∀{a b c},F a b->F b c->F a c):∀(n:Nat) {a b c:aB},rR R F n a b->rR R F n b c->rR R F n a c
 |0,_,_,_,h,k=>e h k
 |1,_,_,_,h,k=>d h k
 |_+2,_,_,_,_,_=>trivial
def aa4 {ls:List Nat} {L:Array Bool} (g:(ls.all λj=>L.getD j true||Sv ops j i)=true) (hj:ops[j]?=ad oj) (b:L.getD j true=false) (c:∀e∈oj.after,Region.binds .any e=true->e.on≠i):j∉ls:=by
 intro f;have a:=List.all_eq_true.1 g j f;rw[b,Bool.false_or] at a;unfold Sv at a;rw[hj] at a;simp only[Array.any_eq_true'] at a;obtain⟨e,d,h2⟩:=a;rw[b9,beq_iff_eq] at h2;exact c e d h2.2 h2.1
def akA {S:aB->aB->Prop} {b:aB} {m:Nat} (d:iW .any ops listed=[i]) (h:Ec P ops Q R S i a b Φ) (n:∀{x y},S x y->uD R F ss i x y) (k:∀c w',Φ c w'->∀w,R w' w->B8 P ops Q R F ss m (listed.setIfInBounds i true) c w):∀w,R b w->B8 P ops Q R F ss (m+1) listed a w:=by
 intro w f;obtain⟨o,ho,l⟩:=h;refine⟨λh0=>ae (d.symm.trans h0) av,λj hj=>?_⟩;obtain rfl:j=i:=by rw[d] at hj;simpa using hj
 refine wpOp_step ho λs e=>?_;exact l w f s λc w' p g=>e c w' ⟨n p,λr q=>k c w' g r q⟩
theorem aa5 {P:Prop} (h:P:=by
 obtain⟨o,ho,hh⟩:=h.1;refine wpOp_step ho λK' oH=>?_;exact hh w hw K' λa' w' hR hq=>oH a' w' ⟨by unfold uD;rw[hi];exact hR,λcT eE=>Ed hr fv mC qB hs hQ js _ a' w' bg hq cT eE⟩;):P:=h
theorem aa6 {P:Prop} (h:P:=by
 refine wpOp_step ho λK' oH=>?_;exact hh w hw K' λa' w' hR hq=>oH a' w' ⟨by unfold uD;rw[hj];exact hR,λcT eE=>by rw[hl];exact Ed hr fv mC qB hs hQ ks _ a' w' bN hq cT eE⟩;):P:=h
def Ed (hr:∀w,R w w) (fv:∀{a b c},R a b->R b c->R a c) (mC:∀{a b c},F a b->F b c->F a c) (qB:∀{a b},R a b->F a b) (hs:Region.noSelect ops=true) (hQ:∀(i:Nat) (o:bv),ops[i]?=ad o->∀c a v w,Q (.panic c) (Act.put a o.dst v) w->Q (.panic c) a w):∀(js:e7) (d:Array Bool) (a:bb) (b:aB),pL ops ss js d=true->v8 P ops Q R F js a b->∀w,R b w->B8 P ops Q R F ss (rT js) d a w
 |.nil,d,a,b,hB,h,w,hw=>⟨by simpa[pL] using hB,h w hw⟩
 |.k n i js,d,a,b,hB,h,w,hw=>by
  simp only[pL,b9,beq_iff_eq] at hB
  obtain⟨⟨⟨⟨M,C⟩,E⟩,D⟩,B⟩:=hB
  obtain⟨o,ho,h⟩:=h
  have I:∀j f,ops[j]?=ad f->j≠i->d.getD j true=false->(∀e∈f.after,Region.binds .any e=true->e.on≠i)->o.apart ops f=true/\∀{x y},uD R F ss j x y->rR R F n x y:=λj f hj J p r=>by
   refine⟨Region.free_spec ho M j f hj J p r,λ{x y} hl=>Sw qB (akz ?_ ?_) hl⟩
   ·intro hn;subst hn;have l:=aa4 D hj p r;exact⟨λu=>l (kf.2 (.inl u)),λu=>l (kf.2 (.inr u))⟩
   ·intro hn;subst hn;exact aa4 D hj p r
  have H:∀{x y},R x y->rR R F n x y:=λs=>Sw qB (bV n) (j:=0) s
  by_cases m:dz o (dR ops a.tmps)=true
  ·rw[ag m] at h;obtain⟨v,l,h2⟩:=h;exact aa2 (G:=rR R F n) hr fv (aa3 (R:=R) (F:=F) fv mC n) H ho E (Region.noSelect_spec hs) (λc a w=>hQ i o ho c a _ w) _ d a b I (am C) (.on m l) (λw' z=>Ed hr fv mC qB hs hQ js _ _ b B h2 w' z) w hw
  ·rw[af m] at h;exact aa2 (G:=rR R F n) hr fv (aa3 (R:=R) (F:=F) fv mC n) H ho E (Region.noSelect_spec hs) (λc a w=>hQ i o ho c a _ w) _ d a b I (am C) (.off (am m) rfl) (λw' z=>Ed hr fv mC qB hs hQ js _ _ b B h w' z) w hw
 |.t n i js,d,a,b,hB,h,w,hw=>by
  simp only[pL,b9,beq_iff_eq,decide_eq_true_eq] at hB
  exact akA hB.1.1 h (λ{x y} s=>by unfold uD;exact Sw qB hB.1.2 s) (λa' w' L=>Ed hr fv mC qB hs hQ js _ a' w' hB.2 L) w hw
 |.l7 i js j ks,d,a,b,hB,h,w,hw=>by
  simp only[pL,b9,beq_iff_eq] at hB
  obtain⟨⟨⟨⟨⟨h2,hi⟩,hj⟩,hl⟩,bg⟩,bN⟩:=hB
  refine⟨λh0=>ae (h2.symm.trans h0) av,λk g=>?_⟩
  rw[h2] at g
  simp only[ee,kg,or_false] at g
  rcases g with rfl|rfl
  ·exact aa5
  ·obtain⟨o,ho,hh⟩:=h.2;exact aa6
 |.zH i js j ks k ls,d,a,b,hB,h,w,hw=>by
  simp only[pL,b9,beq_iff_eq] at hB
  obtain⟨⟨⟨⟨⟨⟨⟨⟨h2,hi⟩,hj⟩,g⟩,hl⟩,K⟩,bg⟩,bN⟩,N⟩:=hB
  refine⟨λh0=>ae (h2.symm.trans h0) av,λq hq=>?_⟩
  rw[h2] at hq
  simp only[ee,kg,or_false] at hq
  rcases hq with rfl|rfl|rfl
  ·exact aa5
  ·obtain⟨o,ho,hh⟩:=h.2.1;exact aa6
  ·obtain⟨o,ho,hh⟩:=h.2.2;refine wpOp_step ho λK' oH=>?_;exact hh w hw K' λa' w' hR hq=>oH a' w' ⟨by unfold uD;rw[g];exact hR,λcT eE=>by rw[K];exact Ed hr fv mC qB hs hQ ls _ a' w' N hq cT eE⟩
structure S6 (P:cp) (ops:Array bv) (Q:Exit->bb->aB->Prop) (R F:aB->aB->Prop) (js:e7) (a:bb) (b:aB):Prop where
 A:v8 P ops Q R F js a b
def S6.bh {b:aB} (h:∀w,R b w->Q .normal a w):S6 P ops Q R F .nil a b:=⟨h⟩
def S6.k_ {js:e7} {b:aB} (h:∀K:bb->Prop,(∀c,S6 P ops Q R F js c b->K c)->if dz o (dR ops a.tmps) then∃v,(∀w,rR R F n b w->nd P R o a w v)/\K (a.put o.dst v) else K (a.put o.dst cu)) (ho:ops[i]?=ad o):S6 P ops Q R F (.k n i js) a b:=⟨⟨o,ho,h (λc=>v8 P ops Q R F js c b) λc h'=>h'.A⟩⟩
def S6.q {js:e7} {b:aB} (h:∀K:bb->Prop,(∀c,S6 P ops Q R F js c b->K c)->if dz o (dR ops a.tmps) then∃v,(∀w,R b w->nd P R o a w v)/\K (a.put o.dst v) else K (a.put o.dst cu)) (ho:ops[i]?=ad o:=by rfl):S6 P ops Q R F (.k 0 i js) a b:=S6.k_ (n:=0) h ho
def S6.p {js:e7} {b:aB} (h:∀K:bb->Prop,(∀c,S6 P ops Q R F js c b->K c)->if dz o (dR ops a.tmps) then∃v,(∀w,F b w->nd P R o a w v)/\K (a.put o.dst v) else K (a.put o.dst cu)) (ho:ops[i]?=ad o:=by rfl):S6 P ops Q R F (.k 1 i js) a b:=S6.k_ (n:=1) h ho
def S6.r {js:e7} {b:aB} (h:∀K:bb->Prop,(∀c,S6 P ops Q R F js c b->K c)->if dz o (dR ops a.tmps) then∃v,(∀w,True->nd P R o a w v)/\K (a.put o.dst v) else K (a.put o.dst cu)) (ho:ops[i]?=ad o:=by rfl):S6 P ops Q R F (.k 2 i js) a b:=S6.k_ (n:=2) h ho
def S6.t_ {js:e7} {b:aB} (h:∀w,R b w->∀K:bb->aB->Prop,(∀c w',rR R F n w w'->S6 P ops Q R F js c w'->K c w')->if dz o (dR ops a.tmps)=true then o.wp P a w K Q else K (a.put o.dst cu) w) (ho:ops[i]?=ad o):S6 P ops Q R F (.t n i js) a b:=⟨⟨o,ho,λw d K f=>h w d K λc w' e hs=>f c w' e hs.A⟩⟩
def S6.c {js:e7} {b:aB} (h:∀w,R b w->∀K:bb->aB->Prop,(∀c w',R w w'->S6 P ops Q R F js c w'->K c w')->if dz o (dR ops a.tmps)=true then o.wp P a w K Q else K (a.put o.dst cu) w) (ho:ops[i]?=ad o:=by rfl):S6 P ops Q R F (.t 0 i js) a b:=S6.t_ (n:=0) h ho
def S6.s {js:e7} {b:aB} (h:∀w,R b w->∀K:bb->aB->Prop,(∀c w',F w w'->S6 P ops Q R F js c w'->K c w')->if dz o (dR ops a.tmps)=true then o.wp P a w K Q else K (a.put o.dst cu) w) (ho:ops[i]?=ad o:=by rfl):S6 P ops Q R F (.t 1 i js) a b:=S6.t_ (n:=1) h ho
def S6.z {js:e7} {b:aB} (h:∀w,R b w->∀K:bb->aB->Prop,(∀c w',S6 P ops Q R F js c w'->K c w')->if dz o (dR ops a.tmps)=true then o.wp P a w K Q else K (a.put o.dst cu) w) (ho:ops[i]?=ad o:=by rfl):S6 P ops Q R F (.t 2 i js) a b:=S6.t_ (n:=2) (λw d K e=>h w d K λc w' hs=>e c w' trivial hs) ho
def S6.l7 {js ks:e7} {b:aB} (hi:ops[i]?=ad oi) (hj:ops[j]?=ad oj) (g:∀w,R b w->∀K:bb->aB->Prop,(∀c w',R w w'->S6 P ops Q R F js c w'->K c w')->if dz oi (dR ops a.tmps)=true then oi.wp P a w K Q else K (a.put oi.dst cu) w) (h2:∀w,R b w->∀K:bb->aB->Prop,(∀c w',R w w'->S6 P ops Q R F ks c w'->K c w')->if dz oj (dR ops a.tmps)=true then oj.wp P a w K Q else K (a.put oj.dst cu) w):S6 P ops Q R F (.l7 i js j ks) a b:=⟨⟨⟨oi,hi,λw d K f=>g w d K λc w' e hs=>f c w' e hs.A⟩,⟨oj,hj,λw d K f=>h2 w d K λc w' e hs=>f c w' e hs.A⟩⟩⟩
def S6.zH {js ks ls:e7} {ok:bv} {b:aB} (hi:ops[i]?=ad oi) (hj:ops[j]?=ad oj) (g:ops[k]?=ad ok) (l:∀w,R b w->∀K:bb->aB->Prop,(∀c w',R w w'->S6 P ops Q R F js c w'->K c w')->if dz oi (dR ops a.tmps)=true then oi.wp P a w K Q else K (a.put oi.dst cu) w) (h2:∀w,R b w->∀K:bb->aB->Prop,(∀c w',R w w'->S6 P ops Q R F ks c w'->K c w')->if dz oj (dR ops a.tmps)=true then oj.wp P a w K Q else K (a.put oj.dst cu) w) (h:∀w,R b w->∀K:bb->aB->Prop,(∀c w',R w w'->S6 P ops Q R F ls c w'->K c w')->if dz ok (dR ops a.tmps)=true then ok.wp P a w K Q else K (a.put ok.dst cu) w):S6 P ops Q R F (.zH i js j ks k ls) a b:=⟨⟨⟨oi,hi,λw d K f=>l w d K λc w' e hs=>f c w' e hs.A⟩,⟨oj,hj,λw d K f=>h2 w d K λc w' e hs=>f c w' e hs.A⟩,⟨ok,g,λw d K f=>h w d K λc w' e hs=>f c w' e hs.A⟩⟩⟩
def aa7 {k:Nat} {l:List bv} (R F:aB->aB->Prop) (f:∀w,R w w) (q:∀{a b c},R a b->R b c->R a c) (j:∀{a b c},F a b->F b c->F a c) (g:∀{a b},R a b->F a b) (js:e7) (n:R w w.drew) (h:S6 P l.toArray Q R F js a w) (m:P.follows .mixedOrders=true:=by kernel_rfl) (hB:(Region.noSelect l.toArray&&pL l.toArray (uE js) js (tN l.toArray.size false)&&(rT js==l.toArray.size))=true:=by kernel_rfl) (p:∀o∈l,∀c a v w,Q (.panic c) (Act.put a o.dst v) w->Q (.panic c) a w:=by exact apB ar):(Code.region k l.toArray true).wp P Q a w:=by
 simp only[b9,beq_iff_eq] at hB;obtain⟨⟨hs,e⟩,h2⟩:=hB;refine wp_region_any m ?_;have d:=aa1 f _ _ _ _ (Ed (R:=R) (F:=F) (ss:=uE js) f (λe h2=>q e h2) (λe h2=>j e h2) (λh=>g h) hs (λi o hi c a v w h=>p o (by simpa using List.mem_of_getElem? (by simpa using hi:l[i]?=ad o)) c a v w h) js _ a w e h.A w.drew n);rw[h2] at d;exact d
def wa {i:Nat} {l:List bv} (R F:aB->aB->Prop) (j:∀w,R w w) (p:∀{a b c},R a b->R b c->R a c) (g:∀{a b c},F a b->F b c->F a c) (f:∀{a b},R a b->F a b) (js:e7) (m:R w w.drew) (h:S6 P l.toArray Q R F js a w) (k:P.follows .mixedOrders=true:=by kernel_rfl) (hB:(Region.noSelect l.toArray&&pL l.toArray (uE js) js (tN l.toArray.size false)&&(rT js==l.toArray.size))=true:=by kernel_rfl) (n:∀c a d v w,Q (.panic c) (Act.put a d v) w->Q (.panic c) a w:=by intro _ _ oI _ _ h;cases oI<;>exact h):(Code.region i l.toArray true).wp P Q a w:=aa7 R F j (λe h2=>p e h2) (λe h2=>g e h2) (λh=>f h) js m h k hB (λo _ c a v w h=>n c a o.dst v w h)
def aa8 (D:List Deferred) (ps:List (Nat×aE)) (Pp:List PanicEntry->aB->Prop) (Q:Exit->bb->aB->Prop):Exit->bb->aB->Prop
 |.normal,a,w=>Q .normal a w
 |.panic c,a,w=>a.defers=D/\(∀p∈ps,a.tmps.getD p.1 cu=p.2)/\Pp c w
 |_,_,_=>False
def akB {c:Code} {D:List Deferred} {ps:List (Nat×aE)} {Pp:List PanicEntry->aB->Prop} (b:∀c a w,a.defers=D->(∀p∈ps,a.tmps.getD p.1 cu=p.2)->Pp c w->Q (.panic c) a w) (h:c.wp P (aa8 D ps Pp Q) a w):c.wp P Q a w:=wp_mono h λe a w h=>by cases e<;>first|exact h|exact h.elim|exact b _ _ _ h.1 h.2.1 h.2.2
def apB {l:List bv} {D:List Deferred} {ps:List (Nat×aE)} {Pp:List PanicEntry->aB->Prop} (i:(l.all λo=>ps.all λp=>o.dst !=ad p.1)=true):∀o∈l,∀c a v w,aa8 D ps Pp Q (.panic c) (Act.put a o.dst v) w->aa8 D ps Pp Q (.panic c) a w:=by
 rintro o ho c a v w⟨g,h2,j⟩;have hn:=List.all_eq_true.1 i o ho;refine⟨?_,λp e=>?_,j⟩
 ·cases b:o.dst<;>rw[b] at g<;>exact g
 ·have h4:=h2 p e;have f:=List.all_eq_true.1 hn p e;cases b:o.dst with
  |none=>rw[b] at h4;exact h4
  |some d=>
   rw[b] at h4 f;have k:d≠p.1:=am f;rw[<-h4];simp only[Act.put];rw[Array.getD_eq_getD_getElem?,Array.getD_eq_getD_getElem?,Array.getElem?_setIfInBounds_ne k]
attribute [go_sem] aa8
end
structure Gy (r:Nat) (W:aB) where
 aL:aB
 gr:W.grownBy aL (ad r)
instance (r:Nat) (W:aB):Inhabited (Gy r W):=⟨⟨W,grown_of (bk _ _)⟩⟩
def jT (r:Nat) (w w':aB):Prop:=∃p:Gy r w,w'=p.aL
def jT.trans {r:Nat} {a b c:aB} (h:jT r a b) (k:jT r b c):jT r a c:=by
 obtain⟨p,rfl⟩:=h;obtain⟨q,rfl⟩:=k;exact⟨⟨q.aL,bB p.gr q.gr⟩,rfl⟩
def jT.of {r:Nat} {a b:aB} (h:aF a b):jT r a b:=⟨⟨b,grown_of h.aC⟩,rfl⟩
def jT.gr {r:Nat} {a b:aB} (h:a.grownBy b (ad r)):jT r a b:=⟨⟨b,h⟩,rfl⟩
def Gy.cells {r:Nat} (h:aI w g t cs) (a:g≠r) (i:Nat):∀p:Gy r w,p.aL.cell? (ab g i M)=cs[i]?:=λp=>(h.gr p.gr a).cell i
attribute [go_sem] jT
def jT.refl {r:Nat} (w:aB):jT r w w:=⟨⟨w,grown_of (bk _ _)⟩,rfl⟩
def jT.drew {r:Nat} (w:aB):jT r w w.drew:=.of (aF.drew w)
def xJ (_ _:aB):Prop:=True
def xJ.trans {a b c:aB} (_:xJ a b) (_:xJ b c):xJ a c:=trivial
def xJ.of {a b:aB} (_:aF a b):xJ a b:=trivial
attribute [go_sem] xJ
def dq (i:Nat):Nat->e7->e7
 |0,t=>t
 |n+1,t=>.q i (dq (i+1) n t)
def hb {P:cp} {b:Nat} {l:List bv} (js:e7) (h:S6 P l.toArray Q aF xJ js a w) (e:P.follows .mixedOrders=true:=by kernel_rfl) (hB:(Region.noSelect l.toArray&&pL l.toArray (uE js) js (tN l.toArray.size false)&&(rT js==l.toArray.size))=true:=by kernel_rfl) (f:∀c a d v w,Q (.panic c) (Act.put a d v) w->Q (.panic c) a w:=by intro _ _ oI _ _ h;cases oI<;>exact h):(Code.region b l.toArray true).wp P Q a w:=wa aF xJ aF.refl aF.trans xJ.trans (λ_=>trivial) js (aF.drew _) h e hB f
def S6.nb {P:cp} {F:aB->aB->Prop} {b:aB} (h:∀w,aS b.heap.size b w->Q .normal a w):S6 P ops Q aF F .nil a b:=⟨λw c=>h w c.aC⟩
theorem bP {Q:Prop} (k:Q) (h:a6 Q->P:=by
 intro nf;repeat (
  (first|refine S6.q (λKK aJ=>?_)|refine S6.p (λKK aJ=>?_)|refine S6.r (λKK aJ=>?_));go_simp;refine aJ _ ?_;clear aJ KK)
 exact nf.A):P:=h k
variable {B:Nat} {ao:Option aX} {wr:aB}
open bw
def Rw.Gu {l:List eQ} (h:Rw eR w B ao n l) (hB:aS w.heap.size w wr) {k:Nat} (a:k<l.length):∃b off A0 c0,ao=ad (ab b off M)/\b<w.heap.size/\wr.cell? ⟨b,off+k*2,M⟩=ad (O A0 (dH l k).length c0)/\wr.cell? ⟨b,off+k*2+1,M⟩=ad (J I (jm l k))/\Vs bE wr B (O A0 (dH l k).length c0) (dH l k):=by
 obtain⟨b,off,vs,e,Z,d,h2⟩:=h.aL hB a;rw[<-dr a] at d;obtain⟨v0,rfl,c⟩:=d;obtain⟨A0,c0,rfl,_⟩:=c.be;exact⟨b,off,A0,c0,e,Z,h2 0 _ rfl,h2 1 _ rfl,c⟩
def abw {a:List eQ} (w:aB) (h:Vs eR w B v a):aN aH 27 #[v] w λe w'=>e=aQ (aG (jy a))/\aF w w':=by
 obtain⟨ao,cap,rfl,D,hl,hc⟩:=h.be;have L:=E D;clear h D;have l:=E (show jy a=(decide (a.length<=64)&&cI a.length (xy a)) from rfl);have V:=E (λk=>(show xy a k=(bH (dH a k)&&et (jm a k)&&(k==0||decide (cmpL (dH a (k-1)) (dH a k)<0))) from rfl));generalize jy a=r at l⊢;by_cases H:a.length<=64;case neg=>
  have HS:=E (show r=false by rw[l.A];simp[H]);go_enter func27,ntmps27;go_wp2;go_ret;exact⟨cc HS.A.symm,aF.refl _⟩
 have G:=E (show r=cI a.length (xy a) by rw[l.A];simp[H]);have T:=E (λk (C:k<a.length) (h:xy a k=false)=>(show r=false by rw[G.A,tV C h]));clear l;go_enter func27,ntmps27;go_wp2;go_loopw [10] (λi wr=>∃k:Nat,k<=a.length/\i=J I k/\a6 (cI k (xy a)=true)/\aF w wr) (λi _=>a.length-(intOf i).toNat);case atStart=>exact⟨0,an,rfl,E rfl,aF.refl _⟩
 case round=>
  obtain⟨k,C,rfl,K,hB⟩:=hrel;by_cases g:k<a.length
  ·obtain⟨b,off,A0,c0,rfl,cw,y0,y1,q⟩:=L.A.Gu hB.aC g;have HK:=E (V.A k);have f:=E (T.A k g);have F:=E (λh=>wW K.A (P:=xy a) h);have aR:=E g;have o:=E (hB.alloc (aD #[O A0 (dH a k).length c0,J I (jm a k)] 119));have hq:=aI.new wr 119 #[O A0 (dH a k).length c0,J I (jm a k)];have n:=(bk wr.heap.size wr).alloc (aO _) (aD #[O A0 (dH a k).length c0,J I (jm a k)] 119);have d:=E (Iy _ (q.al n));have y:=E (q.al n);have s:=E hq;clear q n hq g;generalize W:bH (dH a k)=x1 at d HK;clear W;cases x1;case false=>
    have HS:=E (show r=false from f.A aqm);go_wp2_with fail;refine d.A.ah ?_;rintro e w1⟨rfl,Z⟩;have bL:=E (o.A.next Z);clear Z;exact y9
   go_wp2_with fail;refine d.A.ah ?_;rintro e m⟨rfl,Z⟩;have bL:=E (o.A.next Z);have q2:=s.A.al Z s.A.lt;have X:=E (y.A.al Z);clear Z d y s o;have g1:=q2.cell 1;have t:et (jm a k)=(decide (0<=jm a k)&&decide (jm a k<=9007199254740992)):=rfl;rw[t] at HK;clear t;by_cases s0:0<=jm a k;case neg=>
    have HS:=E (show r=false from f.A (by rw[HK.A,aa s0];rfl));have d0:decide (jm a k<0)=true:=ac an;generalize jm a k=sx at*;exact y9
   by_cases s1:jm a k<=9007199254740992;case neg=>
    have HS:=E (show r=false from f.A aqZ);have d0:decide (jm a k<0)=false:=aa an;have d1:decide (9007199254740992<jm a k)=true:=ac an;generalize jm a k=sx at*;exact y9
   have c:=E (show xy a k=(k==0||decide (cmpL (dH a (k-1)) (dH a k)<0)) by rw[HK.A,ac s0,ac s1];rfl);have d0:decide (jm a k<0)=false:=aa an;have d1:decide (9007199254740992<jm a k)=false:=aa an;have Y:∀p:ba m,p.aL.cell? (ab wr.heap.size 0 M)=ad (O A0 (dH a k).length c0):=ba.cells q2 0;clear HK s0 s1 q2;generalize jm a k=sx at*;go_wp2_with fail;clear d0 d1 g1;by_cases c3:k=0;case pos=>
    have HN:=E (F.A (by rw[c.A,c3];rfl));have S:decide (0<k)=false:=aa an;clear c3;refine du (cU 0 14 []) [] ?_;exact QT
   obtain⟨j,hj⟩:=aP (k-1);have S:0<k:=an;have R:j<a.length:=ai aR.A;have eV:I.wrap (j:Int)=(j:Int):=ay;have q7:(k:Int)-1=(j:Int):=an;obtain⟨b',tP,Fw,DA,U,LR,N,_,u⟩:=L.A.Gu bL.A.aC R;cases U;have z0:=λp:ba m=>p.cell aqO N;have CC:=E (λp:ba m=>LK p.aL (u.al p.aC) (X.A.al p.aC));rw[hj] at c;have z:(k==0)=false:=aw;rw[z] at c;clear hj N z u;by_cases c4:cmpL (dH a j) (dH a k)<0
   ·have HN:=E (F.A (by rw[c.A,ac c4];rfl));have c5:decide (0<=cmpL (dH a j) (dH a k))=false:=aa an;clear c4 c;generalize cmpL (dH a j) (dH a k)=tY at*;refine du (cU 0 14 []) [] ?_;exact QR
   ·have HS:=E (show r=false from f.A (by rw[c.A,aa c4];rfl));have c5:decide (0<=cmpL (dH a j) (dH a k))=true:=ac an;clear c4 c;generalize cmpL (dH a j) (dH a k)=tY at*;refine du (cU 0 14 []) [] ?_;repeat (
     refine S4.step (λKK aJ=>?_);go_simp;first
      |(refine aJ _ ?_;clear aJ KK)
      |(apply lL;refine⟨λ_=>?_,aJ _ ?_⟩;(with_reducible exact aN.seq (CC.A _));clear aJ KK))
    refine S4.nb λwq hq=>?_;refine dP ?_;go_wp2;go_ret;exact⟨cc HS.A.symm,bL.A.next hq⟩
  ·have HS:=E (show r=true by rw[G.A,<-show k=a.length by omega];exact K.A);obtain rfl:k=a.length:=an;go_wp2;go_ret;exact⟨cc HS.A.symm,hB⟩
variable {L:aZ} {base:Nat} {vb:aE}
section
open im (dT fe)
def bQ.vs {o:List UInt8} (h:bQ w base 5 v o):Ow fF w B base v o:=by
 refine⟨o.map ca,?_,h⟩;clear h;induction o with
 |nil=>exact .nil
 |cons a o b=>
  have:(a::o).map ca=[ca a]++o.map ca:=rfl;rw[this];exact .cons rfl b
def l9 (h:n<=1152921504606846976):(bu n).length<=9:=ph 8 n (pj n h)
def z8 {o:List UInt8} (m:Int) (w:aB) (ho:bQ w 0 5 vb o) (b:o.length<=70368744177664) (a:0<=m/\m<=1152921504606846976):aN aH 117 #[vb,J I m] w λe w'=>(∃v,e=aQ v/\bQ w' 0 5 v (o++bu m.toNat))/\aS w.heap.size w w':=by
 obtain⟨ao,n,c,rfl,Z,d,f⟩:=ho.bs;refine(yF ao n c o m w (by rw[<-Z.len];exact b) Z).ah ?_;rintro e w'⟨⟨v,rfl,h⟩,Z⟩;refine⟨⟨v,rfl,?_⟩,Z⟩;unfold mm at h;rw[ag a] at h;exact h.less (bV _)
def abY {o:List UInt8} (s:ByteArray) (w:aB) (ho:bQ w 0 5 vb o) (a:o.length<=70368744177664) (hs:s.size<=65536):aN aH 120 #[vb,ap s] w λe w'=>(∃v,e=aQ v/\bQ w' 0 5 v (o++oU s))/\aS w.heap.size w w':=by
 obtain⟨ao,n,c,rfl,Z,b,d⟩:=ho.bs;refine(afL ao n c o s w (by rw[<-Z.len];exact a) an Z).ah ?_;rintro e w'⟨⟨v,rfl,h⟩,Z⟩;refine⟨⟨v,rfl,?_⟩,Z⟩;unfold tR at h;rw[ag hs] at h;unfold oU;rw[<-mV];exact h.less (bV _)
def alB {o:List UInt8} (m:Int) (w:aB) (ho:bQ w 0 5 vb o) (b:o.length<=70368744177664) (a:-576460752303423488<=m/\m<=576460752303423488):aN aH 161 #[vb,J I m] w λe w'=>(∃v,e=aQ v/\bQ w' 0 5 v (o++bu (encI m)))/\aS w.heap.size w w':=by
 obtain⟨ao,n,c,rfl,Z,d,f⟩:=ho.bs;refine(afF ao n c o m w (by rw[<-Z.len];exact b) Z).ah ?_;rintro e w'⟨⟨v,rfl,h⟩,Z⟩;refine⟨⟨v,rfl,?_⟩,Z⟩;unfold Lp at h;rw[ag a] at h;exact h.less (bV _)
def NW {vl:aE} {o:List UInt8} (w:aB) (ho:bQ w 0 5 vb o) (a:0<o.length/\o.length<=1099511627776) (hv:Vs bE w B vl L) (hs:bH L=true):aN aH 116 #[vb,vl] w λe w'=>(∃v,e=aQ v/\bQ w' 0 5 v (o++kx L))/\aS w.heap.size w w':=by
 obtain⟨ao,n,c,rfl,Z,d,g⟩:=ho.bs;obtain⟨A2,c2,rfl,b,f,h2⟩:=hv.hN;refine(Re ao n c o A2 L.length c2 L w (by rw[<-Z.len];exact a.2) d (.inr (by rw[<-Z.len];exact a.1)) an Z b).ah ?_;rintro e w'⟨⟨v,rfl,h⟩,Z⟩;refine⟨⟨v,rfl,?_⟩,Z⟩;unfold oR at h;rw[ag hs] at h;exact h.less (bV _)
def NX (h:bH L=true):(kx L).length<=3300:=by
 have hs:=yR.1 h;unfold kx;rw[b2];have a:=l9 (n:=L.length) (ai hs.1);have h2:=Rc L (λi hi=>⟨(hs.2 i hi).1.2.1,(hs.2 i hi).2.1⟩) L.length (aO _);rw[pZ] at h2;have:=hs.1;omega
def alC {a:b8} (c:bH a.L=true) (h2:fe a.h=true) (b:0<=a.st/\a.st<=2):(mF a).length<=3400:=by
 have hs:=Ro b;have Z:0<=a.h.dB/\a.h.dB<=9007199254740992/\0<=a.h.eW/\a.h.eW<=9007199254740992:=by
  exact Rp
 have hv:=Rm a.v;unfold mF;simp only[b2];have i:=NX c;have g:=l9 (n:=(um a).toNat) an;have f:=l9 (n:=a.h.dB.toNat) an;have d:=l9 (n:=a.h.eW.toNat) an;have e:=l9 (n:=encI (zm a.v)) (by unfold encI;split<;>omega);omega
def Tk (w:aB) (B:Nat) (v:aE) (x:b8):Prop:=Av dV w B x v
structure AOk (a:b8):Prop where
 l:bH a.L=true
 h:fe a.h=true
 s:0<=a.st/\a.st<=2
theorem NY (h:P:=by
 have hp:=z8 si _ HO.A (by rw[b2,b2];have:=HN.A.2.2.2;have:=tm.A;omega) (ai HN.A.2.1);go_wp2_with fail;refine(hp).ah ?_;rintro e wz⟨⟨rZ,rfl,c6⟩,Z⟩;replace HX:=E (HX.A.al Z HX.A.lt);replace HB:=E (HB.A.trans (aF.of Z));replace HO:=E c6;clear hp c6 Z g0;have g0:=HX.A.cell;have lq:=E (show(bu si.toNat).length<=9 from l9 (ai HN.A.2.1));have hp:=z8 fi _ HO.A (by rw[b2,b2,b2];have:=HN.A.2.2.2;have:=tm.A;have:=lq.A;omega) (ai HN.A.2.1);go_wp2_with fail;refine(hp).ah ?_;rintro e wz⟨⟨rZ,rfl,c6⟩,Z⟩;replace HX:=E (HX.A.al Z HX.A.lt);replace HB:=E (HB.A.trans (aF.of Z));replace HO:=E c6;clear hp c6 Z g0;have g0:=HX.A.cell;have I1:=E (show(bu fi.toNat).length<=9 from l9 (ai HN.A.2.1));have hp:=alB jg _ HO.A (by rw[b2,b2,b2,b2];have:=HN.A.2.2.2;have:=tm.A;have:=lq.A;have:=I1.A;omega) HN.A.2.2.1;go_wp2_with fail;refine(hp).ah ?_;rintro e wz⟨⟨rZ,rfl,c6⟩,Z⟩;replace HX:=E (HX.A.al Z HX.A.lt);replace HB:=E (HB.A.trans (aF.of Z));replace HO:=E c6;clear hp c6 Z g0;go_wp2;go_ret;exact⟨⟨_,rfl,by rw[HE.A];have nu:=HO.A;simp only[mV] at nu⊢;exact nu⟩,HB.A⟩;):P:=h
def alD {va:aE} {o:List UInt8} {a:b8} (w:aB) (ho:bQ w 0 5 vb o) (p:0<o.length/\o.length<=1000000000) (hv:Tk w B va a) (f:AOk a):aN aH 121 #[vb,va] w λe w'=>(∃v,e=aQ v/\bQ w' 0 5 v (o++mF a))/\aF w w':=by
 obtain⟨cs,rfl,v0,rfl,n⟩:=hv;obtain⟨A0,c0,rfl,_⟩:=n.be;have hs:=Ro f.s;have Z:0<=a.h.dB/\a.h.dB<=9007199254740992/\0<=a.h.eW/\a.h.eW<=9007199254740992:=by
  have h2:=f.h;exact Rp
 have b5:=Rm a.v;have s:=NX f.l;have HE:=E (show mF a=kx a.L++bu (um a).toNat++bu a.h.dB.toNat++bu a.h.eW.toNat++bu (encI (zm a.v)) from rfl);have k:=E f.l;have y:=f.s;have b:=E (show um a=a.st+(if a.h.on=true then 4 else 0)+(if a.h.hit=true then 8 else 0) from rfl);have i:=E (show zm a.v=min (max a.v (-576460752303423488)) 576460752303423488 from rfl);generalize mF a=r at HE⊢;generalize um a=uX at*;generalize zm a.v=jg at*;obtain⟨L,⟨on,si,hi,fi⟩,st,j⟩:=a;dsimp only at*;clear f;have l:=(bk w.heap.size w).alloc (aO _) (aD #[O A0 L.length c0,aG on,J I si,aG hi,J I fi,J I st,J I j] 62);have HB:=E (aF.of l);have HX:=E (aI.new w 62 #[O A0 L.length c0,aG on,J I si,aG hi,J I fi,J I st,J I j]);have HO:=E (ho.al l);have m:=E (n.al l);have HN:=E (iC hs (iC Z (iC b5 (iC s p))));have u:I.wrap (st+4)=st+4:=ay;have t:I.wrap (st+8)=st+8:=ay;have z:I.wrap (st+4+8)=st+4+8:=ay;obtain⟨q,C⟩:=aP (max j (-576460752303423488));have F:∀(g:Array bf) (ty:bf) (W:aB),(Builtin.max_ g ty #[J I j,J I (-576460752303423488)]).run aH W= .ok (J I q) W:=λg ty W=>by
  rw[run_max_int2];congr 2;split<;>omega
 have D:∀(g:Array bf) (ty:bf) (W:aB),(Builtin.min_ g ty #[J I q,J I 576460752303423488]).run aH W= .ok (J I jg) W:=λg ty W=>by
  rw[run_min_int2];have:=i.A;congr 2;split<;>omega
 clear hs Z b5 s p ho n l y C;cases on<;>cases hi
 ·skip;have d:=E (show uX=st by have:=b.A;simp at this;omega);have c:=d.A.symm;subst c;have g0:=HX.A.cell;clear b i;go_enter func121,ntmps121;have hp:=NW _ HO.A ⟨HN.A.2.2.2.2.1,ai HN.A.2.2.2.2.2⟩ m.A k.A;go_wp2_with fail;refine(hp).ah ?_;rintro e wz⟨⟨rZ,rfl,c6⟩,Z⟩;replace HX:=E (HX.A.al Z HX.A.lt);replace HB:=E (HB.A.trans (aF.of Z));replace HO:=E c6;clear hp c6 Z g0;have g0:=HX.A.cell;have hp:=z8 (st) _ HO.A aqR (ai HN.A.1);go_wp2_with fail;refine(hp).ah ?_;rintro e wz⟨⟨rZ,rfl,c6⟩,Z⟩;replace HX:=E (HX.A.al Z HX.A.lt);replace HB:=E (HB.A.trans (aF.of Z));replace HO:=E c6;clear hp c6 Z g0;have g0:=HX.A.cell;have tm:=E (show(bu (st).toNat).length<=9 from l9 (ai HN.A.1));exact NY
 ·skip;have d:=E (show uX=st+8 by have:=b.A;simp at this;omega);have c:=d.A.symm;subst c;have g0:=HX.A.cell;clear b i;go_enter func121,ntmps121;have hp:=NW _ HO.A ⟨HN.A.2.2.2.2.1,ai HN.A.2.2.2.2.2⟩ m.A k.A;go_wp2_with fail;refine(hp).ah ?_;rintro e wz⟨⟨rZ,rfl,c6⟩,Z⟩;replace HX:=E (HX.A.al Z HX.A.lt);replace HB:=E (HB.A.trans (aF.of Z));replace HO:=E c6;clear hp c6 Z g0;have g0:=HX.A.cell;have hp:=z8 (st+8) _ HO.A aqR (ai HN.A.1);go_wp2_with fail;refine(hp).ah ?_;rintro e wz⟨⟨rZ,rfl,c6⟩,Z⟩;replace HX:=E (HX.A.al Z HX.A.lt);replace HB:=E (HB.A.trans (aF.of Z));replace HO:=E c6;clear hp c6 Z g0;have g0:=HX.A.cell;have tm:=E (show(bu (st+8).toNat).length<=9 from l9 (ai HN.A.1));exact NY
 ·skip;have d:=E (show uX=st+4 by have:=b.A;simp at this;omega);have c:=d.A.symm;subst c;have g0:=HX.A.cell;clear b i;go_enter func121,ntmps121;have hp:=NW _ HO.A ⟨HN.A.2.2.2.2.1,ai HN.A.2.2.2.2.2⟩ m.A k.A;go_wp2_with fail;refine(hp).ah ?_;rintro e wz⟨⟨rZ,rfl,c6⟩,Z⟩;replace HX:=E (HX.A.al Z HX.A.lt);replace HB:=E (HB.A.trans (aF.of Z));replace HO:=E c6;clear hp c6 Z g0;have g0:=HX.A.cell;have hp:=z8 (st+4) _ HO.A aqR (ai HN.A.1);go_wp2_with fail;refine(hp).ah ?_;rintro e wz⟨⟨rZ,rfl,c6⟩,Z⟩;replace HX:=E (HX.A.al Z HX.A.lt);replace HB:=E (HB.A.trans (aF.of Z));replace HO:=E c6;clear hp c6 Z g0;have g0:=HX.A.cell;have tm:=E (show(bu (st+4).toNat).length<=9 from l9 (ai HN.A.1));exact NY
 ·skip;have d:=E (show uX=st+4+8 by have:=b.A;simp at this;omega);have c:=d.A.symm;subst c;have g0:=HX.A.cell;clear b i;go_enter func121,ntmps121;have hp:=NW _ HO.A ⟨HN.A.2.2.2.2.1,ai HN.A.2.2.2.2.2⟩ m.A k.A;go_wp2_with fail;refine(hp).ah ?_;rintro e wz⟨⟨rZ,rfl,c6⟩,Z⟩;replace HX:=E (HX.A.al Z HX.A.lt);replace HB:=E (HB.A.trans (aF.of Z));replace HO:=E c6;clear hp c6 Z g0;have g0:=HX.A.cell;have hp:=z8 (st+4+8) _ HO.A aqR (ai HN.A.1);go_wp2_with fail;refine(hp).ah ?_;rintro e wz⟨⟨rZ,rfl,c6⟩,Z⟩;replace HX:=E (HX.A.al Z HX.A.lt);replace HB:=E (HB.A.trans (aF.of Z));replace HO:=E c6;clear hp c6 Z g0;have g0:=HX.A.cell;have tm:=E (show(bu (st+4+8).toNat).length<=9 from l9 (ai HN.A.1));exact NY
end
variable {cs':Array aE}
structure k7 (g:Nat) (w w':aB):Prop where
 rest:∀b,b≠g->b<w.heap.size->w'.heap[b]?=w.heap[b]?
 typed:∀e b,bp w e b->bp w' e b
 no:∀o z,w.cell? (ab g o M)≠ad (ap z)
section
variable {α:Type} {D:Kr α} {w w':aB} {B g:Nat} {v:aE} {l:List α}
def Rs.apart (b:∀x us,D.rel w B x us->D.rel w' B x us) {us:List aE} (h:Rs D w B l us):Rs D w' B l us:=by
 induction h with
 |nil=>exact .nil
 |cons h _ a=>exact .cons (b _ _ h) a
def Vs.apart (hs:∀x us,D.rel w B x us->∃z,us[0]?=ad (ap z)) (o:∀x us,D.rel w B x us->D.rel w' B x us) (e:k7 g w w') (h:Vs D w B v l):Vs D w' B v l:=by
 obtain⟨ao,n,c,rfl,⟨k,us,j,m⟩,p,h2⟩:=h.A;refine⟨ao,n,c,rfl,⟨k,us,j.apart o,λhn=>?_⟩,p,h2⟩;obtain⟨b,off,rfl,Z,d⟩:=m hn;have q:b≠g:=by
  rintro rfl;clear h;cases j with
  |nil=>rw[<-k] at hn;simp at hn
  |@cons x xs vs z6 hx _=>
   obtain⟨z,f⟩:=hs _ _ hx;have h0:=d 0 hn;have a:(vs++z6)[0]?=ad (ap z):=by rw[List.getElem?_append_left (yy.1 f).1];exact f
   simp only[dd] at h0;rw[a] at h0;exact e.no _ _ h0
 refine⟨b,off,rfl,Z.imp id (e.typed _ _),λi hi=>?_⟩;have r:b<w.heap.size:=by
  rcases gy b w.heap.size with h'|h'
  ·exact h'
  ·have h0:=d i hi;simp[World.cell?,Array.getElem?_eq_none_iff.2 h'] at h0
 rw[wK (e.rest b q r)];exact d i hi
end
section
variable {w w':aB} {B g:Nat} {v:aE}
def k7.mt (a:k7 g w w') {l:List wU} (h:Vs jG w B v l):Vs jG w' B v l:=Vs.apart (w:=w) (w':=w') (B:=B) (λx us h=>by obtain⟨rfl,_⟩:=h;exact⟨_,au⟩) (λ_ _ h=>h) a h
def k7.pr (a:k7 g w w') {l:aZ} (h:Vs bE w B v l):Vs bE w' B v l:=Vs.apart (w:=w) (w':=w') (B:=B) (λx us h=>by obtain⟨rfl,_⟩:=h;exact⟨_,au⟩) (λ_ _ h=>h) a h
def k7.vR (a:k7 g w w') {l:List cv} (h:Vs lS w B v l):Vs lS w' B v l:=Vs.apart (w:=w) (w':=w') (B:=B) (λx us h=>by obtain⟨_,_,rfl,_⟩:=h;exact⟨_,au⟩) (λx us h=>by obtain⟨v2,v7,e,h0,c,h2,b⟩:=h;exact⟨v2,v7,e,h0,c,a.mt h2,a.pr b⟩) a h
def k7.gr (a:k7 g w w') {l:List cC} (h:Vs fG w B v l):Vs fG w' B v l:=Vs.apart (w:=w) (w':=w') (B:=B) (λx us h=>by obtain⟨_,rfl,_⟩:=h;exact⟨_,au⟩) (λx us h=>by obtain⟨v3,e,h0,b⟩:=h;exact⟨v3,e,h0,a.vR b⟩) a h
def k7.set (Z:aI w g t cs) (hn:∀(i:Nat) (z:ByteArray),cs[i]?≠ad (ap z)) (o:Nat) (u:aE):k7 g w (w.setCell (ab g o M) u):=by
 refine⟨λb a _=>yv _ _ _ _ a,λe b c=>?_,λi z h=>hn i z ((Z.cell i).symm.trans h)⟩;by_cases a:b=g
 ·subst a;obtain rfl:=c.q9 (bp.bO Z);exact bp.bO (Z.put o u)
 ·obtain⟨cs',fr,h⟩:=c;exact⟨cs',fr,(yv _ _ _ _ a).trans h⟩
def k7.grown (Z:aI w g t cs) (d:aI w' g t cs') (hg:w.grownBy w' (ad g)) (hn:∀(i:Nat) (z:ByteArray),cs[i]?≠ad (ap z)):k7 g w w':=by
 refine⟨λb a f=>hg.block b f (λe=>a aqE),λe b c=>?_,λi z h=>hn i z ((Z.cell i).symm.trans h)⟩;by_cases a:b=g
 ·subst a;obtain rfl:=c.q9 (bp.bO Z);exact bp.bO d
 ·obtain⟨cs',fr,h⟩:=c;exact⟨cs',fr,(hg.block b (bp.lt ⟨cs',fr,h⟩) (λe=>a aqE)).trans h⟩
end
variable {B':Nat} {us:List aE} {x:List eQ} {aU:aZ}
def r5 (L:aZ):List ByteArray:=L.flatMap λp=>[p.1,p.2]
def ou (L:aZ):List ByteArray:=r5 L++List.replicate (32-2*L.length) ⟨#[]⟩
def Ty (L:aZ):(r5 L).length=2*L.length:=by
 induction L with
 |nil=>rfl
 |cons p L a=>show(p.1::p.2::r5 L).length=_;simp[a];omega
def amd (h:Rs bE w B L us):us=(r5 L).map .string/\∀s∈r5 L,s.size<=9223372036854775807:=by
 induction h with
 |nil=>exact⟨rfl,by simp[r5]⟩
 |@cons a l vs us h _ ih=>
  obtain⟨rfl,c,h2⟩:=h;refine⟨?_,λs hs=>?_⟩
  ·show _=(a.1::a.2::r5 l).map ap;rw[ih.1];rfl
  ·have b:s∈a.1::a.2::r5 l:=hs;rcases ee.1 b with rfl|b
   ·exact c
   ·rcases ee.1 b with rfl|b
    ·exact h2
    ·exact ih.2 s b
def Od (a:L.length<=16) (hs:∀s∈r5 L,s.size<=9223372036854775807):(ou L).length=32/\∀s∈ou L,s.size<=bK:=by
 refine⟨by unfold ou;rw[b2,Ty,List.length_replicate];omega,λs h=>?_⟩;unfold ou at h;rcases kf.1 h with h|h
 ·have:=hs s h;simpa[bK] using this
 ·rw[(List.mem_replicate.1 h).2];decide
def lE:Array aE:=(List.replicate 32 (ap ⟨#[]⟩)).toArray
def ame (a:L.length<=16):(laid 0 ((r5 L).map .string) lE.toList)=(ou L).map .string:=by
 unfold laid lE ou;rw[List.toList_toArray,List.drop_replicate,List.take_zero,List.nil_append,lK,List.map_replicate,p6,Ty,ig]
def Tz (w:aB) (h:Vs bE w B v L) (o:L.length<=16):aN aH 152 #[v] w λe w'=>(e=aQ (.agg ((ou L).map .string).toArray)/\∀s∈r5 L,s.size<=9223372036854775807)/\aF w w':=by
 obtain⟨ao,cap,rfl,N,jc,cn⟩:=h.be;have l:aF w ((w.alloc (aD lE 250)).alloc (aD lE 250)):=((aF.refl w).alloc _).alloc _;obtain⟨us,J,n⟩:=(N.al l.aC).A;have LN:=amd J;obtain⟨rfl,y⟩:=LN;have Y:=E y;have Q:lE=#[ap ⟨#[]⟩,ap ⟨#[]⟩,ap ⟨#[]⟩,ap ⟨#[]⟩,ap ⟨#[]⟩,ap ⟨#[]⟩,ap ⟨#[]⟩,ap ⟨#[]⟩,ap ⟨#[]⟩,ap ⟨#[]⟩,ap ⟨#[]⟩,ap ⟨#[]⟩,ap ⟨#[]⟩,ap ⟨#[]⟩,ap ⟨#[]⟩,ap ⟨#[]⟩,ap ⟨#[]⟩,ap ⟨#[]⟩,ap ⟨#[]⟩,ap ⟨#[]⟩,ap ⟨#[]⟩,ap ⟨#[]⟩,ap ⟨#[]⟩,ap ⟨#[]⟩,ap ⟨#[]⟩,ap ⟨#[]⟩,ap ⟨#[]⟩,ap ⟨#[]⟩,ap ⟨#[]⟩,ap ⟨#[]⟩,ap ⟨#[]⟩,ap ⟨#[]⟩]:=au;have p:aI ((w.alloc (aD lE 250)).alloc (aD lE 250)) w.heap.size 250 lE:=(aI.new w _ _).alloc _;have a:aI ((w.alloc (aD lE 250)).alloc (aD lE 250)) (w.heap.size+1) 250 lE:=by
  have:=aI.new (w.alloc (aD lE 250)) 250 lE;simpa using this
 obtain⟨R,r⟩:=aP (((ou L).map ap).toArray);have m:R.size=32:=by rw[<-r,lM,p6];exact(Od o y).1
 have I:R.all (·.oneCell')=true:=by
  rw[<-r,Array.all_eq_true_iff_forall_mem];intro x V;obtain⟨s,_,rfl⟩:=hM.1 (am V);rfl
 have q:=E r;have T:=E l;obtain⟨f,H⟩:=aP ((w.alloc (aD lE 250)).alloc (aD lE 250));rw[H] at p a T n l;rw[Q] at H;obtain⟨d,C,S,t⟩:∃d,(∀ty,(Builtin.copy_ #[49,49] ty #[O (ad ⟨w.heap.size+1,0,M⟩) 16 16,O ao L.length cap]).run aH f= .ok (goInt L.length) d)/\aI d (w.heap.size+1) 250 R/\f.grownBy d (ad (w.heap.size+1)):=by
  have k:Nat.min L.length 16=L.length:=Nat.min_eq_left o;have z:(aH.info? 78).map (·.size)=ad 2:=ar;rcases kJ L.length with h0|h0
  ·have X:L=[]:=sb h0;subst X;refine⟨f,λty=>?_,?_,⟨rfl,rfl,rfl,aO _,λ_ _ _=>rfl⟩⟩
   ·cases K:aH.info? 78 with
    |none=>rw[K] at z;cases z
    |some i=>
     cases ao<;>simp[Builtin.copy_,mf underlying49,Builtin.lenOf,Builtin.firstCells,sizeOf,typeInfo,K,storeCells,loadCells,loadCellsFrom]
   ·rw[<-q.A];exact a
  ·obtain⟨b,off,rfl,Z,W⟩:=n (by show 0<L.length*2;omega);refine⟨f.setRow (w.heap.size+1) R,λty=>?_,a.setRow R,⟨rfl,rfl,rfl,arj,λb Z bq=>setRow_other _ _ _ _ (λe=>bq (by rw[e]))⟩⟩;have u:((r5 L).map ap).length=Nat.min L.length 16*2:=by rw[p6,Ty,k];omega
   have:=DB (P:=aH) f 49 49 ty 78 2 (w.heap.size+1) 0 16 16 (ab b off M) L.length cap lE 250 ((r5 L).map .string) underlying49 z a u (λj v hj=>by
    rw[Addr.add_lit,W j (by
     have:=(yy.1 hj).1;rw[u,k] at this;exact this)]
    show ad (((r5 L).map ap).getD j (aG false))=ad v;rw[dd,hj];rfl) (by rw[u,k];show 0+L.length*2<=32;omega) (λv hv=>by
    obtain⟨s,_,rfl⟩:=hM.1 hv;rfl)
   rw[this,k,ame o,q.A]
 have c:aI d w.heap.size 250 lE:=p.grown t av;have D:=E (show(aH.info? 250).map (·.size)=ad R.size by rw[m];kernel_rfl);have bm:=E ((T.A.cD t an).setRow (g:=w.heap.size) (aO _) R);have F:=E C;have HX:=E S;have G:=E c;have U:=E (iC m I);clear c S t p a Q J n N h l m I C y;go_enter func152,ntmps152;have C:=F.A;go_wp2_with (first
  |(refine wpList_load_row rfl 250 _ rfl (w.heap.size+1) rfl 250 R (0,0) _ HX.A underlying250 rfl D.A ?_)
  |(refine wpList_store_row rfl 250 _ _ rfl w.heap.size R rfl rfl 250 lE G.A D.A (by rw[U.A.1];rfl) U.A.2 ?_))
 refine bF (v:=.agg R) ?_ rfl ⟨⟨by rw[q.A],Y.A⟩,bm.A⟩;exact results_cell_row rfl _ _ w.heap.size 250 R (0,0) _ rfl (G.A.setRow _) underlying250 rfl D.A
def acP {vl f:aE} (t:Int) (w:aB) (h:Vs bE w B vl L) (h2:Vs bE w B' f aU):aN aH 199 #[aY #[vl,J I t],f] w λe w'=>e=aQ (J I (cmpL L aU))/\aF w w':=by
 obtain⟨ao,c,rfl,_⟩:=h.be;obtain⟨A2,c2,rfl,_⟩:=h2.be;have a:=E ((aF.refl w).alloc (aD #[O ao L.length c,J I t] 119));have b:=aI.new w 119 #[O ao L.length c,J I t];have j:=b.cell 0;have d:=E (ZY _ (h.al a.A.aC) (h2.al a.A.aC));clear h h2 b;go_enter func199,ntmps199;go_wp2_with fail;refine d.A.ah ?_;rintro e i⟨rfl,Z⟩;have g:=E (a.A.trans Z);clear Z d;go_wp2;go_ret;exact⟨rfl,g.A⟩
def amf {vl:aE} (c:Nat) (w:aB) (m:Vs eR w B v x) (g:Vs bE w B' vl L) (hn:x.length<=64) (k:Sa x L c):aN aH 198 #[v,vl,.func (.func 199) #[] #[]] w λe w'=>e=aQ (bn #[J I c,aG (decide (c<x.length)&&decide (cmpL (dH x c) L=0))])/\aF w w':=by
 obtain⟨ao,cap,rfl,n,D,H⟩:=m.be;obtain⟨A2,c2,rfl,_⟩:=g.be;have p:=E n;have C:=E k;have q:=E g;have a:=k.1;clear m g n k;go_enter func198,ntmps198;go_wp2;go_loopw [9,10] (λi j wr=>∃lo hi:Nat,lo<=c/\c<=hi/\hi<=x.length/\i=J I lo/\j=J I hi/\aF w wr) (λi j _=>(intOf j).toNat-(intOf i).toNat);case atStart=>exact⟨0,x.length,an,a,aO _,rfl,rfl,aF.refl _⟩
 case round=>
  obtain⟨lo,hi,h1,h2,h3,rfl,rfl,hB⟩:=hrel;by_cases K:lo<hi
  ·obtain⟨h,F⟩:=aP ((lo+hi)/2:Nat);have t:((lo:Int)+(hi:Int))/2=(h:Int):=an;have o:h<x.length:=an;obtain⟨b,off,A0,c0,rfl,A,s,r,d⟩:=p.A.Gu hB.aC o;have Fx:=E (acP (jm x h) wr d (q.A.al hB.aC));have l:=E (C.A.2 h o);have M:I.wrap ((h:Int)+1)=((h+1:Nat):Int):=ay;by_cases f:cmpL (dH x h) L<0
   ·have d1:decide (cmpL (dH x h) L<0)=true:=ac f;have qg:=E (l.A.1 f);clear f d;exact XS
   ·have d1:decide (cmpL (dH x h) L<0)=false:=aa f;have qg:=E (show c<=h from by have:=l.A.2;omega);clear f d;exact XR
  ·obtain rfl:lo=c:=by omega
   by_cases a:lo<x.length
   ·obtain⟨b,off,A0,c0,rfl,A,s,r,d⟩:=p.A.Gu hB.aC a;have Fx:=E (acP (jm x lo) wr d (q.A.al hB.aC));have z:decide ((lo:Int)<(x.length:Int))=true:=ac an;obtain⟨y,hy⟩:=aP (decide (cmpL (dH x lo) L=0));have G:(cmpL (dH x lo) L==0)=y:=hy;have d4:=E (ac a);have u:decide (lo<x.length)=true:=ac a;replace hy:=E hy;clear d;exact XT
   ·have z:decide ((lo:Int)<(x.length:Int))=false:=aa an;have d4:=E (aa a);have u:decide (lo<x.length)=false:=aa a;clear a;go_wp2;go_ret2;exact⟨by rw[d4.A,Bool.false_and];rfl,hB⟩
def Oe:(aH.info? 119).map (λi=>(i.zero,i.size,i.bytes))=ad (ad (aY #[O M 0 0,J I 0]),2,32):=ar
def Of:eR.e∉eR.bI:=aq
def ww:(aH.info? 119).map (·.size)=ad 2:=ar
def amg {l:List eQ} {x:eQ} {a:Nat} (i:Nat) (w:aB) (hi:i<=l.length) (hB:B<=base) (K:base<=w.heap.size) (ho:Ow eR w B base v l) (m:aI w a 119 us.toArray) (hrel:eR.rel w B x us) (X:∀g,v.ownBlock=ad g->g≠a) (hs:(l.length+1)*32<=140737488355328):aN aH 200 #[v,J I i,O (ad (ab a 0 M)) 1 1] w λe w'=>(∃v',e=aQ v'/\Ow eR w' B base v' (l.take i++x::l.drop i))/\(∀ao,aF ao w->ao.heap.size<=base->aF ao w')/\Kt B [119] w w':=by
 have jL:us.length=eR.k:=eR.len hrel;have ua:=eR.one hrel;have nS:Rs eR w B [x] us:=Rs.single hrel;have L:=aI.src (n:=1*eR.k) m (by rw[jL,Nat.one_mul]);have IR:l.length+1<=140737488355328:=a8 (Nat.le_mul_of_pos_right _ aq) hs;by_cases iF:i=l.length
 ·subst iF;rw[pZ,qT];have HO:=E ho;have HR:=E nS;have HS:=E L;have u:=E (show l.length+1<=bK/\base<=w.heap.size/\B<=base/\(l.length+1)*32<=140737488355328 from⟨aqv,K,hB,hs⟩);rcases ho.form with⟨rfl,rfl⟩|⟨g,cap,rfl,rf,S,qg,V⟩
  ·clear ho nS L m hrel ua jL X hs hB K;go_enter func200,ntmps200;go_wp2_with ((refine mZ eR au (.tmp 23) (.tmp 24) 32 au base 32 _ ar Oe au B _ [] au HO.A (ad (ab a 0 M)) 1 1 [x] us au HR.A rfl (a+1) HS.A u.A.1 u.A.2.2.2 u.A.2.1 u.A.2.2.1 Of ?_;intro v' w' bC bG cx));go_ret;exact⟨⟨_,rfl,bC⟩,λao q o=>q.grown HO.A o bG,cx⟩
  ·have hm:=show cap<=9223372036854775807 by simpa[bK] using V
   have n1:(l.length:Int)<=140737488355328:=an;clear ho nS L m hrel ua jL X hs hB K S V;go_enter func200,ntmps200;have s1:∀W,(iV 32 (O (ad (ab g 0 M)) l.length cap) (ad (J I (l.length:Int))) M M).run aH W= .ok (O (cutAt (ad (ab g 0 M)) cap l.length 2) (l.length-l.length) (cap-l.length)) W:=oC underlying32 2 ww (ad (ab g 0 M)) l.length cap l.length (aO _);go_wp2_with ((refine mZ eR au (.tmp 23) (.tmp 24) 32 au base 32 _ ar Oe au B _ l au HO.A (ad (ab a 0 M)) 1 1 [x] us au HR.A rfl (a+1) HS.A u.A.1 u.A.2.2.2 u.A.2.1 u.A.2.2.1 Of ?_;intro v' w' bC bG cx));go_ret;exact⟨⟨_,rfl,bC⟩,λao q o=>q.grown HO.A o bG,cx⟩
 obtain⟨g,cap,rfl,rf,S,qg,V⟩:∃g cap,v=O (ad (ab g 0 M)) l.length cap/\base<=g/\bp w eR.e g/\l.length<=cap/\cap<=bK:=by
  rcases ho.form with⟨rfl,rfl⟩|h
  ·simp at hi iF;omega
  ·exact h
 obtain⟨vs,cur,_,lp,_,fc,_,_,cS,sH⟩:=ho.tZ;have hm:=show cap<=9223372036854775807 by simpa[bK] using V
 have IS:g≠a:=X g rfl;have fw:=lp.len;have iK:=lp.one;have bJ:(aH.info? 119).map (·.size)=ad 2:=ww;have mi:∀W:aB,W.heap[g]?=w.heap[g]?->∀j v,(vs.drop (i*2))[j]?=ad v->W.cell? ((⟨g,i*2,M⟩:aX).add j)=ad v:=by
  exact X1
 have aK:i<l.length:=an;have Dx:I.wrap ((i:Int)+1)=(i:Int)+1:=ay;have X4:I.wrap ((l.length:Int)+1)=(l.length:Int)+1:=ay;have de:((i:Int)==(l.length:Int))=false:=aw;have dh:¬(cap=i):=an;have aR:i<=l.length:=hi;have zb:g<w.heap.size:=S.lt;have b5:cur.toList.length=cap*2:=by have Qv:cur.size=cap*2:=cS;simpa using Qv
 have Z:∀W,Kt B [119] w W->Rs eR W B (l.take i++x::l.drop i) (vs.take (i*2)++us++vs.drop (i*2)):=by
  intro W hW;have dK:∀t∈eR.bI,t∉[119]:=λt ht h=>by rw[bD.1 h] at ht;exact Of ht
  exact X3
 have H:(l.take i++x::l.drop i).length=l.length+1:=aw;have Y:∀(W:aB) (N:Nat) (R:Array aE) (T:Nat),W.heap[N]?=ad (aD R 119 (0,0))->W.heap[a]?=w.heap[a]?->(i+1)*2<=R.size->0<T->∀ty d,(Builtin.copy_ #[32,32] ty #[O (ad ⟨N,i*2,M⟩) T d,O (ad (ab a 0 M)) 1 1]).run aH W= .ok (goInt (Nat.min 1 T)) (W.setRow N (laid (i*2) us R.toList).toArray):=λW N R T h1 h2 h3 h4 ty d=>DB W _ _ ty 119 2 N _ _ d (ab a 0 M) _ 1 R 119 us au ww h1 (by rw[jL,show Nat.min 1 T=1 from Nat.min_eq_left an];rfl) (λj v hj=>by
  rw[Addr.add_lit,ig,wK h2,m.cell,List.getElem?_toArray];exact hj) (by rw[jL];show i*2+2<=_;omega) ua
 by_cases ze:l.length+1<=cap
 ·have d1:decide (cap<l.length+1)=false:=aa an;have cq:¬(cap=i+1):=an;have IT:∀lb cb,(callFunc 239 #[O (ad (ab a 0 M)) 1 1,O (ad ⟨g,(i+1)*2,M⟩) lb cb]).run aH w= .ok (.value (aG false)) w:=λlb cb=>by
   rw[run_callFunc_extern func239 ar ar ar (e:=Extern.SlicesOverlaps.overlaps #[32,32] #[4]) ar,Lib.run_overlaps_apart w 32 4 119 au 2 (run_sizeOf ww) (ab a 0 M) ⟨g,(i+1)*2,M⟩ 1 1 lb cb (Ne.symm IS) 119 119 us.toArray.size cur.size (by simp[World.shape?,show w.heap[a]?=_ from m]) (by rw[World.shape?,fc];rfl) (by rw[cS];show cap*2≠0;omega) (m.frozen 0) (m.frozen _)];rfl
  have IU:∀W:aB,W.heap[g]?=w.heap[g]?->∀ty d z,(Builtin.copy_ #[32,32] ty #[O (ad ⟨g,(i+1)*2,M⟩) (l.length-i) d,O (ad ⟨g,i*2,M⟩) (l.length+1-i) z]).run aH W= .ok (goInt (Nat.min (l.length+1-i) (l.length-i))) (W.setRow g (laid ((i+1)*2) (vs.drop (i*2)) cur.toList).toArray):=λW hW ty d z=>DB W _ _ ty 119 2 g _ _ d ⟨g,i*2,M⟩ _ z cur 119 _ au ww (hW.trans fc) aql (mi W hW) eI (λv hv=>iK v (List.mem_of_mem_drop hv));have kQ:(laid ((i+1)*2) (vs.drop (i*2)) cur.toList).toArray.size=cap*2:=by
   rw[lM,xf eJ,b5]
  have U:=XW (c:=cur.toList) (us:=us) (l:=vs) (i:=i) (n:=l.length) (k:=2) jL hi (by rw[b5];omega) sH;generalize(laid ((i+1)*2) (vs.drop (i*2)) cur.toList)=R1 at*;go_enter func200,ntmps200;have Qw:∀W,(iV 32 (O (ad (ab g 0 M)) (l.length+1) cap) (ad (J I ((i:Int)+1))) M M).run aH W= .ok (O (ad ⟨g,(i+1)*2,M⟩) (l.length+1-(i+1)) (cap-(i+1))) W:=λW=>by
   have h:=oC underlying32 2 ww (ad (ab g 0 M)) (l.length+1) cap (i+1) an W;rw[cutAt,af cq,tG,AN,ig] at h;exact h
  have Qx:∀W,(iV 32 (O (ad (ab g 0 M)) (l.length+1) cap) (ad (J I (i:Int))) M M).run aH W= .ok (O (ad ⟨g,i*2,M⟩) (l.length+1-i) (cap-i)) W:=λW=>by
   have h:=oC underlying32 2 ww (ad (ab g 0 M)) (l.length+1) cap i an W;exact L9
  go_wp2_with (simp only[IT]);refine du (cU 0 8 []) [8] ?_;refine dY ?_;refine S4.nb λp f=>?_;refine E4.dm (λKK aJ=>?_);refine step_copy_runI rfl (.tmp 73) (.tmp 76) _ _ rfl _ _ au au (IU p (f.block g zb) _ _ _) ?_;refine aJ _ _ ?_;clear aJ KK;refine E4.bh ?_;have F:=aF.of f;have C:=setRow_heap p g cur R1.toArray 119 (0,0) ((f.block g zb).trans fc);have mr:(p.setRow g R1.toArray).heap[a]?=w.heap[a]?:=(setRow_other _ _ _ _ (Ne.symm IS)).trans (f.block a m.lt);have jD:Kt B [119] w (p.setRow g R1.toArray):=(Kt.lQ f an).setRow an ⟨_,_,(f.block g zb).trans fc⟩ (bD.2 rfl) _;have IV:∀ao,aF ao w->ao.heap.size<=base->aF ao (p.setRow g R1.toArray):=λao q o=>(q.trans F).setRow an _;generalize p.setRow g R1.toArray=W2 at*;have b4:=Y W2 g R1.toArray (l.length+1-i) C mr (by rw[kQ];omega) an;have re:=setRow_heap W2 g R1.toArray (laid (i*2) us R1).toArray 119 (0,0) C;have eV:=jD.setRow (g:=g) an ⟨_,_,C⟩ (bD.2 rfl) (laid (i*2) us R1).toArray;have rk:∀ao,aF ao w->ao.heap.size<=base->aF ao (W2.setRow g (laid (i*2) us R1).toArray):=λao q o=>(IV ao q o).setRow an _;have A:=E (Ow.Bi (D:=eR) (Z _ eV) rf re (by rw[H];exact ze) V (by
   rw[lM,xf (by rw[jL,<-lM,kQ];show i*2+2<=_;omega),<-lM,kQ];rfl) (by rw[H];exact U))
  rw[H] at A;replace rk:=E rk;have fZ:=E eV;clear Z C mr jD IV re eV kQ U IU Y mi fc cS sH b5 lp fw iK f F IT ho m nS L X S IR hs;go_wp2_with (at_builtin;refine wpList_copy_runI _ rfl (.tmp 80) (.tmp 81) _ _ rfl _ _ rfl rfl (b4 _ _) ?_);go_ret;first|exact⟨⟨_,rfl,A.A⟩,rk.A,fZ.A⟩|exact⟨⟨_,rfl,A.A⟩,λao y e o=>rk.A ao ⟨y,e⟩ o,fZ.A⟩
 ·have d1:decide (cap<l.length+1)=true:=ac an;obtain⟨i0,jZ,ef,nH,DC⟩:=Im Oe;have r:(Builtin.firstCells i0.size i (O (ad (ab g 0 M)) i cap)).run aH w.drew= .ok (vs.take (i*2)).toArray w.drew:=by
   exact X0
  have qh:i+(l.length+1-i)=l.length+1:=an;have eh:(l.length:Int)+1-(i:Int)=((l.length+1-i:Nat):Int):=an;obtain⟨G,ub⟩:∃G,G=grownCap w (l.length+1) cap 119:=⟨_,rfl⟩;obtain⟨b,Bj⟩:∃b:Array aE,b=(vs.take (i*2)).toArray++pg (aY #[O M 0 0,J I 0]:aE).cells (l.length+1-i)++pg (aY #[O M 0 0,J I 0]:aE).cells (G-(l.length+1)):=⟨_,rfl⟩;have IW:∀ty,(tI #[32,3] ty #[O (ad (ab g 0 M)) i cap,J I ((l.length:Int)+1-(i:Int))]).run aH w= .ok (O (ad (ab w.heap.size 0 M)) (l.length+1) G) (w.drew.alloc (aD b 119)):=λty=>by
   have h:=Lib.run_append_grow_zeros w 32 3 ty 119 i0 _ I I au au jZ ef (ad (ab g 0 M)) i cap (vs.take (i*2)) r (l.length+1-i) an (by rw[nH];decide) an an (by rw[DC];have:=sa 32 (show l.length+1-i<=l.length+1 by omega);omega) (by rw[DC,qh];exact growslice_fits an hs);rw[qh] at h;rw[eh,Bj,ub];exact h
  have Qy:l.length+1<=G:=by rw[ub];exact grownCap_ge w _ _ _
  have IX:G<=bK:=by rw[ub];exact grownCap_le_maxLen w _ _ _ aqF
  have aP:G<=9223372036854775807:=by simpa[bK] using IX
  have DD:b.size=G*2:=by
   rw[Bj];simp[pg,Value.cells,fw];have:eR.k=2:=rfl;rw[this];omega
  have Ma:(vs.take (i*2)).length=i*2:=aqM;have Qz:b.toList.take (i*2)=vs.take (i*2):=by
   exact X2
  clear Bj ub r qh eh jZ ef nH DC;have QA:¬(G=i):=an;have QB:¬(G=i+1):=an;obtain⟨s,ko⟩:∃s,s=w.drew.alloc (aD b 119):=⟨_,rfl⟩;have bg:aF w s:=by rw[ko];exact(aF.drew w).alloc _
  have po:s.heap[w.heap.size]?=ad (aD b 119 (0,0)):=by rw[ko];exact qR w.drew _
  have uc:g≠w.heap.size:=an;rw[<-ko] at IW;have b4:=Y s w.heap.size b (l.length+1-i) po (bg.aC.block a m.lt) an an;have C:=setRow_heap s w.heap.size b (laid (i*2) us b.toList).toArray 119 (0,0) po;have DE:(laid (i*2) us b.toList).length=G*2:=by
   rw[xf BY,Array.length_toList,DD]
  have U:=XY (c:=b.toList) (us:=us) (l:=vs) (i:=i) (n:=l.length) (k:=2) jL hi (by have:=DD;rw[<-Array.length_toList] at this;omega) fw Qz;have bN:aF w (s.setRow w.heap.size (laid (i*2) us b.toList).toArray):=bg.setRow (aO _) _;generalize(laid (i*2) us b.toList)=R1 at*;have IY:∀W:aB,W.heap[w.heap.size]?=ad (aD R1.toArray 119 (0,0))->W.heap[g]?=w.heap[g]?->∀ty d z,(Builtin.copy_ #[32,32] ty #[O (ad ⟨w.heap.size,(i+1)*2,M⟩) (l.length-i) d,O (ad ⟨g,i*2,M⟩) (l.length-i) z]).run aH W= .ok (goInt (Nat.min (l.length-i) (l.length-i))) (W.setRow w.heap.size (laid ((i+1)*2) (vs.drop (i*2)) R1.toArray.toList).toArray):=λW h1 hW ty d z=>DB W _ _ ty 119 2 w.heap.size _ _ d ⟨g,i*2,M⟩ _ z R1.toArray 119 _ au ww h1 aqs (mi W hW) ez (λv hv=>iK v (List.mem_of_mem_drop hv));have Qw:∀W,(iV 32 (O (ad (ab w.heap.size 0 M)) (l.length+1) G) (ad (J I ((i:Int)+1))) M M).run aH W= .ok (O (ad ⟨w.heap.size,(i+1)*2,M⟩) (l.length+1-(i+1)) (G-(i+1))) W:=λW=>by
   have h:=oC underlying32 2 ww (ad (ab w.heap.size 0 M)) (l.length+1) G (i+1) an W;rw[cutAt,af QB,tG,AN,ig] at h;exact h
  have Qx:∀W,(iV 32 (O (ad (ab w.heap.size 0 M)) (l.length+1) G) (ad (J I (i:Int))) M M).run aH W= .ok (O (ad ⟨w.heap.size,i*2,M⟩) (l.length+1-i) (G-i)) W:=λW=>by
   have h:=oC underlying32 2 ww (ad (ab w.heap.size 0 M)) (l.length+1) G i an W;rw[cutAt,af QA,tG,AN,ig] at h;exact h
  have aM:∀W,(iV 32 (O (ad (ab g 0 M)) l.length cap) (ad (J I (i:Int))) M M).run aH W= .ok (O (ad ⟨g,i*2,M⟩) (l.length-i) (cap-i)) W:=λW=>by
   have h:=oC underlying32 2 ww (ad (ab g 0 M)) l.length cap i an W;exact L9
  have HQ:=E (iC C bN);clear C bN po bg ko;go_enter func200,ntmps200;go_wp2_with (first
   |(at_builtin;refine Lib.wpList_append_run _ rfl _ _ _ _ rfl _ _ rfl rfl _ _ (IW _) ?_)
   |(at_builtin;refine wpList_copy_runI _ rfl _ _ _ _ rfl _ _ rfl rfl (b4 _ _) ?_))
  obtain⟨W2,nk⟩:∃y,y=s.setRow w.heap.size R1.toArray:=⟨_,rfl⟩;rw[<-nk] at HQ⊢;clear nk;refine du (cU 0 8 []) [8] ?_;refine dY ?_;refine S4.nb λp f=>?_;have DF:=(f.block _ (lJ.1 HQ.A.1).1).trans HQ.A.1;have F:=HQ.A.2.next f;refine E4.dm (λKK aJ=>?_);refine step_copy_runI rfl (.tmp 50) (.tmp 53) _ _ rfl _ _ au au (IY p DF (F.aC.block g zb) _ _ _) ?_;refine aJ _ _ ?_;clear aJ KK;refine E4.bh ?_;have IZ:=setRow_heap p w.heap.size R1.toArray (laid ((i+1)*2) (vs.drop (i*2)) R1.toArray.toList).toArray 119 (0,0) DF;have cP:=F.setRow (aO _) (laid ((i+1)*2) (vs.drop (i*2)) R1.toArray.toList).toArray;have A:=E (Ow.Bi (D:=eR) (Z _ (Kt.lQ cP.aC an)) K IZ (by rw[H];exact Qy) IX (by
   rw[lM,xf (by rw[oy,fw,DE];show _+(l.length*2-i*2)<=G*2;omega),DE];rfl) (by rw[H];exact U))
  rw[H] at A;have bL:=E cP;clear Z IZ cP DF F U Y IY mi fc cS sH b5 lp fw iK f ho m nS L X S IR hs;go_wp2;go_ret;first|exact⟨⟨_,rfl,A.A⟩,λao q o=>q.trans bL.A,Kt.lQ bL.A.aC (a8 hB K)⟩|exact⟨⟨_,rfl,A.A⟩,λao y e o=>aF.trans ⟨y,e⟩ bL.A,Kt.lQ bL.A.aC (a8 hB K)⟩
variable {α:Type}
section
open im (dT fe)
theorem adx (h:P:=by
 have:=ih (λb Z=>h b (by simp[Z]));have nu:=alC ha.1 ha.2.1 ha.2.2;simp only[List.flatMap_cons,b2,pY];omega;):P:=h
def am9 {s:eX} (f:db s.k.1=true) (h2:db s.k.2=true) (e:fY s.x=true):(oV s).length<=55000:=by
 have c:=qk.1 e;have n1:=(nM.1 f).2.1;have g:=(nM.1 h2).2.1;have d:∀zs:List b8,(∀a∈zs,a∈s.x.ao)->(zs.flatMap mF).length<=3400*zs.length:=by
  intro zs;induction zs with
  |nil=>intro _;simp
  |cons a zs ih=>
   intro h;have ha:=c.2.2.1 a (h a av);exact adx
 have h4:=d s.x.ao (λa h=>h);have l:=l9 (n:=s.k.1.size) an;have k:=l9 (n:=s.k.2.size) an;have j:=l9 (n:=s.x.full.toNat) an;have i:=l9 (n:=s.x.ao.length) an;unfold oV oU;simp only[b2,yO];have:=c.1;omega
def ady {l:List eX} (h:kz l=true) (k:Nat):((l.take k).flatMap oV).length<=55000*256:=by
 have d:=FQ h;have:∀zs:List eX,(∀s∈zs,s∈l)->(zs.flatMap oV).length<=55000*zs.length:=by
  intro zs;induction zs with
  |nil=>intro _;simp
  |cons a zs e=>
   intro h;have c:=d.2 a (h a av);have:=e (λb Z=>h b (by simp[Z]));have g:=am9 c.1 c.2.1 c.2.2;simp only[List.flatMap_cons,b2,pY];omega
 have f:=this (l.take k) (λs hs=>List.mem_of_mem_take hs);rw[tH] at f;have:=d.1;omega
def adz (f:α->List UInt8) {l:List α} {k:Nat} (a:k<l.length):(l.take (k+1)).flatMap f=(l.take k).flatMap f++f l[k]:=by
 rw[yz a,List.flatMap_append];simp
def ana {l:List eX} (w:aB) (h:Vs jH w B v l):aN aH 83 #[v] w λe w'=>(∃v',e=aQ v'/\bQ w' 0 5 v' (gV l))/\aF w w':=by
 have hs:=Sb w h;obtain⟨ao,cap,rfl,hP,cn,b4⟩:=h.be;have HP:=E hP;have T:=E (show gV l=if kz l=true then bu l.length++l.flatMap oV else[] from rfl);generalize gV l=r at T⊢;clear h hP;cases D:kz l with
 |false=>
  have X:=E (show r=[] by rw[T.A,D];rfl);rw[D] at hs;clear D;go_enter func83,ntmps83;go_wp2_with fail;refine hs.ah ?_;rintro e U⟨rfl,Z⟩;have f:=E Z;clear hs Z;go_wp2;go_ret;exact⟨⟨_,rfl,by rw[X.A];exact bQ.bh _ _ _⟩,f.A⟩
 |true=>
  have X:=E (show r=bu l.length++l.flatMap oV by rw[T.A,D];rfl);have Y:=E (FQ D);have dn:=E (ady D);rw[D] at hs;clear D T;go_enter func83,ntmps83;go_wp2_with fail;refine hs.ah ?_;rintro e U⟨rfl,Z⟩;have f:=E Z;clear hs Z;have m:=z8 (l.length:Int) U (bQ.bh U 0 5) av (ai Y.A.1);go_wp2_with fail;refine m.ah ?_;rintro e w2⟨⟨v2,rfl,ho⟩,Z⟩;replace f:=E (f.A.trans (aF.of Z));have d:=E (show bQ w2 0 5 v2 (bu l.length++(l.take 0).flatMap oV) by simpa using ho);have Ft:=E (show(bu l.length).length<=9 from l9 (ai Y.A.1));have OC:=E (E1 l.length);clear m ho Z;go_wp2;go_loopw [3,16] (λa i wr=>∃k:Nat,k<=l.length/\i=J I k/\aF w wr/\a6 (bQ wr 0 5 a (bu l.length++(l.take k).flatMap oV))) (λ_ i _=>l.length-(intOf i).toNat);case atStart=>exact⟨0,an,rfl,f.A,d⟩
  case round=>
   clear f d;rename_i a i0 wr;obtain⟨k,hk,rfl,hB,d⟩:=hrel;by_cases g:k<l.length
   ·obtain⟨b,off,A0,c0,rfl,cw,y0,y1,y2,y3,bJ,R⟩:=HP.A.sv hB.aC g;have aR:=E g;have G:=E (adz oV g);have L:=E (Y.A.2 (l[k]'g) (dl g));rw[JA g] at G L;have OD:=E (dn.A k);have K:=E (show oV ⟨cz l k,fJ l k⟩=oU (cz l k).1++oU (cz l k).2++bu (fJ l k).full.toNat++bu (fJ l k).ao.length++(fJ l k).ao.flatMap mF from rfl);generalize oV ⟨cz l k,fJ l k⟩=UB at G K;have C:=E (show(cz l k).1.size<=64/\(cz l k).2.size<=64 from⟨(nM.1 L.A.1).2.1,(nM.1 L.A.2.1).2.1⟩);have o:=E (qk.1 L.A.2.2);obtain⟨nf,W⟩:=aP (cz l k);obtain⟨Gv,EI⟩:=aP (fJ l k);rw[W,EI] at K;rw[W] at y0 y1 C;rw[EI] at y2 y3 R o;obtain⟨u,t⟩:=nf;obtain⟨c,y⟩:=Gv;dsimp only at y0 y1 y2 y3 R;have K:=E (show UB=oU u++oU t++bu y.toNat++bu c.length++c.flatMap mF from K.A);have C:=E (show u.size<=64/\t.size<=64 from C.A);have o:=E (show c.length<=16/\(0<=y/\y<=9007199254740992)/\(∀a∈c,bH a.L=true/\fe a.h=true/\0<=a.st/\a.st<=2) from⟨o.A.1,o.A.2.1,o.A.2.2.1⟩);have F:=(bk wr.heap.size wr).alloc (aO _) (aD #[ap u,ap t,O A0 c.length c0,J I y] 205);have f:=E (hB.alloc (aD #[ap u,ap t,O A0 c.length c0,J I y] 205));have HX:=E (aI.new wr 205 #[ap u,ap t,O A0 c.length c0,J I y]);replace d:=E (d.A.al F);have q:=E (R.al F);have Q:=E (show(oU u).length<=100/\(oU t).length<=100/\(bu y.toNat).length<=9/\(bu c.length).length<=9 from⟨by unfold oU;rw[b2,yO];have:=l9 (n:=u.size) (ai C.A.1);have:=C.A.1;omega,by unfold oU;rw[b2,yO];have:=l9 (n:=t.size) (ai C.A.2);have:=C.A.2;omega,l9 (ai o.A.2.1),l9 (ai o.A.1)⟩);obtain⟨pre,N⟩:=aP (bu l.length++(l.take k).flatMap oV);have H:=E (show 0<pre.length/\pre.length<=14080009 by rw[<-N,b2];have:=Ft.A;have:=OC.A;have:=OD.A;omega);have qj:=E (show bu l.length++(l.take (k+1)).flatMap oV=pre++UB by rw[G.A,<-mV,N]);rw[N] at d;clear N W EI g R hB G L OD bJ F;have z:=HX.A.cell;have m:=abY u _ d.A (ai H.A) (ai C.A);go_wp2_with fail;refine(m).ah ?_;rintro e M⟨⟨V,rfl,p⟩,Z⟩;replace HX:=E (HX.A.al Z HX.A.lt);replace f:=E (f.A.trans (aF.of Z));replace d:=E p;replace q:=E (q.A.al Z);clear p Z;clear m z;have z:=HX.A.cell;have m:=abY t _ d.A (by rw[b2];have:=H.A;have:=Q.A;omega) (ai C.A);go_wp2_with fail;refine(m).ah ?_;rintro e M⟨⟨V,rfl,p⟩,Z⟩;replace HX:=E (HX.A.al Z HX.A.lt);replace f:=E (f.A.trans (aF.of Z));replace d:=E p;replace q:=E (q.A.al Z);clear p Z;clear m z;have z:=HX.A.cell;have m:=z8 y _ d.A (by rw[b2,b2];have:=H.A;have:=Q.A;omega) (ai o.A.2.1);go_wp2_with fail;refine(m).ah ?_;rintro e M⟨⟨V,rfl,p⟩,Z⟩;replace HX:=E (HX.A.al Z HX.A.lt);replace f:=E (f.A.trans (aF.of Z));replace d:=E p;replace q:=E (q.A.al Z);clear p Z;clear m z;have z:=HX.A.cell;have m:=z8 (c.length:Int) _ d.A (by rw[b2,b2,b2];have:=H.A;have:=Q.A;omega) (ai o.A.1);go_wp2_with fail;refine(m).ah ?_;rintro e M⟨⟨V,rfl,p⟩,Z⟩;replace HX:=E (HX.A.al Z HX.A.lt);replace f:=E (f.A.trans (aF.of Z));replace d:=E p;replace q:=E (q.A.al Z);clear p Z;clear m z;have z:=HX.A.cell;obtain⟨rr,S⟩:=aP (pre++oU u++oU t++bu y.toNat++bu (c.length:Int).toNat);have iQ:=E (show 0<rr.length/\rr.length<=14090000 by rw[<-S];simp only[b2,Int.toNat_natCast];have:=H.A;have:=Q.A;omega);have vE:=E (show pre++UB=rr++c.flatMap mF by rw[K.A,<-S];simp);rw[S] at d;clear S;obtain⟨A9,c9,nx,dE,Gb,Gc⟩:=q.A.be;cases nx;have eo:=E dE;have P6:=E f.A.size;have HZ:=f;clear dE HX q Gb Gc;go_wp2;go_loopw [3,45] (λa i vL=>∃j:Nat,j<=c.length/\i=J I j/\aF M vL/\a6 (bQ vL 0 5 a (rr++(c.take j).flatMap mF))) (λ_ i _=>c.length-(intOf i).toNat);case atStart=>exact⟨0,an,rfl,aF.refl _,E (am d.A)⟩
    case round=>
     clear d f;obtain⟨j,hj,rfl,hB,d⟩:=hrel;by_cases g:j<c.length
     ·obtain⟨gz,tQ,A1,c1,rfl,Jz,x0,x1,x2,x3,x4,Dy,a3,iK⟩:=eo.A.jP hB.aC g;have gY:=E g;have G:=E (show rr++(c.take (j+1)).flatMap mF=rr++(c.take j).flatMap mF++mF (c[j]'g) by rw[adz mF g,mV]);have aW:=E (show AOk (c[j]'g) from⟨(o.A.2.2 _ (dl g)).1,(o.A.2.2 _ (dl g)).2.1,(o.A.2.2 _ (dl g)).2.2⟩);have aJ:=E (show((c.take j).flatMap mF).length<=60000 by
       have:∀zs:List b8,(∀a∈zs,a∈c)->(zs.flatMap mF).length<=3400*zs.length:=by
        intro zs;induction zs with
        |nil=>intro _;simp
        |cons a zs ih=>
         intro h;have ha:=o.A.2.2 a (h a av);exact adx
       have h1:=this (c.take j) (λs hs=>List.mem_of_mem_take hs);rw[tH] at h1;have:=o.A.1;omega)
      have F:=(bk wr.heap.size wr).alloc (aO _) (aD #[O A1 (cX c j).length c1,aG (dx c j).on,J I (dx c j).dB,aG (dx c j).hit,J I (dx c j).eW,J I (gl c j),J I (oO c j)] 62);have f:=E (hB.alloc (aD #[O A1 (cX c j).length c1,aG (dx c j).on,J I (dx c j).dB,aG (dx c j).hit,J I (dx c j).eW,J I (gl c j),J I (oO c j)] 62));have aM:=E (show Tk (wr.alloc (aD #[O A1 (cX c j).length c1,aG (dx c j).on,J I (dx c j).dB,aG (dx c j).hit,J I (dx c j).eW,J I (gl c j),J I (oO c j)] 62)) B (aY #[O A1 (cX c j).length c1,aG (dx c j).on,J I (dx c j).dB,aG (dx c j).hit,J I (dx c j).eW,J I (gl c j),J I (oO c j)]) (c[j]'g) from by rw[show c[j]'g=(⟨cX c j,dx c j,gl c j,oO c j⟩:b8) from by unfold cX dx gl oO;rw[dr g]];exact⟨_,rfl,_,rfl,iK.al F⟩);replace d:=E (d.A.al F);have m:=alD _ d.A ⟨by rw[b2];have:=iQ.A;omega,by rw[b2];have:=iQ.A;have:=aJ.A;omega⟩ aM.A aW.A;have hX:=aI.new wr 62 #[O A1 (cX c j).length c1,aG (dx c j).on,J I (dx c j).dB,aG (dx c j).hit,J I (dx c j).eW,J I (gl c j),J I (oO c j)];have z:=hX.cell;clear hX F hB iK;go_wp2_with fail;refine(m).ah ?_;rintro e w7⟨⟨v7,rfl,UC⟩,tv⟩;have jM:=E (f.A.trans tv);have zV:=E UC;clear m UC tv;have a2:c.length<=16:=o.A.1;go_wp2;go_roundw;case rel=>exact⟨j+1,gY.A,by go_num,jM.A,E (by rw[G.A];exact zV.A)⟩
      case measure=>exact aqx
     ·obtain rfl:j=c.length:=by omega
      rw[pZ,<-vE.A,<-qj.A] at d;have gX:=E (HZ.A.trans hB);go_wp2;go_roundw;case rel=>exact⟨k+1,aR.A,by go_num,gX.A,d⟩
      case measure=>exact ax
   ·obtain rfl:k=l.length:=by omega
    rw[pZ] at d;go_wp2;go_ret;exact⟨⟨_,rfl,by rw[X.A];exact d.A⟩,hB⟩
end
theorem aex (h:P:=by
 obtain⟨t2,lf,pn⟩:=fE t1 ⟨#[33,61]⟩ (K:=68) (by show t1.size+2<=68;omega) aq;have qo:=E lf;clear lI lf;go_upto_region 14 with(fail);have h0:=ba.cells HM;refine hb (dq 0 9 (.c 9 (dq 10 3 .nil))) ?_;refine bP ?_;refine S6.c ?_;rintro _⟨pt,rfl⟩ KK aJ;go_simp;refine(HQ.A pt.aL).ah ?_;rintro e w2⟨⟨q,rfl,Hu⟩,bd⟩;obtain⟨t3,pe,xZ⟩:=fE t2 q (K:=200) (aj qo.A HN.A.2) aq;obtain⟨t4,ox,x5⟩:=fE tx t3 (K:=64+210*(k+1)) (ai EX.A) (ai zZ.A);refine aJ _ _ bd ?_;have lr:=E ((FT.A.trans pt.r).trans bd);have wI:=E ox;clear aJ KK bd pe ox Hu h0 pt;refine bP ?_;refine S6.nb λwq hq=>?_;have ke:=E (lr.A.trans (aF.of hq));clear hq lr;go_wp2;go_roundw;case rel=>exact⟨k+1,t4,aR.A,by go_num,rfl,wI.A,ke.A⟩
 case measure=>exact ax
 ):P:=h
theorem aey (h:P:=by
 obtain⟨t2,lf,pn⟩:=fE t1 ⟨#[61]⟩ (K:=68) (by show t1.size+1<=68;omega) aq;have qo:=E lf;clear lI lf;go_upto_region 14 with(fail);have h0:=ba.cells HM;refine hb (dq 0 9 (.c 9 (dq 10 3 .nil))) ?_;refine bP ?_;refine S6.c ?_;rintro _⟨pt,rfl⟩ KK aJ;go_simp;refine(HQ.A pt.aL).ah ?_;rintro e w2⟨⟨q,rfl,Hu⟩,bd⟩;obtain⟨t3,pe,xZ⟩:=fE t2 q (K:=200) (aj qo.A HN.A.2) aq;obtain⟨t4,ox,x5⟩:=fE tx t3 (K:=64+210*(k+1)) (ai EX.A) (ai zZ.A);refine aJ _ _ bd ?_;have lr:=E ((FT.A.trans pt.r).trans bd);have wI:=E ox;clear aJ KK bd pe ox Hu h0 pt;refine bP ?_;refine S6.nb λwq hq=>?_;have ke:=E (lr.A.trans (aF.of hq));clear hq lr;go_wp2;go_roundw;case rel=>exact⟨k+1,t4,aR.A,by go_num,rfl,wI.A,ke.A⟩
 case measure=>exact ax
 ):P:=h
def aoi {s:iZ} (w:aB) (h:qi w B v s) (hs:kT s=true):aN aH 221 #[v] w λe w'=>(∃p:ByteArray,e=aQ (ap p)/\p.size<=2000)/\aF w w':=by
 obtain⟨u,rfl,hn,C⟩:=h.A;obtain⟨ao,cap,rfl,F,X,D⟩:=C.be;obtain⟨W,m⟩:=aP (w.alloc (aD #[ap s.n,O ao s.aU.length cap] 46));have r:aF w W:=m▸(aF.refl w).alloc (aD #[ap s.n,O ao s.aU.length cap] 46);have HX:=E (show aI W w.heap.size 46 #[ap s.n,O ao s.aU.length cap] from m▸aI.new w _ _);have n:=E (QE W (h.al r.aC));rw[hs] at n;have H:s.n.size<=64/\s.aU.length<=8/\∀k,k<s.aU.length->(oM s k).size<=64/\(nW s k).size<=64:=by
  unfold kT at hs;simp only[b9,decide_eq_true_eq,mw] at hs;refine⟨(nM.1 hs.1.1).2.1,hs.1.2,λk hk=>?_⟩;have:=hs.2 k hk;unfold Bk at this;simp only[b9,decide_eq_true_eq] at this;exact⟨(nM.1 this.1).2.1,this.2⟩
 have g:=E H;have VP:s.aU.length<=9223372036854775807:=a8 X D;have HP:=E F;have d:=E r;have o:=HX.A.cell;clear h C F hs r H D;go_enter func221,ntmps221;go_wp2_with fail;refine n.A.ah ?_;rintro e T⟨rfl,Z⟩;replace HX:=E (HX.A.al Z.aC HX.A.lt);replace d:=E (d.A.trans Z);clear Z n m o;have o:=HX.A.cell;by_cases l:s.aU.length=0
 ·have d0:((s.aU.length:Int)==0)=true:=by rw[l];rfl
  clear l;go_wp2;go_ret;exact⟨⟨_,rfl,ai g.A.1⟩,d.A⟩
 have d0:((s.aU.length:Int)==0)=false:=beq_eq_false_iff_ne.2 an;clear l;go_wp2;clear d0 o;go_loopw [3,22] (λa i wr=>∃(k:Nat) (tx:ByteArray),k<=s.aU.length/\i=J I k/\a=ap tx/\tx.size<=64+210*k/\aF T wr) (λ_ i _=>s.aU.length-(intOf i).toNat);case atStart=>exact⟨0,s.n,an,rfl,rfl,ai g.A.1,aF.refl _⟩
 case round=>
  obtain⟨k,tx,hk,rfl,rfl,z,hB⟩:=hrel;have EX:=E z;clear z;by_cases t:k<s.aU.length
  ·obtain⟨b,off,rfl,cw,R,N,M,V,bZ⟩:=HP.A.mt (d.A.trans hB).aC t;have HN:=E (g.A.2.2 k t);have zZ:=E (show k<8 by have:=g.A.2.1;omega);obtain⟨nm,L⟩:=aP (oM s k);obtain⟨vl,G⟩:=aP (nW s k);rw[L] at R HN;rw[G] at N HN;have aR:=E t;have Y:=E ((d.A.trans hB).alloc (aD #[ap nm,ap vl,aG (ue s k)] 126));have FT:=E (hB.alloc (aD #[ap nm,ap vl,aG (ue s k)] 126));have HM:=aI.new wr 126 #[ap nm,ap vl,aG (ue s k)];have HQ:=E (λW=>aew vl W (ai HN.A.2));have S:=E (show wr.heap.size<(wr.alloc (aD #[ap nm,ap vl,aG (ue s k)] 126)).heap.size by simp);clear hB L G V bZ;rcases kJ k with ci|ci<;>cases f:ue s k;all_goals rw[f] at M Y FT HM S
   ·have e0:((k:Int)==0)=true:=by rw[ci];rfl
    clear ci f;obtain⟨t1,lI,j⟩:=fE ⟨#[123]⟩ nm (K:=66) aqD aq;exact aey
   ·have e0:((k:Int)==0)=true:=by rw[ci];rfl
    clear ci f;obtain⟨t1,lI,j⟩:=fE ⟨#[123]⟩ nm (K:=66) aqD aq;exact aex
   ·have e0:((k:Int)==0)=false:=beq_eq_false_iff_ne.2 an;clear ci f;obtain⟨t1,lI,j⟩:=fE ⟨#[44]⟩ nm (K:=66) aqD aq;exact aey
   ·have e0:((k:Int)==0)=false:=beq_eq_false_iff_ne.2 an;clear ci f;obtain⟨t1,lI,j⟩:=fE ⟨#[44]⟩ nm (K:=66) aqD aq;exact aex
  ·obtain rfl:k=s.aU.length:=by omega
   obtain⟨t1,lI,j⟩:=fE tx ⟨#[125]⟩ (K:=2000) (by have:=EX.A;have:=g.A.2.1;show tx.size+1<=2000;omega) aq;have U:=E lI;have bm:=E (d.A.trans hB);clear lI hB;go_wp2;go_ret;exact⟨⟨_,rfl,U.A⟩,bm.A⟩
def aoj (j:Nat) (hj:j<5):∃(L:ByteArray) (sz:Int),1<=sz/\sz<=86400000/\L.size<=2/\∀W,(mX 321 (.agg kY) (J I (j:Int))).run aH W= .ok (aY #[ap L,J I sz]) W:=by
 rcases(show j=0\/j=1\/j=2\/j=3\/j=4 by omega) with rfl|rfl|rfl|rfl|rfl
 ·exact⟨_,_,aq,aq,aq,aaE⟩
 ·exact⟨_,_,aq,aq,aq,aaF⟩
 ·exact⟨_,_,aq,aq,aq,aaG⟩
 ·exact⟨_,_,aq,aq,aq,aaH⟩
 ·exact⟨_,_,aq,aq,aq,aaI⟩
def aez (d:Int) (w:aB) (R:eK w) (n:gm d=true):aN aH 182 #[J I d] w λe w'=>(∃p:ByteArray,e=aQ (ap p)/\p.size<=200)/\aF w w':=by
 have a:=E R;have hn:=Jm d w;rw[n] at hn;have Z:0<=d/\d<=9007199254740992:=by unfold gm at n;simp at n;omega
 have D:=E Z;clear R n;have u0:=a.A.unit 0;have u1:=a.A.unit 1;have u2:=a.A.unit 2;have u3:=a.A.unit 3;have u4:=a.A.unit 4;have u5:=a.A.unit 5;have u6:=a.A.unit 6;have u7:=a.A.unit 7;have u8:=a.A.unit 8;have u9:=a.A.unit 9;simp[kY] at u0 u1 u2 u3 u4 u5 u6 u7 u8 u9;by_cases l:d=0
 ·have d0:(d==0)=true:=by simpa using l
  clear l Z;go_enter func182,ntmps182;go_wp2_with fail;refine hn.ah ?_;rintro e C⟨rfl,rfl⟩;clear hn;go_wp2;go_ret;exact⟨⟨_,rfl,aq⟩,aF.refl _⟩
 have d0:(d==0)=false:=am l;clear l Z;go_enter func182,ntmps182;go_wp2_with fail;refine hn.ah ?_;rintro e C⟨rfl,rfl⟩;clear hn;go_wp2;clear d0 u0 u1 u2 u3 u4 u5 u6 u7 u8 u9;go_loopw [0,3,13] (λa0 a3 i wr=>∃(j:Nat) (x:Int) (g:ByteArray),j<=5/\i=J I j/\a0=J I x/\a3=ap g/\aF C wr/\a6 (0<=x/\x<=9007199254740992/\g.size<=23*j)) (λ_ _ i _=>5-(intOf i).toNat);case atStart=>exact⟨0,d,⟨#[]⟩,an,rfl,rfl,rfl,aF.refl _,E ⟨D.A.1,D.A.2,aq⟩⟩
 case round=>
  obtain⟨j,x,g,hj,rfl,rfl,rfl,hB,HX⟩:=hrel;by_cases s:j<5
  ·have T:decide ((j:Int)<5)=true:=ac an;obtain⟨L,sz,o,S,O,fL⟩:=aoj j s;unfold kY at fL;have dt:=E (show 1<=sz/\sz<=86400000 from⟨o,S⟩);have aR:=E s;have kW:=E O;have bq:sz≠0:=an;have RU:(sz==0)=false:=am bq;have fz:¬sz=-1:=an;obtain⟨q,m,N⟩:∃q:Int,x.tdiv sz=q/\(0<=q/\q<=9007199254740992):=⟨_,rfl,Int.tdiv_nonneg HX.A.1 an,Int.le_trans (Int.tdiv_le_self _ HX.A.1) HX.A.2.1⟩;obtain⟨p,hp,G⟩:∃p:Int,x.tmod sz=p/\(0<=p/\p<=9007199254740992):=⟨_,rfl,Int.tmod_nonneg _ HX.A.1,by have:=Int.tmod_lt_of_pos x (show 0<sz by omega);omega⟩;have dA:wrap64 q=q:=by unfold wrap64;omega
   have Gf:wrap64 p=p:=by unfold wrap64;omega
   have t:=E G;have OA:=E N;have b:=aI.new wr 320 #[ap L,J I sz];have v:=E (hB.alloc (aD #[ap L,J I sz] 320));have z:=E (λW hW=>OX q an an W (a.A.rel hW));clear o S O s N G hB;by_cases u:0<q
   ·have d1:decide (0<q)=true:=ac u;clear u;go_upto_region 11 with(fail);have h0:=ba.cells b;refine hb (dq 0 2 (dq 3 2 (.c 2 (dq 5 3 .nil)))) ?_;refine bP ?_;refine S6.c ?_;rintro _⟨f,rfl⟩ KK aJ;go_simp;refine(z.A f.aL (v.A.trans f.r)).ah ?_;rintro e w2⟨⟨s1,rfl,o,_⟩,r⟩;obtain⟨X,Y,xZ⟩:=fE s1 L (K:=23) (ai kW.A) aq;obtain⟨V,F,x5⟩:=fE g X (K:=23*(j+1)) (ai HX.A.2.2) (ai aR.A);have H:=E ((v.A.trans f.r).trans r);have U:=E F;have M:=E ((b.al f.aC b.lt).al r.aC (b.al f.aC b.lt).lt);refine aJ _ _ r ?_;clear aJ KK r Y F o h0 f;refine bP ?_;refine S6.nb λwq m=>?_;have ke:=E (H.A.trans (aF.of m));have g1:=(M.A.al m M.A.lt).cell 1;clear m H b;go_wp2;go_roundw;case rel=>exact⟨j+1,p,V,aR.A,by go_num,rfl,rfl,ke.A,E ⟨t.A.1,t.A.2,U.A⟩⟩
    case measure=>exact ax
   ·have d1:decide (0<q)=false:=aa u;clear u b;go_wp2;go_roundw;case rel=>exact⟨j+1,p,g,aR.A,by go_num,rfl,rfl,v.A,E ⟨t.A.1,t.A.2,ai HX.A.2.2⟩⟩
    case measure=>exact ax
  ·have T:decide ((j:Int)<5)=false:=aa an;have bL:=E hB;have HJ:=E hj;clear hB s hj;go_wp2;go_ret;exact⟨⟨_,rfl,aj HX.A.2.2 HJ.A⟩,bL.A⟩
def aok (o:Nat) (h:o<7):∃a:ByteArray,uw[o]?=ad (ap a)/\a.size<=2:=by
 rcases(show o=0\/o=1\/o=2\/o=3\/o=4\/o=5\/o=6 by omega) with rfl|rfl|rfl|rfl|rfl|rfl|rfl<;>exact⟨_,rfl,aq⟩
def aol {x:wV} (w:aB) (C:eK w) (h:vO w B v x) (hs:rq x=true):aN aH 181 #[v] w λe w'=>(∃p:ByteArray,e=aQ (ap p)/\p.size<=2200)/\aF w w':=by
 obtain⟨u,rfl,hn,f⟩:=h.A;obtain⟨ao,cap,rfl,hR,hl,hc⟩:=f.be;have D:kT x.s=true/\(1<=x.op/\x.op<=6)/\j6 x.v=true:=by
  unfold rq rp at hs;simp only[b9,decide_eq_true_eq] at hs;exact⟨hs.1.1,hs.1.2,hs.2⟩
 obtain⟨o,ho⟩:∃o:Nat,x.op=(o:Int):=⟨x.op.toNat,an⟩;obtain⟨m,L,H⟩:=aok o an;have UC:(o:Int)<7:=an;have Z:=(aF.refl w).alloc (aD #[ap x.s.n,O ao x.s.aU.length cap,J I x.op,J I x.v] 48);have d:=E (Z6 _ (h.al Z.aC));rw[hs] at d;have HX:=E (aI.new w 48 #[ap x.s.n,O ao x.s.aU.length cap,J I x.op,J I x.v]);rw[ho] at Z d HX⊢;have F:=E C;have y:=E D;have HU:=E f;have HN:=E hn;have b:=E Z;have dt:=E H;have W:=E L;have g0:=HX.A.cell;clear h f hR hs D Z hn hc hl C L H ho;go_enter func181,ntmps181;go_wp2_with fail;refine d.A.ah ?_;rintro e R⟨rfl,Z⟩;replace HX:=E (HX.A.al Z.aC HX.A.lt);replace b:=E (b.A.trans Z);clear Z d g0;have h0:=ba.cells HX.A;have U:∀p:ba R,p.aL.cell? (ab 2 o M)=ad (ap m):=λp=>((F.A.rel b.A).rel (aF.of p.aC)).sign o▸W.A;go_wp2_with fail;refine hb (dq 0 2 (dq 4 4 (dq 10 2 (.c 2 (.q 3 (dq 8 2 (.c 12 (dq 13 2 .nil)))))))) ?_;refine bP ?_;refine S6.c ?_;rintro _⟨a,rfl⟩ KK aJ;go_simp;refine(aoi (s:=x.s) a.aL ⟨_,rfl,HN.A,HU.A.al (b.A.trans a.r).aC⟩ y.A.1).ah ?_;rintro e w2⟨⟨r,rfl,X⟩,i⟩;obtain⟨T,lI,mn⟩:=fE r ⟨#[32]⟩ (K:=2001) (by show r.size+1<=2001;omega) aq;obtain⟨l,lf,pn⟩:=fE T m (K:=2003) (ai dt.A) aq;obtain⟨S,n,xZ⟩:=fE l ⟨#[32]⟩ (K:=2004) (by show l.size+1<=2004;omega) aq;have G:=E ((b.A.trans a.r).trans i);have j:=E n;refine aJ _ _ i ?_;clear aJ KK i lI lf n X a h0 U;refine bP ?_;refine S6.c ?_;rintro _⟨a,rfl⟩ KK aJ;go_simp;refine(aoh x.v a.aL (F.A.rel (G.A.trans a.r)) y.A.2.2).ah ?_;rintro e w3⟨⟨V,rfl,Y⟩,g⟩;obtain⟨t4,t,x5⟩:=fE S V (K:=2200) (ai j.A) aq;have bL:=E ((G.A.trans a.r).trans g);have N:=E t;refine aJ _ _ g ?_;clear aJ KK g t Y a;refine bP ?_;refine S6.nb λwq z=>?_;have b3:=E (bL.A.trans (aF.of z));clear z;go_wp2;go_ret;exact⟨⟨_,rfl,N.A⟩,b3.A⟩
variable {w':aB} {S:List bf} {a0 cZ a2:aE}
def aI.iv (h:aI w g t #[a0,cZ,a2]) (u0 u1 u2:aE):aI (((w.setCell (ab g 0 M) u0).setCell (ab g 1 M) u1).setCell (ab g 2 M) u2) g t #[u0,u1,u2]:=(((h.put 0 u0).put 1 u1).put 2 u2)
def BQ (Z:g<w.heap.size) (u0 u1 u2:aE):w.grownBy (((w.setCell (ab g 0 M) u0).setCell (ab g 1 M) u1).setCell (ab g 2 M) u2) (ad g):=bB (bB (bX Z u0) (bX aqg u1)) (bX aqg u2)
def Nt.BR (y:Nt):na:=⟨y.L,y.f,y.t,y.k,y.x⟩
noncomputable def M6 (y:na):Bool:=bH y.L&&et y.t&&et y.x&&(decide (0<=y.k)&&decide (y.k<8))
noncomputable def jk (q:fQ):Bool:=decide (q.N.length<=16)&&et q.d&&et q.l&&q.N.all M6
noncomputable def oY (q:fQ):fQ:=if jk q=true then q else⟨[],0,0⟩
def RX {y:na}:M6 y=true↔bH y.L=true/\et y.t=true/\et y.x=true/\0<=y.k/\y.k<8:=by
 unfold M6;simp only[b9,decide_eq_true_eq];constructor
 ·rintro⟨⟨⟨c,h2⟩,b⟩,h4,a⟩;exact⟨c,h2,b,h4,a⟩
 ·rintro⟨c,h2,b,h4,a⟩;exact⟨⟨⟨c,h2⟩,b⟩,h4,a⟩
theorem aam (h:P:=by
 simp only[b9,decide_eq_true_eq,List.all_eq_true];constructor
 ·rintro⟨⟨⟨h1,h2⟩,h3⟩,h4⟩;exact⟨h1,h2,h3,h4⟩
 ·rintro⟨h1,h2,h3,h4⟩;exact⟨⟨⟨h1,h2⟩,h3⟩,h4⟩
 ):P:=h
def D4 {q:fQ}:jk q=true↔q.N.length<=16/\et q.d=true/\et q.l=true/\∀y∈q.N,M6 y=true:=by
 unfold jk;exact aam
def RY (q:fQ):jk (oY q)=true:=by
 unfold oY;split
 ·assumption
 ·rw[D4];exact⟨av,aq,aq,av⟩
def aan (ns:List Nt) (d l:Int):jQ ns d l=jk ⟨ns.map Nt.BR,d,l⟩:=by
 rw[Bool.eq_iff_iff,BD,D4];unfold BC BB BA;simp only[p6];constructor
 ·rintro⟨b,h2,a,h4⟩;refine⟨b,h2,a,λy c=>?_⟩;obtain⟨x,e,rfl⟩:=hM.1 c;obtain⟨i,hi,rfl⟩:=MM e;rw[RX];exact h4 i hi
 ·rintro⟨b,h2,a,h4⟩;refine⟨b,h2,a,λi hi=>?_⟩;have:=h4 _ (hM.2 ⟨_,ML hi,rfl⟩);rw[RX] at this;exact this
def Rs.Jg {l:List na} (h:Rs fV w B l us):∃ns:List Nt,ns.map Nt.BR=l/\us=jx ns/\∀y∈ns,Rn w w.heap.size y:=by
 induction h with
 |nil=>exact⟨[],rfl,rfl,av⟩
 |@cons a l vs us h _ ih=>
  obtain⟨ns,f,h2,e⟩:=ih;obtain⟨v0,rfl,hv⟩:=h;obtain⟨ao,c,rfl,d,g,i⟩:=hv.hN;refine⟨⟨ao,a.L.length,c,a.L,a.f,a.t,a.k,a.x⟩::ns,by rw[sd,f];rfl,by rw[h2];rfl,λy b=>?_⟩;rcases ee.1 b with rfl|b
  ·exact⟨d,g,i⟩
  ·exact e y b
def Vs.Jg {l:List na} (h:Vs fV w B v l):∃ao n c ns,v=O ao n c/\ia w w.heap.size ao n ns/\ns.map Nt.BR=l/\n<=c/\c<=9223372036854775807:=by
 obtain⟨ao,n,c,rfl,⟨a,us,d,e⟩,f,h2⟩:=h.A;obtain⟨ns,b,rfl,g⟩:=d.Jg;refine⟨ao,n,c,ns,rfl,⟨?_,e.sink,λi hi=>g _ (ML ?_)⟩,b,f,h2⟩
 ·rw[<-b,p6] at a;exact a
 ·rw[<-b,p6] at a;omega
structure jl (w:aB) (B:Nat) (v:aE) (q:fQ):Prop where
 A:∃u,v=aY #[u,J I q.d,J I q.l]/\Vs fV w B u q.N
def jl.al {q:fQ} (h:jl w B v q) (Z:aS w.heap.size w w'):jl w' B v q:=by
 obtain⟨u,e,h⟩:=h.A;exact⟨u,e,h.al Z⟩
def jl.keep {q:fQ} (h:jl w B v q) (a:Kt B S w w') (b:fV.e∉S) (h2:∀t∈fV.bI,t∉S):jl w' B v q:=by
 obtain⟨u,e,h⟩:=h.A;exact⟨u,e,h.keep a b h2⟩
def jl.zero (w:aB) (B:Nat):jl w B (aY #[O M 0 0,J I 0,J I 0]) ⟨[],0,0⟩:=⟨_,rfl,Vs.bh _ _ _⟩
def jl.qv {q:fQ} (h:jl w B v q):∃ns,QV w w.heap.size v ns q.d q.l/\ns.map Nt.BR=q.N:=by
 obtain⟨u,rfl,a⟩:=h.A;obtain⟨ao,n,c,ns,rfl,d,h2,b,h4⟩:=a.Jg;exact⟨ns,⟨ao,n,c,rfl,d,b,h4⟩,h2⟩
def RZ {q:fQ} (w:aB) (h:jl w B v q):aN aH 26 #[v] w λe w'=>e=aQ (aG (jk q))/\aF w w':=by
 obtain⟨ns,b,h2⟩:=h.qv;obtain⟨ao,n,c,rfl,a,h4,d⟩:=b.A;refine(Zr ao n c q.d q.l ns w an a).ah ?_;rintro e w'⟨rfl,Z⟩;rw[aan,h2];exact⟨rfl,aF.of Z⟩
def ajO {q:fQ} (h:jl w B v q):jl w B (if jk q=true then v else aY #[O M 0 0,J I 0,J I 0]) (oY q):=by
 unfold oY;split
 ·exact h
 ·exact jl.zero _ _
def ajP {q:fQ} (w:aB) (h:jl w B v q):aN aH 112 #[v] w λe w'=>e=aQ (if jk q=true then v else aY #[O M 0 0,J I 0,J I 0])/\aF w w':=by
 obtain⟨u,e,j⟩:=h.A;obtain⟨ao,cap,rfl,_⟩:=j.be;subst e;have i:=E (((aF.refl w).alloc (aD #[O ao q.N.length cap,J I q.d,J I q.l] 31)).alloc (aD #[O M 0 0,J I 0,J I 0] 31));have HX:=E ((aI.new w 31 #[O ao q.N.length cap,J I q.d,J I q.l]).alloc (aD #[O M 0 0,J I 0,J I 0] 31));have f:=E (aI.new (w.alloc (aD #[O ao q.N.length cap,J I q.d,J I q.l] 31)) 31 #[O M 0 0,J I 0,J I 0]);have l:=E (RZ _ (h.al i.A.aC));clear h j;generalize jk q=y at*;go_enter func112,ntmps112;go_wp2_with fail;refine l.A.ah ?_;rintro e o⟨rfl,Z⟩;have m:=HX.A.al Z.aC HX.A.lt;have d:=f.A.al Z.aC f.A.lt;simp only[eO] at d;have n:=i.A.trans Z;clear Z HX f l i;have p:=m.cell;have⟨h0,r⟩:=d.cf;have k:=E (λ(a b c:aE)=>n.cD (BQ d.lt a b c) an);cases y
 ·have g:=E (d.iv (O M 0 0) (J I 0) (J I 0));go_wp2;have k0:=g.A.cell;refine bF (v:=aY #[O M 0 0,J I 0,J I 0]) (by simp[bz,results112,go_sem,k0]) rfl ⟨rfl,k.A _ _ _⟩
 ·have g:=E (d.iv (O ao q.N.length cap) (J I q.d) (J I q.l));go_wp2;have k0:=g.A.cell;refine bF (v:=aY #[O ao q.N.length cap,J I q.d,J I q.l]) (by simp[bz,results112,go_sem,k0]) rfl ⟨rfl,k.A _ _ _⟩
def aao:(aH.info? fV.e).map (λi=>(i.zero,i.size,i.bytes))=ad (ad (aY #[O M 0 0,aG false,J I 0,J I 0,J I 0]),5,56):=ar
def aap:fV.e∉fV.bI:=aq
def ajQ {l:List na} (w:aB) (hB:B<=w.heap.size) (h:Vs fV w B v l) (hs:l.length*56<=140737488355328):aN aH 197 #[v] w λe w'=>(∃d,e=aQ d/\Ow fV w' B w.heap.size d l)/\aF w w':=by
 obtain⟨ao,n,cap,rfl,c,_⟩:=h.A;clear h;have u:∀w,(binOp .eql 29 (O ao n cap) (O M 0 0)).run aH w= .ok (aG ao.isNone) w:=λw=>by
  simp only[binOp];simp[run_equal_slice_nil w 29 117 ao n cap underlying29]
 have k:=c.len;cases ao with
 |none=>
  have o:l=[]:=by
   obtain⟨us,b,f⟩:=c.A;rcases kJ n with h|h
   ·exact Dt
   ·obtain⟨_,_,e,_⟩:=f (Nat.mul_pos h fV.pos);cases e
  subst o;clear c;go_enter func197,ntmps197;exact Ba
 |some a=>
  have HO:=E (Ow.AO (D:=fV) (base:=w.heap.size) w B (aO _));have HB:=E ((aF.refl w).alloc (aD #[] 117));have m:=E (show∃us,Rs fV (w.alloc (aD #[] 117)) B l us/\Sl (w.alloc (aD #[] 117)) (w.heap.size+1) (ad a) (n*fV.k) (λi=>us.getD i (aG false)) by
   have p:=c.al ((bk _ _).alloc (aO _) (aD #[] 117));obtain⟨us,b,f⟩:=p.A;have:=f.sink;rw[eO] at this;exact⟨us,b,this⟩)
  obtain⟨us,b,j⟩:=m.A;have s:=E b;have t:=E j;have g:=E (show([]:List na).length+n<=bK/\(([]:List na).length+n)*56<=140737488355328/\w.heap.size<=(w.alloc (aD #[] 117)).heap.size from⟨aqy,aqJ,av⟩);have q:=E k;have r:=E hB;clear b j m c hs k hB;go_enter func197,ntmps197;go_wp2_with ((refine mZ fV au (.tmp 5) (.tmp 6) 29 au w.heap.size 56 _ ar aao au B _ [] au HO.A (ad a) n cap l us au s.A q.A (w.heap.size+1) t.A g.A.1 g.A.2.1 g.A.2.2 r.A aap ?_;intro d w' bC bG x));exact Ds
noncomputable def BS (q:fQ) (L:aZ) (f:Bool) (t:Int):fQ:=if bH L=false then oY q else if 16<=(oY q).N.length then{oY q with d:=min ((oY q).d+1) 9007199254740992} else{oY q with N:=(oY q).N++[⟨L,f,ga t,0,ga t⟩]}
def R0 (q:fQ) (L:aZ) (f:Bool) (t:Int):jk (BS q L f t)=true:=by
 have a:=D4.1 (RY q);unfold BS;split
 ·exact RY q
 ·rename_i c;split
  ·rw[D4];refine⟨a.1,?_,a.2.2.1,a.2.2.2⟩;have:=sX.1 a.2.1;rw[sX];simp only;omega
  ·rw[D4];refine⟨aw,a.2.1,a.2.2.1,λy b=>?_⟩;rcases kf.1 b with b|b
   ·exact a.2.2.2 y b
   ·rw[bD] at b;subst b;rw[RX];exact⟨am c,sX.2 (MH t),sX.2 (MH t),av,av⟩
structure s9 (w W:aB) (B:Nat) (u:aE) (d l:Int) (N:List na) (vl:aE) (L:aZ):Prop where
 b:aF w W
 x:aI W w.heap.size 31 #[u,J I d,J I l]
 y:aI W (w.heap.size+1) 31 #[O M 0 0,J I 0,J I 0]
 q:Vs fV W B u N
 p:Vs bE W B vl L
section
variable {w W W':aB} {B:Nat} {u:aE} {d l:Int} {N:List na} {vl:aE} {L:aZ}
def s9.al (h:s9 w W B u d l N vl L) (Z:aS W.heap.size W W'):s9 w W' B u d l N vl L:=⟨h.b.trans (aF.of Z),h.x.al Z h.x.lt,h.y.al Z h.y.lt,h.q.al Z,h.p.al Z⟩
def s9.fill (h:s9 w W B u d l N vl L) (hB:B<=w.heap.size) {u':aE} {f:List na} (b a:Int) (i:Vs fV W B u' f):s9 w (((W.setCell (ab w.heap.size 0 M) u').setCell (ab w.heap.size 1 M) (J I b)).setCell (ab w.heap.size 2 M) (J I a)) B u' b a f vl L:=by
 have hg:=BQ h.x.lt u' (J I b) (J I a);have c:Kt B [31] W _:=(Kt.refl _ _ W).grown hg (ai h.b.size) (λg e=>by cases e;exact⟨hB,bp.bO h.x⟩) (bD.2 rfl);exact⟨h.b.cD hg (aO _),h.x.iv _ _ _,h.y.gr hg an,i.keep c aq aq,h.p.keep c aq aq⟩
def s9.push (h:s9 w W B u d l N vl L) (hB:B<=w.heap.size) {u':aE} {i:List na} (c:aF w W') (b:Kt B [117] W W') (ho:Ow fV W' B w.heap.size u' i):s9 w (W'.setCell (ab w.heap.size 0 M) u') B u' d l i vl L:=by
 have a:=b.eP h.x aq;have hg:=bX (o:=0) a.lt u';have f:Kt B [31] W' _:=(Kt.refl _ _ W').grown hg (ai c.size) (λg e=>by cases e;exact⟨hB,bp.bO a⟩) (bD.2 rfl);exact⟨c.cD hg (aO _),a.put 0 _,(b.eP h.y aq).gr hg an,ho.vs.keep f aq aq,(h.p.keep b aq aq).keep f aq aq⟩
def s9.fin (h:s9 w W B u d l N vl L) (hB:B<=w.heap.size):jl (((W.setCell ⟨w.heap.size+1,0,M⟩ u).setCell ⟨w.heap.size+1,1,M⟩ (J I d)).setCell ⟨w.heap.size+1,2,M⟩ (J I l)) B (aY #[u,J I d,J I l]) ⟨N,d,l⟩/\aF w (((W.setCell ⟨w.heap.size+1,0,M⟩ u).setCell ⟨w.heap.size+1,1,M⟩ (J I d)).setCell ⟨w.heap.size+1,2,M⟩ (J I l)):=by
 have hg:=BQ h.y.lt u (J I d) (J I l);have a:Kt B [31] W _:=(Kt.refl _ _ W).grown hg (ai h.b.size) (λg e=>by cases e;exact⟨an,bp.bO h.y⟩) (bD.2 rfl);exact⟨⟨u,rfl,h.q.keep a aq aq⟩,h.b.cD hg an⟩
end
def R3 {vl:aE} {q:fQ} (f:Bool) (t:Int) (w:aB) (hB:B<=w.heap.size) (h:jl w B v q) (U:Vs bE w B vl L):aN aH 153 #[v,vl,aG f,J I t] w λe w'=>(∃G,e=aQ G/\jl w' B G (BS q L f t))/\aF w w':=by
 obtain⟨u,e,S⟩:=h.A;obtain⟨ao,cap,rfl,_⟩:=S.be;subst e;obtain⟨Al,cl,rfl,_⟩:=U.len_;have m:=((aF.refl w).alloc (aD #[O ao q.N.length cap,J I q.d,J I q.l] 31)).alloc (aD #[O M 0 0,J I 0,J I 0] 31);have a:=E (show s9 w ((w.alloc (aD #[O ao q.N.length cap,J I q.d,J I q.l] 31)).alloc (aD #[O M 0 0,J I 0,J I 0] 31)) B (O ao q.N.length cap) q.d q.l q.N (O Al L.length cl) L from⟨m,(aI.new w 31 _).alloc _,by have:=aI.new (w.alloc (aD #[O ao q.N.length cap,J I q.d,J I q.l] 31)) 31 #[O M 0 0,J I 0,J I 0];simpa using this,S.al m.aC,U.al m.aC⟩);have HC:=E (ajP _ (h.al m.aC));have BU:=E (ajO (h.al m.aC));have b:=E hB;have H:=E (D4.1 (RY q));have p:=E (show BS q L f t=(if bH L=false then oY q else if 16<=(oY q).N.length then{oY q with d:=min ((oY q).d+1) 9007199254740992} else{oY q with N:=(oY q).N++[⟨L,f,ga t,0,ga t⟩]}) from rfl);generalize BS q L f t=r at p⊢;clear h S U m hB;go_enter func153,ntmps153;go_wp2_with fail;refine HC.A.ah ?_;rintro e w1⟨rfl,Z⟩;have V:=a.A.al Z.aC;have hV:=BU.A.al Z.aC;generalize(if jk q=true then aY #[O ao q.N.length cap,J I q.d,J I q.l] else aY #[O M 0 0,J I 0,J I 0])=v1 at*;generalize oY q=Q at*;obtain⟨u1,rfl,z⟩:=hV.A;obtain⟨A1,c1,rfl,_⟩:=z.be;obtain⟨N,d1,l1⟩:=Q;dsimp only at z H p;have⟨i,C⟩:=V.x.cf;replace a:=E (V.fill b.A d1 l1 z);clear Z V hV z HC BU;have eG:=MU _ a.A.p;go_wp2_with fail;refine eG.ah ?_;rintro e F⟨rfl,Z⟩;replace a:=E (a.A.al Z.aC);clear eG Z C i;cases k:bH L with
 |false=>
  have j:=E (show r=⟨N,d1,l1⟩ by rw[p.A,ag k]);clear k;have s:=E (a.A.y.iv (O A1 N.length c1) (J I d1) (J I l1));have c:=E (a.A.fin b.A);have i:=a.A.x.cell;have⟨h0,C⟩:=a.A.y.cf;go_wp2;have k0:=s.A.cell;refine bF (v:=aY #[(O A1 N.length c1),J I d1,J I l1]) arn rfl ⟨⟨_,rfl,by rw[j.A];exact c.A.1⟩,c.A.2⟩
 |true=>
  have ce:=H.A.1;have i:=a.A.x.cell 0;simp at i;by_cases D:16<=N.length
  ·have j:=E (show r=⟨N,min (d1+1) 9007199254740992,l1⟩ by rw[p.A,af (by simp[k]),ag D]);have Y:decide (16<=N.length)=true:=ac D;have hd:=sX.1 H.A.2.1;have aK:I.wrap (d1+1)=d1+1:=ay;obtain⟨l,K⟩:=aP (min (d1+1) 9007199254740992);have AI:∀(ts:Array bf) (ty:bf) (W:aB),(Builtin.min_ ts ty #[J I (d1+1),J I 9007199254740992]).run aH W= .ok (J I l) W:=λts ty W=>by
    rw[<-K];rw[run_min_int2];congr 2;split<;>omega
   rw[K] at j;have g1:=a.A.x.cell 1;have f1:=a.A.x.frozen 1;have iM:=a.A.q;have bM:=E (show s9 w (F.setCell (ab w.heap.size 1 M) (J I l)) B (O A1 N.length c1) l l1 N (O Al L.length cl) L from by
    have hg:=bX (o:=1) a.A.x.lt (J I l);have hk:Kt B [31] F _:=(Kt.refl _ _ F).grown hg (aj a.A.b.size b.A) (λg e=>by cases e;exact⟨b.A,bp.bO a.A.x⟩) (bD.2 rfl);exact⟨a.A.b.cD hg (aO _),a.A.x.put 1 _,a.A.y.gr hg an,a.A.q.keep hk aq aq,a.A.p.keep hk aq aq⟩)
   clear k iM a K;have a:=bM;clear bM;have s:=E (a.A.y.iv (O A1 N.length c1) (J I l) (J I l1));have c:=E (a.A.fin b.A);have e0:=a.A.x.cell;have⟨h0,C⟩:=a.A.y.cf;go_wp2;have k0:=s.A.cell;refine bF (v:=aY #[(O A1 N.length c1),J I l,J I l1]) arn rfl ⟨⟨_,rfl,by rw[j.A];exact c.A.1⟩,c.A.2⟩
  ·have j:=E (show r=⟨N++[⟨L,f,ga t,0,ga t⟩],d1,l1⟩ by rw[p.A,af (by simp[k]),af D]);have Y:decide (16<=N.length)=false:=aa D;clear k;go_wp2_with fail;refine(MI t _).ah ?_;rintro e w3⟨rfl,rfl⟩;obtain⟨T,HT⟩:∃T,a6 (ga t=T):=⟨_,E rfl⟩;rw[HT.A] at j⊢;have aJ:=E a.A.b.size;have b5:=ajQ w3 (aj a.A.b.size b.A) a.A.q an;go_wp2_with fail;refine b5.ah ?_;rintro e w4⟨⟨v4,rfl,bc⟩,Z⟩;replace a:=E (a.A.al Z.aC);have HO:=E (bc.less (b':=w.heap.size) aJ.A);have R4:=E a.A.b.size;have HX:=E a.A.x;have HY:=E a.A.y;clear b5 bc Z i;go_wp2_with ((refine uv fV au (.tmp 29) (.tmp 35) 29 au w.heap.size 56 _ ar aao au aq B _ N au w4 [O Al L.length cl,aG f,J I T,J I 0,J I T] ⟨L,f,T,0,T⟩ au HO.A ⟨_,rfl,a.A.p⟩ an R4.A b.A aap ?_;intro G w' bC fA X pI;obtain⟨A5,c5,mM,_⟩:=bC.shape;obtain⟨n5,ri⟩:∃n,(N++[(⟨L,f,T,0,T⟩:na)]).length=n:=⟨_,rfl⟩;rw[ri] at mM;subst mM;clear ri;have R:=X.eP HX.A aq;have C:=R.frozen 0;have i:=R.cell 0;have a:=E (a.A.push b.A (fA _ a.A.b (aO _)) X bC);simp at i;clear R bC fA X pI;have s:=E (a.A.y.iv (O A5 n5 c5) (J I d1) (J I l1));have c:=E (a.A.fin b.A);have e0:=a.A.x.cell 0;have e1:=a.A.x.cell 1;have e2:=a.A.x.cell 2;have h0:=a.A.y.cell 0;have h1:=a.A.y.cell 1;have h2:=a.A.y.cell 2;have p0:=a.A.y.frozen 0;have p1:=a.A.y.frozen 1;have p2:=a.A.y.frozen 2;simp at e0 e1 e2 h0 h1 h2));have k0:=s.A.cell;refine bF (v:=aY #[(O A5 n5 c5),J I d1,J I l1]) arn rfl ⟨⟨_,rfl,by rw[j.A];exact c.A.1⟩,c.A.2⟩
section
open im (dT fe)
noncomputable def D6 (st:List cr) (l:aZ) (x:dC):List cr:=(ra st l x).getD st
def ajW {st:List cr} {l:aZ} {x:dC} (hs:eY st=true):eY (D6 st l x)=true:=by
 unfold D6;cases h:ra st l x with
 |none=>exact hs
 |some m=>exact YB h
end
def JB (l:List eX) (k:Key) (T:cy):Prop:=(T=⟨[],0⟩/\(kz l=true->∀s∈l,s.k≠k))\/(kz l=true/\∃s∈l,s.k=k/\T=s.x)
theorem aaC (h:P:=by
 clear he e1;go_wp2;go_roundw;case rel=>exact⟨m+1,aR.A,by go_num,vE,b3.A⟩
 case measure=>exact ax
 ):P:=h
def aj3 {l:List eX} (k0 a:ByteArray) (w:aB) (hB:B<=w.heap.size) (h:Vs jH w B v l):aN aH 90 #[v,aY #[ap k0,ap a]] w λe w'=>(∃u T,e=aQ u/\Av jb w' B T u/\JB l (k0,a) T)/\aF w w':=by
 have G:=((aF.refl w).alloc (aD #[ap k0,ap a] 67)).alloc (aD #[O M 0 0,J I 0] 56);have c:=E G;have y:=E ((aI.new w 67 #[ap k0,ap a]).alloc (aD #[O M 0 0,J I 0] 56));have HX:=E (show aI ((w.alloc (aD #[ap k0,ap a] 67)).alloc (aD #[O M 0 0,J I 0] 56)) (w.heap.size+1) 56 #[O M 0 0,J I 0] from by have:=aI.new (w.alloc (aD #[ap k0,ap a] 67)) 56 #[O M 0 0,J I 0];simpa using this);have X:=E hB;have HV:=E (h.al G.aC);have K:=Sb _ HV.A;obtain⟨ao,cap,rfl,S,cn,b4⟩:=h.be;have iq:=E S;obtain⟨r,D⟩:=aP (kz l);rw[D] at K;have L:=E D;clear h S D G hB;go_enter func90,ntmps90;go_wp2_with fail;refine K.ah ?_;rintro e w1⟨rfl,Z⟩;replace HX:=E (HX.A.al Z.aC HX.A.lt);replace y:=E (y.A.al Z.aC y.A.lt);replace c:=E (c.A.trans Z);clear K Z HV;cases r with
 |false=>
  have V:=HX.A.frozen 0;have U:=HX.A.frozen 1;have x0:=HX.A.cell 0;have o:=HX.A.cell 1;simp at x0 o;have d:=E (HX.A.s8 (O M 0 0) (J I 0));have k:=E (rJ HX.A.lt (O M 0 0) (J I 0));go_wp2;have r0:=d.A.cell 0;have r1:=d.A.cell 1;simp at r0 r1;refine bF (v:=aY #[O M 0 0,J I 0]) ars rfl ⟨⟨_,⟨[],0⟩,rfl,⟨_,rfl,_,rfl,Vs.bh _ _ _⟩,.inl ⟨rfl,λh=>ae (L.A.symm.trans h) aq⟩⟩,c.A.cD k.A (mg _)⟩
 |true=>
  have aJ:l.length<=256:=(FQ L.A).1;go_wp2;go_loopw [13] (λi wr=>∃m:Nat,m<=l.length/\i=J I m/\a6 (∀j,j<m->cz l j≠(k0,a))/\aF w1 wr) (λi _=>l.length-(intOf i).toNat);case atStart=>exact⟨0,an,rfl,E (λj hj=>ae hj an),aF.refl _⟩
  case round=>
   obtain⟨m,hm,rfl,HN,C⟩:=hrel;by_cases n:m<l.length
   ·obtain⟨b,off,A0,c0,rfl,cw,y0,y1,y2,y3,bJ,W⟩:=iq.A.sv (c.A.trans C).aC n;have aR:=E n;have H:=(aF.refl wr).alloc (aD #[ap (cz l m).1,ap (cz l m).2,O A0 (fJ l m).ao.length c0,J I (fJ l m).full] 205);have b3:=E (C.trans H);have N:=E (W.al H.aC);have z:=E (aI.new wr 205 #[ap (cz l m).1,ap (cz l m).2,O A0 (fJ l m).ao.length c0,J I (fJ l m).full]);have f:=E (y.A.al b3.A.aC y.A.lt);replace HX:=E (HX.A.al b3.A.aC HX.A.lt);have t:=f.A.cell 0;have p:=f.A.cell 1;have s0:=z.A.cell 0;have s1:=z.A.cell 1;have R:=z.A.cell 2;have Q:=z.A.cell 3;simp at t p s0 s1 R Q;obtain⟨g,hg⟩:=aP ((cz l m).1);obtain⟨q,F⟩:=aP ((cz l m).2);have Y:=E (show cz l m=(g,q) from Prod.ext hg F);clear bJ W H;simp only[hg,F] at y0 y1 s0 s1 b3 N z f HX t p R Q;clear hg F;by_cases he:g=k0/\q=a
    ·have e1:(g.toList==k0.toList)=true:=by rw[j9];simpa using he.1
     have e2:(q.toList==a.toList)=true:=by rw[j9];simpa using he.2
     have A:=E he;clear he;replace c:=E (c.A.trans b3.A);have V:=HX.A.frozen 0;have U:=HX.A.frozen 1;have x0:=HX.A.cell 0;have o:=HX.A.cell 1;simp at x0 o;have d:=E (HX.A.s8 (O A0 (fJ l m).ao.length c0) (J I (fJ l m).full));have k:=E (rJ HX.A.lt (O A0 (fJ l m).ao.length c0) (J I (fJ l m).full));go_wp2;have r0:=d.A.cell 0;have r1:=d.A.cell 1;simp at r0 r1;refine bF (v:=aY #[O A0 (fJ l m).ao.length c0,J I (fJ l m).full]) ars rfl ⟨⟨_,fJ l m,rfl,⟨_,rfl,_,rfl,N.A.keep ((Kt.refl B [56] _).grown k.A (a8 X.A c.A.size) (λx e=>by cases e;exact⟨Nat.le_succ_of_le X.A,bp.bO HX.A⟩) (bD.2 rfl)) aq aq⟩,.inr ⟨L.A,l[m]'n,dl n,by rw[JA n];show cz l m=_;rw[Y.A,A.A.1,A.A.2],by rw[JA n]⟩⟩,c.A.cD k.A (mg _)⟩
    ·have A:=E he;have vE:=E (show∀j,j<m+1->cz l j≠(k0,a) fromλj hj=>by
      rcases gy j m with h'|h'
      ·exact HN.A j h'
      ·obtain rfl:j=m:=by omega
       rw[Y.A];exactλh=>A.A ⟨congrArg Prod.fst h,congrArg Prod.snd h⟩)
     by_cases e1:g=k0
     ·have d1:(g.toList==k0.toList)=true:=by rw[j9];simpa using e1
      have d2:(q.toList==a.toList)=false:=by rw[j9];simpa usingλh=>A.A ⟨e1,h⟩
      exact aaC
     ·have d1:(g.toList==k0.toList)=false:=by rw[j9];simpa using e1
      exact aaC
   ·obtain rfl:m=l.length:=by omega
    replace HX:=E (HX.A.al C.aC HX.A.lt);replace c:=E (c.A.trans C);have V:=HX.A.frozen 0;have U:=HX.A.frozen 1;have x0:=HX.A.cell 0;have o:=HX.A.cell 1;simp at x0 o;have d:=E (HX.A.s8 (O M 0 0) (J I 0));have k:=E (rJ HX.A.lt (O M 0 0) (J I 0));go_wp2;have r0:=d.A.cell 0;have r1:=d.A.cell 1;simp at r0 r1;refine bF (v:=aY #[O M 0 0,J I 0]) ars rfl ⟨⟨_,⟨[],0⟩,rfl,⟨_,rfl,_,rfl,Vs.bh _ _ _⟩,.inl ⟨rfl,λ_ s hs=>by obtain⟨j,hj,rfl⟩:=qV.1 hs;rw[JA hj];exact HN.A j hj⟩⟩,c.A.cD k.A (mg _)⟩
variable {b:Nat} {l:List Tok} {w0:aB}
theorem aa9 (h:P:=by
 have jv:(xK !=0)=true:=aqk;have HK:=E hk;have hR:=HN.A.1 hk;replace HS:=E (HS.A.step hR hG);clear hk hR hG HN;go_wp2;go_ret;exact⟨⟨xK,_,_,_,_,rfl,HS.A.rd,E ⟨λh=>ae h HK.A,λh=>(zI.A h).elim⟩⟩,HS.A.gr⟩;):P:=h
def akC {c:Nat} (hG:eK w0) (hT:∀t∈l,t.s.size<=1000000) (mJ:l.length<=65536) (h:dk w0 w B b c i ao l ⟨⟨#[]⟩,⟨⟨⟨#[]⟩,[]⟩,0,0⟩,0,0,[]⟩ (M,0) (M,0)):aN aH 220 #[bl (ad (ab b 0 M))] w λe w'=>RUo w0 w w' B b c i ao l e:=by
 have bW:=(bk w.heap.size w).alloc (aO _) (aD #[bl (ad (ab b 0 M))] 324);have HS:=E (show B7 w0 w (w.alloc (aD #[bl (ad (ab b 0 M))] 324)) B b c i ao l ⟨⟨#[]⟩,⟨⟨⟨#[]⟩,[]⟩,0,0⟩,0,0,[]⟩ (M,0) (M,0) from⟨h.al bW,grown_of bW,aI.new w _ _,h.box.lt,h.b0.size⟩);have cY:=E hG;have gZ:=E hT;have uC:=E mJ;have dM:=E (a8 h.lc.1 h.lc.2);clear h bW hG hT mJ;go_enter func220,ntmps220;cases kw:cA l i 1 xH with
 |false=>
  have N:=E kw;have a:=zD 1 xH HS.A.rd kw;clear kw;have d:=HS.A.jn.cell 0;go_wp2_with fail;refine(a).ah ?_;rintro e g⟨rfl,Z⟩;replace HS:=E (HS.A.al Z);clear Z;clear a d;have d:=HS.A.jn.cell 0;have H:=E (B4 HS.A.rd);go_wp2_with fail;refine H.A.ah ?_;rintro e g⟨⟨k,rfl,G⟩,Z⟩;have HK:=E (show k≠0 by simpa using G);replace HS:=E (HS.A.al Z);clear G Z H d;go_wp2;go_ret;exact⟨⟨k,_,_,_,_,rfl,HS.A.rd,E ⟨λh=>ae h HK.A,λh=>ae ((xI h).1.symm.trans N.A) aq⟩⟩,HS.A.gr⟩
 |true=>
  have a:=zE 1 xH HS.A.rd kw;have Bw:=E kw;clear kw;have d:=HS.A.jn.cell 0;go_wp2_with fail;refine(a).ah ?_;rintro e g⟨rfl,hR,hG⟩;replace HS:=E (HS.A.step hR hG);clear hR hG;clear a d;obtain⟨K,Jl⟩:=aP (i+1);rw[Jl] at HS;have Ni:=E Jl;clear Jl;cases hk:eT l K 1 with
  |false=>
   have N:=E (show eT l (i+1) 1=false by rw[Ni.A];exact hk);have a:=Gk 1 HS.A.rd;rw[hk] at a;clear hk;have d:=HS.A.jn.cell 0;go_wp2_with fail;refine(a).ah ?_;rintro e g⟨rfl,Z⟩;replace HS:=E (HS.A.al Z);clear Z;clear a d;have d:=HS.A.jn.cell 0;have H:=E (B4 HS.A.rd);go_wp2_with fail;refine H.A.ah ?_;rintro e g⟨⟨k,rfl,G⟩,Z⟩;have HK:=E (show k≠0 by simpa using G);replace HS:=E (HS.A.al Z);clear G Z H d;go_wp2;go_ret;exact⟨⟨k,_,_,_,_,rfl,HS.A.rd,E ⟨λh=>ae h HK.A,λh=>ae ((xI h).2.1.symm.trans N.A) aq⟩⟩,HS.A.gr⟩
  |true=>
   have U:=kZ hk;have a:=Gk 1 HS.A.rd;rw[hk] at a;clear hk;have d:=HS.A.jn.cell 0;go_wp2_with fail;refine(a).ah ?_;rintro e g⟨rfl,Z⟩;replace HS:=E (HS.A.al Z);clear Z;clear a d;obtain⟨gq,off,JK,eb,q0,q1,q2,q3⟩:=HS.A.rd.tk.tk HS.A.rd.b0.aC U;subst JK;have x2:=λp:ba _=>p.cell (da eb HS.A.rd.b0.size) q2;have y0:=ba.cells HS.A.rd.box;have d:=ba.cells HS.A.jn 0;have jc:=HS.A.rd.lc.1;have ju:=HS.A.rd.lc.2;have xM:=E (show eu l (i+1)=l[K].s by rw[Ni.A];exact qx U);obtain⟨T,ol⟩:=aP (l[K].s);rw[ol] at q3 xM;simp only[ol] at x2;have V:=E q3;have aR:=E U;clear ol q0 q1 q2 q3;go_wp2_with fail;refine du (cU 0 15 []) [15] ?_;refine dY ?_;refine S4.nb λwq hq=>?_;replace HS:=E (HS.A.al hq);have z2:=HS.A.rd.box.cell 2;have f2:=HS.A.rd.box.frozen 2;have hR:=HS.A.rd.nm (n:=T) V.A;have hG:=bX (o:=2) HS.A.rd.box.lt (ap T);replace HS:=E (HS.A.step hR hG);clear hq hR hG y0 x2 d;refine dP ?_;have z2:=HS.A.rd.box.cell 2;cases e5:db T with
   |false=>
    have N:=E e5;have a:=λW=>mu T W V.A;simp only[e5] at a;have d:=HS.A.jn.cell 0;go_wp2_with fail;refine(a _).ah ?_;rintro e g⟨rfl,rfl⟩;clear a d z2 f2 e5;go_wp2;go_ret;exact⟨⟨7,_,_,_,_,rfl,HS.A.rd,E ⟨λh=>ae h aq,λh=>ae ((xI h).2.2.1.symm.trans (xM.A▸N.A)) aq⟩⟩,HS.A.gr⟩
   |true=>
    have a:=λW=>mu T W V.A;simp only[e5] at a;have nj:=E e5;have d:=HS.A.jn.cell 0;go_wp2_with fail;refine(a _).ah ?_;rintro e g⟨rfl,rfl⟩;clear a d z2 f2 e5;have z1:=HS.A.rd.box.cell 1;have f1:=HS.A.rd.box.frozen 1;have d:=HS.A.jn.cell 0;have w1:I.wrap ((K:Int)+1)=(K:Int)+1:=aqL;have L:=bX (o:=1) HS.A.rd.box.lt (J I ((K:Int)+1));have Y:=HS.A.rd.step (j:=K+1) aR.A;replace HS:=E (HS.A.step Y L);have p1:=HS.A.jn.cell 0;simp at p1;clear L Y;cases eg:cA l (K+1) 4 ⟨#[58]⟩ with
    |false=>
     have N:=E (show cA l (i+2) 4 ⟨#[58]⟩=false by rw[show i+2=K+1 by have:=Ni.A;omega];exact eg);have a:=zD 4 ⟨#[58]⟩ HS.A.rd eg;clear eg;go_wp2_with fail;refine(a).ah ?_;rintro e g⟨rfl,Z⟩;replace HS:=E (HS.A.al Z);clear Z;clear a d p1 z1 f1 w1;have d:=HS.A.jn.cell 0;have H:=E (B4 HS.A.rd);go_wp2_with fail;refine H.A.ah ?_;rintro e g⟨⟨k,rfl,G⟩,Z⟩;have HK:=E (show k≠0 by simpa using G);replace HS:=E (HS.A.al Z);clear G Z H d;go_wp2;go_ret;exact⟨⟨k,_,_,_,_,rfl,HS.A.rd,E ⟨λh=>ae h HK.A,λh=>ae ((xI h).2.2.2.1.symm.trans N.A) aq⟩⟩,HS.A.gr⟩
    |true=>
     have a:=zE 4 ⟨#[58]⟩ HS.A.rd eg;clear eg;go_wp2_with fail;refine(a).ah ?_;rintro e g⟨rfl,hR,hG⟩;replace HS:=E (HS.A.step hR hG);clear hR hG;clear a d p1 z1 f1 w1;obtain⟨j3,BK⟩:=aP (K+1+1);rw[BK] at HS;have xD:=E (show i+3=j3 by have:=Ni.A;omega);have a4:=E (xM.A.symm);clear BK;have y0:=ba.cells HS.A.rd.box;have d:=ba.cells HS.A.jn 0;have p1:=Gy.cells HS.A.jn (sh HS.A.Z) 0;simp at p1;have zK:=E (λp:ba _=>ako (HS.A.rd.b0.trans p.r) HS.A.rd.tk HS.A.rd.lc HS.A.rd.le (cY.A.rel (HS.A.rd.b0.trans p.r)) gZ.A);go_wp2_with fail;refine wa aF (jT b) aF.refl aF.trans jT.trans jT.of (.q 0 (.p 1 (dq 2 8 (.c 10 (dq 11 2 (.p 13 (.p 14 (.p 15 (.p 16 (.p 17 (.s 18 (.p 19 (.p 20 (.s 21 (.q 22 .nil))))))))))))))) (aF.drew _) ?_;refine bP ?_;refine S6.c ?_;rintro _⟨C,rfl⟩ KK aJ;go_simp;refine(zK.A C).ah ?_;rintro e wd⟨⟨v,X,k,uF,rfl,Ee⟩,Z⟩;obtain⟨u,mM,JP,Sx⟩:=Ee.val.A;obtain⟨A2,c2,Sy,_⟩:=Sx.len_;subst Sy;subst mM;have nK:=E (iC JP Sx);have cL:=E (iC Ee.le (iC Ee.Sd Ee.ex));have a2:=E ((HS.A.al C.aC).al Z.aC);refine aJ _ _ Z ?_;clear aJ KK Z y0 d p1 zK Ee JP Sx HS C;refine bP ?_;refine S6.s ?_;rintro _⟨C,rfl⟩ KK aJ;go_simp;have HS:=E (a2.A.al C.aC);have aW:=E (nK.A.2.al C.aC);have⟨z3,f3⟩:=HS.A.rd.box.cf;go_simp;have Y:=HS.A.rd.akv (X:=X) (A2:=A2) (c2:=c2) nK.A.1 aW.A;have L:=bB (bB (bB (bX (o:=3) HS.A.rd.box.lt (ap X.s.n)) (bX (o:=4) arl (O A2 X.s.aU.length c2))) (bX (o:=5) arl (J I X.op))) (bX (o:=6) arl (J I X.v));refine aJ _ _ (jT.gr L) ?_;clear aJ KK z3 f3 aW;replace HS:=E (HS.A.step Y L);clear Y L a2;generalize((((C.aL.setCell (ab b 3 M) (ap X.s.n)).setCell (ab b 4 M) (O A2 X.s.aU.length c2)).setCell (ab b 5 M) (J I X.op)).setCell (ab b 6 M) (J I X.v))=W8 at HS⊢;clear C;refine bP ?_;refine S6.s ?_;rintro _⟨C,rfl⟩ KK aJ;go_simp;have bM:=E (HS.A.al C.aC);have z1:=bM.A.rd.box.cell 1;have f1:=bM.A.rd.box.frozen 1;go_simp;have L:=bX (o:=1) bM.A.rd.box.lt (J I (uF:Int));refine aJ _ _ (jT.gr L) ?_;clear aJ KK z1 f1 HS;have Y:=bM.A.rd.step (j:=uF) cL.A.1;have hU:=E (bM.A.step Y L);clear Y L bM;generalize C.aL.setCell (ab b 1 M) (J I (uF:Int))=W9 at hU⊢;clear C;refine bP ?_;refine S6.nb λwq hq=>?_;have HS:=E (hU.A.al hq);clear hU hq;have Sz:=E (λ(h:qA l i=true)=>(cL.A.2.2 (by have e:i+3=j3:=xD.A;rw[<-e];exact(xI h).2.2.2.2.1)));by_cases hk:k=0;case neg=>
      have jv:(k !=0)=true:=aqk;have HK:=E hk;clear hk;go_wp2;go_ret;exact⟨⟨k,_,_,_,_,rfl,HS.A.rd,E ⟨λh=>ae h HK.A,λh=>ae (Sz.A h).2.1 HK.A⟩⟩,HS.A.gr⟩
     subst hk;have d:=HS.A.jn.cell 0;have xN:∀(fn:Fn) (first cap:Array aE) (w:aB),(Instr.makeFunc fn first cap).run aH w= .ok (.func fn first cap) w:=λ_ _ _ _=>rfl;have f:=E (show db T=true/\rq X=true from⟨nj.A,cL.A.2.1 rfl⟩);have cV:=E (HS.A.al ((bk _ _).alloc (aO _) (aD #[ap ⟨#[102,111,114]⟩,.func (.func 255) #[] #[bl (ad (ab w.heap.size 0 M))],ap ⟨#[107,101,101,112]⟩,.func (.func 257) #[] #[bl (ad (ab w.heap.size 0 M))],ap ⟨#[108,97,98,101,108,115]⟩,.func (.func 258) #[bl (ad (ab b 0 M))] #[]] 374)));go_wp2;clear xN;go_loopw [84] (λi9 wr=>∃(k j:Nat) (R:cv) (m q:Option aX×Nat),k<=3/\i9=J I k/\a6 (B7 w0 w wr B b c j (ad (ab gq off M)) l R m q/\(db R.n=true/\rq R.x=true/\gm R.wait=true/\gm R.keep=true/\bH R.L=true/\zi R.L=false)/\(k<=2->R.L=[])/\(qA l i=true->R=te l i/\i+6=j))) (λi9 _=>3-(intOf i9).toNat);case atStart=>exact⟨0,uF,_,_,_,an,rfl,E ⟨cV.A,⟨f.A.1,f.A.2,(show gm 0=true from by decide),(show gm 0=true from by decide),akq,rfl⟩,λ_=>rfl,λh=>by
      obtain⟨r,_,h2⟩:=Sz.A h;refine⟨?_,ai xD.A⟩;rw[r];unfold te;rw[a4.A,show i+3=j3 from xD.A]⟩⟩
     case round=>
      clear HS cV f Sz nK cL d;obtain⟨k,j,R,m,q,hk,rfl,HU⟩:=hrel;have HS:=E HU.A.1;have f:=E HU.A.2.1;have V:=E HU.A.2.2.1;have S:=E HU.A.2.2.2;have SA:=E (HU.A.1.gr.size);clear HU;rcases k with _|_|_|_|k
      ·skip;have fL:∀W,(mX 374 (aY #[ap ⟨#[102,111,114]⟩,.func (.func 255) #[] #[bl (ad (ab w.heap.size 0 M))],ap ⟨#[107,101,101,112]⟩,.func (.func 257) #[] #[bl (ad (ab w.heap.size 0 M))],ap ⟨#[108,97,98,101,108,115]⟩,.func (.func 258) #[bl (ad (ab b 0 M))] #[]]) (J I 0)).run aH W= .ok (aY #[ap ⟨#[102,111,114]⟩,.func (.func 255) #[] #[bl (ad (ab w.heap.size 0 M))]]) W:=λW=>by kernel_rfl
       have d:=HS.A.jn.cell 0;have D:=E (HS.A.al ((bk _ _).alloc (aO _) (aD #[ap ⟨#[102,111,114]⟩,.func (.func 255) #[] #[bl (ad (ab w.heap.size 0 M))]] 373)));have ca:=aI.new wr 373 #[ap ⟨#[102,111,114]⟩,.func (.func 255) #[] #[bl (ad (ab w.heap.size 0 M))]];have x0:=ca.cell 0;have z:=E ca;have d:=D.A.jn.cell 0;replace HS:=D;clear ca D;cases hn:cA l j 1 ⟨#[102,111,114]⟩ with
       |false=>
        have a:=zD 1 ⟨#[102,111,114]⟩ HS.A.rd hn;clear hn;go_wp2_with fail;refine(a).ah ?_;rintro e g⟨rfl,Z⟩;replace HS:=E (HS.A.al Z);clear Z;clear a x0 d z fL;go_wp2;go_roundw;case rel=>exact⟨1,j,R,m,q,an,au,E ⟨HS.A,f.A,λh=>V.A an,S.A⟩⟩
        case measure=>simp[intOf]
       |true=>
        have a:=zE 1 ⟨#[102,111,114]⟩ HS.A.rd hn;have zI:=E (show qA l i=true->False fromλh=>by
         have r:=(xI h).2.2.2.2.2;rw[(S.A h).2] at r;rw[pJ,b9] at r hn;have U:=kZ r.1;rw[s6 U,decide_eq_true_eq] at r hn;omega)
        clear hn;go_wp2_with fail;refine(a).ah ?_;rintro e g⟨rfl,hR,hG⟩;replace HS:=E (HS.A.step hR hG);replace z:=E (z.A.gr hG (aj HS.A.Z SA.A));clear hR hG a x0 d fL;have x1:=z.A.cell 1;skip;have a:=akw cY.A HS.A.jn HS.A.rd;go_wp2_with fail;refine(a).ah ?_;rintro e wy⟨⟨xK,rfl,HN⟩,hG⟩;clear a x1;by_cases hk:xK=0;case neg=>
         exact aa9
        subst hk;obtain⟨n,SB,hR⟩:=HN.A.2 rfl;have F:=hR;replace HS:=E (HS.A.step F hG);have JQ:=E (show _/\_/\_/\_/\_/\_ from⟨f.A.1,f.A.2.1,SB,f.A.2.2.2⟩);have SD:=E F.le;clear hG HN hR F;go_wp2;go_roundw;case rel=>exact⟨1,_,_,_,_,an,au,E ⟨HS.A,JQ.A,λ_=>V.A an,λh=>(zI.A h).elim⟩⟩
        case measure=>simp[intOf]
      ·skip;have fL:∀W,(mX 374 (aY #[ap ⟨#[102,111,114]⟩,.func (.func 255) #[] #[bl (ad (ab w.heap.size 0 M))],ap ⟨#[107,101,101,112]⟩,.func (.func 257) #[] #[bl (ad (ab w.heap.size 0 M))],ap ⟨#[108,97,98,101,108,115]⟩,.func (.func 258) #[bl (ad (ab b 0 M))] #[]]) (J I 1)).run aH W= .ok (aY #[ap ⟨#[107,101,101,112]⟩,.func (.func 257) #[] #[bl (ad (ab w.heap.size 0 M))]]) W:=λW=>by kernel_rfl
       have d:=HS.A.jn.cell 0;have D:=E (HS.A.al ((bk _ _).alloc (aO _) (aD #[ap ⟨#[107,101,101,112]⟩,.func (.func 257) #[] #[bl (ad (ab w.heap.size 0 M))]] 373)));have ca:=aI.new wr 373 #[ap ⟨#[107,101,101,112]⟩,.func (.func 257) #[] #[bl (ad (ab w.heap.size 0 M))]];have x0:=ca.cell 0;have z:=E ca;have d:=D.A.jn.cell 0;replace HS:=D;clear ca D;cases hn:cA l j 1 ⟨#[107,101,101,112]⟩ with
       |false=>
        have a:=zD 1 ⟨#[107,101,101,112]⟩ HS.A.rd hn;clear hn;go_wp2_with fail;refine(a).ah ?_;rintro e g⟨rfl,Z⟩;replace HS:=E (HS.A.al Z);clear Z;clear a x0 d z fL;go_wp2;go_roundw;case rel=>exact⟨2,j,R,m,q,an,au,E ⟨HS.A,f.A,λh=>V.A an,S.A⟩⟩
        case measure=>simp[intOf]
       |true=>
        have a:=zE 1 ⟨#[107,101,101,112]⟩ HS.A.rd hn;have zI:=E (show qA l i=true->False fromλh=>by
         have r:=(xI h).2.2.2.2.2;rw[(S.A h).2] at r;rw[pJ,b9] at r hn;have U:=kZ r.1;rw[s6 U,decide_eq_true_eq] at r hn;omega)
        clear hn;go_wp2_with fail;refine(a).ah ?_;rintro e g⟨rfl,hR,hG⟩;replace HS:=E (HS.A.step hR hG);replace z:=E (z.A.gr hG (aj HS.A.Z SA.A));clear hR hG a x0 d fL;have x1:=z.A.cell 1;skip;have a:=akx cY.A HS.A.jn HS.A.rd;go_wp2_with fail;refine(a).ah ?_;rintro e wy⟨⟨xK,rfl,HN⟩,hG⟩;clear a x1;by_cases hk:xK=0;case neg=>
         exact aa9
        subst hk;obtain⟨n,SB,hR⟩:=HN.A.2 rfl;have F:=hR;replace HS:=E (HS.A.step F hG);have JQ:=E (show _/\_/\_/\_/\_/\_ from⟨f.A.1,f.A.2.1,f.A.2.2.1,SB,f.A.2.2.2.2⟩);have SD:=E F.le;clear hG HN hR F;go_wp2;go_roundw;case rel=>exact⟨2,_,_,_,_,an,au,E ⟨HS.A,JQ.A,λ_=>V.A an,λh=>(zI.A h).elim⟩⟩
        case measure=>simp[intOf]
      ·skip;have fL:∀W,(mX 374 (aY #[ap ⟨#[102,111,114]⟩,.func (.func 255) #[] #[bl (ad (ab w.heap.size 0 M))],ap ⟨#[107,101,101,112]⟩,.func (.func 257) #[] #[bl (ad (ab w.heap.size 0 M))],ap ⟨#[108,97,98,101,108,115]⟩,.func (.func 258) #[bl (ad (ab b 0 M))] #[]]) (J I 2)).run aH W= .ok (aY #[ap ⟨#[108,97,98,101,108,115]⟩,.func (.func 258) #[bl (ad (ab b 0 M))] #[]]) W:=λW=>by kernel_rfl
       have d:=HS.A.jn.cell 0;have D:=E (HS.A.al ((bk _ _).alloc (aO _) (aD #[ap ⟨#[108,97,98,101,108,115]⟩,.func (.func 258) #[bl (ad (ab b 0 M))] #[]] 373)));have ca:=aI.new wr 373 #[ap ⟨#[108,97,98,101,108,115]⟩,.func (.func 258) #[bl (ad (ab b 0 M))] #[]];have x0:=ca.cell 0;have z:=E ca;have d:=D.A.jn.cell 0;replace HS:=D;clear ca D;cases hn:cA l j 1 ⟨#[108,97,98,101,108,115]⟩ with
       |false=>
        have a:=zD 1 ⟨#[108,97,98,101,108,115]⟩ HS.A.rd hn;clear hn;go_wp2_with fail;refine(a).ah ?_;rintro e g⟨rfl,Z⟩;replace HS:=E (HS.A.al Z);clear Z;clear a x0 d z fL;go_wp2;go_roundw;case rel=>exact⟨3,j,R,m,q,an,au,E ⟨HS.A,f.A,λh=>ae h an,S.A⟩⟩
        case measure=>simp[intOf]
       |true=>
        have a:=zE 1 ⟨#[108,97,98,101,108,115]⟩ HS.A.rd hn;have zI:=E (show qA l i=true->False fromλh=>by
         have r:=(xI h).2.2.2.2.2;rw[(S.A h).2] at r;rw[pJ,b9] at r hn;have U:=kZ r.1;rw[s6 U,decide_eq_true_eq] at r hn;omega)
        clear hn;go_wp2_with fail;refine(a).ah ?_;rintro e g⟨rfl,hR,hG⟩;replace HS:=E (HS.A.step hR hG);replace z:=E (z.A.gr hG (aj HS.A.Z SA.A));clear hR hG a x0 d fL;have x1:=z.A.cell 1;have a3:=V.A an;have a:=aks a3 uC.A HS.A.rd;go_wp2_with fail;refine(a).ah ?_;rintro e wy⟨⟨xK,rfl,HN⟩,hG⟩;clear a x1;by_cases hk:xK=0;case neg=>
         have jv:(xK !=0)=true:=aqk;have HK:=E hk;obtain⟨j2,hR⟩:=HN.A.1 hk;replace HS:=E (HS.A.step hR hG);clear hk hR hG HN;go_wp2;go_ret;exact⟨⟨xK,_,_,_,_,rfl,HS.A.rd,E ⟨λh=>ae h HK.A,λh=>(zI.A h).elim⟩⟩,HS.A.gr⟩
        subst hk;obtain⟨j2,L2,q2,iG,zG,hR⟩:=HN.A.2 rfl;have F:=hR;replace HS:=E (HS.A.step F hG);have JQ:=E (show _/\_/\_/\_/\_/\_ from⟨f.A.1,f.A.2.1,f.A.2.2.1,f.A.2.2.2.1,iG,zG⟩);have SD:=E F.le;clear hG HN hR F;go_wp2;go_roundw;case rel=>exact⟨3,_,_,_,_,an,au,E ⟨HS.A,JQ.A,λh=>ae h an,λh=>(zI.A h).elim⟩⟩
        case measure=>simp[intOf]
      ·skip;have d:=HS.A.jn.cell 0;cases hn:cA l j 4 ⟨#[59]⟩ with
       |false=>
        have N:=E hn;have a:=zD 4 ⟨#[59]⟩ HS.A.rd hn;clear hn;go_wp2_with fail;refine(a).ah ?_;rintro e g⟨rfl,Z⟩;replace HS:=E (HS.A.al Z);clear Z;clear a d;have d:=HS.A.jn.cell 0;have H:=E (B4 HS.A.rd);go_wp2_with fail;refine H.A.ah ?_;rintro e g⟨⟨k,rfl,G⟩,Z⟩;have HK:=E (show k≠0 by simpa using G);replace HS:=E (HS.A.al Z);clear G Z H d;go_wp2;go_ret;exact⟨⟨k,_,_,_,_,rfl,HS.A.rd,E ⟨λh=>ae h HK.A,λh=>ae (((xI h).2.2.2.2.2).symm.trans ((S.A h).2▸N.A)) aq⟩⟩,HS.A.gr⟩
       |true=>
        have a:=zE 4 ⟨#[59]⟩ HS.A.rd hn;clear hn;go_wp2_with fail;refine(a).ah ?_;rintro e g⟨rfl,hR,hG⟩;replace HS:=E (HS.A.step hR hG);clear hR hG;clear a d;go_wp2;go_ret;exact⟨⟨0,_,_,_,_,rfl,HS.A.rd,E ⟨λ_=>⟨by unfold ku;rw[f.A.1,f.A.2.1,f.A.2.2.1,f.A.2.2.2.1,f.A.2.2.2.2.1,f.A.2.2.2.2.2];rfl,Bw.A⟩,λh=>⟨(S.A h).1,rfl,ai ((S.A h).2)⟩⟩⟩,HS.A.gr⟩
      ·omega
variable {a3 a4 a5 gp:aE}
def aI.Ef {a:aE} (h:aI w g t #[a0,cZ,a2,a3,a4,a5,gp,a]) (u0 u1 u2 u3 u4 u5 u6 u7:aE):aI ((((((((w.setCell (ab g 0 M) u0).setCell (ab g 1 M) u1).setCell (ab g 2 M) u2).setCell (ab g 3 M) u3).setCell (ab g 4 M) u4).setCell (ab g 5 M) u5).setCell (ab g 6 M) u6).setCell (ab g 7 M) u7) g t #[u0,u1,u2,u3,u4,u5,u6,u7]:=by
 have h0:aI (w.setCell (ab g 0 M) u0) g t #[u0,cZ,a2,a3,a4,a5,gp,a]:=h.put 0 u0;have e:aI ((w.setCell (ab g 0 M) u0).setCell (ab g 1 M) u1) g t #[u0,u1,a2,a3,a4,a5,gp,a]:=h0.put 1 u1;have h2:aI (((w.setCell (ab g 0 M) u0).setCell (ab g 1 M) u1).setCell (ab g 2 M) u2) g t #[u0,u1,u2,a3,a4,a5,gp,a]:=e.put 2 u2;have d:aI ((((w.setCell (ab g 0 M) u0).setCell (ab g 1 M) u1).setCell (ab g 2 M) u2).setCell (ab g 3 M) u3) g t #[u0,u1,u2,u3,a4,a5,gp,a]:=h2.put 3 u3;have h4:aI (((((w.setCell (ab g 0 M) u0).setCell (ab g 1 M) u1).setCell (ab g 2 M) u2).setCell (ab g 3 M) u3).setCell (ab g 4 M) u4) g t #[u0,u1,u2,u3,u4,a5,gp,a]:=d.put 4 u4;have c:aI ((((((w.setCell (ab g 0 M) u0).setCell (ab g 1 M) u1).setCell (ab g 2 M) u2).setCell (ab g 3 M) u3).setCell (ab g 4 M) u4).setCell (ab g 5 M) u5) g t #[u0,u1,u2,u3,u4,u5,gp,a]:=h4.put 5 u5;have h6:aI (((((((w.setCell (ab g 0 M) u0).setCell (ab g 1 M) u1).setCell (ab g 2 M) u2).setCell (ab g 3 M) u3).setCell (ab g 4 M) u4).setCell (ab g 5 M) u5).setCell (ab g 6 M) u6) g t #[u0,u1,u2,u3,u4,u5,u6,a]:=c.put 6 u6;have b:aI ((((((((w.setCell (ab g 0 M) u0).setCell (ab g 1 M) u1).setCell (ab g 2 M) u2).setCell (ab g 3 M) u3).setCell (ab g 4 M) u4).setCell (ab g 5 M) u5).setCell (ab g 6 M) u6).setCell (ab g 7 M) u7) g t #[u0,u1,u2,u3,u4,u5,u6,u7]:=h6.put 7 u7;exact b
def Eg (Z:g<w.heap.size) (u0 u1 u2 u3 u4 u5 u6 u7:aE):w.grownBy ((((((((w.setCell (ab g 0 M) u0).setCell (ab g 1 M) u1).setCell (ab g 2 M) u2).setCell (ab g 3 M) u3).setCell (ab g 4 M) u4).setCell (ab g 5 M) u5).setCell (ab g 6 M) u6).setCell (ab g 7 M) u7) (ad g):=bB (bB (bB (bB (bB (bB (bB (bX Z u0) (bX aqg u1)) (bX aqg u2)) (bX aqg u3)) (bX aqg u4)) (bX aqg u5)) (bX aqg u6)) (bX aqg u7)
structure RPa (w0 w':aB) (i:Nat) (l:List Tok) (v:aE) (R:cv) (k:Int) (j:Nat):Prop where
 val:rI w' 0 v R
 le:j<=l.length
 ok:(k=0->ku R=true/\cA l i 1 xH=true)/\(qA l i=true->R=te l i/\k=0/\j=i+7)
def rI.keep {x:cv} (h:rI w B v x) (a:Kt B S w w') (b:∀t∈[126,78],t∉S):rI w' B v x:=Av.keep h a b
def Nj {c:Nat} (z:aF w0 w) (h:Rw kM w0 B ao l.length l) (hc:l.length<=c/\c<=9223372036854775807) (hi:i<=l.length) (a:eK w0) (hT:∀t∈l,t.s.size<=1000000) (mJ:l.length<=65536):aN aH 180 #[O ao l.length c,J I i] w λe w'=>(∃(v:aE) (R:cv) (k:Int) (j:Nat),e=aQ (bn #[v,J I j,J I k])/\RPa w0 w' i l v R k j)/\aF w w':=by
 have ug:min (i:Int) (l.length:Int)=(i:Int):=an;have aW:=(aF.refl w).alloc (aD #[ap ⟨#[]⟩,ap ⟨#[]⟩,O M 0 0,J I 0,J I 0,J I 0,J I 0,O M 0 0] 51);have Z:=aW.alloc (aD #[O ao l.length c,J I i,ap ⟨#[]⟩,ap ⟨#[]⟩,O M 0 0,J I 0,J I 0,J I 0,J I 0,O M 0 0] 326);have f:=E (show dk w0 ((w.alloc (aD #[ap ⟨#[]⟩,ap ⟨#[]⟩,O M 0 0,J I 0,J I 0,J I 0,J I 0,O M 0 0] 51)).alloc (aD #[O ao l.length c,J I i,ap ⟨#[]⟩,ap ⟨#[]⟩,O M 0 0,J I 0,J I 0,J I 0,J I 0,O M 0 0] 326)) B (w.heap.size+1) c i ao l ⟨⟨#[]⟩,⟨⟨⟨#[]⟩,[]⟩,0,0⟩,0,0,[]⟩ (M,0) (M,0) from⟨z.trans Z,ai z.size,h,by have:=aI.new (w.alloc (aD #[ap ⟨#[]⟩,ap ⟨#[]⟩,O M 0 0,J I 0,J I 0,J I 0,J I 0,O M 0 0] 51)) 326 #[O ao l.length c,J I i,ap ⟨#[]⟩,ap ⟨#[]⟩,O M 0 0,J I 0,J I 0,J I 0,J I 0,O M 0 0];simpa using this,hc,hi,aq,aq,Vs.bh _ _ _,Vs.bh _ _ _⟩);have HX:=E (aI.alloc (aI.new w 51 #[ap ⟨#[]⟩,ap ⟨#[]⟩,O M 0 0,J I 0,J I 0,J I 0,J I 0,O M 0 0]) (aD #[O ao l.length c,J I i,ap ⟨#[]⟩,ap ⟨#[]⟩,O M 0 0,J I 0,J I 0,J I 0,J I 0,O M 0 0] 326));have bm:=E Z;have cV:=E z;have cY:=E a;have gZ:=E hT;have uC:=E mJ;have Se:¬((i:Int)<0):=an;clear h hc hi aW Z z a hT mJ;go_enter func180,ntmps180;have HS:=E (akC cY.A gZ.A uC.A f.A);go_wp2_with fail;refine HS.A.ah ?_;clear HS;rintro e wz⟨⟨k,j,R,m,q,rfl,D,bj⟩,a⟩;have bA:=E (bm.A.cD a (mg _));have Gm:=E bj.A;replace f:=E D;have HV:=E D.rul;replace HX:=E (HX.A.gr a an);have HJ:=E D.le;have ej:=E (show w.heap.size+1≠w.heap.size by omega);clear bj D a ug bm;by_cases hk:k=0;case neg=>
  have jv:(k !=0)=true:=aqk;have r1:=Gx.cells (r:=w.heap.size) (X:=aD #[(ap ⟨#[]⟩),(ap ⟨#[]⟩),(O M 0 0),(J I 0),(J I 0),(J I 0),(J I 0),(O M 0 0)] 51 (0,0)) f.A.box ej.A 1;simp at r1;have HK:=E hk;clear hk;go_wp2_with fail;refine AY (gb (w.heap.size) (aD #[(ap ⟨#[]⟩),(ap ⟨#[]⟩),(O M 0 0),(J I 0),(J I 0),(J I 0),(J I 0),(O M 0 0)] 51 (0,0))) gb.refl gb.trans [.q 0,.q 1,.q 2,.q 3,.q 4,.q 5,.c 6,.q 7,.q 8] [] (gb.drew _) ?_;refine dY ?_;refine S4.dm ?_;rintro _⟨o,rfl⟩ KK aJ;obtain⟨us,d,n⟩:=o.own HX.A rfl;obtain⟨U,T,S,N,L,K,H,G,rfl⟩:=aal n;have⟨F,Y⟩:=d.cf;have b:=E d;clear n d;go_simp;refine aJ _ _ (gb.put (b.A.Ef (ap ⟨#[]⟩) (ap ⟨#[]⟩) (O M 0 0) (J I 0) (J I 0) (J I 0) (J I 0) (O M 0 0)) (Eg b.A.lt (ap ⟨#[]⟩) (ap ⟨#[]⟩) (O M 0 0) (J I 0) (J I 0) (J I 0) (J I 0) (O M 0 0))) ?_;clear aJ KK F Y;refine dY ?_;refine S4.bh ?_;rintro wq u;obtain⟨s,a⟩:=gb.last u (b.A.Ef (ap ⟨#[]⟩) (ap ⟨#[]⟩) (O M 0 0) (J I 0) (J I 0) (J I 0) (J I 0) (O M 0 0));have HP:=E s;have y:=E (bB o.gr (bB (Eg b.A.lt (ap ⟨#[]⟩) (ap ⟨#[]⟩) (O M 0 0) (J I 0) (J I 0) (J I 0) (J I 0) (O M 0 0)) a));clear u s a b;refine E4.bh ?_;have C:=(Kt.refl w0.heap.size [51] wz).grown y.A (f.A.b0.size) (λg e=>by cases e;exact⟨cV.A.size,bp.bO HX.A⟩) (bD.2 rfl);have V:=E (bA.A.cD y.A (aO _));have p:=E (λW=>show rI W 0 (aY #[(ap ⟨#[]⟩),(ap ⟨#[]⟩),(O M 0 0),(J I 0),(J I 0),(J I 0),(J I 0),(O M 0 0)]) ⟨⟨#[]⟩,⟨⟨⟨#[]⟩,[]⟩,0,0⟩,0,0,[]⟩ from⟨_,rfl,_,_,rfl,aq,aq,Vs.bh _ _ _,Vs.bh _ _ _⟩);replace Gm:=E (show(k=0->ku ⟨⟨#[]⟩,⟨⟨⟨#[]⟩,[]⟩,0,0⟩,0,0,[]⟩=true/\cA l i 1 xH=true)/\(qA l i=true->⟨⟨#[]⟩,⟨⟨⟨#[]⟩,[]⟩,0,0⟩,0,0,[]⟩=te l i/\k=0/\j=i+7) from⟨λh=>ae h HK.A,λh=>ae (Gm.A.2 h).2.1 HK.A⟩);clear C;go_wp2;have k0:=HP.A.cell;refine bF (v:=bn #[aY #[(ap ⟨#[]⟩),(ap ⟨#[]⟩),(O M 0 0),(J I 0),(J I 0),(J I 0),(J I 0),(O M 0 0)],J I (j:Int),J I k]) (by simp[bz,results180,go_sem,k0]) rfl ⟨⟨_,⟨⟨#[]⟩,⟨⟨⟨#[]⟩,[]⟩,0,0⟩,0,0,[]⟩,k,j,rfl,(by first|exact p.A|exact p.A _),HJ.A,aqq⟩,V.A⟩
 subst hk;have r1:=Gx.cells (r:=w.heap.size) (X:=aD #[(ap R.n),(ap R.x.s.n),(O m.1 R.x.s.aU.length m.2),(J I R.x.op),(J I R.x.v),(J I R.wait),(J I R.keep),(O q.1 R.L.length q.2)] 51 (0,0)) f.A.box ej.A;go_wp2_with fail;refine AY (gb (w.heap.size) (aD #[(ap R.n),(ap R.x.s.n),(O m.1 R.x.s.aU.length m.2),(J I R.x.op),(J I R.x.v),(J I R.wait),(J I R.keep),(O q.1 R.L.length q.2)] 51 (0,0))) gb.refl gb.trans [.q 0,.q 1,.q 2,.q 3,.q 4,.q 5,.q 6,.q 7,.c 8,.q 9,.q 10] [] (gb.drew _) ?_;refine dY ?_;refine S4.dm ?_;rintro _⟨o,rfl⟩ KK aJ;obtain⟨us,d,n⟩:=o.own HX.A rfl;obtain⟨U,T,S,N,L,K,H,G,rfl⟩:=aal n;have⟨F,Y⟩:=d.cf;have b:=E d;clear n d;go_simp;refine aJ _ _ (gb.put (b.A.Ef (ap R.n) (ap R.x.s.n) (O m.1 R.x.s.aU.length m.2) (J I R.x.op) (J I R.x.v) (J I R.wait) (J I R.keep) (O q.1 R.L.length q.2)) (Eg b.A.lt (ap R.n) (ap R.x.s.n) (O m.1 R.x.s.aU.length m.2) (J I R.x.op) (J I R.x.v) (J I R.wait) (J I R.keep) (O q.1 R.L.length q.2))) ?_;clear aJ KK F Y;refine dY ?_;refine S4.bh ?_;rintro wq u;obtain⟨s,a⟩:=gb.last u (b.A.Ef (ap R.n) (ap R.x.s.n) (O m.1 R.x.s.aU.length m.2) (J I R.x.op) (J I R.x.v) (J I R.wait) (J I R.keep) (O q.1 R.L.length q.2));have HP:=E s;have y:=E (bB o.gr (bB (Eg b.A.lt (ap R.n) (ap R.x.s.n) (O m.1 R.x.s.aU.length m.2) (J I R.x.op) (J I R.x.v) (J I R.wait) (J I R.keep) (O q.1 R.L.length q.2)) a));clear u s a b;refine E4.bh ?_;have C:=(Kt.refl w0.heap.size [51] wz).grown y.A (f.A.b0.size) (λg e=>by cases e;exact⟨cV.A.size,bp.bO HX.A⟩) (bD.2 rfl);have V:=E (bA.A.cD y.A (aO _));have p:=E (HV.A.keep (C.dJ (bV _)) aq);clear C;go_wp2;have k0:=HP.A.cell;refine bF (v:=bn #[aY #[(ap R.n),(ap R.x.s.n),(O m.1 R.x.s.aU.length m.2),(J I R.x.op),(J I R.x.v),(J I R.wait),(J I R.keep),(O q.1 R.L.length q.2)],J I (j:Int),J I 0]) (by simp[bz,results180,go_sem,k0]) rfl ⟨⟨_,R,0,j,rfl,(by first|exact p.A|exact p.A _),HJ.A,aqq⟩,V.A⟩
variable {F:List cC}
structure fC (w0 w:aB) (B b c i:Nat) (ao:Option aX) (l:List Tok) (F:List cC) (q:Option aX×Nat):Prop where
 b0:aF w0 w
 Z:w0.heap.size<=b
 tk:Rw kM w0 B ao l.length l
 box:aI w b 179 #[O ao l.length c,J I i,O q.1 F.length q.2]
 lc:l.length<=c/\c<=9223372036854775807
 le:i<=l.length
 lD:Ow fG w 0 w0.heap.size (O q.1 F.length q.2) F
section
variable {w0 w w':aB} {B b c i:Nat} {ao:Option aX} {l:List Tok} {F:List cC} {q:Option aX×Nat}
def fC.al (h:fC w0 w B b c i ao l F q) (Z:aS w.heap.size w w'):fC w0 w' B b c i ao l F q:=⟨h.b0.trans (aF.of Z),h.Z,h.tk,h.box.al Z h.box.lt,h.lc,h.le,h.lD.al Z⟩
def fC.Gj (h:fC w0 w B b c i ao l F q) (hg:w.grownBy w' (ad b)):Kt w0.heap.size [179] w w':=(Kt.refl _ _ w).grown hg h.b0.size (λg e=>by cases e;exact⟨h.Z,bp.bO h.box⟩) (bD.2 rfl)
def fC.step (h:fC w0 w B b c i ao l F q) {j:Nat} (hj:j<=l.length):fC w0 (w.setCell (ab b 1 M) (J I j)) B b c j ao l F q:=⟨h.b0.setCell h.Z _,h.Z,h.tk,h.box.put 1 _,h.lc,hj,h.lD.keep ((h.Gj (bX h.box.lt _)).dJ (bV _)) aq aq⟩
def fC.own (h:fC w0 w B b c i ao l F q) (hg:w.grownBy w' (ad g)) (h0:w0.heap.size<=g) (e:b≠g) (a:Kt w0.heap.size S w w') (d:fG.e∉S) (h2:∀t∈fG.bI,t∉S):fC w0 w' B b c i ao l F q:=⟨h.b0.cD hg h0,h.Z,h.tk,h.box.gr hg e,h.lc,h.le,h.lD.keep (a.dJ (bV _)) d h2⟩
end
theorem Nk (h:P:=by
 go_enter func179,ntmps179;go_wp2_with fail;refine du (cU 0 41 []) [] ?_;refine dY ?_;refine S4.nb λwq hq=>?_;refine dP ?_;go_wp2;go_ret;exact⟨cc eD.A.symm,hq⟩;):P:=h
def SE {c:Nat} {q:Option aX×Nat} (k:Int) (s:ByteArray) (h:fC w0 w B b c i ao l F q):aN aH 179 #[bl (ad (ab b 0 M)),J I k,ap s] w λe w'=>e=aQ (aG (cA l i k s))/\aS w.heap.size w w':=by
 have t:=E h.b0;have y:=E h.tk;have C:=ba.cells h.box;have H:=h.lc.1;have G:=h.lc.2;have a:=E (show cA l i k s=_ from pJ);generalize cA l i k s=r at a⊢;by_cases d:i<l.length
 ·rw[s6 d,qx d] at a;obtain⟨L,off,rfl,u,m,q1,q2,o⟩:=y.A.tk t.A.aC d;have x0:=λp:ba w=>p.cell (da u t.A.size) m;have x2:=λp:ba w=>p.cell (da u t.A.size) q2;have d1:decide ((i:Int)<(l.length:Int))=true:=ac an;have v:decide (i<l.length)=true:=ac d;obtain⟨T,f⟩:=aP (l[i].s);obtain⟨K,g⟩:=aP (l[i].k);rw[f,g] at a;simp only[f] at x2;simp only[g] at x0;by_cases n:K=k
  ·subst n;by_cases j:T=s
   ·subst j;have eD:=E (show r=true by rw[a.A];simp);clear f g m q1 q2 o h a;exact Nk
   ·have eD:=E (show r=false by rw[a.A];simp[j]);have z:(T.toList==s.toList)=false:=by rw[j9];simpa using j
    have N:(T.toList !=s.toList)=true:=by rw[bne,z];rfl
    clear f g m q1 q2 o h a j;exact Nk
  ·have eD:=E (show r=false by rw[a.A];simp[n]);have D:(K==k)=false:=am n;clear f g m q1 q2 o h a n;exact Nk
 ·have eD:=E (show r=false by rw[a.A,F3 d];rfl);have d1:decide ((i:Int)<(l.length:Int))=false:=aa an;have v:decide (i<l.length)=false:=aa d;clear h a;exact Nk
def SF {c:Nat} {q:Option aX×Nat} (k:Int) (s:ByteArray) (h:fC w0 w B b c i ao l F q) (d:cA l i k s=false):aN aH 136 #[bl (ad (ab b 0 M)),J I k,ap s] w λe w'=>e=aQ (aG false)/\aS w.heap.size w w':=by
 have a:=SE k s h;rw[d] at a;clear h d;go_enter func136,ntmps136;go_wp2_with fail;refine a.ah ?_;rintro e f⟨rfl,Z⟩;clear a;go_wp2;go_ret;exact⟨rfl,Z⟩
def Nl {c:Nat} {q:Option aX×Nat} (k:Int) (s:ByteArray) (h:fC w0 w B b c i ao l F q) (d:cA l i k s=true):aN aH 136 #[bl (ad (ab b 0 M)),J I k,ap s] w λe w'=>e=aQ (aG true)/\fC w0 w' B b c (i+1) ao l F q/\w.grownBy w' (ad b):=by
 have f:=SE k s h;have u:=td d;have t:=a8 h.lc.1 h.lc.2;rw[d] at f;have g:=E h;have p:I.wrap ((i:Int)+1)=(i:Int)+1:=ay;clear h d;go_enter func136,ntmps136;go_wp2_with fail;refine f.ah ?_;rintro e o⟨rfl,Z⟩;have a:=E (g.A.al Z);have m:=E Z;have n:=a.A.box.cell 1;have r:=a.A.box.frozen 1;clear f Z;go_wp2;go_ret;exact⟨rfl,a.A.step (j:=i+1) an,bB (grown_of m.A) (bX a.A.box.lt _)⟩
def FV (n:Nat) (k:Int):aE:=.iface 174 (aY #[J I n,J I k])
structure Gn (w w':aB) (b:Nat) (e:Ending):Prop where
 A:∃(n:Nat) (k:Int),e= .panicked [{v:=FV n k,recovered:=false}]
 gr:w.grownBy w' (ad b)
theorem aba (h:P:=by
 go_enter func177,ntmps177;go_wp2_with fail;refine du (cU 0 10 []) [] ?_;refine dY ?_;refine S4.nb λwq hq=>?_;refine dP ?_;have y1:=(HH.A.al hq).box.cell 1;go_wp2;exact⟨rfl,⟨i,_,rfl⟩,grown_of hq⟩;):P:=h
def SG {c:Nat} {q:Option aX×Nat} (h:fC w0 w B b c i ao l F q):aN aH 177 #[bl (ad (ab b 0 M))] w λe w'=>Gn w w' b e:=by
 have HH:=E h;have f:=ba.cells h.box;have j:=h.lc.1;have g:=h.lc.2;clear h;by_cases a:l.length<=i
 ·have d1:decide ((l.length:Int)<=(i:Int))=true:=ac an;have d:decide (l.length<=i)=true:=ac a;exact aba
 ·have d1:decide ((l.length:Int)<=(i:Int))=false:=aa an;have d:decide (l.length<=i)=false:=aa a;exact aba
def Nn {c:Nat} {q:Option aX×Nat} (k:Int) (s:ByteArray) (h:fC w0 w B b c i ao l F q):aN aH 133 #[bl (ad (ab b 0 M)),J I k,ap s] w λe w'=>(e=aQ (bn #[])/\cA l i k s=true/\fC w0 w' B b c (i+1) ao l F q/\w.grownBy w' (ad b))\/(cA l i k s=false/\Gn w w' b e):=by
 have g:=E h;clear h;cases d:cA l i k s with
 |false=>
  have a:=SF k s g.A d;clear d;go_enter func133,ntmps133;go_wp2_with fail;refine a.ah ?_;rintro e j⟨rfl,Z⟩;clear a;have a:=SG (g.A.al Z);go_wp2_with fail;refine a.ah ?_;rintro e p⟨⟨n,m,rfl⟩,f⟩;clear a;go_wp2;exact⟨rfl,.inr ⟨by trivial,⟨n,m,rfl⟩,bB (grown_of Z) f⟩⟩
 |true=>
  have a:=Nl k s g.A d;clear d;go_enter func133,ntmps133;go_wp2_with fail;refine a.ah ?_;rintro e j⟨rfl,o,f⟩;clear a;go_wp2;refine⟨rfl,bn #[],by simp[bz,results133,go_sem],?_⟩;exact .inl ⟨rfl,by trivial,o,f⟩
theorem abb (h:P:=by
 go_wp2_with fail;refine aM.ah ?_;rintro e wy⟨⟨n,m,rfl⟩,hG⟩;clear aM;go_wp2;exact⟨rfl,.inr ⟨by first|trivial|exact HR.A,⟨n,m,rfl⟩,bB (grown_of hq) hG⟩⟩;):P:=h
def abc {c:Nat} {q:Option aX×Nat} (k:Int) (h:fC w0 w B b c i ao l F q):aN aH 134 #[bl (ad (ab b 0 M)),J I k] w λe w'=>(e=aQ (ap (eu l i))/\eT l i k=true/\fC w0 w' B b c (i+1) ao l F q/\w.grownBy w' (ad b))\/(eT l i k=false/\Gn w w' b e):=by
 have A:=E h;have L:=E h.b0;have N:=E h.tk;have t:=ba.cells h.box;have jc:=h.lc.1;have ju:=h.lc.2;clear h;by_cases a:i<l.length
 ·obtain⟨gq,off,S,H,g,q1,q2,u⟩:=N.A.tk L.A.aC a;have d:=E (s6 a k);have U:=E (qx a);obtain⟨T,v⟩:=aP (l[i].s);obtain⟨K,y⟩:=aP (l[i].k);rw[v] at U;rw[y] at d;subst S;have x0:=λp:ba w=>p.cell (da H L.A.size) g;simp only[y] at x0;have z:=E a;have aW:=E H;rw[v] at q2;have mL:=E q2;have d1:decide ((l.length:Int)<=(i:Int))=false:=aa an;have V:decide (l.length<=i)=false:=aa an;clear y v g q1 q2 u;by_cases hk:K=k
  ·subst hk;have HR:=E (show eT l i K=true by rw[d.A];simp);have w1:I.wrap ((i:Int)+1)=(i:Int)+1:=ay;have w2:I.wrap (i:Int)=(i:Int):=ay;clear d;go_enter func134,ntmps134;go_wp2_with fail;refine du (cU 0 25 []) [] ?_;refine dY ?_;refine S4.nb λC hq=>?_;refine dP ?_;have f:=E (A.A.al hq);have HB:=E hq;have y1:=f.A.box.cell 1;have f1:=f.A.box.frozen 1;clear t x0 hq;have Z:=E (bX (o:=1) f.A.box.lt (J I ((i:Int)+1)));have r:=E (f.A.step (j:=i+1) z.A);go_wp2_with fail;have y0:=ba.cells r.A.box;obtain⟨W,tQ,R,Y,g,q1,q2,u⟩:=N.A.tk r.A.b0.aC z.A;cases R;have x2:=λp:ba _=>p.cell (da Y r.A.b0.size) q2;have D:=E (qx z.A);clear g q1 q2 u;generalize l[i].s=T2 at D x2;have Ft:=E a;have fj:i<l.length:=a;have X:((i+1:Nat):Int)=(i:Int)+1:=an;refine du (cU 0 13 []) [] ?_;refine dY ?_;refine S4.nb λO G=>?_;refine dP ?_;go_wp2;go_ret;exact .inl ⟨congrArg (λx=>aQ (ap x)) D.A.symm,by first|trivial|exact HR.A,r.A.al G,bB (grown_of HB.A) (bB Z.A (grown_of G))⟩
  ·have HR:=E (show eT l i k=false by rw[d.A];simp[hk]);have jv:(K !=k)=true:=aqk;clear d hk;go_enter func134,ntmps134;go_wp2_with fail;refine du (cU 0 25 []) [] ?_;refine dY ?_;refine S4.nb λC hq=>?_;refine dP ?_;have aM:=SG (A.A.al hq);clear t x0;exact abb
 ·have HR:=E (F3 a k);have d1:decide ((l.length:Int)<=(i:Int))=true:=ac an;have V:decide (l.length<=i)=true:=ac an;clear a;go_enter func134,ntmps134;go_wp2_with fail;refine du (cU 0 25 []) [] ?_;refine dY ?_;refine S4.nb λC hq=>?_;refine dP ?_;have aM:=SG (A.A.al hq);clear t;exact abb
def abd {c:Nat} {q:Option aX×Nat} (f:eK w0) (d:∀t∈l,t.s.size<=1000000) (h:fC w0 w B b c i ao l F q):aN aH 135 #[bl (ad (ab b 0 M))] w λe w'=>(∃n:Int,e=aQ (J I n)/\a6 (0<=n/\n<=9007199254740992/\(eu l i=kD->n=10))/\fC w0 w' B b c (i+1) ao l F q/\w.grownBy w' (ad b))\/(¬(eT l i 2=true/\eu l i=kD)/\Gn w w' b e):=by
 have L:=E h;have G:=E f;have C:=E d;have D:=E (a8 h.lc.1 h.lc.2);clear h f d;have g:=abc 2 L.A;go_enter func135,ntmps135;go_wp2_with fail;refine g.ah ?_;rintro e A (⟨rfl,a,r,f⟩|⟨a,⟨n,m,rfl⟩,f⟩)
 ·have p:=E r;have y:=E f;have j:=kZ a;have H:=E j;have v:(eu l i).size<=1000000:=by rw[qx j];exact C.A _ (dl j)
  have z:=E (rfl:eu l i=eu l i);obtain⟨T,d⟩:=aP (eu l i);rw[d] at v;have x:=E d;simp only[d];clear g a r f j d z;have g:=aaK T A (G.A.rel p.A.b0) (a8 v aq);go_wp2_with fail;refine g.ah ?_;rintro e O⟨⟨n,k,rfl,o⟩,Z⟩;have u:=E (p.A.al Z.aC);have s:=E (bB y.A (grown_of Z.aC));have N:=u.A.box.cell 1;clear g Z p y;by_cases a:k=0
  ·subst a;go_wp2;go_ret;exact .inl ⟨n,rfl,⟨(o.A.1 (by trivial)).1,(o.A.1 (by trivial)).2,λh=>(o.A.2 (by rw[<-h];exact x.A.symm)).1⟩,u.A,s.A⟩
  ·have S:(k !=0)=true:=by simp;exact a
   have K:=E a;have j:=H.A;have U:=D.A;have R:I.wrap ((i:Int)+1-1)=(i:Int):=ay;have Q:I.wrap (i:Int)=(i:Int):=ay;clear a;go_wp2;exact⟨rfl,.inr ⟨λh=>K.A (o.A.2 (by rw[<-h.2];exact x.A.symm)).2,⟨i,k,rfl⟩,s.A⟩⟩
 ·clear g;go_wp2;exact⟨rfl,.inr ⟨λh=>ae (a.symm.trans h.1) aq,⟨n,m,rfl⟩,f⟩⟩
variable {B2:Nat}
def fC.fin {c:Nat} {q:Option aX×Nat} (h:fC w0 w B b c i ao l F q) (hg:w.grownBy w' (ad b)) {j:Nat} (Z:aI w' b 179 #[O ao l.length c,J I j,O q.1 F.length q.2]) (hj:j<=l.length):fC w0 w' B b c j ao l F q:=⟨h.b0.cD hg h.Z,h.Z,h.tk,Z,h.lc,hj,h.lD.keep ((h.Gj hg).dJ (bV _)) aq aq⟩
theorem abe (h:P:=by
 have zL:=E (HV.A.al Eh.A.aC);have⟨x0,Gp⟩:=gn.A.cf;go_simp;refine aJ _ _ trivial ?_;clear aJ KK HP;clear x0 Gp;have HN:=E (gn.A.Ef (ap R.n) (ap R.x.s.n) (O A2 R.x.s.aU.length c2) (J I R.x.op) (J I R.x.v) (J I R.wait) (J I R.keep) (O A7 R.L.length c7));have uH:=Eg gn.A.lt (ap R.n) (ap R.x.s.n) (O A2 R.x.s.aU.length c2) (J I R.x.op) (J I R.x.v) (J I R.wait) (J I R.keep) (O A7 R.L.length c7);have uB:=E (zL.A.keep (((Kt.refl w0.heap.size [51] pt.aL).grown uH (HS.A.b0.trans bR.A).size (λg e=>by cases e;exact⟨Ei.A,bp.bO gn.A⟩) (bD.2 rfl)).dJ (bV _)) aq);have bm:=E (bR.A.cD uH kV.A);clear uH zL HV bR gn Eh;generalize((((((((pt.aL.setCell (ab G 0 M) (ap R.n)).setCell (ab G 1 M) (ap R.x.s.n)).setCell (ab G 2 M) (O A2 R.x.s.aU.length c2)).setCell (ab G 3 M) (J I R.x.op)).setCell (ab G 4 M) (J I R.x.v)).setCell (ab G 5 M) (J I R.wait)).setCell (ab G 6 M) (J I R.keep)).setCell (ab G 7 M) (O A7 R.L.length c7))=W9 at HN uB bm⊢;clear pt;refine bP ?_;refine S6.nb λwq hq=>?_;have SH:=E (uB.A.al hq);have JR:=E (HN.A.al hq HN.A.lt);have kd:=E (bm.A.next hq);have HGq:=E (da HN.A.lt hq.size);clear hq uB HN bm;have SI:=E (HS.A.al kd.A.aC);have Nq:=E (HX.A.al kd.A.aC HX.A.lt);have HNQ:=E (JR.A.cell 0);have n0:=HNQ.A;simp at n0;by_cases hk:k=0;case neg=>
  have jv:(k !=0)=true:=aqk;have HK:=E hk;clear hk;go_wp2;exact⟨rfl,.inr ⟨E λ_ h=>HK.A (dF.A.2.2 h).2.1,⟨j,k,rfl⟩,grown_of (di.A.next kd.A.aC).aC⟩⟩
 subst hk;have cj:=E (dF.A.2.1 (by trivial));have fK:=E (λh=>(dF.A.2.2 h:_));have aM:=aas R.n wq (xO.A.al (di.A.next kd.A.aC).aC);obtain⟨r,hr⟩:=aP (Rs.any (λx=>decide (x.n=R.n)));rw[hr] at aM;have HR:=E hr;clear hr;go_wp2_with fail;refine aM.ah ?_;rintro e apD⟨rfl,zM⟩;clear aM n0 HNQ;have hU:=E (SI.A.al zM.aC);have l5:=E (Nq.A.al zM.aC Nq.A.lt);have SJ:=E (JR.A.al zM.aC JR.A.lt);have D8:=E (SH.A.al zM.aC);have bL:=E ((di.A.next kd.A.aC).trans zM);clear SI Nq JR SH zM;have z1:=hU.A.box.cell 1;have fz1:=hU.A.box.frozen 1;cases r with
 |true=>
  have w1:I.wrap ((i:Int)+1)=(i:Int)+1:=by rw[b7];have:=HS.A.lc.1;have:=HS.A.lc.2;have:=td cj.A.2;omega
  go_wp2;exact⟨rfl,.inr ⟨E λh=>ae HR.A (by rw[h];simp),⟨i+1,_,rfl⟩,grown_of bL.A.aC⟩⟩
 |false=>
  have⟨n0,SK⟩:=SJ.A.cf;have⟨r0,Nr⟩:=l5.A.cf;have HJ:=E dF.A.1;have JS:=E (bX (o:=1) hU.A.box.lt (J I (j:Int)));have gv:=E (hU.A.step (j:=j) HJ.A);have eU:=E (l5.A.gr JS.A (ai bY.A));have BI:=E (SJ.A.gr JS.A (aj bY.A abf.A));have eH:=E (D8.A.keep ((hU.A.Gj JS.A).dJ (bV _)) aq);clear hU l5 SJ D8;clear n0 SK;clear r0 Nr;have⟨n0,SK⟩:=BI.A.cf;have⟨r0,Nr⟩:=eU.A.cf;go_wp2;have HP4:=E (eU.A.Ef (ap R.n) (ap R.x.s.n) (O A2 R.x.s.aU.length c2) (J I R.x.op) (J I R.x.v) (J I R.wait) (J I R.keep) (O A7 R.L.length c7));have uH:=Eg eU.A.lt (ap R.n) (ap R.x.s.n) (O A2 R.x.s.aU.length c2) (J I R.x.op) (J I R.x.v) (J I R.wait) (J I R.keep) (O A7 R.L.length c7);clear n0 SK;clear r0 Nr;have⟨r0,Nr⟩:=HP4.A.cf;refine bF (v:=aY #[ap R.n,ap R.x.s.n,O A2 R.x.s.aU.length c2,J I R.x.op,J I R.x.v,J I R.wait,J I R.keep,O A7 R.L.length c7]) (by simp[bz,results137,go_sem,r0]) rfl (.inl ⟨_,R,j,rfl,?_,?_,?_,?_⟩)
  ·exact eH.A.keep (((Kt.refl w0.heap.size [51] _).grown uH gv.A.b0.size (λg e=>by cases e;exact⟨JT.A,bp.bO eU.A⟩) (bD.2 rfl)).dJ (bV _)) aq
  ·exact E ⟨cj.A.1,dM.A,HR.A,λh=>(fK.A h).1,λh=>(fK.A h).2.2⟩
  ·exact B9.A.fin (l3 (bB (grown_of bL.A.aC) JS.A) uH (aO _)) (gv.A.box.gr uH (mW bY.A)) HJ.A
  ·exact l3 (bB (grown_of bL.A.aC) JS.A) uH (aO _)
 ):P:=h
theorem abg (h:P:=by
 have zL:=E (HV.A.al Eh.A.aC);have⟨x0,Gp⟩:=gn.A.cf;go_simp;refine aJ _ _ trivial ?_;clear aJ KK HP;clear x0 Gp;have HN:=E (gn.A.Ef (ap R.n) (ap R.x.s.n) (O A2 R.x.s.aU.length c2) (J I R.x.op) (J I R.x.v) (J I R.wait) (J I R.keep) (O A7 R.L.length c7));have uH:=Eg gn.A.lt (ap R.n) (ap R.x.s.n) (O A2 R.x.s.aU.length c2) (J I R.x.op) (J I R.x.v) (J I R.wait) (J I R.keep) (O A7 R.L.length c7);have uB:=E (zL.A.keep (((Kt.refl w0.heap.size [51] pt.aL).grown uH (HS.A.b0.trans bR.A).size (λg e=>by cases e;exact⟨Ei.A,bp.bO gn.A⟩) (bD.2 rfl)).dJ (bV _)) aq);have bm:=E (bR.A.cD uH kV.A);clear uH zL HV bR gn Eh;generalize((((((((pt.aL.setCell (ab G 0 M) (ap R.n)).setCell (ab G 1 M) (ap R.x.s.n)).setCell (ab G 2 M) (O A2 R.x.s.aU.length c2)).setCell (ab G 3 M) (J I R.x.op)).setCell (ab G 4 M) (J I R.x.v)).setCell (ab G 5 M) (J I R.wait)).setCell (ab G 6 M) (J I R.keep)).setCell (ab G 7 M) (O A7 R.L.length c7))=W9 at HN uB bm⊢;clear pt;refine bP ?_;refine S6.nb λwq hq=>?_;have SH:=E (uB.A.al hq);have JR:=E (HN.A.al hq HN.A.lt);have kd:=E (bm.A.next hq);have HGq:=E (da HN.A.lt hq.size);clear hq uB HN bm;have SI:=E (HS.A.al kd.A.aC);have Nq:=E (HX.A.al kd.A.aC HX.A.lt);have hk:k≠0:=λh=>by
  have:=(dF.A.2.1 h).2;rw[HRF.A] at this;cases this
 have jv:(k !=0)=true:=aqk;have HK:=E hk;clear hk;go_wp2;exact⟨rfl,.inr ⟨E λ_ h=>HK.A (dF.A.2.2 h).2.1,⟨j,k,rfl⟩,grown_of (di.A.next kd.A.aC).aC⟩⟩;):P:=h
def akD {c:Nat} {q:Option aX×Nat} {Rs:List cv} (hG:eK w0) (hT:∀t∈l,t.s.size<=1000000) (mJ:l.length<=65536) (hv:Vs lS w B2 v Rs) (h:fC w0 w B b c i ao l F q):aN aH 137 #[bl (ad (ab b 0 M)),v] w λe w'=>(∃(v':aE) (R:cv) (j:Nat),e=aQ v'/\rI w' 0 v' R/\a6 (ku R=true/\Rs.length<16/\Rs.any (λx=>decide (x.n=R.n))=false/\(qA l i=true->R=te l i)/\(qA l i=true->j=i+7))/\fC w0 w' B b c j ao l F q/\w.grownBy w' (ad b))\/(a6 (Rs=[]->qA l i=true->False)/\Gn w w' b e):=by
 obtain⟨A8,kb,rfl,Y,X⟩:=hv.be;have xO:=E hv;have B9:=E h;have aW:=(aF.refl w).alloc (aD #[ap ⟨#[]⟩,ap ⟨#[]⟩,O M 0 0,J I 0,J I 0,J I 0,J I 0,O M 0 0] 51);have di:=E aW;have HS:=E (h.al aW.aC);have HX:=E (aI.new w 51 #[ap ⟨#[]⟩,ap ⟨#[]⟩,O M 0 0,J I 0,J I 0,J I 0,J I 0,O M 0 0]);have bY:=E h.box.lt;have JT:=E h.b0.size;have U:=E hG;have S:=E hT;have N:=E mJ;clear hG hT mJ hv Y X h aW;by_cases T:16<=Rs.length
 ·have d1:decide (16<=(Rs.length:Int))=true:=ac an;have ec:decide (16<=Rs.length)=true:=ac T;have BN:=E (show Rs≠[] fromλe=>by rw[e] at T;simp at T);have aM:=SE 1 xH HS.A;cases hr:cA l i 1 xH with
  |true=>
   rw[hr] at aM;go_enter func137,ntmps137;go_wp2_with fail;refine aM.ah ?_;rintro e V⟨rfl,Z⟩;have aK:=E (HS.A.al Z);have z1:=aK.A.box.cell 1;clear aM;go_wp2;exact⟨rfl,.inr ⟨E λh=>ae h BN.A,⟨i,_,rfl⟩,grown_of (di.A.next Z).aC⟩⟩
  |false=>
   rw[hr] at aM;have HRF:=E hr;clear hr;go_enter func137,ntmps137;go_wp2_with fail;refine aM.ah ?_;rintro e V⟨rfl,Z⟩;replace di:=E (di.A.next Z);replace HS:=E (HS.A.al Z);replace HX:=E (HX.A.al Z HX.A.lt);clear aM Z;have L:=ba.cells HS.A.box;have HP:=E (λp:ba _=>Nj (HS.A.b0.trans p.r) HS.A.tk HS.A.lc HS.A.le U.A S.A N.A);go_wp2_with fail;refine hb (dq 0 8 (.l7 8 (dq 9 2 (.p 11 (.p 12 (.c 13 (.s 14 (.p 15 (.p 16 .nil))))))) 13 (.c 8 (dq 9 2 (.p 11 (.p 12 (.s 14 (.p 15 (.p 16 .nil))))))))) ?_;refine bP ?_;refine S6.l7 au au (λwt K KK aJ=>?_) (λwt K KK aJ=>?_)
   ·skip;obtain⟨pt,rfl⟩:=K;go_simp;refine(HP.A pt).ah ?_;rintro e W⟨⟨v,R,k,j,rfl,d⟩,Z⟩;obtain⟨A2,c2,A7,c7,rfl,H,D,C,z⟩:=d.val.be;have HV:=E d.val;have dF:=E (iC d.le d.ok);have m:=E (pt.r.trans Z);refine aJ _ _ Z ?_;clear aJ KK Z L d H D C z pt;refine bP ?_;refine S6.c ?_;rintro _⟨pt,rfl⟩ KK aJ;go_simp;refine aJ _ _ ((aF.refl _).alloc _) ?_;clear aJ KK;obtain⟨G,f⟩:∃G,a6 (pt.aL.heap.size=G):=⟨_,E rfl⟩;have a:=E (aI.new pt.aL 51 #[ap ⟨#[]⟩,ap ⟨#[]⟩,O M 0 0,J I 0,J I 0,J I 0,J I 0,O M 0 0]);simp only[f.A] at a⊢;have n:=E ((m.A.trans pt.r).alloc (aD #[ap ⟨#[]⟩,ap ⟨#[]⟩,O M 0 0,J I 0,J I 0,J I 0,J I 0,O M 0 0] 51));have u:=E ((aF.alloc pt.r (aD #[ap ⟨#[]⟩,ap ⟨#[]⟩,O M 0 0,J I 0,J I 0,J I 0,J I 0,O M 0 0] 51)));have Ei:=E (show w0.heap.size<=G by have:=(HS.A.b0.trans (m.A.trans pt.r)).size;have:=f.A;omega);have kV:=E (show V.heap.size<=G by have:=(m.A.trans pt.r).size;have:=f.A;omega);clear f m;generalize pt.aL.alloc (aD #[ap ⟨#[]⟩,ap ⟨#[]⟩,O M 0 0,J I 0,J I 0,J I 0,J I 0,O M 0 0] 51)=W7 at a n u⊢;clear pt;refine S6.s ?_;rintro _⟨pt,rfl⟩ KK aJ;go_simp;have gn:=E (a.A.al pt.aC a.A.lt);have bR:=E (n.A.trans pt.r);have Eh:=E (u.A.trans pt.r);clear a n u;exact abg
   ·skip;obtain⟨pt,rfl⟩:=K;go_simp;refine aJ _ _ ((aF.refl _).alloc _) ?_;clear aJ KK;obtain⟨G,f⟩:∃G,a6 (pt.aL.heap.size=G):=⟨_,E rfl⟩;have a:=E (aI.new pt.aL 51 #[ap ⟨#[]⟩,ap ⟨#[]⟩,O M 0 0,J I 0,J I 0,J I 0,J I 0,O M 0 0]);simp only[f.A] at a⊢;have n:=E (pt.r.alloc (aD #[ap ⟨#[]⟩,ap ⟨#[]⟩,O M 0 0,J I 0,J I 0,J I 0,J I 0,O M 0 0] 51));have Ei:=E (show w0.heap.size<=G by have:=(HS.A.b0.trans pt.r).size;have:=f.A;omega);have kV:=E (show V.heap.size<=G by have:=pt.r.size;have:=f.A;omega);clear f L;generalize pt.aL.alloc (aD #[ap ⟨#[]⟩,ap ⟨#[]⟩,O M 0 0,J I 0,J I 0,J I 0,J I 0,O M 0 0] 51)=W7 at a n⊢;clear pt;have HP:=E (λp:ba W7=>Nj (HS.A.b0.trans (n.A.trans p.r)) HS.A.tk HS.A.lc HS.A.le U.A S.A N.A);refine S6.c ?_;rintro _⟨pt,rfl⟩ KK aJ;go_simp;refine(HP.A pt).ah ?_;rintro e W⟨⟨v,R,k,j,rfl,d⟩,Z⟩;obtain⟨A2,c2,A7,c7,rfl,H,D,C,z⟩:=d.val.be;have HV:=E d.val;have dF:=E (iC d.le d.ok);have m:=E (pt.r.trans Z);refine aJ _ _ Z ?_;clear aJ KK Z d H D C z pt;refine bP ?_;refine S6.s ?_;rintro _⟨pt,rfl⟩ KK aJ;go_simp;have gn:=E (a.A.al (m.A.trans pt.r).aC a.A.lt);have bR:=E (n.A.trans (m.A.trans pt.r));have Eh:=E pt.r;clear a n m;exact abg
 ·have dM:=E (show Rs.length<16 by omega);have d1:decide (16<=(Rs.length:Int))=false:=aa an;have ec:decide (16<=Rs.length)=false:=aa T;go_enter func137,ntmps137;have L:=ba.cells HS.A.box;have HP:=E (λp:ba _=>Nj (HS.A.b0.trans p.r) HS.A.tk HS.A.lc HS.A.le U.A S.A N.A);go_wp2_with fail;refine hb (dq 0 8 (.l7 8 (dq 9 2 (.p 11 (.p 12 (.c 13 (.s 14 (.p 15 (.p 16 .nil))))))) 13 (.c 8 (dq 9 2 (.p 11 (.p 12 (.s 14 (.p 15 (.p 16 .nil))))))))) ?_;refine bP ?_;refine S6.l7 au au (λwt K KK aJ=>?_) (λwt K KK aJ=>?_)
  ·skip;obtain⟨pt,rfl⟩:=K;go_simp;refine(HP.A pt).ah ?_;rintro e W⟨⟨v,R,k,j,rfl,d⟩,Z⟩;obtain⟨A2,c2,A7,c7,rfl,H,D,C,z⟩:=d.val.be;have HV:=E d.val;have dF:=E (iC d.le d.ok);have m:=E (pt.r.trans Z);refine aJ _ _ Z ?_;clear aJ KK Z L d H D C z pt;refine bP ?_;refine S6.c ?_;rintro _⟨pt,rfl⟩ KK aJ;go_simp;refine aJ _ _ ((aF.refl _).alloc _) ?_;clear aJ KK;obtain⟨G,f⟩:∃G,a6 (pt.aL.heap.size=G):=⟨_,E rfl⟩;have a:=E (aI.new pt.aL 51 #[ap ⟨#[]⟩,ap ⟨#[]⟩,O M 0 0,J I 0,J I 0,J I 0,J I 0,O M 0 0]);simp only[f.A] at a⊢;have n:=E ((m.A.trans pt.r).alloc (aD #[ap ⟨#[]⟩,ap ⟨#[]⟩,O M 0 0,J I 0,J I 0,J I 0,J I 0,O M 0 0] 51));have u:=E ((aF.alloc pt.r (aD #[ap ⟨#[]⟩,ap ⟨#[]⟩,O M 0 0,J I 0,J I 0,J I 0,J I 0,O M 0 0] 51)));have Ei:=E (show w0.heap.size<=G by have:=(HS.A.b0.trans (m.A.trans pt.r)).size;have:=f.A;omega);have kV:=E (show(w.alloc (aD #[ap ⟨#[]⟩,ap ⟨#[]⟩,O M 0 0,J I 0,J I 0,J I 0,J I 0,O M 0 0] 51)).heap.size<=G by have:=(m.A.trans pt.r).size;have:=f.A;omega);have abf:=E (show w.heap.size+1<=G by have:=kV.A;simpa using this);clear f m;generalize pt.aL.alloc (aD #[ap ⟨#[]⟩,ap ⟨#[]⟩,O M 0 0,J I 0,J I 0,J I 0,J I 0,O M 0 0] 51)=W7 at a n u⊢;clear pt;refine S6.s ?_;rintro _⟨pt,rfl⟩ KK aJ;go_simp;have gn:=E (a.A.al pt.aC a.A.lt);have bR:=E (n.A.trans pt.r);have Eh:=E (u.A.trans pt.r);clear a n u;exact abe
  ·skip;obtain⟨pt,rfl⟩:=K;go_simp;refine aJ _ _ ((aF.refl _).alloc _) ?_;clear aJ KK;obtain⟨G,f⟩:∃G,a6 (pt.aL.heap.size=G):=⟨_,E rfl⟩;have a:=E (aI.new pt.aL 51 #[ap ⟨#[]⟩,ap ⟨#[]⟩,O M 0 0,J I 0,J I 0,J I 0,J I 0,O M 0 0]);simp only[f.A] at a⊢;have n:=E (pt.r.alloc (aD #[ap ⟨#[]⟩,ap ⟨#[]⟩,O M 0 0,J I 0,J I 0,J I 0,J I 0,O M 0 0] 51));have Ei:=E (show w0.heap.size<=G by have:=(HS.A.b0.trans pt.r).size;have:=f.A;omega);have kV:=E (show(w.alloc (aD #[ap ⟨#[]⟩,ap ⟨#[]⟩,O M 0 0,J I 0,J I 0,J I 0,J I 0,O M 0 0] 51)).heap.size<=G by have:=pt.r.size;have:=f.A;omega);have abf:=E (show w.heap.size+1<=G by have:=kV.A;simpa using this);clear f L;generalize pt.aL.alloc (aD #[ap ⟨#[]⟩,ap ⟨#[]⟩,O M 0 0,J I 0,J I 0,J I 0,J I 0,O M 0 0] 51)=W7 at a n⊢;clear pt;have HP:=E (λp:ba W7=>Nj (HS.A.b0.trans (n.A.trans p.r)) HS.A.tk HS.A.lc HS.A.le U.A S.A N.A);refine S6.c ?_;rintro _⟨pt,rfl⟩ KK aJ;go_simp;refine(HP.A pt).ah ?_;rintro e W⟨⟨v,R,k,j,rfl,d⟩,Z⟩;obtain⟨A2,c2,A7,c7,rfl,H,D,C,z⟩:=d.val.be;have HV:=E d.val;have dF:=E (iC d.le d.ok);have m:=E (pt.r.trans Z);refine aJ _ _ Z ?_;clear aJ KK Z d H D C z pt;refine bP ?_;refine S6.s ?_;rintro _⟨pt,rfl⟩ KK aJ;go_simp;have gn:=E (a.A.al (m.A.trans pt.r).aC a.A.lt);have bR:=E (n.A.trans (m.A.trans pt.r));have Eh:=E pt.r;clear a n m;exact abe
end Go.Proofs.YtbeaddlblpgppaaGreatDoor
