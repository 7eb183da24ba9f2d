/- Part of the proof of TheoryNeeds: layer. -/
import Derived.Test.YtjgjcpnoaeljkaaGreatDoorNL17
set_option linter.all false
namespace Go.kC
open Go Go.eU
def Kpt(fr f:Fr):List Nat->Prop
 |[]=>True|t::l=>f.1 t=fr.1 t/\Kpt fr f l
def Kbx(fr f:Fr):List Nat->Prop
 |[]=>True|t::l=>(f.1 t=AV.gx t (f.gen t) 0/\f.box t=fr.box t)/\Kbx fr f l
@[simp] theorem agh{fr f:Fr}:Kpt fr f []=True:=rfl
@[simp] theorem af7{fr f:Fr}{t:Nat}{l:List Nat}:Kpt fr f (t::l)=(f.1 t=fr.1 t/\Kpt fr f l):=rfl
@[simp] theorem agt{fr f:Fr}:Kbx fr f []=True:=rfl
@[simp] theorem af'{fr f:Fr}{t:Nat}{l:List Nat}:Kbx fr f (t::l)=((f.1 t=AV.gx t (f.gen t) 0/\f.box t=fr.box t)/\Kbx fr f l):=rfl
section
variable{E:Prop} {α ρ:Type} {r:ρ} {G:Prop} {c:Bool}
def Bo(e:E){o:Option α}{f:α->Option ρ}(m:cM o f=some r)(h:∀a,E/\o=some a->f a=some r->G):G:=by
 obtain⟨a,b,c⟩:=dm m;exact h a ⟨e,b⟩ c
def Bk(e:E){o:Option ρ}(m:e_ c o=some r)(h:E/\c=true->o=some r->G):G:=h ⟨e,(j0 m).1⟩ (j0 m).2
end
def Pr(_:List Nat):Prop:=True
def pe(a:Nat){l:List Nat}:Pr (a::l)=Pr l:=rfl
structure Hd (G:Prop):Prop where
 g:G
def sv{p:List Nat} (hp_:Pr p) {G G':Prop} (k:G') (h:Pr p->Hd G'->G:=by
 intro hp_ h_;have e:=e;(first|have m:=m|have m:=hm)
 repeat first
  |(with_reducible intro e;have q_:_/\_:=e;clear q_)
  |(with_reducible intro m;have q_:_=some _:=m;clear q_)
  |(with_reducible first|(have q_:=z_8;clear q_;first|(have q_:=z_12;clear q_;first|(have q_:=z_14;clear q_;first|(have q_:=z_15;clear q_;intro z_16)|(intro z_15))|(first|(have q_:=z_13;clear q_;intro z_14)|(intro z_13)))|(first|(have q_:=z_10;clear q_;first|(have q_:=z_11;clear q_;intro z_12)|(intro z_11))|(first|(have q_:=z_9;clear q_;intro z_10)|(intro z_9))))|(first|(have q_:=z_4;clear q_;first|(have q_:=z_6;clear q_;first|(have q_:=z_7;clear q_;intro z_8)|(intro z_7))|(first|(have q_:=z_5;clear q_;intro z_6)|(intro z_5)))|(first|(have q_:=z_2;clear q_;first|(have q_:=z_3;clear q_;intro z_4)|(intro z_3))|(first|(have q_:=z_1;clear q_;intro z_2)|(intro z_1)))))
  |(rewrite [pe 0] at hp_;simp[e])
  |(rewrite [pe 1] at hp_;refine Kf1 m ?_;clear m)
  |(rewrite [pe 2] at hp_;refine Hm m ?_;clear m)
  |(rewrite [pe 3] at hp_;refine Kf3 m ?_;clear m)
  |(rewrite [pe 4] at hp_;refine N9 m ?_;clear m)
  |(rewrite [pe 5] at hp_;refine TA m ?_;clear m)
  |(rewrite [pe 6] at hp_;refine Ks3 m ?_;clear m)
  |(rewrite [pe 7] at hp_;refine Iq e m (λe m=>by clear h_ hp_;(try clear h_);(try clear hp_);exact au) ?_;clear e m)
  |(rewrite [pe 8] at hp_;refine Bo e m ?_;clear e m)
  |(rewrite [pe 9] at hp_;refine Bk e m ?_;clear e m)
  |(rewrite [pe 10] at hp_;have e:=Aj e E)
  |(rewrite [pe 11] at hp_;dsimp only[dh] at m)
  |(rewrite [pe 12] at hp_;refine Ir e m (λe m=>by clear h_ hp_;(try clear h_);(try clear hp_);exact au) ?_;clear e m)
  |(rewrite [pe 13] at hp_;refine Iq e m (λe m=>by clear h_ hp_;(try clear h_);(try clear hp_);exact aa) ?_;clear e m)
  |(rewrite [pe 14] at hp_;refine Ir e m (λe m=>by clear h_ hp_;(try clear h_);(try clear hp_);exact aa) ?_;clear e m)
  |(rewrite [pe 15] at hp_;refine qc m ih ?_;clear m)
  |(rewrite [pe 16] at hp_;refine s8 m ih ?_;clear m)
  |(rewrite [pe 17] at hp_;refine RM m ih ?_;clear m)
  |(rewrite [pe 18] at hp_;refine lI m ih ?_;clear m)
  |(rewrite [pe 19] at hp_;refine nW m ih ?_;clear m)
  |(rewrite [pe 20] at hp_;simp[e] at E;have e:=Aj e E)
 revert m;revert e;(try revert z_16);(try revert z_15);(try revert z_14);(try revert z_13);(try revert z_12);(try revert z_11);(try revert z_10);(try revert z_9);(try revert z_8);(try revert z_7);(try revert z_6);(try revert z_5);(try revert z_4);(try revert z_3);(try revert z_2);(try revert z_1);exact h_.g):G:=h hp_ ⟨k⟩
def sw(p:List Nat) {G G':Prop} (k:G') (h:Pr p->Hd G'->G:=by intro hp_ h_;refine sv hp_ ?_;exact h_.g):G:=h trivial ⟨k⟩
def ab{G:Prop} (h:G:=by
 repeat' first
  |exact aa
  |(exact XN;done)
  |(exact ij;done)
  |(exact ak2;done)):G:=h
section
variable{ρ α β γ σ τ κ:Type} {E G':Prop} {X:Cx} {S:List It} {fr:Fr} {H:cZ} {a b:Code} {w:τ}
def sg(k:Nat) (p:List Nat) (q:G') (h:Pr p->Hd G'->Wf X k S fr H:=by intro hp_ h_;refine sv hp_ ?_;exact h_.g):Wf X 0 S fr H:=wg k (h trivial ⟨q⟩)
def x'(fr:Fr)(H:cZ)(L B:List Nat)(I:Fr->Prop)(f:Fr)(h:cZ):Prop:=h=H/\Kpt fr f L/\Kbx fr f B/\I f
@[simp] theorem ahm{L B:List Nat}{I:Fr->Prop}{f:Fr}{h:cZ}:x' fr H L B I f h=(h=H/\Kpt fr f L/\Kbx fr f B/\I f):=rfl
def Wa(e:E) {l:List α} {F:Int->α->σ->Option (dW σ ρ)} {k:σ⊕ρ->Option τ} {d:σ} (m:e_ (dE l) (de F λF=>cM (dF F l 0 d) k)=some w) (b i:Nat) (L B:List Nat) (I:σ->Fr->Prop) (p:List Nat)
 (q:G')
 (u:Pr p->Hd G'->∀s f h K,x' fr H L B (λf=>f.1 i=sI (dp l)/\I s f) f h->k (.inl s)=some w->Wf X b (.c a::.h K::S) f h:=by
  intro hp_ h_ s_ f_ h K_ E m;obtain⟨rfl,E⟩:=E;simp[e] at E;have e:=Aj e E;refine sv hp_ ?_;clear E e m K_ hp_;revert s_;revert f_;exact h_.g)
 (v:x' fr H L B (λf=>f.1 i=sI 0/\I d f) fr H:=by simp[e])
 (hs:∀j x s f h K n c,x' fr H L B (λf=>f.1 i=sI j/\I s f) f h->((E/\qT j (dp l)=true)/\dg l j=some x)->F j x s=some c->cC n k c=some w->(∀o r t,x' fr H L B (λf=>f.1 i=sI (dJ .i64 j 1)/\I o f) r t->n o=some w->K r t)->Wf X b (.c a::.h K::S) f h:=by intro j x s f h K n c E e m z p;obtain⟨rfl,E⟩:=E;simp[e] at E;have e:=Aj e E;clear E;exact aa) {y:Nat}:Wf X (y+1) (.c (.loop a)::S) fr H:=Wr e m b (λj s f h=>x' fr H L B (λf=>f.1 i=sI j/\I s f) f h) v (u trivial ⟨q⟩) hs
def Wd(e:E) {l:List α} {F:Int->α->σ->Option (dW σ ρ)} {k:σ⊕ρ->Option τ} {d:σ} (m:e_ (dE l) (de F λF=>cM (dF F l 0 d) k)=some w) (b i:Nat) (L B:List Nat) (I:σ->Fr->Prop)
 (hs:∀j x s f h K n c,x' fr H L B (λf=>f.1 i=sI j/\I s f) f h->((E/\qT j (dp l)=true)/\dg l j=some x)->F j x s=some c->cC n k c=some w->(∀o q r,x' fr H L B (λf=>f.1 i=sI (dJ .i64 j 1)/\I o f) q r->n o=some w->K q r)->Wf X b (.c a::.h K::S) f h)
 (t:∀s f h K,x' fr H L B (λf=>f.1 i=sI (dp l)/\I s f) f h->k (.inl s)=some w->Wf X b (.c a::.h K::S) f h:=by intro s f h K_ E m;obtain⟨rfl,E⟩:=E;simp[e] at E;have e:=Aj e E;clear E;exact aa)
 (u:x' fr H L B (λf=>f.1 i=sI 0/\I d f) fr H:=by simp[e]) {v:Nat}:Wf X (v+1) (.c (.loop a)::S) fr H:=Wr e m b (λj s f h=>x' fr H L B (λf=>f.1 i=sI j/\I s f) f h) u t hs
def Wb(e:E) {l:List α} {F:Int->α->σ->Option (dW σ ρ)} {k:σ⊕ρ->Option τ} {d:σ} (m:e_ (dE l) (de F λF=>cM (dF F l 0 d) k)=some w) (b i:Nat) (L B:List Nat) (I:σ->Fr->Prop)
 (t:∀s f h K,x' fr H L B (λf=>f.1 i=sI (dp l)/\I s f) f h->k (.inl s)=some w->Wf X b (.c a::.h K::S) f h:=by intro s f h K_ E m;obtain⟨rfl,E⟩:=E;simp[e] at E;have e:=Aj e E;clear E;exact aa)
 (hs:∀j x s f h K n c,x' fr H L B (λf=>f.1 i=sI j/\I s f) f h->((E/\qT j (dp l)=true)/\dg l j=some x)->F j x s=some c->cC n k c=some w->(∀o q r,x' fr H L B (λf=>f.1 i=sI (dJ .i64 j 1)/\I o f) q r->n o=some w->K q r)->Wf X b (.c a::.h K::S) f h:=by intro j x s f h K n c E e m z p;obtain⟨rfl,E⟩:=E;simp[e] at E;have e:=Aj e E;clear E;exact aa)
 (u:x' fr H L B (λf=>f.1 i=sI 0/\I d f) fr H:=by simp[e]) {v:Nat}:Wf X (v+1) (.c (.loop a)::S) fr H:=Wr e m b (λj s f h=>x' fr H L B (λf=>f.1 i=sI j/\I s f) f h) u t hs
def Tc(e:E) {l:List α} {F:Int->α->σ->Option (dW σ ρ)} {k:σ⊕ρ->Option τ} {d:σ} (m:e_ (dE l) (de F λF=>cM (dF F l 0 d) k)=some w) (r i:Nat) (L B:List Nat) {β:Type} (D:List Nat) (o:σ->List β) (I:σ->Tag->Fr->Prop) (p:List Nat)
 (hs:∀j x s f h K n c,(∃t,x' fr H L B (λf=>f.1 i=sI j/\I s t f) f h/\ig f.qd f.eg D t (o s).length)->((E/\qT j (dp l)=true)/\dg l j=some x)->F j x s=some c->cC n k c=some w->(∀u b v,(∃t,x' fr H L B (λf=>f.1 i=sI (dJ .i64 j 1)/\I u t f) b v/\ig b.qd b.eg D t (o u).length)->n u=some w->K b v)->Wf X r (.c a::.h K::S) f h)
 (q:G')
 (y:Pr p->Hd G'->∀s f h K,(∃t,x' fr H L B (λf=>f.1 i=sI (dp l)/\I s t f) f h/\ig f.qd f.eg D t (o s).length)->k (.inl s)=some w->Wf X r (.c a::.h K::S) f h:=by
  intro hp_ h_ s_ f_ h K_ E m;obtain⟨t_,⟨rfl,E⟩,o_⟩:=E;simp[e] at E;have e:=Aj e E;refine sv hp_ ?_;clear E e m K_ hp_;revert o_;revert t_;revert s_;revert f_;exact h_.g)
 (A:(∃t,x' fr H L B (λf=>f.1 i=sI 0/\I d t f) fr H/\ig fr.qd fr.eg D t (o d).length):=by exact⟨.full,aaQ,ig.full⟩) {C:Nat}:Wf X (C+1) (.c (.loop a)::S) fr H:=Wr e m r (λj s f h=>(∃t,x' fr H L B (λf=>f.1 i=sI j/\I s t f) f h/\ig f.qd f.eg D t (o s).length)) A (y trivial ⟨q⟩) hs
def Td(e:E) {l:List α} {F:Int->α->σ->Option (dW σ ρ)} {k:σ⊕ρ->Option τ} {d:σ} (m:e_ (dE l) (de F λF=>cM (dF F l 0 d) k)=some w) (q i:Nat) (L B:List Nat) {β:Type} (D:List Nat) (o:σ->List β) (I:σ->Tag->Fr->Prop)
 (hs:∀j x s f h K n c,(∃t,x' fr H L B (λf=>f.1 i=sI j/\I s t f) f h/\ig f.qd f.eg D t (o s).length)->((E/\qT j (dp l)=true)/\dg l j=some x)->F j x s=some c->cC n k c=some w->(∀r b u,(∃t,x' fr H L B (λf=>f.1 i=sI (dJ .i64 j 1)/\I r t f) b u/\ig b.qd b.eg D t (o r).length)->n r=some w->K b u)->Wf X q (.c a::.h K::S) f h)
 (v:∀s f h K,(∃t,x' fr H L B (λf=>f.1 i=sI (dp l)/\I s t f) f h/\ig f.qd f.eg D t (o s).length)->k (.inl s)=some w->Wf X q (.c a::.h K::S) f h:=by intro s f h K_ E m;obtain⟨t_,⟨rfl,E⟩,o_⟩:=E;simp[e] at E;have e:=Aj e E;clear E;exact aa)
 (y:(∃t,x' fr H L B (λf=>f.1 i=sI 0/\I d t f) fr H/\ig fr.qd fr.eg D t (o d).length):=by exact⟨.full,aaQ,ig.full⟩) {A:Nat}:Wf X (A+1) (.c (.loop a)::S) fr H:=Wr e m q (λj s f h=>(∃t,x' fr H L B (λf=>f.1 i=sI j/\I s t f) f h/\ig f.qd f.eg D t (o s).length)) y v hs
abbrev nI:Unit->Fr->Prop:=λ_ _=>True
def wA(d k2:Nat) (L B:List Nat) (R:Fr->Prop) (p:List Nat)
 (i:∀K:Fr->cZ->Prop,(∀f h,x' fr H L B R f h->K f h)->Wf X d (.c a::.h K::S) fr H)
 (q:G')
 (j:Pr p->Hd G'->∀f h,x' fr H L B R f h->Wf X k2 (.c b::S) f h:=by
  intro hp_ h_ f_ h E;obtain⟨rfl,E⟩:=E;simp[e] at E;have e:=Aj e E;refine sv hp_ ?_;clear E e hp_;revert f_;exact h_.g):Wf X 0 (.c (.seq a b)::S) fr H:=wj d k2 _ i (j trivial ⟨q⟩)
def wB(d k2:Nat) (L B:List Nat) (R:Fr->Prop)
 (i:∀K:Fr->cZ->Prop,(∀f h,x' fr H L B R f h->K f h)->Wf X d (.c a::.h K::S) fr H)
 (j:∀f h,x' fr H L B R f h->Wf X k2 (.c b::S) f h:=by
  intro f_ h E;obtain⟨rfl,E⟩:=E;simp[e] at E;have e:=Aj e E;clear E;exact aa):Wf X 0 (.c (.seq a b)::S) fr H:=wj d k2 _ i j
def WA{d:(α->Option τ)->Option τ} {i:α->Option τ} (m:de i d=some w) (k k2:Nat) (L B:List Nat) (R:α->Fr->Prop) (p:List Nat)
  (l:∀(j:α->Option τ) (K:Fr->cZ->Prop),(∀f h,(∃v,x' fr H L B (R v) f h/\j v=some w)->K f h)->d j=some w->Wf X k (.c a::.h K::S) fr H)
  (q:G')
  (n:Pr p->Hd G'->∀f h,(∃v,x' fr H L B (R v) f h/\i v=some w)->Wf X k2 (.c b::S) f h:=by
   intro hp_ h_ f_ h E;obtain⟨s_,E,m⟩:=E;obtain⟨rfl,E⟩:=E;simp[e] at E;have e:=Aj e E;refine sv hp_ ?_;clear E e m hp_;revert s_;revert f_;exact h_.g):Wf X 0 (.c (.seq a b)::S) fr H:=
 Wj m k k2 (λj f h=>∃v,x' fr H L B (R v) f h/\j v=some w) l (n trivial ⟨q⟩)
def WB{d:(α->Option τ)->Option τ} {i:α->Option τ} (m:de i d=some w) (k k2:Nat) (L B:List Nat) (R:α->Fr->Prop)
  (l:∀(j:α->Option τ) (K:Fr->cZ->Prop),(∀f h,(∃v,x' fr H L B (R v) f h/\j v=some w)->K f h)->d j=some w->Wf X k (.c a::.h K::S) fr H)
  (n:∀f h,(∃v,x' fr H L B (R v) f h/\i v=some w)->Wf X k2 (.c b::S) f h:=by
   intro f_ h E;obtain⟨z_1,E,m⟩:=E;obtain⟨rfl,E⟩:=E;simp[e] at E;have e:=Aj e E;clear E;exact aa):Wf X 0 (.c (.seq a b)::S) fr H:=
 Wj m k k2 (λj f h=>∃v,x' fr H L B (R v) f h/\j v=some w) l n
end
end Go.kC
