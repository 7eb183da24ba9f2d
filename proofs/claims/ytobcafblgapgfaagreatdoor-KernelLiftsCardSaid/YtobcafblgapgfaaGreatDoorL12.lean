/- Part of the proof of KernelLifts, KernelPuts, KernelCuts: layer. -/
import Derived.Test.YtobcafblgapgfaaGreatDoorL11
set_option linter.all false
namespace Go.tq
open Go Go.eD
inductive It where
 |c (x:Code)|b (id:Nat)|h (K:Fr->dM->Prop)
def XT:List (Nat×Bool×List Bool)->Nat->Bool×List Bool
 |[],_=>(false,[])|x::l,i=>if i=x.1 then x.2 else XT l i
structure Cx where
 P:Program
 T:fx
 n:Nat
 E:List Nat
 D:List (Nat×Bool×List Bool)
 rs:List ResultVar
 Post:AV->dM->Prop
def Dm(n:Nat)(E:List Nat)(D:List (Nat×Bool×List Bool)):Code->Bool
 |.seq a b=>Dm n E D a&&Dm n E D b|.cond c a b=>oX c&&(Dm n E D a&&Dm n E D b)|.block _ a=>Dm n E D a|.loop a=>Dm n E D a|.scope a=>Dm n E D a|.region _ ops false=>HO n ops|.region id ops true=>HO n ops&&GK E ops (λi=>(XT D id).2.getD i true)|_=>true
def SQ(X:Cx):List It->Exit->Fr->dM->Prop
 |[],e,fr,H=>DU X.P X.rs X.Post e fr H|i::S,e,fr,H=>match i,e with
  |.c x,.normal=>X.P.follows .mixedOrders=true->Dm X.n X.E X.D x=true->jF X.P X.T X.n x (SQ X S) fr H|.b id,.exit j=>if j=id then SQ X S .normal fr H else SQ X S (.exit j) fr H|.h K,.normal=>K fr H|_,e=>SQ X S e fr H
def Mw(id:Nat):List It->Option (List It)
 |[]=>none|.b j::S=>if j=id then some S else Mw id S|_::S=>Mw id S
def Va(A B:Fr->dM->Prop)(v:AV)(fr:Fr)(H:dM):Prop:=So v (A fr H) (B fr H)
def Wf(X:Cx):Nat->List It->Fr->dM->Prop
 |0,S,fr,H=>SQ X S .normal fr H|_+1,[],fr,H=>DU X.P X.rs X.Post .normal fr H|k+1,.b _::S,fr,H=>Wf X k S fr H|_+1,.h K::_,fr,H=>K fr H|k+1,.c x::S,fr,H=>match x with
  |.seq a b=>Wf X k (.c a::.c b::S) fr H|.skip=>Wf X k S fr H|.label _=>Wf X k S fr H|.scope a=>Wf X k (.c a::S) fr H|.block id a=>Wf X k (.c a::.b id::S) fr H|.exit id=>match Mw id S with|some d=>Wf X k d fr H|none=>False
  |.ret=>DU X.P X.rs X.Post .ret fr H|.cond c a b=>Va (Wf X k (.c a::S)) (Wf X k (.c b::S)) (ev X.T fr c) fr H|.region _ ops false=>mZ X.P X.T X.E ops ops.toList (Wf X k S) fr H|.region id ops true=>jC X.P X.T X.E ops (XT X.D id).1 (XT X.D id).2 ops.toList (Wf X k S) fr H|x=>SQ X (.c x::S) .normal fr H
def Xs(X:Cx):∀(S:List It) (fr:Fr) (H:dM),SQ X S .ret fr H=DU X.P X.rs X.Post .ret fr H
 |[],_,_=>rfl|i::S,fr,H=>by
  have:=Xs X S fr H;cases i<;>exact this
def UY(X:Cx)(l:Nat):∀(S:List It) (fr:Fr) (H:dM),SQ X S (.goto l) fr H=False
 |[],_,_=>rfl|i::S,fr,H=>by
  have:=UY X l S fr H;cases i<;>exact this
def R8(X:Cx)(id:Nat):∀(S a:List It) (fr:Fr) (H:dM),Mw id S=some a->SQ X S (.exit id) fr H=SQ X a .normal fr H
 |[],_,_,_,h=>by cases h
 |i::S,a,fr,H,h=>by
  cases i with
  |b j=>
   simp only[Mw] at h;show(if id=j then SQ X S .normal fr H else SQ X S (.exit id) fr H)=_
   split at h
   ·rename_i e;rw[cL e.symm,hZ h]
   ·rename_i e;rw[cJ (λd=>e d.symm)];exact R8 X id S a fr H h
  |c x=>exact R8 X id S a fr H h|h K=>exact R8 X id S a fr H h
def ado(K:Fr->dM->Prop):Exit->Fr->dM->Prop
 |.normal,fr,H=>K fr H|_,_,_=>False
def sW(X:Cx):∀(k:Nat) (S:List It) (fr:Fr) (H:dM),Wf X k S fr H->SQ X S .normal fr H
 |0,_,_,_,h=>h|_+1,[],_,_,h=>h|k+1,.b _::S,fr,H,h=>sW X k S fr H h|_+1,.h _::_,_,_,h=>h|k+1,.c x::S,fr,H,h=>by
  have up:∀{c:Code} {S:List It} {fr:Fr} {H:dM},jF X.P X.T X.n c (ado (Wf X k S)) fr H->jF X.P X.T X.n c (SQ X S) fr H:=λh=>h.mono λe fr' H' g=>by
   cases e<;>first|exact sW X k _ _ _ g|exact g.elim
  intro hm f;cases x with
  |seq a b=>
   have i:Wf X k (.c a::.c b::S) fr H:=h;have j:=sW X k _ _ _ i;simp only[Dm,ew] at f;refine jF.seq ((j hm f.1).mono λe fr' H' g=>?_)
   cases e<;>first|exact g hm f.2|exact g
  |skip=>exact jF.skip (sW X k S fr H h)|label l=>exact jF.label (sW X k S fr H h)|scope a=>
   have j:=sW X k (.c a::S) fr H h;refine jF.scope ((j hm f).mono λe fr' H' g=>?_)
   cases e<;>first|exact⟨trivial,g⟩|(rw[UY] at g;exact g.elim)
  |block id a=>
   have j:=sW X k (.c a::.b id::S) fr H h;refine jF.block ((j hm f).mono λe fr' H' g=>?_);cases e<;>exact g
  |exit id=>
   have i:(match Mw id S with|some m=>Wf X k m fr H|none=>False):=h
   split at i
   ·rename_i m hs;refine jF.exit ?_;rw[R8 X id S m fr H hs];exact sW X k m fr H i
   ·exact i.elim
  |ret=>
   refine jF.ret ?_;rw[Xs];exact h
  |cond c a b=>
   simp only[Dm,ew] at f;have i:So (ev X.T fr c) (Wf X k (.c a::S) fr H) (Wf X k (.c b::S) fr H):=h;refine jF.Cq (λA B o p=>?_) f.1;generalize ev X.T fr c=v at i;cases v with
   |sc w=>
    cases w with
    |bool t=>
     cases t with
     |true=>exact o _ _ (sW X k _ _ _ i hm f.2.1)|false=>exact p _ _ (sW X k _ _ _ i hm f.2.2)
    |_=>exact i.elim
   |_=>exact i.elim
  |region id ops d=>
   cases d with
   |false=>exact up (jF.region X.E f h)|true=>
    simp only[Dm,ew] at f;exact up (jF.YF X.E (XT X.D id).1 (XT X.D id).2 hm f.1 f.2 h)
  |_=>exact h hm f
section
variable{X:Cx} {k:Nat} {S:List It} {fr:Fr} {H:dM} {a b:Code} {c:Operand} {id:Nat} {ops:Array Oper} {A B:Fr->dM->Prop}
@[simp] theorem ad5:Wf X (k+1) [] fr H=DU X.P X.rs X.Post .normal fr H:=rfl
@[simp] theorem afg:Wf X (k+1) (.b id::S) fr H=Wf X k S fr H:=rfl
@[simp] theorem afh{K:Fr->dM->Prop}:Wf X (k+1) (.h K::S) fr H=K fr H:=rfl
@[simp] theorem aei:Wf X (k+1) (.c (.seq a b)::S) fr H=Wf X k (.c a::.c b::S) fr H:=rfl
@[simp] theorem adL:Wf X (k+1) (.c .skip::S) fr H=Wf X k S fr H:=rfl
@[simp] theorem ab_:Wf X (k+1) (.c (.block id a)::S) fr H=Wf X k (.c a::.b id::S) fr H:=rfl
@[simp] theorem adN:Wf X (k+1) (.c (.exit id)::S) fr H=match Mw id S with|some a=>Wf X k a fr H|none=>False:=rfl
@[simp] theorem aef:Wf X (k+1) (.c .ret::S) fr H=DU X.P X.rs X.Post .ret fr H:=rfl
@[simp] theorem adO:Wf X (k+1) (.c (.cond c a b)::S) fr H=Va (Wf X k (.c a::S)) (Wf X k (.c b::S)) (ev X.T fr c) fr H:=rfl
@[simp] theorem aea:Wf X (k+1) (.c (.region id ops false)::S) fr H=mZ X.P X.T X.E ops ops.toList (Wf X k S) fr H:=rfl
@[simp] theorem adU:Wf X (k+1) (.c (.region id ops true)::S) fr H=jC X.P X.T X.E ops (XT X.D id).1 (XT X.D id).2 ops.toList (Wf X k S) fr H:=rfl
@[simp] theorem abe:Va A B (.sc (.bool true)) fr H=A fr H:=rfl
@[simp] theorem YW:Va A B (.sc (.bool false)) fr H=B fr H:=rfl
@[simp] theorem ad_:Mw id (.c a::S)=Mw id S:=rfl
@[simp] theorem aen{K:Fr->dM->Prop}:Mw id (.h K::S)=Mw id S:=rfl
@[simp] theorem aee{j:Nat}:Mw id (.b j::S)=if j=id then some S else Mw id S:=rfl
@[simp] theorem ad0{i:Nat}:XT [] i=(false,[]):=rfl
@[simp] theorem acT{x:Nat×Bool×List Bool}{l:List (Nat×Bool×List Bool)}{i:Nat}:XT (x::l) i=if i=x.1 then x.2 else XT l i:=rfl
@[simp] theorem X9{P:Program}{T:fx}{E:List Nat}{q:Bool}{o:Oper}{rest:List Oper}{K:Fr->dM->Prop}:jC P T E ops q [] (o::rest) K fr H=jC P T E ops q [true] (o::rest) K fr H:=rfl
def wg(k:Nat)(h:Wf X k S fr H):Wf X 0 S fr H:=sW X k S fr H h
def wj(f k2:Nat)(R:Fr->dM->Prop)(i:∀K:Fr->dM->Prop,(∀fr H,R fr H->K fr H)->Wf X f (.c a::.h K::S) fr H)(j:∀fr H,R fr H->Wf X k2 (.c b::S) fr H):Wf X 0 (.c (.seq a b)::S) fr H:=by
 intro hm d;simp only[Dm,ew] at d;have k:=sW X f _ _ _ (i (SQ X (.c b::S) .normal) λfr H h=>sW X k2 _ _ _ (j fr H h));refine jF.seq ((k hm d.1).mono λe fr' H' g=>?_)
 cases e<;>first|exact g hm d.2|exact g
def wl(d:Nat)(I:Nat->Fr->dM->Prop)(m:Nat)(g:I m fr H)(i:∀m fr H,I m fr H->∀K:Fr->dM->Prop,(∀fr' H' f,f<m->I f fr' H'->K fr' H')->Wf X d (.c a::.h K::S) fr H):Wf X (k+1) (.c (.loop a)::S) fr H:=by
 intro hm b;refine jF.TC I m g λm fr H j K l=>?_;refine((sW X d _ _ _ (i m fr H j K l)) hm b).mono λe fr' H' n=>?_;cases e<;>exact n
end
def wi{P:Program}{T:fx}{H:dM}{f:FuncId}{args:List AV}{Post:AV->dM->Prop}{fn:Func}{c:Code}(hm:P.follows .mixedOrders=true)(d:P.funcs[f]?=some fn)(E:List Nat)(D:List (Nat×Bool×List Bool))(k:Nat)
  (h:Wf {P:=P,T:=T,n:=fn.ntmps,E:=E,D:=D,rs:=fn.results.toList,Post:=Post} k [.c c] (Uc args) H)
  (e:fn.body=some c:=by rfl) (a:qx P f=true:=by decide+kernel) (hlen:args.length<=fn.ntmps:=by exact Kz rfl) (b:Dm fn.ntmps E D c=true:=by decide+kernel):gG P T f args H Post:=
 gG.intro d e a hlen (((sW _ _ _ _ _ h) hm b).mono λ_ _ _ g=>g)
end Go.tq
namespace Go.tq
open Go Go.eD
section
variable{α β γ δ ε ζ ρ σ τ κ:Type} {E A:Prop} {r:ρ} {c:Bool}
def Aj(e:E)(a:A):E/\A:=⟨e,a⟩
def g_(e:E){o:Option α}{f:α->Option ρ}(m:cH o f=some r):∃a,(E/\o=some a)/\f a=some r:=by
 obtain⟨a,b,c⟩:=ez m;exact⟨a,⟨e,b⟩,c⟩
def Bo2(e:E){o:Option (α×β)}{f:α->β->Option ρ}(m:c0 o f=some r):∃a b,(E/\o=some (a,b))/\f a b=some r:=by
 obtain⟨a,b,c,d⟩:=mq m;exact⟨a,b,⟨e,c⟩,d⟩
def Bo3(e:E){o:Option (α×β×γ)}{f:α->β->γ->Option ρ}(m:iG o f=some r):∃a b c,(E/\o=some (a,b,c))/\f a b c=some r:=by
 obtain⟨a,b,c,d,g⟩:=Eh m;exact⟨a,b,c,⟨e,d⟩,g⟩
def Bo4(e:E){o:Option (α×β×γ×δ)}{f:α->β->γ->δ->Option ρ}(m:Ro o f=some r):∃a b c d,(E/\o=some (a,b,c,d))/\f a b c d=some r:=by
 obtain⟨a,b,c,d,g,h⟩:=UR m;exact⟨a,b,c,d,⟨e,g⟩,h⟩
def Ck(e:E){o:Option ρ}(m:fU c o=some r):(E/\c=true)/\o=some r:=⟨⟨e,(tZ m).1⟩,(tZ m).2⟩
def Io(e:E){a b:Option ρ}(m:(if c then a else b)=some r):((E/\c=true)/\a=some r)\/((E/\c=false)/\b=some r):=
 (nx m).imp (λh=>⟨⟨e,h.1⟩,h.2⟩) (λh=>⟨⟨e,h.1⟩,h.2⟩)
def Pb(c:Bool)(e:E):(E/\c=true)\/(E/\c=false):=by cases c<;>simp[e]
@[simp] theorem acy(a:Int):xT a a=false:=by simp[xT]
def cC(n:σ->Option τ)(k:σ⊕ρ->Option τ):eK σ ρ->Option τ
 |.next s=>n s|.DN s=>k (.inl s)|.ret x=>k (.inr x)
def S2(o:Option (eK σ ρ))(n:σ->Option (σ⊕ρ))(k:σ⊕ρ->Option τ):cH (cH o (TY n)) k=cH o (cC (λs=>cH (n s) k) k):=by
 cases o with
 |none=>rfl|some c=>cases c<;>rfl
def Qb{n g:σ->Option τ}{h:ρ->Option τ}{s:σ}{w:τ}(q:cC n (gC g h) (.DN s)=some w):g s=some w:=q
variable{X:Cx} {S:List It} {fr:Fr} {H:dM} {a b:Code} {w:τ}
def Wj{d:κ}{e:κ->Option τ}(m:dO d e=some w)(g k2:Nat)(R:κ->Fr->dM->Prop)(i:∀(j:κ) (K:Fr->dM->Prop),(∀f h,R j f h->K f h)->e j=some w->Wf X g (.c a::.h K::S) fr H)
  (k:∀f h,R d f h->Wf X k2 (.c b::S) f h):Wf X 0 (.c (.seq a b)::S) fr H:=
 wj g k2 (R d) (λK l=>i d K l m) k
def Wr(e:E){l:List α}{F:Int->α->σ->Option (eK σ ρ)}{k:σ⊕ρ->Option τ}{d:σ}(m:fU (eQ l) (dO F λF=>cH (eg F l 0 d) k)=some w)(p:Nat)(I:Int->σ->Fr->dM->Prop)(u:I 0 d fr H)
  (v:∀s f h K,I (dT l) s f h->k (.inl s)=some w->Wf X p (.c a::.h K::S) f h)
  (hs:∀j x s f h K n c,I j s f h->((E/\xT j (dT l)=true)/\du l j=some x)->F j x s=some c->cC n k c=some w->(∀g f' o,I (ep .i64 j 1) g f' o->n g=some w->K f' o)->Wf X p (.c a::.h K::S) f h)
  {y:Nat}:Wf X (y+1) (.c (.loop a)::S) fr H:=by
 obtain⟨q,m⟩:=tZ m;have m:cH (eg F l 0 d) k=some w:=m;refine wl p (λn f h=>∃(i:Nat) (s:σ),I (i:Int) s f h/\i+n=l.length/\cH (eg F (l.drop i) i s) k=some w) l.length ⟨0,d,u,aae,by simpa using m⟩ ?_;rintro n f h ⟨i,s,t,hi,hm⟩ K z;rcases n with _|n
 ·have r:i=l.length:=Zb
  subst r;rw[Od (jM _),lz] at hm;exact v s f h K t hm
 ·obtain⟨x,A,hg⟩:=Vh (l:=l) (i:=i) Zb;rw[A,dq,S2] at hm;obtain⟨c,B,C⟩:=ez hm;refine hs i x s f h K _ c t ⟨⟨e,WY Zb⟩,hg⟩ B C λg f' o b hn=>z f' o n (XD _) ⟨i+1,g,?_,Zb,hn⟩;rw[Tx Zb q] at b;exact b
def Wn{F:σ->Option (eK σ ρ)}{k:σ⊕ρ->Option τ}{b:σ}(m:dO F (λF=>cH (ow F FU b) k)=some w)(i:Nat)(I:σ->Fr->dM->Prop)(j:I b fr H)
  (hs:∀s f h K n c,I s f h->F s=some c->cC n k c=some w->(∀d f' e,I d f' e->n d=some w->K f' e)->Wf X i (.c a::.h K::S) f h)
  {l:Nat}:Wf X (l+1) (.c (.loop a)::S) fr H:=by
 have m:cH (ow F FU b) k=some w:=m;refine wl i (λn f h=>∃(s:σ),I s f h/\cH (ow F n s) k=some w) FU ⟨b,j,m⟩ ?_;rintro n f h ⟨s,o,hm⟩ K p;rcases n with _|n
 ·cases hm
 ·rw[jL,S2] at hm;obtain⟨c,q,r⟩:=ez hm;exact hs s f h K _ c o q r λd f' e g hn=>p f' e n (XD _) ⟨d,g,hn⟩
variable{P:Program} {T:fx} {EE:List Nat} {ops:Array Oper} {q:Bool} {bs:List Bool} {rest:List Oper} {K:Fr->dM->Prop} {H':dM} {d:Option Nat} {as:List AV} {rr:AV} {g:FuncId}
def Cf(h:fg P T g as H rr H')(a:mZ P T EE ops rest K (fr.put d rr) H'):sM P T EE ops (.func (.func g) [] []) as d rest K fr H:=sM.fn h a
def Cs(h:fg P T g as H rr H')(a:jC P T EE ops q bs rest K (fr.put d rr) H')(b:q=true->H'=H:=by simp):vx P T EE ops q bs (.func (.func g) [] []) as d rest K fr H:=vx.fn h b a
def Ao{t e sz d:Nat}{s x:AV}{f:α->AV}{D:List Nat}{tag a:Tag}(l m:List α)(h:kG fr.CX fr.gN D tag l.length)(b:zb P t=some (e,sz))(hlen:eZ l m=true)
  (g:K {fr with env:=kQ fr.env d (.slice (.loc d (fr.gN d+1)) ((fK l m).map f)),CX:=kQ (Dy tag fr.CX) d (some (fK l m).length),gN:=kQ fr.gN d (fr.gN d+1)} H)
  (hs:s=.slice tag (l.map f):=by first|rfl|simp) (i:x=.slice a (m.map f):=by first|rfl|simp) (c:∀x,(f x).cells.length=sz:=by intro x;simp):Bf P t s x d K fr H:=
 Bf.own l m h b c hlen hs i g
def Ad{t e sz d:Nat}{s x:AV}{f:α->AV}{D:List Nat}{tag a:Tag}(l m:List α)(h:kG fr.CX fr.gN D tag l.length)(b:zb P t=some (e,sz))(hlen:eZ l m=true)
  (g:K {fr with env:=kQ fr.env d (.slice (.loc d (fr.gN d+1)) ((fK l m).map f)),CX:=kQ (Dy tag fr.CX) d (some (fK l m).length),gN:=kQ fr.gN d (fr.gN d+1)} H)
  (hs:s=.slice tag (l.map f):=by first|rfl|simp) (i:x=.slice a (m.map f):=by first|rfl|simp) (c:∀x,(f x).cells.length=sz:=by intro x;simp):Kc P t s x d K fr H:=
 Kc.own l m h b c hlen hs i g
end
attribute [simp] DU
end Go.tq
namespace Go.tq
open Go Go.eD
abbrev sI(n:Int):AV:=.sc (.int .i64 n)
abbrev sB(b:Bool):AV:=.sc (.bool b)
abbrev sL{α:Type}(f:α->AV)(l:List α):AV:=.slice .pw (l.map f)
abbrev sT{α:Type}(t:Tag)(f:α->AV)(l:List α):AV:=.slice t (l.map f)
abbrev Ow{α:Type}(f:Fr)(D:List Nat)(t:Tag)(l:List α):Prop:=kG f.CX f.gN D t l.length
section
variable{CX:Nat->Option Nat} {gN:Nat->Nat} {D D':List Nat} {n:Nat} {t:Tag}
def On(d:Nat)(h:d∈D:=by decide):kG (kQ CX d (some n)) (kQ gN d (gN d+1)) D (.loc d (gN d+1)) n:=kG.new h
end
section
variable{α β γ δ ε ζ η θ:Type}
abbrev t2(a:α->AV)(b:β->AV)(p:α×β):AV:=.tuple [a p.1,b p.2]
abbrev t3(a:α->AV)(b:β->AV)(c:γ->AV)(p:α×β×γ):AV:=.tuple [a p.1,b p.2.1,c p.2.2]
@[simp] theorem aeJ(a:α->AV)(b:β->AV)(x:α)(y:β):t2 a b (x,y)=.tuple [a x,b y]:=rfl
@[simp] theorem aeD(a:α->AV)(b:β->AV)(c:γ->AV)(x:α)(y:β)(z:γ):t3 a b c (x,y,z)=.tuple [a x,b y,c z]:=rfl
abbrev C0(P:Program)(g:FuncId)(f:Option θ)(z:θ->AV):Prop:=∀{T:fx} {H:dM} {r:θ},f=some r->fg P T g [] H (z r) H
abbrev C1(P:Program)(g:FuncId)(f:α->Option θ)(z:θ->AV)(a:α->AV):Prop:=∀{T:fx} {H:dM} {x:α} {r:θ},f x=some r->fg P T g [a x] H (z r) H
abbrev C2(P:Program)(g:FuncId)(f:α->β->Option θ)(z:θ->AV)(a:α->AV)(b:β->AV):Prop:=∀{T:fx} {H:dM} {x:α} {y:β} {r:θ},f x y=some r->fg P T g [a x,b y] H (z r) H
abbrev C3(P:Program)(g:FuncId)(f:α->β->γ->Option θ)(z:θ->AV)(a:α->AV)(b:β->AV)(c:γ->AV):Prop:=∀{T:fx} {H:dM} {x:α} {y:β} {v:γ} {r:θ},f x y v=some r->fg P T g [a x,b y,c v] H (z r) H
abbrev C4(P:Program)(g:FuncId)(f:α->β->γ->δ->Option θ)(z:θ->AV)(a:α->AV)(b:β->AV)(c:γ->AV)(d:δ->AV):Prop:=∀{T:fx} {H:dM} {x:α} {y:β} {v:γ} {w:δ} {r:θ},f x y v w=some r->fg P T g [a x,b y,c v,d w] H (z r) H
abbrev C5(P:Program)(g:FuncId)(f:α->β->γ->δ->ε->Option θ)(z:θ->AV)(a:α->AV)(b:β->AV)(c:γ->AV)(d:δ->AV)(e:ε->AV):Prop:=∀{T:fx} {H:dM} {x:α} {y:β} {v:γ} {w:δ} {u:ε} {r:θ},f x y v w u=some r->fg P T g [a x,b y,c v,d w,e u] H (z r) H
end
end Go.tq
namespace Go.tq
open Go Go.eD
abbrev nL:AV:=.slice .full []
abbrev bx(f:Fr)(b:Nat)(c:List AV):Prop:=f.1 b=AV.mD b (f.gen b) 0/\f.box b=some c
attribute [simp] bx
section
variable{E G:Prop} {ρ:Type} {r:ρ} {c:Bool} {a b:Option ρ}
def Iq(e:E)(m:(if c then a else b)=some r)(d:E/\c=true->a=some r->G)(f:E/\c=false->b=some r->G):G:=
 (Io e m).elim (λh=>d h.1 h.2) (λh=>f h.1 h.2)
def Ir(e:E)(m:(if c then a else b)=some r)(d:E/\c=false->b=some r->G)(f:E/\c=true->a=some r->G):G:=Iq e m f d
def Il(e:E)(m:(if c then a else b)=some r)(d:E/\c=false->b=some r->G)(f:E/\c=true->a=some r->G:=by intro e m;cases m;(try cases z);(try cases z);simp[e];done):G:=Iq e m f d
def Im(e:E)(m:(if c then a else b)=some r)(d:E/\c=true->a=some r->G)(f:E/\c=false->b=some r->G:=by intro e m;cases m;(try cases z);(try cases z);simp[e];done):G:=Iq e m d f
def au(h:G:=by cases m;(try cases z);(try cases z);simp[e];done):G:=h
def aj(h:G:=by simp[e];exact g _ _ aav):G:=h
def YU(h:G:=by simp[e];exact g _ _ ⟨aav,m⟩):G:=h
def nP(h:G:=by simp[e];exact g _ _ ⟨_,aav,m⟩):G:=h
def ak2(h:G:=by simp[e];exact g _ _ ⟨_,_,aav,m⟩):G:=h
def ak3(h:G:=by simp[e];exact g _ _ ⟨_,_,_,aav,m⟩):G:=h
def al(h:G:=by simp[e];cases m;exact p _ _ _ aav z):G:=h
end
section
variable{P:Program} {T:fx} {EE:List Nat} {ops:Array Oper} {q:Bool} {bs:List Bool} {rest:List Oper} {K:Fr->dM->Prop} {H:dM} {d:Option Nat} {as:List AV} {g:FuncId} {fr:Fr} {ρ α β γ δ ε:Type} {r:ρ}
def gj{o:Option α}{F:α->Option ρ}{z:α->AV}{W:α->dM}(m:cH o F=some r)(h:∀{y},o=some y->fg P T g as H (z y) (W y))(a:∀y,F y=some r->mZ P T EE ops rest K (fr.put d (z y)) (W y)):sM P T EE ops (.func (.func g) [] []) as d rest K fr H:=by
 obtain⟨y,b,c⟩:=ez m;exact Cf (h b) (a _ c)
def mM{o:Option (α×β)}{F:α->β->Option ρ}{z:α->β->AV}{W:α->β->dM}(m:c0 o F=some r)(h:∀{y a},o=some (y,a)->fg P T g as H (z y a) (W y a))(b:∀y a,F y a=some r->mZ P T EE ops rest K (fr.put d (z y a)) (W y a)):sM P T EE ops (.func (.func g) [] []) as d rest K fr H:=by
 obtain⟨y,a,c,e⟩:=mq m;exact Cf (h c) (b _ _ e)
def QA{o:Option (α×β×γ)}{F:α->β->γ->Option ρ}{z:α->β->γ->AV}{W:α->β->γ->dM}(m:iG o F=some r)(h:∀{y a u},o=some (y,a,u)->fg P T g as H (z y a u) (W y a u))(b:∀y a u,F y a u=some r->mZ P T EE ops rest K (fr.put d (z y a u)) (W y a u)):sM P T EE ops (.func (.func g) [] []) as d rest K fr H:=by
 obtain⟨y,a,u,c,e⟩:=Eh m;exact Cf (h c) (b _ _ _ e)
def fQ{o:Option α}{F:α->Option ρ}{z:α->AV}{W:α->dM}(m:cH o F=some r)(h:∀{y},o=some y->fg P T g as H (z y) (W y))(a:∀y,F y=some r->jC P T EE ops q bs rest K (fr.put d (z y)) (W y))(b:∀y,q=true->W y=H:=by simp):vx P T EE ops q bs (.func (.func g) [] []) as d rest K fr H:=by
 obtain⟨y,c,e⟩:=ez m;exact Cs (h c) (a _ e) (b _)
def sa{o:Option (α×β)}{F:α->β->Option ρ}{z:α->β->AV}{W:α->β->dM}(m:c0 o F=some r)(h:∀{y a},o=some (y,a)->fg P T g as H (z y a) (W y a))(b:∀y a,F y a=some r->jC P T EE ops q bs rest K (fr.put d (z y a)) (W y a))(c:∀y a,q=true->W y a=H:=by simp):vx P T EE ops q bs (.func (.func g) [] []) as d rest K fr H:=by
 obtain⟨y,a,e,f⟩:=mq m;exact Cs (h e) (b _ _ f) (c _ _)
def Cs3{o:Option (α×β×γ)}{F:α->β->γ->Option ρ}{z:α->β->γ->AV}{W:α->β->γ->dM}(m:iG o F=some r)(h:∀{y a u},o=some (y,a,u)->fg P T g as H (z y a u) (W y a u))(b:∀y a u,F y a u=some r->jC P T EE ops q bs rest K (fr.put d (z y a u)) (W y a u))(c:∀y a u,q=true->W y a u=H:=by simp):vx P T EE ops q bs (.func (.func g) [] []) as d rest K fr H:=by
 obtain⟨y,a,u,e,f⟩:=Eh m;exact Cs (h e) (b _ _ _ f) (c _ _ _)
end
section
variable{ρ α σ τ κ:Type} {E:Prop} {X:Cx} {S:List It} {fr:Fr} {H:dM} {a b:Code} {w:τ}
def QY(d k2:Nat)(R:Fr->dM->Prop)(e:∀fr H,R fr H->Wf X k2 (.c b::S) fr H)(f:∀K:Fr->dM->Prop,(∀fr H,R fr H->K fr H)->Wf X d (.c a::.h K::S) fr H):Wf X 0 (.c (.seq a b)::S) fr H:=wj d k2 R f e
def Gc{d:κ}{e:κ->Option τ}(m:dO d e=some w)(g k2:Nat)(R:κ->Fr->dM->Prop)(i:∀f h,R d f h->Wf X k2 (.c b::S) f h)(k:∀(j:κ) (K:Fr->dM->Prop),(∀f h,R j f h->K f h)->e j=some w->Wf X g (.c a::.h K::S) fr H):Wf X 0 (.c (.seq a b)::S) fr H:=Wj m g k2 R k i
def F7(e:E){l:List α}{F:Int->α->σ->Option (eK σ ρ)}{k:σ⊕ρ->Option τ}{d:σ}(m:fU (eQ l) (dO F λF=>cH (eg F l 0 d) k)=some w)(b:Nat)(I:Int->σ->Fr->dM->Prop)(o:I 0 d fr H)
 (hs:∀j x s f h K n c,I j s f h->((E/\xT j (dT l)=true)/\du l j=some x)->F j x s=some c->cC n k c=some w->(∀g f' i,I (ep .i64 j 1) g f' i->n g=some w->K f' i)->Wf X b (.c a::.h K::S) f h)
 (p:∀s f h K,I (dT l) s f h->k (.inl s)=some w->Wf X b (.c a::.h K::S) f h)
 {q:Nat}:Wf X (q+1) (.c (.loop a)::S) fr H:=Wr e m b I o p hs
end
section
variable{P:Program} {fn:Func} {g:FuncId} {c:Code} {α β γ δ ε θ:Type} {z:θ->AV} {a:α->AV} {b:β->AV} {y:γ->AV} {d:δ->AV} {e:ε->AV}
def u0[i:Nonempty (P.follows .mixedOrders=true)](k:Nat)(d:P.funcs[g]?=some fn){f:Option θ}(h:∀T H r,f=some r->True->Wf {P:=P,T:=T,n:=fn.ntmps,E:=[],D:=[],rs:=fn.results.toList,Post:=λv K=>v=z r/\K=H} k [.c c] (Uc []) H)
  (e:fn.body=some c:=by rfl) (a:qx P g=true:=by decide+kernel) (b:Dm fn.ntmps [] [] c=true:=by decide+kernel):C0 P g f z:=
 λ{T H r} j=>i.elim λhm=>wi hm d [] [] k (h T H r j trivial) e a (aa4 _) b
def u1[i:Nonempty (P.follows .mixedOrders=true)](k:Nat)(e:P.funcs[g]?=some fn){f:α->Option θ}(h:∀T H x r,f x=some r->True->Wf {P:=P,T:=T,n:=fn.ntmps,E:=[],D:=[],rs:=fn.results.toList,Post:=λv K=>v=z r/\K=H} k [.c c] (Uc [a x]) H)
  (j:fn.body=some c:=by rfl) (b:qx P g=true:=by decide+kernel) (hlen:1<=fn.ntmps:=by exact Kz rfl) (d:Dm fn.ntmps [] [] c=true:=by decide+kernel):C1 P g f z a:=
 λ{T H x r} l=>i.elim λhm=>wi hm e [] [] k (h T H x r l trivial) j b hlen d
def u2[i:Nonempty (P.follows .mixedOrders=true)](k:Nat)(l:P.funcs[g]?=some fn){f:α->β->Option θ}(h:∀T H x j r,f x j=some r->True->Wf {P:=P,T:=T,n:=fn.ntmps,E:=[],D:=[],rs:=fn.results.toList,Post:=λv K=>v=z r/\K=H} k [.c c] (Uc [a x,b j]) H)
  (m:fn.body=some c:=by rfl) (d:qx P g=true:=by decide+kernel) (hlen:2<=fn.ntmps:=by exact Kz rfl) (e:Dm fn.ntmps [] [] c=true:=by decide+kernel):C2 P g f z a b:=
 λ{T H x j r} o=>i.elim λhm=>wi hm l [] [] k (h T H x j r o trivial) m d hlen e
def u3[i:Nonempty (P.follows .mixedOrders=true)](k:Nat)(l:P.funcs[g]?=some fn){f:α->β->γ->Option θ}(h:∀T H x j v r,f x j v=some r->True->Wf {P:=P,T:=T,n:=fn.ntmps,E:=[],D:=[],rs:=fn.results.toList,Post:=λv K=>v=z r/\K=H} k [.c c] (Uc [a x,b j,y v]) H)
  (m:fn.body=some c:=by rfl) (d:qx P g=true:=by decide+kernel) (hlen:3<=fn.ntmps:=by exact Kz rfl) (e:Dm fn.ntmps [] [] c=true:=by decide+kernel):C3 P g f z a b y:=
 λ{T H x j v r} o=>i.elim λhm=>wi hm l [] [] k (h T H x j v r o trivial) m d hlen e
def u4[i:Nonempty (P.follows .mixedOrders=true)](k:Nat)(m:P.funcs[g]?=some fn){f:α->β->γ->δ->Option θ}(h:∀T H x l v w r,f x l v w=some r->True->Wf {P:=P,T:=T,n:=fn.ntmps,E:=[],D:=[],rs:=fn.results.toList,Post:=λv K=>v=z r/\K=H} k [.c c] (Uc [a x,b l,y v,d w]) H)
  (o:fn.body=some c:=by rfl) (e:qx P g=true:=by decide+kernel) (hlen:4<=fn.ntmps:=by exact Kz rfl) (j:Dm fn.ntmps [] [] c=true:=by decide+kernel):C4 P g f z a b y d:=
 λ{T H x l v w r} p=>i.elim λhm=>wi hm m [] [] k (h T H x l v w r p trivial) o e hlen j
def u5[i:Nonempty (P.follows .mixedOrders=true)](k:Nat)(o:P.funcs[g]?=some fn){f:α->β->γ->δ->ε->Option θ}(h:∀T H x m v w u r,f x m v w u=some r->True->Wf {P:=P,T:=T,n:=fn.ntmps,E:=[],D:=[],rs:=fn.results.toList,Post:=λv K=>v=z r/\K=H} k [.c c] (Uc [a x,b m,y v,d w,e u]) H)
  (p:fn.body=some c:=by rfl) (j:qx P g=true:=by decide+kernel) (hlen:5<=fn.ntmps:=by exact Kz rfl) (l:Dm fn.ntmps [] [] c=true:=by decide+kernel):C5 P g f z a b y d e:=
 λ{T H x m v w u r} q=>i.elim λhm=>wi hm o [] [] k (h T H x m v w u r q trivial) p j hlen l
def v0[i:Nonempty (P.follows .mixedOrders=true)](d:P.funcs[g]?=some fn){f:Option θ}(h:∀T H r,f=some r->True->Wf {P:=P,T:=T,n:=fn.ntmps,E:=[],D:=[],rs:=fn.results.toList,Post:=λv K=>v=z r/\K=H} 999 [.c c] (Uc []) H)
  (e:fn.body=some c:=by rfl) (a:qx P g=true:=by decide+kernel) (b:Dm fn.ntmps [] [] c=true:=by decide+kernel):C0 P g f z:=
 u0 999 d h e a b
def v1[i:Nonempty (P.follows .mixedOrders=true)](e:P.funcs[g]?=some fn){f:α->Option θ}(h:∀T H x r,f x=some r->True->Wf {P:=P,T:=T,n:=fn.ntmps,E:=[],D:=[],rs:=fn.results.toList,Post:=λv K=>v=z r/\K=H} 999 [.c c] (Uc [a x]) H)
  (j:fn.body=some c:=by rfl) (b:qx P g=true:=by decide+kernel) (hlen:1<=fn.ntmps:=by exact Kz rfl) (d:Dm fn.ntmps [] [] c=true:=by decide+kernel):C1 P g f z a:=
 u1 999 e h j b hlen d
def v2[i:Nonempty (P.follows .mixedOrders=true)](k:P.funcs[g]?=some fn){f:α->β->Option θ}(h:∀T H x j r,f x j=some r->True->Wf {P:=P,T:=T,n:=fn.ntmps,E:=[],D:=[],rs:=fn.results.toList,Post:=λv K=>v=z r/\K=H} 999 [.c c] (Uc [a x,b j]) H)
  (l:fn.body=some c:=by rfl) (d:qx P g=true:=by decide+kernel) (hlen:2<=fn.ntmps:=by exact Kz rfl) (e:Dm fn.ntmps [] [] c=true:=by decide+kernel):C2 P g f z a b:=
 u2 999 k h l d hlen e
def v3[i:Nonempty (P.follows .mixedOrders=true)](k:P.funcs[g]?=some fn){f:α->β->γ->Option θ}(h:∀T H x j v r,f x j v=some r->True->Wf {P:=P,T:=T,n:=fn.ntmps,E:=[],D:=[],rs:=fn.results.toList,Post:=λv K=>v=z r/\K=H} 999 [.c c] (Uc [a x,b j,y v]) H)
  (l:fn.body=some c:=by rfl) (d:qx P g=true:=by decide+kernel) (hlen:3<=fn.ntmps:=by exact Kz rfl) (e:Dm fn.ntmps [] [] c=true:=by decide+kernel):C3 P g f z a b y:=
 u3 999 k h l d hlen e
def v4[i:Nonempty (P.follows .mixedOrders=true)](l:P.funcs[g]?=some fn){f:α->β->γ->δ->Option θ}(h:∀T H x k v w r,f x k v w=some r->True->Wf {P:=P,T:=T,n:=fn.ntmps,E:=[],D:=[],rs:=fn.results.toList,Post:=λv K=>v=z r/\K=H} 999 [.c c] (Uc [a x,b k,y v,d w]) H)
  (m:fn.body=some c:=by rfl) (e:qx P g=true:=by decide+kernel) (hlen:4<=fn.ntmps:=by exact Kz rfl) (j:Dm fn.ntmps [] [] c=true:=by decide+kernel):C4 P g f z a b y d:=
 u4 999 l h m e hlen j
def v5[i:Nonempty (P.follows .mixedOrders=true)](m:P.funcs[g]?=some fn){f:α->β->γ->δ->ε->Option θ}(h:∀T H x l v w u r,f x l v w u=some r->True->Wf {P:=P,T:=T,n:=fn.ntmps,E:=[],D:=[],rs:=fn.results.toList,Post:=λv K=>v=z r/\K=H} 999 [.c c] (Uc [a x,b l,y v,d w,e u]) H)
  (o:fn.body=some c:=by rfl) (j:qx P g=true:=by decide+kernel) (hlen:5<=fn.ntmps:=by exact Kz rfl) (k:Dm fn.ntmps [] [] c=true:=by decide+kernel):C5 P g f z a b y d e:=
 u5 999 m h o j hlen k
def i1{M:Nat->α->Option θ}(h:∀n,C1 P g (M n) z a->C1 P g (M (n+1)) z a)(c:∀x,M 0 x=none:=by intros;rfl){n:Nat}:C1 P g (M n) z a:=by
 induction n with
 |zero=>intro T H x r b;rw[c] at b;cases b
 |succ n d=>exact h n d
def i2{M:Nat->α->β->Option θ}(h:∀n,C2 P g (M n) z a b->C2 P g (M (n+1)) z a b)(e:∀x c,M 0 x c=none:=by intros;rfl){n:Nat}:C2 P g (M n) z a b:=by
 induction n with
 |zero=>intro T H x c r d;rw[e] at d;cases d
 |succ n f=>exact h n f
def i3{M:Nat->α->β->γ->Option θ}(h:∀n,C3 P g (M n) z a b y->C3 P g (M (n+1)) z a b y)(e:∀x c v,M 0 x c v=none:=by intros;rfl){n:Nat}:C3 P g (M n) z a b y:=by
 induction n with
 |zero=>intro T H x c v r d;rw[e] at d;cases d
 |succ n f=>exact h n f
def i4{M:Nat->α->β->γ->δ->Option θ}(h:∀n,C4 P g (M n) z a b y d->C4 P g (M (n+1)) z a b y d)(f:∀x c v w,M 0 x c v w=none:=by intros;rfl){n:Nat}:C4 P g (M n) z a b y d:=by
 induction n with
 |zero=>intro T H x c v w r e;rw[f] at e;cases e
 |succ n i=>exact h n i
def i5{M:Nat->α->β->γ->δ->ε->Option θ}(h:∀n,C5 P g (M n) z a b y d e->C5 P g (M (n+1)) z a b y d e)(i:∀x c v w u,M 0 x c v w u=none:=by intros;rfl){n:Nat}:C5 P g (M n) z a b y d e:=by
 induction n with
 |zero=>intro T H x c v w u r f;rw[i] at f;cases f
 |succ n j=>exact h n j
end
end Go.tq
