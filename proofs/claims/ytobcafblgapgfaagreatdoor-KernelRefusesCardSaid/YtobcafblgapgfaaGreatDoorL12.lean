/- Part of the proof of KernelRefuses: layer. -/
import Derived.Test.YtobcafblgapgfaaGreatDoorL11
set_option linter.all false
namespace Go.nd
open Go Go.gV
inductive It where
 |c (x:Code)|b (id:Nat)|h (K:Fr->eB->Prop)
def R6:List (Nat×Bool×List Bool)->Nat->Bool×List Bool
 |[],_=>(false,[])|x::l,i=>if i=x.1 then x.2 else R6 l i
structure Cx where
 P:Program
 T:fh
 n:Nat
 E:List Nat
 D:List (Nat×Bool×List Bool)
 rs:List ResultVar
 Post:AV->eB->Prop
def Eu(n:Nat)(E:List Nat)(D:List (Nat×Bool×List Bool)):Code->Bool
 |.seq a b=>Eu n E D a&&Eu n E D b|.cond c a b=>j_ c&&(Eu n E D a&&Eu n E D b)|.block _ a=>Eu n E D a|.loop a=>Eu n E D a|.scope a=>Eu n E D a|.region _ ops false=>yo n ops|.region id ops true=>yo n ops&&xI E ops (λi=>(R6 D id).2.getD i true)|_=>true
def SQ(X:Cx):List It->Exit->Fr->eB->Prop
 |[],e,fr,H=>vR X.P X.rs X.Post e fr H|i::S,e,fr,H=>match i,e with
  |.c x,.normal=>X.P.follows .mixedOrders=true->Eu X.n X.E X.D x=true->gJ X.P X.T X.n x (SQ X S) fr H|.b id,.exit j=>if j=id then SQ X S .normal fr H else SQ X S (.exit j) fr H|.h K,.normal=>K fr H|_,e=>SQ X S e fr H
def D2(id:Nat):List It->Option (List It)
 |[]=>none|.b j::S=>if j=id then some S else D2 id S|_::S=>D2 id S
def Pz(A B:Fr->eB->Prop)(v:AV)(fr:Fr)(H:eB):Prop:=Kx v (A fr H) (B fr H)
def Wf(X:Cx):Nat->List It->Fr->eB->Prop
 |0,S,fr,H=>SQ X S .normal fr H|_+1,[],fr,H=>vR X.P X.rs X.Post .normal fr H|k+1,.b _::S,fr,H=>Wf X k S fr H|_+1,.h K::_,fr,H=>K fr H|k+1,.c x::S,fr,H=>match x with
  |.seq a b=>Wf X k (.c a::.c b::S) fr H|.skip=>Wf X k S fr H|.label _=>Wf X k S fr H|.scope a=>Wf X k (.c a::S) fr H|.block id a=>Wf X k (.c a::.b id::S) fr H|.exit id=>match D2 id S with|some d=>Wf X k d fr H|none=>False
  |.ret=>vR X.P X.rs X.Post .ret fr H|.cond c a b=>Pz (Wf X k (.c a::S)) (Wf X k (.c b::S)) (ev X.T fr c) fr H|.region _ ops false=>ju X.P X.T X.E ops ops.toList (Wf X k S) fr H|.region id ops true=>gR X.P X.T X.E ops (R6 X.D id).1 (R6 X.D id).2 ops.toList (Wf X k S) fr H|x=>SQ X (.c x::S) .normal fr H
def SM(X:Cx):∀(S:List It) (fr:Fr) (H:eB),SQ X S .ret fr H=vR X.P X.rs X.Post .ret fr H
 |[],_,_=>rfl|i::S,fr,H=>by
  have:=SM X S fr H;cases i<;>exact this
def PJ(X:Cx)(l:Nat):∀(S:List It) (fr:Fr) (H:eB),SQ X S (.goto l) fr H=False
 |[],_,_=>rfl|i::S,fr,H=>by
  have:=PJ X l S fr H;cases i<;>exact this
def Kf(X:Cx)(id:Nat):∀(S a:List It) (fr:Fr) (H:eB),D2 id S=some a->SQ X S (.exit id) fr H=SQ X a .normal fr H
 |[],_,_,_,h=>by cases h
 |i::S,a,fr,H,h=>by
  cases i with
  |b j=>
   simp only[D2] at h;show(if id=j then SQ X S .normal fr H else SQ X S (.exit id) fr H)=_
   split at h
   ·rename_i e;rw[ee e.symm,iD h]
   ·rename_i e;rw[ea (λd=>e d.symm)];exact Kf X id S a fr H h
  |c x=>exact Kf X id S a fr H h|h K=>exact Kf X id S a fr H h
def aas(K:Fr->eB->Prop):Exit->Fr->eB->Prop
 |.normal,fr,H=>K fr H|_,_,_=>False
def mB(X:Cx):∀(k:Nat) (S:List It) (fr:Fr) (H:eB),Wf X k S fr H->SQ X S .normal fr H
 |0,_,_,_,h=>h|_+1,[],_,_,h=>h|k+1,.b _::S,fr,H,h=>mB X k S fr H h|_+1,.h _::_,_,_,h=>h|k+1,.c x::S,fr,H,h=>by
  have up:∀{c:Code} {S:List It} {fr:Fr} {H:eB},gJ X.P X.T X.n c (aas (Wf X k S)) fr H->gJ X.P X.T X.n c (SQ X S) fr H:=λh=>h.mono λe fr' H' g=>by
   cases e<;>first|exact mB X k _ _ _ g|exact g.elim
  intro hm f;cases x with
  |seq a b=>
   have i:Wf X k (.c a::.c b::S) fr H:=h;have j:=mB X k _ _ _ i;simp only[Eu,gO] at f;refine gJ.seq ((j hm f.1).mono λe fr' H' g=>?_)
   cases e<;>first|exact g hm f.2|exact g
  |skip=>exact gJ.skip (mB X k S fr H h)|label l=>exact gJ.label (mB X k S fr H h)|scope a=>
   have j:=mB X k (.c a::S) fr H h;refine gJ.scope ((j hm f).mono λe fr' H' g=>?_)
   cases e<;>first|exact⟨trivial,g⟩|(rw[PJ] at g;exact g.elim)
  |block id a=>
   have j:=mB X k (.c a::.b id::S) fr H h;refine gJ.block ((j hm f).mono λe fr' H' g=>?_);cases e<;>exact g
  |exit id=>
   have i:(match D2 id S with|some m=>Wf X k m fr H|none=>False):=h
   split at i
   ·rename_i m hs;refine gJ.exit ?_;rw[Kf X id S m fr H hs];exact mB X k m fr H i
   ·exact i.elim
  |ret=>
   refine gJ.ret ?_;rw[SM];exact h
  |cond c a b=>
   simp only[Eu,gO] at f;have i:Kx (ev X.T fr c) (Wf X k (.c a::S) fr H) (Wf X k (.c b::S) fr H):=h;refine gJ.tS (λA B o p=>?_) f.1;generalize ev X.T fr c=v at i;cases v with
   |sc w=>
    cases w with
    |bool t=>
     cases t with
     |true=>exact o _ _ (mB X k _ _ _ i hm f.2.1)|false=>exact p _ _ (mB X k _ _ _ i hm f.2.2)
    |_=>exact i.elim
   |_=>exact i.elim
  |region id ops d=>
   cases d with
   |false=>exact up (gJ.region X.E f h)|true=>
    simp only[Eu,gO] at f;exact up (gJ.Vm X.E (R6 X.D id).1 (R6 X.D id).2 hm f.1 f.2 h)
  |_=>exact h hm f
section
variable{X:Cx} {k:Nat} {S:List It} {fr:Fr} {H:eB} {a b:Code} {c:Operand} {id:Nat} {ops:Array Oper} {A B:Fr->eB->Prop}
@[simp] theorem abR:Wf X (k+1) [] fr H=vR X.P X.rs X.Post .normal fr H:=rfl
@[simp] theorem acH:Wf X (k+1) (.b id::S) fr H=Wf X k S fr H:=rfl
@[simp] theorem acp{K:Fr->eB->Prop}:Wf X (k+1) (.h K::S) fr H=K fr H:=rfl
@[simp] theorem ab4:Wf X (k+1) (.c (.seq a b)::S) fr H=Wf X k (.c a::.c b::S) fr H:=rfl
@[simp] theorem aa9:Wf X (k+1) (.c .skip::S) fr H=Wf X k S fr H:=rfl
@[simp] theorem Z6:Wf X (k+1) (.c (.block id a)::S) fr H=Wf X k (.c a::.b id::S) fr H:=rfl
@[simp] theorem abq:Wf X (k+1) (.c (.exit id)::S) fr H=match D2 id S with|some a=>Wf X k a fr H|none=>False:=rfl
@[simp] theorem abG:Wf X (k+1) (.c .ret::S) fr H=vR X.P X.rs X.Post .ret fr H:=rfl
@[simp] theorem abn:Wf X (k+1) (.c (.cond c a b)::S) fr H=Pz (Wf X k (.c a::S)) (Wf X k (.c b::S)) (ev X.T fr c) fr H:=rfl
@[simp] theorem abr:Wf X (k+1) (.c (.region id ops false)::S) fr H=ju X.P X.T X.E ops ops.toList (Wf X k S) fr H:=rfl
@[simp] theorem abm:Wf X (k+1) (.c (.region id ops true)::S) fr H=gR X.P X.T X.E ops (R6 X.D id).1 (R6 X.D id).2 ops.toList (Wf X k S) fr H:=rfl
@[simp] theorem W3:Pz A B (.sc (.bool true)) fr H=A fr H:=rfl
@[simp] theorem Wh:Pz A B (.sc (.bool false)) fr H=B fr H:=rfl
@[simp] theorem ab3:D2 id (.c a::S)=D2 id S:=rfl
@[simp] theorem abD{K:Fr->eB->Prop}:D2 id (.h K::S)=D2 id S:=rfl
@[simp] theorem abC{j:Nat}:D2 id (.b j::S)=if j=id then some S else D2 id S:=rfl
@[simp] theorem abj{i:Nat}:R6 [] i=(false,[]):=rfl
@[simp] theorem aaZ{x:Nat×Bool×List Bool}{l:List (Nat×Bool×List Bool)}{i:Nat}:R6 (x::l) i=if i=x.1 then x.2 else R6 l i:=rfl
@[simp] theorem T3{P:Program}{T:fh}{E:List Nat}{q:Bool}{o:Oper}{rest:List Oper}{K:Fr->eB->Prop}:gR P T E ops q [] (o::rest) K fr H=gR P T E ops q [true] (o::rest) K fr H:=rfl
def wg(k:Nat)(h:Wf X k S fr H):Wf X 0 S fr H:=mB X k S fr H h
def wj(f k2:Nat)(R:Fr->eB->Prop)(i:∀K:Fr->eB->Prop,(∀fr H,R fr H->K fr H)->Wf X f (.c a::.h K::S) fr H)(j:∀fr H,R fr H->Wf X k2 (.c b::S) fr H):Wf X 0 (.c (.seq a b)::S) fr H:=by
 intro hm d;simp only[Eu,gO] at d;have k:=mB X f _ _ _ (i (SQ X (.c b::S) .normal) λfr H h=>mB X k2 _ _ _ (j fr H h));refine gJ.seq ((k hm d.1).mono λe fr' H' g=>?_)
 cases e<;>first|exact g hm d.2|exact g
def wl(d:Nat)(I:Nat->Fr->eB->Prop)(m:Nat)(g:I m fr H)(i:∀m fr H,I m fr H->∀K:Fr->eB->Prop,(∀fr' H' f,f<m->I f fr' H'->K fr' H')->Wf X d (.c a::.h K::S) fr H):Wf X (k+1) (.c (.loop a)::S) fr H:=by
 intro hm b;refine gJ.Nb I m g λm fr H j K l=>?_;refine((mB X d _ _ _ (i m fr H j K l)) hm b).mono λe fr' H' n=>?_;cases e<;>exact n
end
def wi{P:Program}{T:fh}{H:eB}{f:FuncId}{args:List AV}{Post:AV->eB->Prop}{fn:Func}{c:Code}(hm:P.follows .mixedOrders=true)(d:P.funcs[f]?=some fn)(E:List Nat)(D:List (Nat×Bool×List Bool))(k:Nat)
  (h:Wf {P:=P,T:=T,n:=fn.ntmps,E:=E,D:=D,rs:=fn.results.toList,Post:=Post} k [.c c] (fr0 args) H)
  (e:fn.body=some c:=by rfl) (a:su P f=true:=by decide+kernel) (hlen:args.length<=fn.ntmps:=by exact Sf rfl) (b:Eu fn.ntmps E D c=true:=by decide+kernel):fQ P T f args H Post:=
 fQ.intro d e a hlen (((mB _ _ _ _ _ h) hm b).mono λ_ _ _ g=>g)
end Go.nd
namespace Go.nd
open Go Go.gV
section
variable{α β γ δ ε ζ ρ σ τ κ:Type} {E A:Prop} {r:ρ} {c:Bool}
def Aj(e:E)(a:A):E/\A:=⟨e,a⟩
def ep(e:E){o:Option α}{f:α->Option ρ}(m:cv o f=some r):∃a,(E/\o=some a)/\f a=some r:=by
 obtain⟨a,b,c⟩:=eO m;exact⟨a,⟨e,b⟩,c⟩
def gr(e:E){o:Option (α×β)}{f:α->β->Option ρ}(m:ej o f=some r):∃a b,(E/\o=some (a,b))/\f a b=some r:=by
 obtain⟨a,b,c,d⟩:=jl m;exact⟨a,b,⟨e,c⟩,d⟩
def Le(e:E){o:Option (α×β×γ)}{f:α->β->γ->Option ρ}(m:iL o f=some r):∃a b c,(E/\o=some (a,b,c))/\f a b c=some r:=by
 obtain⟨a,b,c,d,g⟩:=Bn m;exact⟨a,b,c,⟨e,d⟩,g⟩
def Bo4(e:E){o:Option (α×β×γ×δ)}{f:α->β->γ->δ->Option ρ}(m:Pc o f=some r):∃a b c d,(E/\o=some (a,b,c,d))/\f a b c d=some r:=by
 obtain⟨a,b,c,d,g,h⟩:=N6 m;exact⟨a,b,c,d,⟨e,g⟩,h⟩
def Ck(e:E){o:Option ρ}(m:hO c o=some r):(E/\c=true)/\o=some r:=⟨⟨e,(m9 m).1⟩,(m9 m).2⟩
def Io(e:E){a b:Option ρ}(m:(if c=true then a else b)=some r):((E/\c=true)/\a=some r)\/((E/\c=false)/\b=some r):=
 (jr m).imp (λh=>⟨⟨e,h.1⟩,h.2⟩) (λh=>⟨⟨e,h.1⟩,h.2⟩)
def Pb(c:Bool)(e:E):(E/\c=true)\/(E/\c=false):=by cases c<;>simp[e]
@[simp] theorem ZV(a:Int):uX a a=false:=by simp[uX]
def cC(n:σ->Option τ)(k:σ⊕ρ->Option τ):gw σ ρ->Option τ
 |.next s=>n s|.Ki s=>k (.inl s)|.ret x=>k (.inr x)
def Ml(o:Option (gw σ ρ))(n:σ->Option (σ⊕ρ))(k:σ⊕ρ->Option τ):cv (cv o (Lx n)) k=cv o (cC (λs=>cv (n s) k) k):=by
 cases o with
 |none=>rfl|some c=>cases c<;>rfl
def Qb{n g:σ->Option τ}{h:ρ->Option τ}{s:σ}{w:τ}(q:cC n (gm g h) (.Ki s)=some w):g s=some w:=q
variable{X:Cx} {S:List It} {fr:Fr} {H:eB} {a b:Code} {w:τ}
def Wj{d:κ}{e:κ->Option τ}(m:eL d e=some w)(g k2:Nat)(R:κ->Fr->eB->Prop)(i:∀(j:κ) (K:Fr->eB->Prop),(∀f h,R j f h->K f h)->e j=some w->Wf X g (.c a::.h K::S) fr H)
  (k:∀f h,R d f h->Wf X k2 (.c b::S) f h):Wf X 0 (.c (.seq a b)::S) fr H:=
 wj g k2 (R d) (λK l=>i d K l m) k
def Wr(e:E){l:List α}{F:Int->α->σ->Option (gw σ ρ)}{k:σ⊕ρ->Option τ}{d:σ}(m:hO (fm l) (eL F λF=>cv (fo F l 0 d) k)=some w)(q:Nat)(I:Int->σ->Fr->eB->Prop)(v:I 0 d fr H)
  (y:∀s f h K,I (eN l) s f h->k (.inl s)=some w->Wf X q (.c a::.h K::S) f h)
  (hs:∀j x s f h K n c,I j s f h->((E/\uX j (eN l)=true)/\eI l j=some x)->F j x s=some c->cC n k c=some w->(∀g o p,I (fk .i64 j 1) g o p->n g=some w->K o p)->Wf X q (.c a::.h K::S) f h)
  {z:Nat}:Wf X (z+1) (.c (.loop a)::S) fr H:=by
 obtain⟨r,m⟩:=m9 m;have m:cv (fo F l 0 d) k=some w:=m;refine wl q (λn f h=>∃(i:Nat) (s:σ),I (i:Int) s f h/\i+n=l.length/\cv (fo F (l.drop i) i s) k=some w) l.length ⟨0,d,v,by simp,by simpa using m⟩ ?_;rintro n f h ⟨i,s,u,hi,hm⟩ K A;rcases n with _|n
 ·have t:i=l.length:=by omega
  subst t;rw[Iz (jw _),pw] at hm;exact y s f h K u hm
 ·obtain⟨x,B,hg⟩:=PL (l:=l) (i:=i) (by omega);rw[B,fl,Ml] at hm;obtain⟨c,C,D⟩:=eO hm;refine hs i x s f h K _ c u ⟨⟨e,To (by omega)⟩,hg⟩ C D λg o p b hn=>A o p n (ZM _) ⟨i+1,g,?_,by omega,hn⟩;rw[MN (by omega) r] at b;exact b
def Wn{F:σ->Option (gw σ ρ)}{k:σ⊕ρ->Option τ}{b:σ}(m:eL F (λF=>cv (qR F FU b) k)=some w)(j:Nat)(I:σ->Fr->eB->Prop)(l:I b fr H)
  (hs:∀s f h K n c,I s f h->F s=some c->cC n k c=some w->(∀d e g,I d e g->n d=some w->K e g)->Wf X j (.c a::.h K::S) f h)
  {o:Nat}:Wf X (o+1) (.c (.loop a)::S) fr H:=by
 have m:cv (qR F FU b) k=some w:=m;refine wl j (λn f h=>∃(s:σ),I s f h/\cv (qR F n s) k=some w) FU ⟨b,l,m⟩ ?_;rintro n f h ⟨s,p,hm⟩ K q;rcases n with _|n
 ·cases hm
 ·rw[oa,Ml] at hm;obtain⟨c,r,t⟩:=eO hm;exact hs s f h K _ c p r t λd e g i hn=>q e g n (ZM _) ⟨d,i,hn⟩
variable{P:Program} {T:fh} {EE:List Nat} {ops:Array Oper} {q:Bool} {bs:List Bool} {rest:List Oper} {K:Fr->eB->Prop} {H':eB} {d:Option Nat} {as:List AV} {rr:AV} {g:FuncId}
def Cf(h:e_ P T g as H rr H')(a:ju P T EE ops rest K (fr.put d rr) H'):m0 P T EE ops (.func (.func g) [] []) as d rest K fr H:=m0.fn h a
def Cs(h:e_ P T g as H rr H')(a:gR P T EE ops q bs rest K (fr.put d rr) H')(b:q=true->H'=H:=by simp):qK P T EE ops q bs (.func (.func g) [] []) as d rest K fr H:=qK.fn h b a
def Ao{t e sz d:Nat}{s x:AV}{f:α->AV}{D:List Nat}{tag a:Tag}(l m:List α)(h:js fr.tY fr.fP D tag l.length)(b:qL P t=some (e,sz))(hlen:gy l m=true)
  (g:K {fr with env:=hU fr.env d (.slice (.loc d (fr.fP d+1)) ((gU l m).map f)),tY:=hU (uH tag fr.tY) d (some (gU l m).length),fP:=hU fr.fP d (fr.fP d+1)} H)
  (hs:s=.slice tag (l.map f):=by first|rfl|simp) (i:x=.slice a (m.map f):=by first|rfl|simp) (c:∀x,(f x).cells.length=sz:=by intro x;simp):sC P t s x d K fr H:=
 sC.own l m h b c hlen hs i g
def Ad{t e sz d:Nat}{s x:AV}{f:α->AV}{D:List Nat}{tag a:Tag}(l m:List α)(h:js fr.tY fr.fP D tag l.length)(b:qL P t=some (e,sz))(hlen:gy l m=true)
  (g:K {fr with env:=hU fr.env d (.slice (.loc d (fr.fP d+1)) ((gU l m).map f)),tY:=hU (uH tag fr.tY) d (some (gU l m).length),fP:=hU fr.fP d (fr.fP d+1)} H)
  (hs:s=.slice tag (l.map f):=by first|rfl|simp) (i:x=.slice a (m.map f):=by first|rfl|simp) (c:∀x,(f x).cells.length=sz:=by intro x;simp):Bl P t s x d K fr H:=
 Bl.own l m h b c hlen hs i g
end
attribute [simp] vR
end Go.nd
namespace Go.nd
open Go Go.gV
abbrev sI(n:Int):AV:=.sc (.int .i64 n)
abbrev sB(b:Bool):AV:=.sc (.bool b)
abbrev sL{α:Type}(f:α->AV)(l:List α):AV:=.slice .iR (l.map f)
abbrev sT{α:Type}(t:Tag)(f:α->AV)(l:List α):AV:=.slice t (l.map f)
abbrev Ow{α:Type}(f:Fr)(D:List Nat)(t:Tag)(l:List α):Prop:=js f.tY f.fP D t l.length
section
variable{tY:Nat->Option Nat} {fP:Nat->Nat} {D D':List Nat} {n:Nat} {t:Tag}
def On(d:Nat)(h:d∈D:=by decide):js (hU tY d (some n)) (hU fP d (fP d+1)) D (.loc d (fP d+1)) n:=js.new h
end
section
variable{α β γ δ ε ζ η θ:Type}
abbrev t2(a:α->AV)(b:β->AV)(p:α×β):AV:=.tuple [a p.1,b p.2]
abbrev t3(a:α->AV)(b:β->AV)(c:γ->AV)(p:α×β×γ):AV:=.tuple [a p.1,b p.2.1,c p.2.2]
@[simp] theorem ach(a:α->AV)(b:β->AV)(x:α)(y:β):t2 a b (x,y)=.tuple [a x,b y]:=rfl
@[simp] theorem acj(a:α->AV)(b:β->AV)(c:γ->AV)(x:α)(y:β)(z:γ):t3 a b c (x,y,z)=.tuple [a x,b y,c z]:=rfl
abbrev C0(P:Program)(g:FuncId)(f:Option θ)(z:θ->AV):Prop:=∀{T:fh} {H:eB} {r:θ},f=some r->e_ P T g [] H (z r) H
abbrev C1(P:Program)(g:FuncId)(f:α->Option θ)(z:θ->AV)(a:α->AV):Prop:=∀{T:fh} {H:eB} {x:α} {r:θ},f x=some r->e_ P T g [a x] H (z r) H
abbrev C2(P:Program)(g:FuncId)(f:α->β->Option θ)(z:θ->AV)(a:α->AV)(b:β->AV):Prop:=∀{T:fh} {H:eB} {x:α} {y:β} {r:θ},f x y=some r->e_ P T g [a x,b y] H (z r) H
abbrev C3(P:Program)(g:FuncId)(f:α->β->γ->Option θ)(z:θ->AV)(a:α->AV)(b:β->AV)(c:γ->AV):Prop:=∀{T:fh} {H:eB} {x:α} {y:β} {v:γ} {r:θ},f x y v=some r->e_ P T g [a x,b y,c v] H (z r) H
abbrev C4(P:Program)(g:FuncId)(f:α->β->γ->δ->Option θ)(z:θ->AV)(a:α->AV)(b:β->AV)(c:γ->AV)(d:δ->AV):Prop:=∀{T:fh} {H:eB} {x:α} {y:β} {v:γ} {w:δ} {r:θ},f x y v w=some r->e_ P T g [a x,b y,c v,d w] H (z r) H
abbrev C5(P:Program)(g:FuncId)(f:α->β->γ->δ->ε->Option θ)(z:θ->AV)(a:α->AV)(b:β->AV)(c:γ->AV)(d:δ->AV)(e:ε->AV):Prop:=∀{T:fh} {H:eB} {x:α} {y:β} {v:γ} {w:δ} {u:ε} {r:θ},f x y v w u=some r->e_ P T g [a x,b y,c v,d w,e u] H (z r) H
end
end Go.nd
