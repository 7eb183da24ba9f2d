/- Part of the proof of TranslateStable: layer. -/
import Derived.Test.YtffcgfpaakhbjaaGreatDoorL12
set_option linter.all false
namespace Go.jN
open Go Go.dG
inductive It where
 |c (x:Code)|b (id:Nat)|h (K:Fr->cc->Prop)
def PN:List (Nat×Bool×List Bool)->Nat->Bool×List Bool
 |[],_=>(false,[])|x::l,i=>if i=x.1 then x.2 else PN l i
structure Cx where
 P:Program
 T:cV
 n:Nat
 E:List Nat
 D:List (Nat×Bool×List Bool)
 rs:List ResultVar
 Post:AV->cc->Prop
 st:Nat->Bool:=λ_=>false
 cl:Nat->Nat:=λ_=>0
def rl(n:Nat)(E:List Nat)(D:List (Nat×Bool×List Bool)):Code->Bool
 |.seq a b=>rl n E D a&&rl n E D b|.cond c a b=>gW c&&(rl n E D a&&rl n E D b)|.block _ a=>rl n E D a|.loop a=>rl n E D a|.scope a=>rl n E D a|.region _ ops false=>yW n ops|.region id ops true=>yW n ops&&x8 E ops (λi=>(PN D id).2.getD i true)|_=>true
def SQ(X:Cx):List It->Exit->Fr->cc->Prop
 |[],e,fr,H=>xW X.P X.rs X.Post e fr H|i::S,e,fr,H=>match i,e with
  |.c x,.normal=>X.P.follows .mixedOrders=true->rl X.n X.E X.D x=true->fA X.P X.T X.n x (SQ X S) fr H|.b id,.exit j=>if j=id then SQ X S .normal fr H else SQ X S (.exit j) fr H|.h K,.normal=>K fr H|_,e=>SQ X S e fr H
def Cg(id:Nat):List It->Option (List It)
 |[]=>none|.b j::S=>if j=id then some S else Cg id S|_::S=>Cg id S
def Ok(A B:Fr->cc->Prop)(v:AV)(fr:Fr)(H:cc):Prop:=IN v (A fr H) (B fr H)
def Wf(X:Cx):Nat->List It->Fr->cc->Prop
 |0,S,fr,H=>SQ X S .normal fr H|_+1,[],fr,H=>xW X.P X.rs X.Post .normal fr H|k+1,.b _::S,fr,H=>Wf X k S fr H|_+1,.h K::_,fr,H=>K fr H|k+1,.c x::S,fr,H=>match x with
  |.seq a b=>Wf X k (.c a::.c b::S) fr H|.skip=>Wf X k S fr H|.label _=>Wf X k S fr H|.scope a=>Wf X k (.c a::S) fr H|.block id a=>Wf X k (.c a::.b id::S) fr H|.exit id=>match Cg id S with|some d=>Wf X k d fr H|none=>False
  |.ret=>xW X.P X.rs X.Post .ret fr H|.cond c a b=>Ok (Wf X k (.c a::S)) (Wf X k (.c b::S)) (ev X.T fr c) fr H|.region _ ops false=>fK X.P X.T X.E ops ops.toList (Wf X k S) fr H|.region id ops true=>dF X.P X.T X.E ops ⟨(PN X.D id).1,X.st,X.cl⟩ (PN X.D id).2 ops.toList (Wf X k S) fr H|x=>SQ X (.c x::S) .normal fr H
def RU(X:Cx):∀(S:List It) (fr:Fr) (H:cc),SQ X S .ret fr H=xW X.P X.rs X.Post .ret fr H
 |[],_,_=>rfl|i::S,fr,H=>by
  have:=RU X S fr H;cases i<;>exact this
def N_(X:Cx)(l:Nat):∀(S:List It) (fr:Fr) (H:cc),SQ X S (.goto l) fr H=False
 |[],_,_=>rfl|i::S,fr,H=>by
  have:=N_ X l S fr H;cases i<;>exact this
def J6(X:Cx)(id:Nat):∀(S a:List It) (fr:Fr) (H:cc),Cg id S=some a->SQ X S (.exit id) fr H=SQ X a .normal fr H
 |[],_,_,_,h=>by cases h
 |i::S,a,fr,H,h=>by
  cases i with
  |b j=>
   simp only[Cg] at h;show(if id=j then SQ X S .normal fr H else SQ X S (.exit id) fr H)=_
   split at h
   ·rename_i e;rw[bX e.symm,fS h]
   ·rename_i e;rw[bV (λd=>e d.symm)];exact J6 X id S a fr H h
  |c x=>exact J6 X id S a fr H h|h K=>exact J6 X id S a fr H h
def Vc(K:Fr->cc->Prop):Exit->Fr->cc->Prop
 |.normal,fr,H=>K fr H|_,_,_=>False
def iE(X:Cx):∀(k:Nat) (S:List It) (fr:Fr) (H:cc),Wf X k S fr H->SQ X S .normal fr H
 |0,_,_,_,h=>h|_+1,[],_,_,h=>h|k+1,.b _::S,fr,H,h=>iE X k S fr H h|_+1,.h _::_,_,_,h=>h|k+1,.c x::S,fr,H,h=>by
  have up:∀{c:Code} {S:List It} {fr:Fr} {H:cc},fA X.P X.T X.n c (Vc (Wf X k S)) fr H->fA X.P X.T X.n c (SQ X S) fr H:=λh=>h.mono λe fr' H' g=>by
   cases e<;>first|exact iE X k _ _ _ g|exact g.elim
  intro hm f;cases x with
  |seq a b=>
   have i:Wf X k (.c a::.c b::S) fr H:=h;have j:=iE X k _ _ _ i;simp only[rl,eg] at f;refine fA.seq ((j hm f.1).mono λe fr' H' g=>?_)
   cases e<;>first|exact g hm f.2|exact g
  |skip=>exact fA.skip (iE X k S fr H h)|label l=>exact fA.label (iE X k S fr H h)|scope a=>
   have j:=iE X k (.c a::S) fr H h;refine fA.scope ((j hm f).mono λe fr' H' g=>?_)
   cases e<;>first|exact⟨trivial,g⟩|(rw[N_] at g;exact g.elim)
  |block id a=>
   have j:=iE X k (.c a::.b id::S) fr H h;refine fA.block ((j hm f).mono λe fr' H' g=>?_);cases e<;>exact g
  |exit id=>
   have i:(match Cg id S with|some m=>Wf X k m fr H|none=>False):=h
   split at i
   ·rename_i m hs;refine fA.exit ?_;rw[J6 X id S m fr H hs];exact iE X k m fr H i
   ·exact i.elim
  |ret=>
   refine fA.ret ?_;rw[RU];exact h
  |cond c a b=>
   simp only[rl,eg] at f;have i:IN (ev X.T fr c) (Wf X k (.c a::S) fr H) (Wf X k (.c b::S) fr H):=h;refine fA.zQ (λA B o p=>?_) f.1;generalize ev X.T fr c=v at i;cases v with
   |sc w=>
    cases w with
    |bool t=>
     cases t with
     |true=>exact o _ _ (iE X k _ _ _ i hm f.2.1)|false=>exact p _ _ (iE X k _ _ _ i hm f.2.2)
    |_=>exact i.elim
   |_=>exact i.elim
  |region id ops d=>
   cases d with
   |false=>exact up (fA.region X.E f h)|true=>
    simp only[rl,eg] at f;exact up (fA.Ot X.E ⟨(PN X.D id).1,X.st,X.cl⟩ (PN X.D id).2 hm f.1 f.2 h)
  |_=>exact h hm f
section
variable{X:Cx} {k:Nat} {S:List It} {fr:Fr} {H:cc} {a b:Code} {c:Operand} {id:Nat} {ops:Array Oper} {A B:Fr->cc->Prop}
@[simp] theorem acY:Wf X (k+1) [] fr H=xW X.P X.rs X.Post .normal fr H:=rfl
@[simp] theorem adU:Wf X (k+1) (.b id::S) fr H=Wf X k S fr H:=rfl
@[simp] theorem adA{K:Fr->cc->Prop}:Wf X (k+1) (.h K::S) fr H=K fr H:=rfl
@[simp] theorem ac5:Wf X (k+1) (.c (.seq a b)::S) fr H=Wf X k (.c a::.c b::S) fr H:=rfl
@[simp] theorem abB:Wf X (k+1) (.c .skip::S) fr H=Wf X k S fr H:=rfl
@[simp] theorem aaE:Wf X (k+1) (.c (.label id)::S) fr H=Wf X k S fr H:=rfl
@[simp] theorem Z3:Wf X (k+1) (.c (.scope a)::S) fr H=Wf X k (.c a::S) fr H:=rfl
@[simp] theorem abo:Wf X (k+1) (.c (.block id a)::S) fr H=Wf X k (.c a::.b id::S) fr H:=rfl
@[simp] theorem abP:Wf X (k+1) (.c (.exit id)::S) fr H=match Cg id S with|some a=>Wf X k a fr H|none=>False:=rfl
@[simp] theorem acq:Wf X (k+1) (.c .ret::S) fr H=xW X.P X.rs X.Post .ret fr H:=rfl
@[simp] theorem abA:Wf X (k+1) (.c (.cond c a b)::S) fr H=Ok (Wf X k (.c a::S)) (Wf X k (.c b::S)) (ev X.T fr c) fr H:=rfl
@[simp] theorem acV:Wf X (k+1) (.c (.region id ops false)::S) fr H=fK X.P X.T X.E ops ops.toList (Wf X k S) fr H:=rfl
@[simp] theorem abR:Wf X (k+1) (.c (.region id ops true)::S) fr H=dF X.P X.T X.E ops ⟨(PN X.D id).1,X.st,X.cl⟩ (PN X.D id).2 ops.toList (Wf X k S) fr H:=rfl
@[simp] theorem Wz:Ok A B (.sc (.bool true)) fr H=A fr H:=rfl
@[simp] theorem Vk:Ok A B (.sc (.bool false)) fr H=B fr H:=rfl
@[simp] theorem acE:Cg id (.c a::S)=Cg id S:=rfl
@[simp] theorem ab7{K:Fr->cc->Prop}:Cg id (.h K::S)=Cg id S:=rfl
@[simp] theorem acC{j:Nat}:Cg id (.b j::S)=if j=id then some S else Cg id S:=rfl
@[simp] theorem abT{i:Nat}:PN [] i=(false,[]):=rfl
@[simp] theorem Zw{x:Nat×Bool×List Bool}{l:List (Nat×Bool×List Bool)}{i:Nat}:PN (x::l) i=if i=x.1 then x.2 else PN l i:=rfl
@[simp] theorem Ti{P:Program}{T:cV}{E:List Nat}{q:Qt}{o:Oper}{rest:List Oper}{K:Fr->cc->Prop}:dF P T E ops q [] (o::rest) K fr H=dF P T E ops q [true] (o::rest) K fr H:=rfl
def wg(k:Nat)(h:Wf X k S fr H):Wf X 0 S fr H:=iE X k S fr H h
def wj(f k2:Nat)(R:Fr->cc->Prop)(i:∀K:Fr->cc->Prop,(∀fr H,R fr H->K fr H)->Wf X f (.c a::.h K::S) fr H)(j:∀fr H,R fr H->Wf X k2 (.c b::S) fr H):Wf X 0 (.c (.seq a b)::S) fr H:=by
 intro hm d;simp only[rl,eg] at d;have k:=iE X f _ _ _ (i (SQ X (.c b::S) .normal) λfr H h=>iE X k2 _ _ _ (j fr H h));refine fA.seq ((k hm d.1).mono λe fr' H' g=>?_)
 cases e<;>first|exact g hm d.2|exact g
def wl(d:Nat)(I:Nat->Fr->cc->Prop)(m:Nat)(g:I m fr H)(i:∀m fr H,I m fr H->∀K:Fr->cc->Prop,(∀fr' H' f,f<m->I f fr' H'->K fr' H')->Wf X d (.c a::.h K::S) fr H):Wf X (k+1) (.c (.loop a)::S) fr H:=by
 intro hm b;refine fA.OP I m g λm fr H j K l=>?_;refine((iE X d _ _ _ (i m fr H j K l)) hm b).mono λe fr' H' n=>?_;cases e<;>exact n
end
def wi{P:Program}{T:cV}{H:cc}{f:FuncId}{args:List AV}{Post:AV->cc->Prop}{fn:Func}{c:Code}(hm:P.follows .mixedOrders=true)(d:P.funcs[f]?=some fn)(E:List Nat)(D:List (Nat×Bool×List Bool))(k:Nat)
  (h:Wf {P:=P,T:=T,n:=fn.ntmps,E:=E,D:=D,rs:=fn.results.toList,Post:=Post} k [.c c] (KU args) H)
  (e:fn.body=some c:=by rfl) (a:jK P f=true:=by decide+kernel) (hlen:args.length<=fn.ntmps:=by exact Ax rfl) (b:rl fn.ntmps E D c=true:=by decide+kernel):dj P T f args H Post:=
 dj.intro d e a hlen (((iE _ _ _ _ _ h) hm b).mono λ_ _ _ g=>g)
def wiS{P:Program}{T:cV}{H:cc}{f:FuncId}{args:List AV}{Post:AV->cc->Prop}{fn:Func}{c:Code}(st:Nat->Bool)(cl:Nat->Nat)(hm:P.follows .mixedOrders=true)(d:P.funcs[f]?=some fn)(E:List Nat)(D:List (Nat×Bool×List Bool))(k:Nat)
  (h:Wf {P:=P,T:=T,n:=fn.ntmps,E:=E,D:=D,rs:=fn.results.toList,Post:=Post,st:=st,cl:=cl} k [.c c] (KU args) H)
  (e:fn.body=some c:=by rfl) (a:jK P f=true:=by decide+kernel) (hlen:args.length<=fn.ntmps:=by exact Ax rfl) (b:rl fn.ntmps E D c=true:=by decide+kernel):dj P T f args H Post:=
 dj.intro d e a hlen (((iE _ _ _ _ _ h) hm b).mono λ_ _ _ g=>g)
end Go.jN
namespace Go.jN
open Go Go.dG
section
variable{α β γ δ ε ζ ρ σ τ κ:Type} {E A:Prop} {r:ρ} {c:Bool}
def Aj(e:E)(a:A):E/\A:=⟨e,a⟩
def gu(e:E){o:Option α}{f:α->Option ρ}(m:bU o f=some r):∃a,(E/\o=some a)/\f a=some r:=by
 obtain⟨a,b,c⟩:=cE m;exact⟨a,⟨e,b⟩,c⟩
def Bo2(e:E){o:Option (α×β)}{f:α->β->Option ρ}(m:b7 o f=some r):∃a b,(E/\o=some (a,b))/\f a b=some r:=by
 obtain⟨a,b,c,d⟩:=iR m;exact⟨a,b,⟨e,c⟩,d⟩
def Ck(e:E){o:Option ρ}(m:eB c o=some r):(E/\c=true)/\o=some r:=⟨⟨e,(qA m).1⟩,(qA m).2⟩
def Io(e:E){a b:Option ρ}(m:(if c then a else b)=some r):((E/\c=true)/\a=some r)\/((E/\c=false)/\b=some r):=
 (Be m).imp (λh=>⟨⟨e,h.1⟩,h.2⟩) (λh=>⟨⟨e,h.1⟩,h.2⟩)
def Pb(c:Bool)(e:E):(E/\c=true)\/(E/\c=false):=by cases c<;>simp[e]
@[simp] theorem ZP(a:Int):sg a a=false:=by simp[sg]
def cC(n:σ->Option τ)(k:σ⊕ρ->Option τ):dP σ ρ->Option τ
 |.next s=>n s|.H9 s=>k (.inl s)|.ret x=>k (.inr x)
def Ld(o:Option (dP σ ρ))(n:σ->Option (σ⊕ρ))(k:σ⊕ρ->Option τ):bU (bU o (LA n)) k=bU o (cC (λs=>bU (n s) k) k):=by
 cases o with
 |none=>rfl|some c=>cases c<;>rfl
def Qb{n g:σ->Option τ}{h:ρ->Option τ}{s:σ}{w:τ}(q:cC n (dR g h) (.H9 s)=some w):g s=some w:=q
variable{X:Cx} {S:List It} {fr:Fr} {H:cc} {a b:Code} {w:τ}
def Wj{d:κ}{e:κ->Option τ}(m:cB d e=some w)(g k2:Nat)(R:κ->Fr->cc->Prop)(i:∀(j:κ) (K:Fr->cc->Prop),(∀f h,R j f h->K f h)->e j=some w->Wf X g (.c a::.h K::S) fr H)
  (k:∀f h,R d f h->Wf X k2 (.c b::S) f h):Wf X 0 (.c (.seq a b)::S) fr H:=
 wj g k2 (R d) (λK l=>i d K l m) k
def Wr(e:E){l:List α}{F:Int->α->σ->Option (dP σ ρ)}{k:σ⊕ρ->Option τ}{d:σ}(m:eB (cZ l) (cB F λF=>bU (cY F l 0 d) k)=some w)(q:Nat)(I:Int->σ->Fr->cc->Prop)(v:I 0 d fr H)
  (y:∀s f h K,I (cI l) s f h->k (.inl s)=some w->Wf X q (.c a::.h K::S) f h)
  (hs:∀j x s f h K n c,I j s f h->((E/\sg j (cI l)=true)/\cr l j=some x)->F j x s=some c->cC n k c=some w->(∀g o p,I (c8 .i64 j 1) g o p->n g=some w->K o p)->Wf X q (.c a::.h K::S) f h)
  {z:Nat}:Wf X (z+1) (.c (.loop a)::S) fr H:=by
 obtain⟨r,m⟩:=qA m;have m:bU (cY F l 0 d) k=some w:=m;refine wl q (λn f h=>∃(i:Nat) (s:σ),I (i:Int) s f h/\i+n=l.length/\bU (cY F (l.drop i) i s) k=some w) l.length ⟨0,d,v,aas,by simpa using m⟩ ?_;rintro n f h ⟨i,s,u,hi,hm⟩ K A;rcases n with _|n
 ·have t:i=l.length:=VW
  subst t;rw[F_ (fT _),lx] at hm;exact y s f h K u hm
 ·obtain⟨x,B,hg⟩:=Ob (l:=l) (i:=i) VW;rw[B,cO,Ld] at hm;obtain⟨c,C,D⟩:=cE hm;refine hs i x s f h K _ c u ⟨⟨e,Sp VW⟩,hg⟩ C D λg o p b hn=>A o p n (Uw _) ⟨i+1,g,?_,VW,hn⟩;rw[Kn VW r] at b;exact b
def Wn{F:σ->Option (dP σ ρ)}{k:σ⊕ρ->Option τ}{b:σ}(m:cB F (λF=>bU (nY F FU b) k)=some w)(j:Nat)(I:σ->Fr->cc->Prop)(l:I b fr H)
  (hs:∀s f h K n c,I s f h->F s=some c->cC n k c=some w->(∀d e g,I d e g->n d=some w->K e g)->Wf X j (.c a::.h K::S) f h)
  {o:Nat}:Wf X (o+1) (.c (.loop a)::S) fr H:=by
 have m:bU (nY F FU b) k=some w:=m;refine wl j (λn f h=>∃(s:σ),I s f h/\bU (nY F n s) k=some w) FU ⟨b,l,m⟩ ?_;rintro n f h ⟨s,p,hm⟩ K q;rcases n with _|n
 ·cases hm
 ·rw[l6,Ld] at hm;obtain⟨c,r,t⟩:=cE hm;exact hs s f h K _ c p r t λd e g i hn=>q e g n (Uw _) ⟨d,i,hn⟩
variable{P:Program} {T:cV} {EE:List Nat} {ops:Array Oper} {q:Qt} {bs:List Bool} {rest:List Oper} {K:Fr->cc->Prop} {H':cc} {d:Option Nat} {as:List AV} {rr:AV} {g:FuncId}
def Cf(h:dr P T g as H rr H')(a:fK P T EE ops rest K (fr.put d rr) H'):ic P T EE ops (.func (.func g) [] []) as d rest K fr H:=ic.fn h a
def Cs(h:dr P T g as H rr H')(a:dF P T EE ops q bs rest K (fr.put d rr) H')(b:QK q H H':=by simp):dX P T EE ops q bs (.func (.func g) [] []) as d rest K fr H:=dX.fn h b a
def Ao{t e sz d:Nat}{s x:AV}{f:α->AV}{D:List Nat}{tag tag':Tag}(l m:List α)(h:iz fr.r_ fr.dv D tag l.length)(a:nS P t=some (e,sz))(hlen:dZ l m=true)
  (c:K {fr with env:=eO fr.env d (.slice (.loc d (fr.dv d+1)) ((eA l m).map f)),r_:=eO (sW tag fr.r_) d (some (eA l m).length),dv:=eO fr.dv d (fr.dv d+1)} H)
  (hs:s=.slice tag (l.map f):=by first|rfl|simp) (g:x=.slice tag' (m.map f):=by first|rfl|simp) (b:∀x,(f x).cells.length=sz:=by intro x;simp):q9 P t s x d K fr H:=
 q9.own l m h a b hlen hs g c
def Ad{t e sz d:Nat}{s x:AV}{f:α->AV}{D:List Nat}{tag tag':Tag}(l m:List α)(h:iz fr.r_ fr.dv D tag l.length)(a:nS P t=some (e,sz))(hlen:dZ l m=true)
  (c:K {fr with env:=eO fr.env d (.slice (.loc d (fr.dv d+1)) ((eA l m).map f)),r_:=eO (sW tag fr.r_) d (some (eA l m).length),dv:=eO fr.dv d (fr.dv d+1)} H)
  (hs:s=.slice tag (l.map f):=by first|rfl|simp) (g:x=.slice tag' (m.map f):=by first|rfl|simp) (b:∀x,(f x).cells.length=sz:=by intro x;simp):z8 P t s x d K fr H:=
 z8.own l m h a b hlen hs g c
end
attribute [simp] xW
end Go.jN
namespace Go.jN
open Go Go.dG
abbrev sI(n:Int):AV:=.sc (.int .i64 n)
abbrev sB(b:Bool):AV:=.sc (.bool b)
abbrev sL{α:Type}(f:α->AV)(l:List α):AV:=.slice .gY (l.map f)
abbrev sT{α:Type}(t:Tag)(f:α->AV)(l:List α):AV:=.slice t (l.map f)
abbrev Ow{α:Type}(f:Fr)(D:List Nat)(t:Tag)(l:List α):Prop:=iz f.r_ f.dv D t l.length
section
variable{r_:Nat->Option Nat} {dv:Nat->Nat} {D D':List Nat} {n:Nat} {t:Tag}
def On(d:Nat)(h:d∈D:=by decide):iz (eO r_ d (some n)) (eO dv d (dv d+1)) D (.loc d (dv d+1)) n:=iz.new h
end
section
variable{α β γ δ ε ζ η θ:Type}
abbrev t2(a:α->AV)(b:β->AV)(p:α×β):AV:=.tuple [a p.1,b p.2]
abbrev t3(a:α->AV)(b:β->AV)(c:γ->AV)(p:α×β×γ):AV:=.tuple [a p.1,b p.2.1,c p.2.2]
@[simp] theorem adw(a:α->AV)(b:β->AV)(x:α)(y:β):t2 a b (x,y)=.tuple [a x,b y]:=rfl
@[simp] theorem adq(a:α->AV)(b:β->AV)(c:γ->AV)(x:α)(y:β)(z:γ):t3 a b c (x,y,z)=.tuple [a x,b y,c z]:=rfl
abbrev C0(P:Program)(g:FuncId)(f:Option θ)(z:θ->AV):Prop:=∀{T:cV} {H:cc} {r:θ},f=some r->dr P T g [] H (z r) H
abbrev C1(P:Program)(g:FuncId)(f:α->Option θ)(z:θ->AV)(a:α->AV):Prop:=∀{T:cV} {H:cc} {x:α} {r:θ},f x=some r->dr P T g [a x] H (z r) H
abbrev C2(P:Program)(g:FuncId)(f:α->β->Option θ)(z:θ->AV)(a:α->AV)(b:β->AV):Prop:=∀{T:cV} {H:cc} {x:α} {y:β} {r:θ},f x y=some r->dr P T g [a x,b y] H (z r) H
abbrev C3(P:Program)(g:FuncId)(f:α->β->γ->Option θ)(z:θ->AV)(a:α->AV)(b:β->AV)(c:γ->AV):Prop:=∀{T:cV} {H:cc} {x:α} {y:β} {v:γ} {r:θ},f x y v=some r->dr P T g [a x,b y,c v] H (z r) H
abbrev C4(P:Program)(g:FuncId)(f:α->β->γ->δ->Option θ)(z:θ->AV)(a:α->AV)(b:β->AV)(c:γ->AV)(d:δ->AV):Prop:=∀{T:cV} {H:cc} {x:α} {y:β} {v:γ} {w:δ} {r:θ},f x y v w=some r->dr P T g [a x,b y,c v,d w] H (z r) H
abbrev C5(P:Program)(g:FuncId)(f:α->β->γ->δ->ε->Option θ)(z:θ->AV)(a:α->AV)(b:β->AV)(c:γ->AV)(d:δ->AV)(e:ε->AV):Prop:=∀{T:cV} {H:cc} {x:α} {y:β} {v:γ} {w:δ} {u:ε} {r:θ},f x y v w u=some r->dr P T g [a x,b y,c v,d w,e u] H (z r) H
end
end Go.jN
namespace Go.jN
open Go Go.dG
abbrev nL:AV:=.slice .full []
abbrev bx(f:Fr)(b:Nat)(c:List AV):Prop:=f.1 b=AV.gx b (f.gen b) 0/\f.box b=some c
attribute [simp] bx
section
variable{E G:Prop} {ρ:Type} {r:ρ} {c:Bool} {a b:Option ρ}
def Iq(e:E)(m:(if c then a else b)=some r)(d:E/\c=true->a=some r->G)(f:E/\c=false->b=some r->G):G:=
 (Io e m).elim (λh=>d h.1 h.2) (λh=>f h.1 h.2)
def Ir(e:E)(m:(if c then a else b)=some r)(d:E/\c=false->b=some r->G)(f:E/\c=true->a=some r->G):G:=Iq e m f d
def Il(e:E)(m:(if c then a else b)=some r)(d:E/\c=false->b=some r->G)(f:E/\c=true->a=some r->G:=by intro e m;cases m;(try cases z);(try cases z);simp[e];done):G:=Iq e m f d
def Im(e:E)(m:(if c then a else b)=some r)(d:E/\c=true->a=some r->G)(f:E/\c=false->b=some r->G:=by intro e m;cases m;(try cases z);(try cases z);simp[e];done):G:=Iq e m d f
def au(h:G:=by cases m;(try cases z);(try cases z);simp[e];done):G:=h
def aj(h:G:=by simp[e];exact g _ _ aau):G:=h
def Zj(h:G:=by simp[e];exact g _ _ ⟨aau,m⟩):G:=h
def k8(h:G:=by simp[e];exact g _ _ ⟨_,aau,m⟩):G:=h
def ak2(h:G:=by simp[e];exact g _ _ ⟨_,_,aau,m⟩):G:=h
def ak3(h:G:=by simp[e];exact g _ _ ⟨_,_,_,aau,m⟩):G:=h
def al(h:G:=by simp[e];cases m;exact p _ _ _ aau z):G:=h
end
section
variable{P:Program} {T:cV} {EE:List Nat} {ops:Array Oper} {q:Qt} {bs:List Bool} {rest:List Oper} {K:Fr->cc->Prop} {H:cc} {d:Option Nat} {as:List AV} {g:FuncId} {fr:Fr} {ρ α β γ δ ε:Type} {r:ρ}
def dL{o:Option α}{F:α->Option ρ}{z:α->AV}{W:α->cc}(m:bU o F=some r)(h:∀{y},o=some y->dr P T g as H (z y) (W y))(a:∀y,F y=some r->fK P T EE ops rest K (fr.put d (z y)) (W y)):ic P T EE ops (.func (.func g) [] []) as d rest K fr H:=by
 obtain⟨y,b,c⟩:=cE m;exact Cf (h b) (a _ c)
def k5{o:Option (α×β)}{F:α->β->Option ρ}{z:α->β->AV}{W:α->β->cc}(m:b7 o F=some r)(h:∀{y a},o=some (y,a)->dr P T g as H (z y a) (W y a))(b:∀y a,F y a=some r->fK P T EE ops rest K (fr.put d (z y a)) (W y a)):ic P T EE ops (.func (.func g) [] []) as d rest K fr H:=by
 obtain⟨y,a,c,e⟩:=iR m;exact Cf (h c) (b _ _ e)
def QL{o:Option (α×β×γ)}{F:α->β->γ->Option ρ}{z:α->β->γ->AV}{W:α->β->γ->cc}(m:hU o F=some r)(h:∀{y a u},o=some (y,a,u)->dr P T g as H (z y a u) (W y a u))(b:∀y a u,F y a u=some r->fK P T EE ops rest K (fr.put d (z y a u)) (W y a u)):ic P T EE ops (.func (.func g) [] []) as d rest K fr H:=by
 obtain⟨y,a,u,c,e⟩:=AE m;exact Cf (h c) (b _ _ _ e)
def dY{o:Option α}{F:α->Option ρ}{z:α->AV}{W:α->cc}(m:bU o F=some r)(h:∀{y},o=some y->dr P T g as H (z y) (W y))(a:∀y,F y=some r->dF P T EE ops q bs rest K (fr.put d (z y)) (W y))(b:∀y,QK q H (W y):=by simp):dX P T EE ops q bs (.func (.func g) [] []) as d rest K fr H:=by
 obtain⟨y,c,e⟩:=cE m;exact Cs (h c) (a _ e) (b _)
def qX{o:Option (α×β)}{F:α->β->Option ρ}{z:α->β->AV}{W:α->β->cc}(m:b7 o F=some r)(h:∀{y a},o=some (y,a)->dr P T g as H (z y a) (W y a))(b:∀y a,F y a=some r->dF P T EE ops q bs rest K (fr.put d (z y a)) (W y a))(c:∀y a,QK q H (W y a):=by simp):dX P T EE ops q bs (.func (.func g) [] []) as d rest K fr H:=by
 obtain⟨y,a,e,f⟩:=iR m;exact Cs (h e) (b _ _ f) (c _ _)
def Cs3{o:Option (α×β×γ)}{F:α->β->γ->Option ρ}{z:α->β->γ->AV}{W:α->β->γ->cc}(m:hU o F=some r)(h:∀{y a u},o=some (y,a,u)->dr P T g as H (z y a u) (W y a u))(b:∀y a u,F y a u=some r->dF P T EE ops q bs rest K (fr.put d (z y a u)) (W y a u))(c:∀y a u,QK q H (W y a u):=by simp):dX P T EE ops q bs (.func (.func g) [] []) as d rest K fr H:=by
 obtain⟨y,a,u,e,f⟩:=AE m;exact Cs (h e) (b _ _ _ f) (c _ _ _)
end
section
variable{ρ α σ τ κ:Type} {E:Prop} {X:Cx} {S:List It} {fr:Fr} {H:cc} {a b:Code} {w:τ}
def IV(d k2:Nat)(R:Fr->cc->Prop)(e:∀fr H,R fr H->Wf X k2 (.c b::S) fr H)(f:∀K:Fr->cc->Prop,(∀fr H,R fr H->K fr H)->Wf X d (.c a::.h K::S) fr H):Wf X 0 (.c (.seq a b)::S) fr H:=wj d k2 R f e
def B6{d:κ}{e:κ->Option τ}(m:cB d e=some w)(g k2:Nat)(R:κ->Fr->cc->Prop)(i:∀f h,R d f h->Wf X k2 (.c b::S) f h)(k:∀(j:κ) (K:Fr->cc->Prop),(∀f h,R j f h->K f h)->e j=some w->Wf X g (.c a::.h K::S) fr H):Wf X 0 (.c (.seq a b)::S) fr H:=Wj m g k2 R k i
def DH(e:E){l:List α}{F:Int->α->σ->Option (dP σ ρ)}{k:σ⊕ρ->Option τ}{d:σ}(m:eB (cZ l) (cB F λF=>bU (cY F l 0 d) k)=some w)(b:Nat)(I:Int->σ->Fr->cc->Prop)(p:I 0 d fr H)
 (hs:∀j x s f h K n c,I j s f h->((E/\sg j (cI l)=true)/\cr l j=some x)->F j x s=some c->cC n k c=some w->(∀g i o,I (c8 .i64 j 1) g i o->n g=some w->K i o)->Wf X b (.c a::.h K::S) f h)
 (q:∀s f h K,I (cI l) s f h->k (.inl s)=some w->Wf X b (.c a::.h K::S) f h)
 {r:Nat}:Wf X (r+1) (.c (.loop a)::S) fr H:=Wr e m b I p q hs
end
section
variable{P:Program} {fn:Func} {g:FuncId} {c:Code} {α β γ δ ε θ:Type} {z:θ->AV} {a:α->AV} {b:β->AV} {y:γ->AV} {d:δ->AV} {e:ε->AV}
def u0[i:Nonempty (P.follows .mixedOrders=true)](k:Nat)(d:P.funcs[g]?=some fn){f:Option θ}(h:∀T H r,f=some r->True->Wf {P:=P,T:=T,n:=fn.ntmps,E:=[],D:=[],rs:=fn.results.toList,Post:=λv K=>v=z r/\K=H} k [.c c] (KU []) H)
  (e:fn.body=some c:=by rfl) (a:jK P g=true:=by decide+kernel) (b:rl fn.ntmps [] [] c=true:=by decide+kernel):C0 P g f z:=
 λ{T H r} j=>i.elim λhm=>wi hm d [] [] k (h T H r j trivial) e a (Xo _) b
def u1[i:Nonempty (P.follows .mixedOrders=true)](k:Nat)(e:P.funcs[g]?=some fn){f:α->Option θ}(h:∀T H x r,f x=some r->True->Wf {P:=P,T:=T,n:=fn.ntmps,E:=[],D:=[],rs:=fn.results.toList,Post:=λv K=>v=z r/\K=H} k [.c c] (KU [a x]) H)
  (j:fn.body=some c:=by rfl) (b:jK P g=true:=by decide+kernel) (hlen:1<=fn.ntmps:=by exact Ax rfl) (d:rl fn.ntmps [] [] c=true:=by decide+kernel):C1 P g f z a:=
 λ{T H x r} l=>i.elim λhm=>wi hm e [] [] k (h T H x r l trivial) j b hlen d
def u2[i:Nonempty (P.follows .mixedOrders=true)](k:Nat)(l:P.funcs[g]?=some fn){f:α->β->Option θ}(h:∀T H x j r,f x j=some r->True->Wf {P:=P,T:=T,n:=fn.ntmps,E:=[],D:=[],rs:=fn.results.toList,Post:=λv K=>v=z r/\K=H} k [.c c] (KU [a x,b j]) H)
  (m:fn.body=some c:=by rfl) (d:jK P g=true:=by decide+kernel) (hlen:2<=fn.ntmps:=by exact Ax rfl) (e:rl fn.ntmps [] [] c=true:=by decide+kernel):C2 P g f z a b:=
 λ{T H x j r} o=>i.elim λhm=>wi hm l [] [] k (h T H x j r o trivial) m d hlen e
def u3[i:Nonempty (P.follows .mixedOrders=true)](k:Nat)(l:P.funcs[g]?=some fn){f:α->β->γ->Option θ}(h:∀T H x j v r,f x j v=some r->True->Wf {P:=P,T:=T,n:=fn.ntmps,E:=[],D:=[],rs:=fn.results.toList,Post:=λv K=>v=z r/\K=H} k [.c c] (KU [a x,b j,y v]) H)
  (m:fn.body=some c:=by rfl) (d:jK P g=true:=by decide+kernel) (hlen:3<=fn.ntmps:=by exact Ax rfl) (e:rl fn.ntmps [] [] c=true:=by decide+kernel):C3 P g f z a b y:=
 λ{T H x j v r} o=>i.elim λhm=>wi hm l [] [] k (h T H x j v r o trivial) m d hlen e
def u4[i:Nonempty (P.follows .mixedOrders=true)](k:Nat)(m:P.funcs[g]?=some fn){f:α->β->γ->δ->Option θ}(h:∀T H x l v w r,f x l v w=some r->True->Wf {P:=P,T:=T,n:=fn.ntmps,E:=[],D:=[],rs:=fn.results.toList,Post:=λv K=>v=z r/\K=H} k [.c c] (KU [a x,b l,y v,d w]) H)
  (o:fn.body=some c:=by rfl) (e:jK P g=true:=by decide+kernel) (hlen:4<=fn.ntmps:=by exact Ax rfl) (j:rl fn.ntmps [] [] c=true:=by decide+kernel):C4 P g f z a b y d:=
 λ{T H x l v w r} p=>i.elim λhm=>wi hm m [] [] k (h T H x l v w r p trivial) o e hlen j
def u5[i:Nonempty (P.follows .mixedOrders=true)](k:Nat)(o:P.funcs[g]?=some fn){f:α->β->γ->δ->ε->Option θ}(h:∀T H x m v w u r,f x m v w u=some r->True->Wf {P:=P,T:=T,n:=fn.ntmps,E:=[],D:=[],rs:=fn.results.toList,Post:=λv K=>v=z r/\K=H} k [.c c] (KU [a x,b m,y v,d w,e u]) H)
  (p:fn.body=some c:=by rfl) (j:jK P g=true:=by decide+kernel) (hlen:5<=fn.ntmps:=by exact Ax rfl) (l:rl fn.ntmps [] [] c=true:=by decide+kernel):C5 P g f z a b y d e:=
 λ{T H x m v w u r} q=>i.elim λhm=>wi hm o [] [] k (h T H x m v w u r q trivial) p j hlen l
def v0[i:Nonempty (P.follows .mixedOrders=true)](d:P.funcs[g]?=some fn){f:Option θ}(h:∀T H r,f=some r->True->Wf {P:=P,T:=T,n:=fn.ntmps,E:=[],D:=[],rs:=fn.results.toList,Post:=λv K=>v=z r/\K=H} 999 [.c c] (KU []) H)
  (e:fn.body=some c:=by rfl) (a:jK P g=true:=by decide+kernel) (b:rl fn.ntmps [] [] c=true:=by decide+kernel):C0 P g f z:=
 u0 999 d h e a b
def v1[i:Nonempty (P.follows .mixedOrders=true)](e:P.funcs[g]?=some fn){f:α->Option θ}(h:∀T H x r,f x=some r->True->Wf {P:=P,T:=T,n:=fn.ntmps,E:=[],D:=[],rs:=fn.results.toList,Post:=λv K=>v=z r/\K=H} 999 [.c c] (KU [a x]) H)
  (j:fn.body=some c:=by rfl) (b:jK P g=true:=by decide+kernel) (hlen:1<=fn.ntmps:=by exact Ax rfl) (d:rl fn.ntmps [] [] c=true:=by decide+kernel):C1 P g f z a:=
 u1 999 e h j b hlen d
def v2[i:Nonempty (P.follows .mixedOrders=true)](k:P.funcs[g]?=some fn){f:α->β->Option θ}(h:∀T H x j r,f x j=some r->True->Wf {P:=P,T:=T,n:=fn.ntmps,E:=[],D:=[],rs:=fn.results.toList,Post:=λv K=>v=z r/\K=H} 999 [.c c] (KU [a x,b j]) H)
  (l:fn.body=some c:=by rfl) (d:jK P g=true:=by decide+kernel) (hlen:2<=fn.ntmps:=by exact Ax rfl) (e:rl fn.ntmps [] [] c=true:=by decide+kernel):C2 P g f z a b:=
 u2 999 k h l d hlen e
def v3[i:Nonempty (P.follows .mixedOrders=true)](k:P.funcs[g]?=some fn){f:α->β->γ->Option θ}(h:∀T H x j v r,f x j v=some r->True->Wf {P:=P,T:=T,n:=fn.ntmps,E:=[],D:=[],rs:=fn.results.toList,Post:=λv K=>v=z r/\K=H} 999 [.c c] (KU [a x,b j,y v]) H)
  (l:fn.body=some c:=by rfl) (d:jK P g=true:=by decide+kernel) (hlen:3<=fn.ntmps:=by exact Ax rfl) (e:rl fn.ntmps [] [] c=true:=by decide+kernel):C3 P g f z a b y:=
 u3 999 k h l d hlen e
def v4[i:Nonempty (P.follows .mixedOrders=true)](l:P.funcs[g]?=some fn){f:α->β->γ->δ->Option θ}(h:∀T H x k v w r,f x k v w=some r->True->Wf {P:=P,T:=T,n:=fn.ntmps,E:=[],D:=[],rs:=fn.results.toList,Post:=λv K=>v=z r/\K=H} 999 [.c c] (KU [a x,b k,y v,d w]) H)
  (m:fn.body=some c:=by rfl) (e:jK P g=true:=by decide+kernel) (hlen:4<=fn.ntmps:=by exact Ax rfl) (j:rl fn.ntmps [] [] c=true:=by decide+kernel):C4 P g f z a b y d:=
 u4 999 l h m e hlen j
def v5[i:Nonempty (P.follows .mixedOrders=true)](m:P.funcs[g]?=some fn){f:α->β->γ->δ->ε->Option θ}(h:∀T H x l v w u r,f x l v w u=some r->True->Wf {P:=P,T:=T,n:=fn.ntmps,E:=[],D:=[],rs:=fn.results.toList,Post:=λv K=>v=z r/\K=H} 999 [.c c] (KU [a x,b l,y v,d w,e u]) H)
  (o:fn.body=some c:=by rfl) (j:jK P g=true:=by decide+kernel) (hlen:5<=fn.ntmps:=by exact Ax rfl) (k:rl fn.ntmps [] [] c=true:=by decide+kernel):C5 P g f z a b y d e:=
 u5 999 m h o j hlen k
def i1{M:Nat->α->Option θ}(h:∀n,C1 P g (M n) z a->C1 P g (M (n+1)) z a)(c:∀x,M 0 x=none:=by intros;rfl){n:Nat}:C1 P g (M n) z a:=by
 induction n with
 |zero=>intro T H x r b;rw[c] at b;cases b
 |succ n d=>exact h n d
def i2{M:Nat->α->β->Option θ}(h:∀n,C2 P g (M n) z a b->C2 P g (M (n+1)) z a b)(e:∀x c,M 0 x c=none:=by intros;rfl){n:Nat}:C2 P g (M n) z a b:=by
 induction n with
 |zero=>intro T H x c r d;rw[e] at d;cases d
 |succ n f=>exact h n f
def i3{M:Nat->α->β->γ->Option θ}(h:∀n,C3 P g (M n) z a b y->C3 P g (M (n+1)) z a b y)(e:∀x c v,M 0 x c v=none:=by intros;rfl){n:Nat}:C3 P g (M n) z a b y:=by
 induction n with
 |zero=>intro T H x c v r d;rw[e] at d;cases d
 |succ n f=>exact h n f
def i4{M:Nat->α->β->γ->δ->Option θ}(h:∀n,C4 P g (M n) z a b y d->C4 P g (M (n+1)) z a b y d)(f:∀x c v w,M 0 x c v w=none:=by intros;rfl){n:Nat}:C4 P g (M n) z a b y d:=by
 induction n with
 |zero=>intro T H x c v w r e;rw[f] at e;cases e
 |succ n i=>exact h n i
end
end Go.jN
