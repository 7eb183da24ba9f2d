/- Part of the proof of KernelAccepts, KernelDoes: layer. -/
import Derived.Test.YtobcafblgapgfaaGreatDoorL12
set_option linter.all false
namespace Go.ke
open Go Go.fB
inductive It where
 |c (x:Code)|b (id:Nat)|h (K:Fr->cW->Prop)
def Ra:List (Nat×Bool×List Bool)->Nat->Bool×List Bool
 |[],_=>(false,[])|x::l,i=>if i=x.1 then x.2 else Ra l i
structure Cx where
 P:Program
 T:dx
 n:Nat
 E:List Nat
 D:List (Nat×Bool×List Bool)
 rs:List ResultVar
 Post:AV->cW->Prop
 st:Nat->Bool:=λ_=>false
 cl:Nat->Nat:=λ_=>0
def tq(n:Nat)(E:List Nat)(D:List (Nat×Bool×List Bool)):Code->Bool
 |.seq a b=>tq n E D a&&tq n E D b|.cond c a b=>iD c&&(tq n E D a&&tq n E D b)|.block _ a=>tq n E D a|.loop a=>tq n E D a|.scope a=>tq n E D a|.region _ ops false=>xA n ops|.region id ops true=>xA n ops&&wI E ops (λi=>(Ra D id).2.getD i true)|_=>true
def SQ(X:Cx):List It->Exit->Fr->cW->Prop
 |[],e,fr,H=>uL X.P X.rs X.Post e fr H|i::S,e,fr,H=>match i,e with
  |.c x,.normal=>X.P.follows .mixedOrders=true->tq X.n X.E X.D x=true->fg X.P X.T X.n x (SQ X S) fr H|.b id,.exit j=>if j=id then SQ X S .normal fr H else SQ X S (.exit j) fr H|.h K,.normal=>K fr H|_,e=>SQ X S e fr H
def C8(id:Nat):List It->Option (List It)
 |[]=>none|.b j::S=>if j=id then some S else C8 id S|_::S=>C8 id S
def O1(A B:Fr->cW->Prop)(v:AV)(fr:Fr)(H:cW):Prop:=J8 v (A fr H) (B fr H)
def Wf(X:Cx):Nat->List It->Fr->cW->Prop
 |0,S,fr,H=>SQ X S .normal fr H|_+1,[],fr,H=>uL X.P X.rs X.Post .normal fr H|k+1,.b _::S,fr,H=>Wf X k S fr H|_+1,.h K::_,fr,H=>K fr H|k+1,.c x::S,fr,H=>match x with
  |.seq a b=>Wf X k (.c a::.c b::S) fr H|.skip=>Wf X k S fr H|.label _=>Wf X k S fr H|.scope a=>Wf X k (.c a::S) fr H|.block id a=>Wf X k (.c a::.b id::S) fr H|.exit id=>match C8 id S with|some d=>Wf X k d fr H|none=>False
  |.ret=>uL X.P X.rs X.Post .ret fr H|.cond c a b=>O1 (Wf X k (.c a::S)) (Wf X k (.c b::S)) (ev X.T fr c) fr H|.region _ ops false=>gK X.P X.T X.E ops ops.toList (Wf X k S) fr H|.region id ops true=>eR X.P X.T X.E ops ⟨(Ra X.D id).1,X.st,X.cl⟩ (Ra X.D id).2 ops.toList (Wf X k S) fr H|x=>SQ X (.c x::S) .normal fr H
def Rm(X:Cx):∀(S:List It) (fr:Fr) (H:cW),SQ X S .ret fr H=uL X.P X.rs X.Post .ret fr H
 |[],_,_=>rfl|i::S,fr,H=>by
  have:=Rm X S fr H;cases i<;>exact this
def OT(X:Cx)(l:Nat):∀(S:List It) (fr:Fr) (H:cW),SQ X S (.goto l) fr H=False
 |[],_,_=>rfl|i::S,fr,H=>by
  have:=OT X l S fr H;cases i<;>exact this
def KA(X:Cx)(id:Nat):∀(S a:List It) (fr:Fr) (H:cW),C8 id S=some a->SQ X S (.exit id) fr H=SQ X a .normal fr H
 |[],_,_,_,h=>by cases h
 |i::S,a,fr,H,h=>by
  cases i with
  |b j=>
   simp only[C8] at h;show(if id=j then SQ X S .normal fr H else SQ X S (.exit id) fr H)=_
   split at h
   ·rename_i e;rw[cO e.symm,gh h]
   ·rename_i e;rw[cK (λd=>e d.symm)];exact KA X id S a fr H h
  |c x=>exact KA X id S a fr H h|h K=>exact KA X id S a fr H h
def ZC(K:Fr->cW->Prop):Exit->Fr->cW->Prop
 |.normal,fr,H=>K fr H|_,_,_=>False
def jI(X:Cx):∀(k:Nat) (S:List It) (fr:Fr) (H:cW),Wf X k S fr H->SQ X S .normal fr H
 |0,_,_,_,h=>h|_+1,[],_,_,h=>h|k+1,.b _::S,fr,H,h=>jI X k S fr H h|_+1,.h _::_,_,_,h=>h|k+1,.c x::S,fr,H,h=>by
  have up:∀{c:Code} {S:List It} {fr:Fr} {H:cW},fg X.P X.T X.n c (ZC (Wf X k S)) fr H->fg X.P X.T X.n c (SQ X S) fr H:=λh=>h.mono λe fr' H' g=>by
   cases e<;>first|exact jI X k _ _ _ g|exact g.elim
  intro hm f;cases x with
  |seq a b=>
   have h1:Wf X k (.c a::.c b::S) fr H:=h;have i:=jI X k _ _ _ h1;simp only[tq,ft] at f;refine fg.seq ((i hm f.1).mono λe fr' H' g=>?_)
   cases e<;>first|exact g hm f.2|exact g
  |skip=>exact fg.skip (jI X k S fr H h)|label l=>exact fg.label (jI X k S fr H h)|scope a=>
   have i:=jI X k (.c a::S) fr H h;refine fg.scope ((i hm f).mono λe fr' H' g=>?_)
   cases e<;>first|exact⟨trivial,g⟩|(rw[OT] at g;exact g.elim)
  |block id a=>
   have i:=jI X k (.c a::.b id::S) fr H h;refine fg.block ((i hm f).mono λe fr' H' g=>?_);cases e<;>exact g
  |exit id=>
   have h1:(match C8 id S with|some j=>Wf X k j fr H|none=>False):=h
   split at h1
   ·rename_i j hs;refine fg.exit ?_;rw[KA X id S j fr H hs];exact jI X k j fr H h1
   ·exact h1.elim
  |ret=>
   refine fg.ret ?_;rw[Rm];exact h
  |cond c a b=>
   simp only[tq,ft] at f;have h1:J8 (ev X.T fr c) (Wf X k (.c a::S) fr H) (Wf X k (.c b::S) fr H):=h;refine fg.s9 (λA B m o=>?_) f.1;generalize ev X.T fr c=v at h1;cases v with
   |sc w=>
    cases w with
    |bool t=>
     cases t with
     |true=>exact m _ _ (jI X k _ _ _ h1 hm f.2.1)|false=>exact o _ _ (jI X k _ _ _ h1 hm f.2.2)
    |_=>exact h1.elim
   |_=>exact h1.elim
  |region id ops d=>
   cases d with
   |false=>exact up (fg.region X.E f h)|true=>
    simp only[tq,ft] at f;exact up (fg.Ug X.E ⟨(Ra X.D id).1,X.st,X.cl⟩ (Ra X.D id).2 hm f.1 f.2 h)
  |_=>exact h hm f
section
variable{X:Cx} {k:Nat} {S:List It} {fr:Fr} {H:cW} {a b:Code} {c:Operand} {id:Nat} {ops:Array Oper} {A B:Fr->cW->Prop}
@[simp] theorem abI:Wf X (k+1) [] fr H=uL X.P X.rs X.Post .normal fr H:=rfl
@[simp] theorem acN:Wf X (k+1) (.b id::S) fr H=Wf X k S fr H:=rfl
@[simp] theorem acw{K:Fr->cW->Prop}:Wf X (k+1) (.h K::S) fr H=K fr H:=rfl
@[simp] theorem abO:Wf X (k+1) (.c (.seq a b)::S) fr H=Wf X k (.c a::.c b::S) fr H:=rfl
@[simp] theorem aa':Wf X (k+1) (.c .skip::S) fr H=Wf X k S fr H:=rfl
@[simp] theorem aaM:Wf X (k+1) (.c (.block id a)::S) fr H=Wf X k (.c a::.b id::S) fr H:=rfl
@[simp] theorem abg:Wf X (k+1) (.c (.exit id)::S) fr H=match C8 id S with|some a=>Wf X k a fr H|none=>False:=rfl
@[simp] theorem abx:Wf X (k+1) (.c .ret::S) fr H=uL X.P X.rs X.Post .ret fr H:=rfl
@[simp] theorem abj:Wf X (k+1) (.c (.cond c a b)::S) fr H=O1 (Wf X k (.c a::S)) (Wf X k (.c b::S)) (ev X.T fr c) fr H:=rfl
@[simp] theorem abU:Wf X (k+1) (.c (.region id ops false)::S) fr H=gK X.P X.T X.E ops ops.toList (Wf X k S) fr H:=rfl
@[simp] theorem abd:Wf X (k+1) (.c (.region id ops true)::S) fr H=eR X.P X.T X.E ops ⟨(Ra X.D id).1,X.st,X.cl⟩ (Ra X.D id).2 ops.toList (Wf X k S) fr H:=rfl
@[simp] theorem VX:O1 A B (.sc (.bool true)) fr H=A fr H:=rfl
@[simp] theorem U':O1 A B (.sc (.bool false)) fr H=B fr H:=rfl
@[simp] theorem ab_:C8 id (.c a::S)=C8 id S:=rfl
@[simp] theorem ab2{K:Fr->cW->Prop}:C8 id (.h K::S)=C8 id S:=rfl
@[simp] theorem abQ{j:Nat}:C8 id (.b j::S)=if j=id then some S else C8 id S:=rfl
@[simp] theorem aa2{i:Nat}:Ra [] i=(false,[]):=rfl
@[simp] theorem Zw{x:Nat×Bool×List Bool}{l:List (Nat×Bool×List Bool)}{i:Nat}:Ra (x::l) i=if i=x.1 then x.2 else Ra l i:=rfl
@[simp] theorem Tf{P:Program}{T:dx}{E:List Nat}{q:Qt}{o:Oper}{rest:List Oper}{K:Fr->cW->Prop}:eR P T E ops q [] (o::rest) K fr H=eR P T E ops q [true] (o::rest) K fr H:=rfl
def wg(k:Nat)(h:Wf X k S fr H):Wf X 0 S fr H:=jI X k S fr H h
def wj(f k2:Nat)(R:Fr->cW->Prop)(h1:∀K:Fr->cW->Prop,(∀fr H,R fr H->K fr H)->Wf X f (.c a::.h K::S) fr H)(i:∀fr H,R fr H->Wf X k2 (.c b::S) fr H):Wf X 0 (.c (.seq a b)::S) fr H:=by
 intro hm d;simp only[tq,ft] at d;have j:=jI X f _ _ _ (h1 (SQ X (.c b::S) .normal) λfr H h=>jI X k2 _ _ _ (i fr H h));refine fg.seq ((j hm d.1).mono λe fr' H' g=>?_)
 cases e<;>first|exact g hm d.2|exact g
def wl(d:Nat)(I:Nat->Fr->cW->Prop)(m:Nat)(g:I m fr H)(h1:∀m fr H,I m fr H->∀K:Fr->cW->Prop,(∀fr' H' f,f<m->I f fr' H'->K fr' H')->Wf X d (.c a::.h K::S) fr H):Wf X (k+1) (.c (.loop a)::S) fr H:=by
 intro hm b;refine fg.Ma I m g λm fr H i K j=>?_;refine((jI X d _ _ _ (h1 m fr H i K j)) hm b).mono λe fr' H' l=>?_;cases e<;>exact l
end
def wi{P:Program}{T:dx}{H:cW}{f:FuncId}{args:List AV}{Post:AV->cW->Prop}{fn:Func}{c:Code}(hm:P.follows .mixedOrders=true)(d:P.funcs[f]?=some fn)(E:List Nat)(D:List (Nat×Bool×List Bool))(k:Nat)
  (h:Wf {P:=P,T:=T,n:=fn.ntmps,E:=E,D:=D,rs:=fn.results.toList,Post:=Post} k [.c c] (LX args) H)
  (e:fn.body=some c:=by rfl) (a:jm P f=true:=by decide+kernel) (hlen:args.length<=fn.ntmps:=by exact Tb rfl) (b:tq fn.ntmps E D c=true:=by decide+kernel):dL P T f args H Post:=
 dL.intro d e a hlen (((jI _ _ _ _ _ h) hm b).mono λ_ _ _ g=>g)
def wiS{P:Program}{T:dx}{H:cW}{f:FuncId}{args:List AV}{Post:AV->cW->Prop}{fn:Func}{c:Code}(st:Nat->Bool)(cl:Nat->Nat)(hm:P.follows .mixedOrders=true)(d:P.funcs[f]?=some fn)(E:List Nat)(D:List (Nat×Bool×List Bool))(k:Nat)
  (h:Wf {P:=P,T:=T,n:=fn.ntmps,E:=E,D:=D,rs:=fn.results.toList,Post:=Post,st:=st,cl:=cl} k [.c c] (LX args) H)
  (e:fn.body=some c:=by rfl) (a:jm P f=true:=by decide+kernel) (hlen:args.length<=fn.ntmps:=by exact Tb rfl) (b:tq fn.ntmps E D c=true:=by decide+kernel):dL P T f args H Post:=
 dL.intro d e a hlen (((jI _ _ _ _ _ h) hm b).mono λ_ _ _ g=>g)
end Go.ke
namespace Go.ke
open Go Go.fB
section
variable{α β γ δ ε ζ ρ σ τ κ:Type} {E A:Prop} {r:ρ} {c:Bool}
def Aj(e:E)(a:A):E/\A:=⟨e,a⟩
def ee(e:E){o:Option α}{f:α->Option ρ}(m:cI o f=some r):∃a,(E/\o=some a)/\f a=some r:=by
 obtain⟨a,h1,b⟩:=dm m;exact⟨a,⟨e,h1⟩,b⟩
def VB(e:E){o:Option (α×β)}{f:α->β->Option ρ}(m:cT o f=some r):∃a b,(E/\o=some (a,b))/\f a b=some r:=by
 obtain⟨a,b,h1,c⟩:=gz m;exact⟨a,b,⟨e,h1⟩,c⟩
def Bo3(e:E){o:Option (α×β×γ)}{f:α->β->γ->Option ρ}(m:ik o f=some r):∃a b c,(E/\o=some (a,b,c))/\f a b c=some r:=by
 obtain⟨a,b,c,h1,d⟩:=vh m;exact⟨a,b,c,⟨e,h1⟩,d⟩
def Bo4(e:E){o:Option (α×β×γ×δ)}{f:α->β->γ->δ->Option ρ}(m:OK o f=some r):∃a b c d,(E/\o=some (a,b,c,d))/\f a b c d=some r:=by
 obtain⟨a,b,c,d,h1,g⟩:=Nd m;exact⟨a,b,c,d,⟨e,h1⟩,g⟩
def Ck(e:E){o:Option ρ}(m:fD c o=some r):(E/\c=true)/\o=some r:=⟨⟨e,(lK m).1⟩,(lK m).2⟩
def Io(e:E){a b:Option ρ}(m:(if c then a else b)=some r):((E/\c=true)/\a=some r)\/((E/\c=false)/\b=some r):=
 (hZ m).imp (λh=>⟨⟨e,h.1⟩,h.2⟩) (λh=>⟨⟨e,h.1⟩,h.2⟩)
def Pb(c:Bool)(e:E):(E/\c=true)\/(E/\c=false):=by cases c<;>simp[e]
@[simp] theorem YZ(a:Int):qj a a=false:=by simp[qj]
def cC(n:σ->Option τ)(k:σ⊕ρ->Option τ):eL σ ρ->Option τ
 |.next s=>n s|.AI s=>k (.inl s)|.ret x=>k (.inr x)
def Ll(o:Option (eL σ ρ))(n:σ->Option (σ⊕ρ))(k:σ⊕ρ->Option τ):cI (cI o (Mi n)) k=cI o (cC (λs=>cI (n s) k) k):=by
 cases o with
 |none=>rfl|some c=>cases c<;>rfl
def Qb{n g:σ->Option τ}{h:ρ->Option τ}{s:σ}{w:τ}(q:cC n (eG g h) (.AI s)=some w):g s=some w:=q
variable{X:Cx} {S:List It} {fr:Fr} {H:cW} {a b:Code} {w:τ}
def Wj{d:κ}{e:κ->Option τ}(m:df d e=some w)(g k2:Nat)(R:κ->Fr->cW->Prop)(h1:∀(j:κ) (K:Fr->cW->Prop),(∀f h,R j f h->K f h)->e j=some w->Wf X g (.c a::.h K::S) fr H)
  (i:∀f h,R d f h->Wf X k2 (.c b::S) f h):Wf X 0 (.c (.seq a b)::S) fr H:=
 wj g k2 (R d) (λK k=>h1 d K k m) i
def Wr(e:E){l:List α}{F:Int->α->σ->Option (eL σ ρ)}{k:σ⊕ρ->Option τ}{d:σ}(m:fD (dK l) (df F λF=>cI (dN F l 0 d) k)=some w)(q:Nat)(I:Int->σ->Fr->cW->Prop)(v:I 0 d fr H)
  (y:∀s f h K,I (di l) s f h->k (.inl s)=some w->Wf X q (.c a::.h K::S) f h)
  (hs:∀j x s f h K n c,I j s f h->((E/\qj j (di l)=true)/\de l j=some x)->F j x s=some c->cC n k c=some w->(∀g o p,I (dF .i64 j 1) g o p->n g=some w->K o p)->Wf X q (.c a::.h K::S) f h)
  {z:Nat}:Wf X (z+1) (.c (.loop a)::S) fr H:=by
 obtain⟨r,m⟩:=lK m;have m:cI (dN F l 0 d) k=some w:=m;refine wl q (λn f h=>∃(i:Nat) (s:σ),I (i:Int) s f h/\i+n=l.length/\cI (dN F (l.drop i) i s) k=some w) l.length ⟨0,d,v,aa4,by simpa using m⟩ ?_;rintro n f h ⟨i,s,u,hi,hm⟩ K A;rcases n with _|n
 ·have t:i=l.length:=VW
  subst t;rw[Da (gu _),om] at hm;exact y s f h K u hm
 ·obtain⟨x,hd,hg⟩:=Ox (l:=l) (i:=i) VW;rw[hd,dJ,Ll] at hm;obtain⟨c,B,C⟩:=dm hm;refine hs i x s f h K _ c u ⟨⟨e,Sn VW⟩,hg⟩ B C λg o p b hn=>A o p n (QI _) ⟨i+1,g,?_,VW,hn⟩;rw[KO VW r] at b;exact b
def Wn{F:σ->Option (eL σ ρ)}{k:σ⊕ρ->Option τ}{b:σ}(m:df F (λF=>cI (lp F FU b) k)=some w)(j:Nat)(I:σ->Fr->cW->Prop)(l:I b fr H)
  (hs:∀s f h K n c,I s f h->F s=some c->cC n k c=some w->(∀d e g,I d e g->n d=some w->K e g)->Wf X j (.c a::.h K::S) f h)
  {o:Nat}:Wf X (o+1) (.c (.loop a)::S) fr H:=by
 have m:cI (lp F FU b) k=some w:=m;refine wl j (λn f h=>∃(s:σ),I s f h/\cI (lp F n s) k=some w) FU ⟨b,l,m⟩ ?_;rintro n f h ⟨s,p,hm⟩ K q;rcases n with _|n
 ·cases hm
 ·rw[kc,Ll] at hm;obtain⟨c,r,t⟩:=dm hm;exact hs s f h K _ c p r t λd e g i hn=>q e g n (QI _) ⟨d,i,hn⟩
variable{P:Program} {T:dx} {EE:List Nat} {ops:Array Oper} {q:Qt} {bs:List Bool} {rest:List Oper} {K:Fr->cW->Prop} {H':cW} {d:Option Nat} {as:List AV} {rr:AV} {g:FuncId}
def Cf(h:du P T g as H rr H')(a:gK P T EE ops rest K (fr.put d rr) H'):h9 P T EE ops (.func (.func g) [] []) as d rest K fr H:=h9.fn h a
def Cs(h:du P T g as H rr H')(a:eR P T EE ops q bs rest K (fr.put d rr) H')(b:QK q H H':=by simp):jD P T EE ops q bs (.func (.func g) [] []) as d rest K fr H:=jD.fn h b a
def Ao{t e sz d:Nat}{s x:AV}{f:α->AV}{D:List Nat}{tag a:Tag}(l m:List α)(h:gM fr.tm fr.ei D tag l.length)(b:nT P t=some (e,sz))(hlen:eJ l m=true)
  (g:K {fr with env:=fN fr.env d (.slice (.loc d (fr.ei d+1)) ((fa l m).map f)),tm:=fN (tY tag fr.tm) d (some (fa l m).length),ei:=fN fr.ei d (fr.ei d+1)} H)
  (hs:s=.slice tag (l.map f):=by first|rfl|simp) (i:x=.slice a (m.map f):=by first|rfl|simp) (c:∀x,(f x).cells.length=sz:=by intro x;simp):rC P t s x d K fr H:=
 rC.own l m h b c hlen hs i g
def Ad{t e sz d:Nat}{s x:AV}{f:α->AV}{D:List Nat}{tag a:Tag}(l m:List α)(h:gM fr.tm fr.ei D tag l.length)(b:nT P t=some (e,sz))(hlen:eJ l m=true)
  (g:K {fr with env:=fN fr.env d (.slice (.loc d (fr.ei d+1)) ((fa l m).map f)),tm:=fN (tY tag fr.tm) d (some (fa l m).length),ei:=fN fr.ei d (fr.ei d+1)} H)
  (hs:s=.slice tag (l.map f):=by first|rfl|simp) (i:x=.slice a (m.map f):=by first|rfl|simp) (c:∀x,(f x).cells.length=sz:=by intro x;simp):Ay P t s x d K fr H:=
 Ay.own l m h b c hlen hs i g
end
attribute [simp] uL
end Go.ke
namespace Go.ke
open Go Go.fB
abbrev sI(n:Int):AV:=.sc (.int .i64 n)
abbrev sB(b:Bool):AV:=.sc (.bool b)
abbrev sL{α:Type}(f:α->AV)(l:List α):AV:=.slice .hY (l.map f)
abbrev sT{α:Type}(t:Tag)(f:α->AV)(l:List α):AV:=.slice t (l.map f)
abbrev Ow{α:Type}(f:Fr)(D:List Nat)(t:Tag)(l:List α):Prop:=gM f.tm f.ei D t l.length
section
variable{tm:Nat->Option Nat} {ei:Nat->Nat} {D D':List Nat} {n:Nat} {t:Tag}
def On(d:Nat)(h:d∈D:=by decide):gM (fN tm d (some n)) (fN ei d (ei d+1)) D (.loc d (ei d+1)) n:=gM.new h
end
section
variable{α β γ δ ε ζ η θ:Type}
abbrev t2(a:α->AV)(b:β->AV)(p:α×β):AV:=.tuple [a p.1,b p.2]
abbrev t3(a:α->AV)(b:β->AV)(c:γ->AV)(p:α×β×γ):AV:=.tuple [a p.1,b p.2.1,c p.2.2]
@[simp] theorem ach(a:α->AV)(b:β->AV)(x:α)(y:β):t2 a b (x,y)=.tuple [a x,b y]:=rfl
@[simp] theorem ack(a:α->AV)(b:β->AV)(c:γ->AV)(x:α)(y:β)(z:γ):t3 a b c (x,y,z)=.tuple [a x,b y,c z]:=rfl
abbrev C0(P:Program)(g:FuncId)(f:Option θ)(z:θ->AV):Prop:=∀{T:dx} {H:cW} {r:θ},f=some r->du P T g [] H (z r) H
abbrev C1(P:Program)(g:FuncId)(f:α->Option θ)(z:θ->AV)(a:α->AV):Prop:=∀{T:dx} {H:cW} {x:α} {r:θ},f x=some r->du P T g [a x] H (z r) H
abbrev C2(P:Program)(g:FuncId)(f:α->β->Option θ)(z:θ->AV)(a:α->AV)(b:β->AV):Prop:=∀{T:dx} {H:cW} {x:α} {y:β} {r:θ},f x y=some r->du P T g [a x,b y] H (z r) H
abbrev C3(P:Program)(g:FuncId)(f:α->β->γ->Option θ)(z:θ->AV)(a:α->AV)(b:β->AV)(c:γ->AV):Prop:=∀{T:dx} {H:cW} {x:α} {y:β} {v:γ} {r:θ},f x y v=some r->du P T g [a x,b y,c v] H (z r) H
abbrev C4(P:Program)(g:FuncId)(f:α->β->γ->δ->Option θ)(z:θ->AV)(a:α->AV)(b:β->AV)(c:γ->AV)(d:δ->AV):Prop:=∀{T:dx} {H:cW} {x:α} {y:β} {v:γ} {w:δ} {r:θ},f x y v w=some r->du P T g [a x,b y,c v,d w] H (z r) H
abbrev C5(P:Program)(g:FuncId)(f:α->β->γ->δ->ε->Option θ)(z:θ->AV)(a:α->AV)(b:β->AV)(c:γ->AV)(d:δ->AV)(e:ε->AV):Prop:=∀{T:dx} {H:cW} {x:α} {y:β} {v:γ} {w:δ} {u:ε} {r:θ},f x y v w u=some r->du P T g [a x,b y,c v,d w,e u] H (z r) H
end
end Go.ke
namespace Go.ke
open Go Go.fB
abbrev nL:AV:=.slice .full []
abbrev bx(f:Fr)(b:Nat)(c:List AV):Prop:=f.1 b=AV.fC b (f.gen b) 0/\f.box b=some c
attribute [simp] bx
section
variable{E G:Prop} {ρ:Type} {r:ρ} {c:Bool} {a b:Option ρ}
def Iq(e:E)(m:(if c then a else b)=some r)(h1:E/\c=true->a=some r->G)(d:E/\c=false->b=some r->G):G:=
 (Io e m).elim (λh=>h1 h.1 h.2) (λh=>d h.1 h.2)
def Ir(e:E)(m:(if c then a else b)=some r)(d:E/\c=false->b=some r->G)(h1:E/\c=true->a=some r->G):G:=Iq e m h1 d
def Il(e:E)(m:(if c then a else b)=some r)(d:E/\c=false->b=some r->G)(h1:E/\c=true->a=some r->G:=by intro e m;cases m;(try cases z);(try cases z);simp[e];done):G:=Iq e m h1 d
def Im(e:E)(m:(if c then a else b)=some r)(h1:E/\c=true->a=some r->G)(d:E/\c=false->b=some r->G:=by intro e m;cases m;(try cases z);(try cases z);simp[e];done):G:=Iq e m h1 d
def au(h:G:=by cases m;(try cases z);(try cases z);simp[e];done):G:=h
def aj(h:G:=by simp[e];exact g _ _ aa8):G:=h
def VG(h:G:=by simp[e];exact g _ _ ⟨aa8,m⟩):G:=h
def iC(h:G:=by simp[e];exact g _ _ ⟨_,aa8,m⟩):G:=h
def ak2(h:G:=by simp[e];exact g _ _ ⟨_,_,aa8,m⟩):G:=h
def ak3(h:G:=by simp[e];exact g _ _ ⟨_,_,_,aa8,m⟩):G:=h
def al(h:G:=by simp[e];cases m;exact p _ _ _ aa8 z):G:=h
end
section
variable{P:Program} {T:dx} {EE:List Nat} {ops:Array Oper} {q:Qt} {bs:List Bool} {rest:List Oper} {K:Fr->cW->Prop} {H:cW} {d:Option Nat} {as:List AV} {g:FuncId} {fr:Fr} {ρ α β γ δ ε:Type} {r:ρ}
def dX{o:Option α}{F:α->Option ρ}{z:α->AV}{W:α->cW}(m:cI o F=some r)(h:∀{y},o=some y->du P T g as H (z y) (W y))(a:∀y,F y=some r->gK P T EE ops rest K (fr.put d (z y)) (W y)):h9 P T EE ops (.func (.func g) [] []) as d rest K fr H:=by
 obtain⟨y,h1,b⟩:=dm m;exact Cf (h h1) (a _ b)
def g_{o:Option (α×β)}{F:α->β->Option ρ}{z:α->β->AV}{W:α->β->cW}(m:cT o F=some r)(h:∀{y a},o=some (y,a)->du P T g as H (z y a) (W y a))(b:∀y a,F y a=some r->gK P T EE ops rest K (fr.put d (z y a)) (W y a)):h9 P T EE ops (.func (.func g) [] []) as d rest K fr H:=by
 obtain⟨y,a,h1,c⟩:=gz m;exact Cf (h h1) (b _ _ c)
def MI{o:Option (α×β×γ)}{F:α->β->γ->Option ρ}{z:α->β->γ->AV}{W:α->β->γ->cW}(m:ik o F=some r)(h:∀{y a u},o=some (y,a,u)->du P T g as H (z y a u) (W y a u))(b:∀y a u,F y a u=some r->gK P T EE ops rest K (fr.put d (z y a u)) (W y a u)):h9 P T EE ops (.func (.func g) [] []) as d rest K fr H:=by
 obtain⟨y,a,u,h1,c⟩:=vh m;exact Cf (h h1) (b _ _ _ c)
def dT{o:Option α}{F:α->Option ρ}{z:α->AV}{W:α->cW}(m:cI o F=some r)(h:∀{y},o=some y->du P T g as H (z y) (W y))(a:∀y,F y=some r->eR P T EE ops q bs rest K (fr.put d (z y)) (W y))(b:∀y,QK q H (W y):=by simp):jD P T EE ops q bs (.func (.func g) [] []) as d rest K fr H:=by
 obtain⟨y,h1,c⟩:=dm m;exact Cs (h h1) (a _ c) (b _)
def kU{o:Option (α×β)}{F:α->β->Option ρ}{z:α->β->AV}{W:α->β->cW}(m:cT o F=some r)(h:∀{y a},o=some (y,a)->du P T g as H (z y a) (W y a))(b:∀y a,F y a=some r->eR P T EE ops q bs rest K (fr.put d (z y a)) (W y a))(c:∀y a,QK q H (W y a):=by simp):jD P T EE ops q bs (.func (.func g) [] []) as d rest K fr H:=by
 obtain⟨y,a,h1,e⟩:=gz m;exact Cs (h h1) (b _ _ e) (c _ _)
def Cs3{o:Option (α×β×γ)}{F:α->β->γ->Option ρ}{z:α->β->γ->AV}{W:α->β->γ->cW}(m:ik o F=some r)(h:∀{y a u},o=some (y,a,u)->du P T g as H (z y a u) (W y a u))(b:∀y a u,F y a u=some r->eR P T EE ops q bs rest K (fr.put d (z y a u)) (W y a u))(c:∀y a u,QK q H (W y a u):=by simp):jD P T EE ops q bs (.func (.func g) [] []) as d rest K fr H:=by
 obtain⟨y,a,u,h1,e⟩:=vh m;exact Cs (h h1) (b _ _ _ e) (c _ _ _)
end
section
variable{ρ α σ τ κ:Type} {E:Prop} {X:Cx} {S:List It} {fr:Fr} {H:cW} {a b:Code} {w:τ}
def Ke(d k2:Nat)(R:Fr->cW->Prop)(e:∀fr H,R fr H->Wf X k2 (.c b::S) fr H)(h1:∀K:Fr->cW->Prop,(∀fr H,R fr H->K fr H)->Wf X d (.c a::.h K::S) fr H):Wf X 0 (.c (.seq a b)::S) fr H:=wj d k2 R h1 e
def wm{d:κ}{e:κ->Option τ}(m:df d e=some w)(g k2:Nat)(R:κ->Fr->cW->Prop)(i:∀f h,R d f h->Wf X k2 (.c b::S) f h)(h1:∀(j:κ) (K:Fr->cW->Prop),(∀f h,R j f h->K f h)->e j=some w->Wf X g (.c a::.h K::S) fr H):Wf X 0 (.c (.seq a b)::S) fr H:=Wj m g k2 R h1 i
def Ap(e:E){l:List α}{F:Int->α->σ->Option (eL σ ρ)}{k:σ⊕ρ->Option τ}{d:σ}(m:fD (dK l) (df F λF=>cI (dN F l 0 d) k)=some w)(b:Nat)(I:Int->σ->Fr->cW->Prop)(p:I 0 d fr H)
 (hs:∀j x s f h K n c,I j s f h->((E/\qj j (di l)=true)/\de l j=some x)->F j x s=some c->cC n k c=some w->(∀g i o,I (dF .i64 j 1) g i o->n g=some w->K i o)->Wf X b (.c a::.h K::S) f h)
 (q:∀s f h K,I (di l) s f h->k (.inl s)=some w->Wf X b (.c a::.h K::S) f h)
 {r:Nat}:Wf X (r+1) (.c (.loop a)::S) fr H:=Wr e m b I p q hs
end
section
variable{P:Program} {fn:Func} {g:FuncId} {c:Code} {α β γ δ ε θ:Type} {z:θ->AV} {a:α->AV} {b:β->AV} {y:γ->AV} {d:δ->AV} {e:ε->AV}
def u0[i:Nonempty (P.follows .mixedOrders=true)](k:Nat)(d:P.funcs[g]?=some fn){f:Option θ}(h:∀T H r,f=some r->True->Wf {P:=P,T:=T,n:=fn.ntmps,E:=[],D:=[],rs:=fn.results.toList,Post:=λv K=>v=z r/\K=H} k [.c c] (LX []) H)
  (e:fn.body=some c:=by rfl) (a:jm P g=true:=by decide+kernel) (b:tq fn.ntmps [] [] c=true:=by decide+kernel):C0 P g f z:=
 λ{T H r} j=>i.elim λhm=>wi hm d [] [] k (h T H r j trivial) e a (ZN _) b
def u1[i:Nonempty (P.follows .mixedOrders=true)](k:Nat)(e:P.funcs[g]?=some fn){f:α->Option θ}(h:∀T H x r,f x=some r->True->Wf {P:=P,T:=T,n:=fn.ntmps,E:=[],D:=[],rs:=fn.results.toList,Post:=λv K=>v=z r/\K=H} k [.c c] (LX [a x]) H)
  (j:fn.body=some c:=by rfl) (b:jm P g=true:=by decide+kernel) (hlen:1<=fn.ntmps:=by exact Tb rfl) (d:tq fn.ntmps [] [] c=true:=by decide+kernel):C1 P g f z a:=
 λ{T H x r} l=>i.elim λhm=>wi hm e [] [] k (h T H x r l trivial) j b hlen d
def u2[i:Nonempty (P.follows .mixedOrders=true)](k:Nat)(l:P.funcs[g]?=some fn){f:α->β->Option θ}(h:∀T H x j r,f x j=some r->True->Wf {P:=P,T:=T,n:=fn.ntmps,E:=[],D:=[],rs:=fn.results.toList,Post:=λv K=>v=z r/\K=H} k [.c c] (LX [a x,b j]) H)
  (m:fn.body=some c:=by rfl) (d:jm P g=true:=by decide+kernel) (hlen:2<=fn.ntmps:=by exact Tb rfl) (e:tq fn.ntmps [] [] c=true:=by decide+kernel):C2 P g f z a b:=
 λ{T H x j r} o=>i.elim λhm=>wi hm l [] [] k (h T H x j r o trivial) m d hlen e
def u3[i:Nonempty (P.follows .mixedOrders=true)](k:Nat)(l:P.funcs[g]?=some fn){f:α->β->γ->Option θ}(h:∀T H x j v r,f x j v=some r->True->Wf {P:=P,T:=T,n:=fn.ntmps,E:=[],D:=[],rs:=fn.results.toList,Post:=λv K=>v=z r/\K=H} k [.c c] (LX [a x,b j,y v]) H)
  (m:fn.body=some c:=by rfl) (d:jm P g=true:=by decide+kernel) (hlen:3<=fn.ntmps:=by exact Tb rfl) (e:tq fn.ntmps [] [] c=true:=by decide+kernel):C3 P g f z a b y:=
 λ{T H x j v r} o=>i.elim λhm=>wi hm l [] [] k (h T H x j v r o trivial) m d hlen e
def u4[i:Nonempty (P.follows .mixedOrders=true)](k:Nat)(m:P.funcs[g]?=some fn){f:α->β->γ->δ->Option θ}(h:∀T H x l v w r,f x l v w=some r->True->Wf {P:=P,T:=T,n:=fn.ntmps,E:=[],D:=[],rs:=fn.results.toList,Post:=λv K=>v=z r/\K=H} k [.c c] (LX [a x,b l,y v,d w]) H)
  (o:fn.body=some c:=by rfl) (e:jm P g=true:=by decide+kernel) (hlen:4<=fn.ntmps:=by exact Tb rfl) (j:tq fn.ntmps [] [] c=true:=by decide+kernel):C4 P g f z a b y d:=
 λ{T H x l v w r} p=>i.elim λhm=>wi hm m [] [] k (h T H x l v w r p trivial) o e hlen j
def u5[i:Nonempty (P.follows .mixedOrders=true)](k:Nat)(o:P.funcs[g]?=some fn){f:α->β->γ->δ->ε->Option θ}(h:∀T H x m v w u r,f x m v w u=some r->True->Wf {P:=P,T:=T,n:=fn.ntmps,E:=[],D:=[],rs:=fn.results.toList,Post:=λv K=>v=z r/\K=H} k [.c c] (LX [a x,b m,y v,d w,e u]) H)
  (p:fn.body=some c:=by rfl) (j:jm P g=true:=by decide+kernel) (hlen:5<=fn.ntmps:=by exact Tb rfl) (l:tq fn.ntmps [] [] c=true:=by decide+kernel):C5 P g f z a b y d e:=
 λ{T H x m v w u r} q=>i.elim λhm=>wi hm o [] [] k (h T H x m v w u r q trivial) p j hlen l
def v0[i:Nonempty (P.follows .mixedOrders=true)](d:P.funcs[g]?=some fn){f:Option θ}(h:∀T H r,f=some r->True->Wf {P:=P,T:=T,n:=fn.ntmps,E:=[],D:=[],rs:=fn.results.toList,Post:=λv K=>v=z r/\K=H} 999 [.c c] (LX []) H)
  (e:fn.body=some c:=by rfl) (a:jm P g=true:=by decide+kernel) (b:tq fn.ntmps [] [] c=true:=by decide+kernel):C0 P g f z:=
 u0 999 d h e a b
def v1[i:Nonempty (P.follows .mixedOrders=true)](e:P.funcs[g]?=some fn){f:α->Option θ}(h:∀T H x r,f x=some r->True->Wf {P:=P,T:=T,n:=fn.ntmps,E:=[],D:=[],rs:=fn.results.toList,Post:=λv K=>v=z r/\K=H} 999 [.c c] (LX [a x]) H)
  (j:fn.body=some c:=by rfl) (b:jm P g=true:=by decide+kernel) (hlen:1<=fn.ntmps:=by exact Tb rfl) (d:tq fn.ntmps [] [] c=true:=by decide+kernel):C1 P g f z a:=
 u1 999 e h j b hlen d
def v2[i:Nonempty (P.follows .mixedOrders=true)](k:P.funcs[g]?=some fn){f:α->β->Option θ}(h:∀T H x j r,f x j=some r->True->Wf {P:=P,T:=T,n:=fn.ntmps,E:=[],D:=[],rs:=fn.results.toList,Post:=λv K=>v=z r/\K=H} 999 [.c c] (LX [a x,b j]) H)
  (l:fn.body=some c:=by rfl) (d:jm P g=true:=by decide+kernel) (hlen:2<=fn.ntmps:=by exact Tb rfl) (e:tq fn.ntmps [] [] c=true:=by decide+kernel):C2 P g f z a b:=
 u2 999 k h l d hlen e
def v3[i:Nonempty (P.follows .mixedOrders=true)](k:P.funcs[g]?=some fn){f:α->β->γ->Option θ}(h:∀T H x j v r,f x j v=some r->True->Wf {P:=P,T:=T,n:=fn.ntmps,E:=[],D:=[],rs:=fn.results.toList,Post:=λv K=>v=z r/\K=H} 999 [.c c] (LX [a x,b j,y v]) H)
  (l:fn.body=some c:=by rfl) (d:jm P g=true:=by decide+kernel) (hlen:3<=fn.ntmps:=by exact Tb rfl) (e:tq fn.ntmps [] [] c=true:=by decide+kernel):C3 P g f z a b y:=
 u3 999 k h l d hlen e
def v4[i:Nonempty (P.follows .mixedOrders=true)](l:P.funcs[g]?=some fn){f:α->β->γ->δ->Option θ}(h:∀T H x k v w r,f x k v w=some r->True->Wf {P:=P,T:=T,n:=fn.ntmps,E:=[],D:=[],rs:=fn.results.toList,Post:=λv K=>v=z r/\K=H} 999 [.c c] (LX [a x,b k,y v,d w]) H)
  (m:fn.body=some c:=by rfl) (e:jm P g=true:=by decide+kernel) (hlen:4<=fn.ntmps:=by exact Tb rfl) (j:tq fn.ntmps [] [] c=true:=by decide+kernel):C4 P g f z a b y d:=
 u4 999 l h m e hlen j
def v5[i:Nonempty (P.follows .mixedOrders=true)](m:P.funcs[g]?=some fn){f:α->β->γ->δ->ε->Option θ}(h:∀T H x l v w u r,f x l v w u=some r->True->Wf {P:=P,T:=T,n:=fn.ntmps,E:=[],D:=[],rs:=fn.results.toList,Post:=λv K=>v=z r/\K=H} 999 [.c c] (LX [a x,b l,y v,d w,e u]) H)
  (o:fn.body=some c:=by rfl) (j:jm P g=true:=by decide+kernel) (hlen:5<=fn.ntmps:=by exact Tb rfl) (k:tq fn.ntmps [] [] c=true:=by decide+kernel):C5 P g f z a b y d e:=
 u5 999 m h o j hlen k
def i1{M:Nat->α->Option θ}(h:∀n,C1 P g (M n) z a->C1 P g (M (n+1)) z a)(c:∀x,M 0 x=none:=by intros;rfl){n:Nat}:C1 P g (M n) z a:=by
 induction n with
 |zero=>intro T H x r b;rw[c] at b;cases b
 |succ n d=>exact h n d
def i2{M:Nat->α->β->Option θ}(h:∀n,C2 P g (M n) z a b->C2 P g (M (n+1)) z a b)(e:∀x c,M 0 x c=none:=by intros;rfl){n:Nat}:C2 P g (M n) z a b:=by
 induction n with
 |zero=>intro T H x c r d;rw[e] at d;cases d
 |succ n f=>exact h n f
def i3{M:Nat->α->β->γ->Option θ}(h:∀n,C3 P g (M n) z a b y->C3 P g (M (n+1)) z a b y)(e:∀x c v,M 0 x c v=none:=by intros;rfl){n:Nat}:C3 P g (M n) z a b y:=by
 induction n with
 |zero=>intro T H x c v r d;rw[e] at d;cases d
 |succ n f=>exact h n f
def i4{M:Nat->α->β->γ->δ->Option θ}(h:∀n,C4 P g (M n) z a b y d->C4 P g (M (n+1)) z a b y d)(f:∀x c v w,M 0 x c v w=none:=by intros;rfl){n:Nat}:C4 P g (M n) z a b y d:=by
 induction n with
 |zero=>intro T H x c v w r e;rw[f] at e;cases e
 |succ n i=>exact h n i
end
end Go.ke
