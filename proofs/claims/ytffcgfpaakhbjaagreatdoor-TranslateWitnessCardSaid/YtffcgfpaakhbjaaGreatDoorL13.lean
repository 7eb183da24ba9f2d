/- Part of the proof of TranslateWitness: layer. -/
import Derived.Test.YtffcgfpaakhbjaaGreatDoorL12
set_option linter.all false
namespace Go.jX
open Go Go.dF
inductive It where
 |c (x:Code)|b (id:Nat)|h (K:Fr->cd->Prop)
def N2:List (Nat×Bool×List Bool)->Nat->Bool×List Bool
 |[],_=>(false,[])|x::l,i=>if i=x.1 then x.2 else N2 l i
structure Cx where
 P:Program
 T:cW
 n:Nat
 E:List Nat
 D:List (Nat×Bool×List Bool)
 rs:List ResultVar
 Post:AV->cd->Prop
 st:Nat->Bool:=λ_=>false
 cl:Nat->Nat:=λ_=>0
def qJ(n:Nat)(E:List Nat)(D:List (Nat×Bool×List Bool)):Code->Bool
 |.seq a b=>qJ n E D a&&qJ n E D b|.cond c a b=>gE c&&(qJ n E D a&&qJ n E D b)|.block _ a=>qJ n E D a|.loop a=>qJ n E D a|.scope a=>qJ n E D a|.region _ ops false=>xr n ops|.region id ops true=>xr n ops&&xE E ops (λi=>(N2 D id).2.getD i true)|_=>true
def SQ(X:Cx):List It->Exit->Fr->cd->Prop
 |[],e,fr,H=>xT X.P X.rs X.Post e fr H|i::S,e,fr,H=>match i,e with
  |.c x,.normal=>X.P.follows .mixedOrders=true->qJ X.n X.E X.D x=true->fb X.P X.T X.n x (SQ X S) fr H|.b id,.exit j=>if j=id then SQ X S .normal fr H else SQ X S (.exit j) fr H|.h K,.normal=>K fr H|_,e=>SQ X S e fr H
def Bz(id:Nat):List It->Option (List It)
 |[]=>none|.b j::S=>if j=id then some S else Bz id S|_::S=>Bz id S
def Np(A B:Fr->cd->Prop)(v:AV)(fr:Fr)(H:cd):Prop:=HV v (A fr H) (B fr H)
def Wf(X:Cx):Nat->List It->Fr->cd->Prop
 |0,S,fr,H=>SQ X S .normal fr H|_+1,[],fr,H=>xT X.P X.rs X.Post .normal fr H|k+1,.b _::S,fr,H=>Wf X k S fr H|_+1,.h K::_,fr,H=>K fr H|k+1,.c x::S,fr,H=>match x with
  |.seq a b=>Wf X k (.c a::.c b::S) fr H|.skip=>Wf X k S fr H|.label _=>Wf X k S fr H|.scope a=>Wf X k (.c a::S) fr H|.block id a=>Wf X k (.c a::.b id::S) fr H|.exit id=>match Bz id S with|some d=>Wf X k d fr H|none=>False
  |.ret=>xT X.P X.rs X.Post .ret fr H|.cond c a b=>Np (Wf X k (.c a::S)) (Wf X k (.c b::S)) (ev X.T fr c) fr H|.region _ ops false=>fl X.P X.T X.E ops ops.toList (Wf X k S) fr H|.region id ops true=>dy X.P X.T X.E ops ⟨(N2 X.D id).1,X.st,X.cl⟩ (N2 X.D id).2 ops.toList (Wf X k S) fr H|x=>SQ X (.c x::S) .normal fr H
def PB(X:Cx):∀(S:List It) (fr:Fr) (H:cd),SQ X S .ret fr H=xT X.P X.rs X.Post .ret fr H
 |[],_,_=>rfl|i::S,fr,H=>by
  have:=PB X S fr H;cases i<;>exact this
def M_(X:Cx)(l:Nat):∀(S:List It) (fr:Fr) (H:cd),SQ X S (.goto l) fr H=False
 |[],_,_=>rfl|i::S,fr,H=>by
  have:=M_ X l S fr H;cases i<;>exact this
def HY(X:Cx)(id:Nat):∀(S a:List It) (fr:Fr) (H:cd),Bz id S=some a->SQ X S (.exit id) fr H=SQ X a .normal fr H
 |[],_,_,_,h=>by cases h
 |i::S,a,fr,H,h=>by
  cases i with
  |b j=>
   simp only[Bz] at h;show(if id=j then SQ X S .normal fr H else SQ X S (.exit id) fr H)=_
   split at h
   ·rename_i e;rw[bX e.symm,gv h]
   ·rename_i e;rw[bV (λd=>e d.symm)];exact HY X id S a fr H h
  |c x=>exact HY X id S a fr H h|h K=>exact HY X id S a fr H h
def Uh(K:Fr->cd->Prop):Exit->Fr->cd->Prop
 |.normal,fr,H=>K fr H|_,_,_=>False
def iw(X:Cx):∀(k:Nat) (S:List It) (fr:Fr) (H:cd),Wf X k S fr H->SQ X S .normal fr H
 |0,_,_,_,h=>h|_+1,[],_,_,h=>h|k+1,.b _::S,fr,H,h=>iw X k S fr H h|_+1,.h _::_,_,_,h=>h|k+1,.c x::S,fr,H,h=>by
  have up:∀{c:Code} {S:List It} {fr:Fr} {H:cd},fb X.P X.T X.n c (Uh (Wf X k S)) fr H->fb X.P X.T X.n c (SQ X S) fr H:=λh=>h.mono λe fr' H' g=>by
   cases e<;>first|exact iw X k _ _ _ g|exact g.elim
  intro hm f;cases x with
  |seq a b=>
   have i:Wf X k (.c a::.c b::S) fr H:=h;have j:=iw X k _ _ _ i;simp only[qJ,ed] at f;refine fb.seq ((j hm f.1).mono λe fr' H' g=>?_)
   cases e<;>first|exact g hm f.2|exact g
  |skip=>exact fb.skip (iw X k S fr H h)|label l=>exact fb.label (iw X k S fr H h)|scope a=>
   have j:=iw X k (.c a::S) fr H h;refine fb.scope ((j hm f).mono λe fr' H' g=>?_)
   cases e<;>first|exact⟨trivial,g⟩|(rw[M_] at g;exact g.elim)
  |block id a=>
   have j:=iw X k (.c a::.b id::S) fr H h;refine fb.block ((j hm f).mono λe fr' H' g=>?_);cases e<;>exact g
  |exit id=>
   have i:(match Bz id S with|some m=>Wf X k m fr H|none=>False):=h
   split at i
   ·rename_i m hs;refine fb.exit ?_;rw[HY X id S m fr H hs];exact iw X k m fr H i
   ·exact i.elim
  |ret=>
   refine fb.ret ?_;rw[PB];exact h
  |cond c a b=>
   simp only[qJ,ed] at f;have i:HV (ev X.T fr c) (Wf X k (.c a::S) fr H) (Wf X k (.c b::S) fr H):=h;refine fb.yM (λA B o p=>?_) f.1;generalize ev X.T fr c=v at i;cases v with
   |sc w=>
    cases w with
    |bool t=>
     cases t with
     |true=>exact o _ _ (iw X k _ _ _ i hm f.2.1)|false=>exact p _ _ (iw X k _ _ _ i hm f.2.2)
    |_=>exact i.elim
   |_=>exact i.elim
  |region id ops d=>
   cases d with
   |false=>exact up (fb.region X.E f h)|true=>
    simp only[qJ,ed] at f;exact up (fb.MR X.E ⟨(N2 X.D id).1,X.st,X.cl⟩ (N2 X.D id).2 hm f.1 f.2 h)
  |_=>exact h hm f
section
variable{X:Cx} {k:Nat} {S:List It} {fr:Fr} {H:cd} {a b:Code} {c:Operand} {id:Nat} {ops:Array Oper} {A B:Fr->cd->Prop}
@[simp] theorem aaL:Wf X (k+1) [] fr H=xT X.P X.rs X.Post .normal fr H:=rfl
@[simp] theorem acb:Wf X (k+1) (.b id::S) fr H=Wf X k S fr H:=rfl
@[simp] theorem ace{K:Fr->cd->Prop}:Wf X (k+1) (.h K::S) fr H=K fr H:=rfl
@[simp] theorem aa9:Wf X (k+1) (.c (.seq a b)::S) fr H=Wf X k (.c a::.c b::S) fr H:=rfl
@[simp] theorem aac:Wf X (k+1) (.c .skip::S) fr H=Wf X k S fr H:=rfl
@[simp] theorem X4:Wf X (k+1) (.c (.label id)::S) fr H=Wf X k S fr H:=rfl
@[simp] theorem ZO:Wf X (k+1) (.c (.scope a)::S) fr H=Wf X k (.c a::S) fr H:=rfl
@[simp] theorem Y':Wf X (k+1) (.c (.block id a)::S) fr H=Wf X k (.c a::.b id::S) fr H:=rfl
@[simp] theorem aak:Wf X (k+1) (.c (.exit id)::S) fr H=match Bz id S with|some a=>Wf X k a fr H|none=>False:=rfl
@[simp] theorem aaE:Wf X (k+1) (.c .ret::S) fr H=xT X.P X.rs X.Post .ret fr H:=rfl
@[simp] theorem aaz:Wf X (k+1) (.c (.cond c a b)::S) fr H=Np (Wf X k (.c a::S)) (Wf X k (.c b::S)) (ev X.T fr c) fr H:=rfl
@[simp] theorem abD:Wf X (k+1) (.c (.region id ops false)::S) fr H=fl X.P X.T X.E ops ops.toList (Wf X k S) fr H:=rfl
@[simp] theorem Z7:Wf X (k+1) (.c (.region id ops true)::S) fr H=dy X.P X.T X.E ops ⟨(N2 X.D id).1,X.st,X.cl⟩ (N2 X.D id).2 ops.toList (Wf X k S) fr H:=rfl
@[simp] theorem VP:Np A B (.sc (.bool true)) fr H=A fr H:=rfl
@[simp] theorem Uw:Np A B (.sc (.bool false)) fr H=B fr H:=rfl
@[simp] theorem abx:Bz id (.c a::S)=Bz id S:=rfl
@[simp] theorem aaV{K:Fr->cd->Prop}:Bz id (.h K::S)=Bz id S:=rfl
@[simp] theorem aaW{j:Nat}:Bz id (.b j::S)=if j=id then some S else Bz id S:=rfl
@[simp] theorem aax{i:Nat}:N2 [] i=(false,[]):=rfl
@[simp] theorem Zm{x:Nat×Bool×List Bool}{l:List (Nat×Bool×List Bool)}{i:Nat}:N2 (x::l) i=if i=x.1 then x.2 else N2 l i:=rfl
@[simp] theorem RQ{P:Program}{T:cW}{E:List Nat}{q:Qt}{o:Oper}{rest:List Oper}{K:Fr->cd->Prop}:dy P T E ops q [] (o::rest) K fr H=dy P T E ops q [true] (o::rest) K fr H:=rfl
def wg(k:Nat)(h:Wf X k S fr H):Wf X 0 S fr H:=iw X k S fr H h
def wj(f k2:Nat)(R:Fr->cd->Prop)(i:∀K:Fr->cd->Prop,(∀fr H,R fr H->K fr H)->Wf X f (.c a::.h K::S) fr H)(j:∀fr H,R fr H->Wf X k2 (.c b::S) fr H):Wf X 0 (.c (.seq a b)::S) fr H:=by
 intro hm d;simp only[qJ,ed] at d;have k:=iw X f _ _ _ (i (SQ X (.c b::S) .normal) λfr H h=>iw X k2 _ _ _ (j fr H h));refine fb.seq ((k hm d.1).mono λe fr' H' g=>?_)
 cases e<;>first|exact g hm d.2|exact g
def wl(d:Nat)(I:Nat->Fr->cd->Prop)(m:Nat)(g:I m fr H)(i:∀m fr H,I m fr H->∀K:Fr->cd->Prop,(∀fr' H' f,f<m->I f fr' H'->K fr' H')->Wf X d (.c a::.h K::S) fr H):Wf X (k+1) (.c (.loop a)::S) fr H:=by
 intro hm b;refine fb.M8 I m g λm fr H j K l=>?_;refine((iw X d _ _ _ (i m fr H j K l)) hm b).mono λe fr' H' n=>?_;cases e<;>exact n
end
def wi{P:Program}{T:cW}{H:cd}{f:FuncId}{args:List AV}{Post:AV->cd->Prop}{fn:Func}{c:Code}(hm:P.follows .mixedOrders=true)(d:P.funcs[f]?=some fn)(E:List Nat)(D:List (Nat×Bool×List Bool))(k:Nat)
  (h:Wf {P:=P,T:=T,n:=fn.ntmps,E:=E,D:=D,rs:=fn.results.toList,Post:=Post} k [.c c] (J8 args) H)
  (e:fn.body=some c:=by rfl) (a:jl P f=true:=by decide+kernel) (hlen:args.length<=fn.ntmps:=by exact zC rfl) (b:qJ fn.ntmps E D c=true:=by decide+kernel):du P T f args H Post:=
 du.intro d e a hlen (((iw _ _ _ _ _ h) hm b).mono λ_ _ _ g=>g)
def TH{P:Program}{T:cW}{H:cd}{f:FuncId}{args:List AV}{Post:AV->cd->Prop}{fn:Func}{c:Code}(st:Nat->Bool)(cl:Nat->Nat)(hm:P.follows .mixedOrders=true)(d:P.funcs[f]?=some fn)(E:List Nat)(D:List (Nat×Bool×List Bool))(k:Nat)
  (h:Wf {P:=P,T:=T,n:=fn.ntmps,E:=E,D:=D,rs:=fn.results.toList,Post:=Post,st:=st,cl:=cl} k [.c c] (J8 args) H)
  (e:fn.body=some c:=by rfl) (a:jl P f=true:=by decide+kernel) (hlen:args.length<=fn.ntmps:=by exact zC rfl) (b:qJ fn.ntmps E D c=true:=by decide+kernel):du P T f args H Post:=
 du.intro d e a hlen (((iw _ _ _ _ _ h) hm b).mono λ_ _ _ g=>g)
end Go.jX
namespace Go.jX
open Go Go.dF
section
variable{α β γ δ ε ζ ρ σ τ κ:Type} {E A:Prop} {r:ρ} {c:Bool}
def Aj(e:E)(a:A):E/\A:=⟨e,a⟩
def fJ(e:E){o:Option α}{f:α->Option ρ}(m:bU o f=some r):∃a,(E/\o=some a)/\f a=some r:=by
 obtain⟨a,b,c⟩:=cJ m;exact⟨a,⟨e,b⟩,c⟩
def YP(e:E){o:Option (α×β)}{f:α->β->Option ρ}(m:b8 o f=some r):∃a b,(E/\o=some (a,b))/\f a b=some r:=by
 obtain⟨a,b,c,d⟩:=qK m;exact⟨a,b,⟨e,c⟩,d⟩
def Bo4(e:E){o:Option (α×β×γ×δ)}{f:α->β->γ->δ->Option ρ}(m:KM o f=some r):∃a b c d,(E/\o=some (a,b,c,d))/\f a b c d=some r:=by
 obtain⟨a,b,c,d,g,h⟩:=Mx m;exact⟨a,b,c,d,⟨e,g⟩,h⟩
def Ck(e:E){o:Option ρ}(m:ef c o=some r):(E/\c=true)/\o=some r:=⟨⟨e,(pY m).1⟩,(pY m).2⟩
def Io(e:E){a b:Option ρ}(m:(if c then a else b)=some r):((E/\c=true)/\a=some r)\/((E/\c=false)/\b=some r):=
 (AE m).imp (λh=>⟨⟨e,h.1⟩,h.2⟩) (λh=>⟨⟨e,h.1⟩,h.2⟩)
def Pb(c:Bool)(e:E):(E/\c=true)\/(E/\c=false):=by cases c<;>simp[e]
@[simp] theorem Yx(a:Int):tD a a=false:=by simp[tD]
def cC(n:σ->Option τ)(k:σ⊕ρ->Option τ):dJ σ ρ->Option τ
 |.next s=>n s|.Fy s=>k (.inl s)|.ret x=>k (.inr x)
def Ku(o:Option (dJ σ ρ))(n:σ->Option (σ⊕ρ))(k:σ⊕ρ->Option τ):bU (bU o (Jn n)) k=bU o (cC (λs=>bU (n s) k) k):=by
 cases o with
 |none=>rfl|some c=>cases c<;>rfl
def Qb{n g:σ->Option τ}{h:ρ->Option τ}{s:σ}{w:τ}(q:cC n (dI g h) (.Fy s)=some w):g s=some w:=q
variable{X:Cx} {S:List It} {fr:Fr} {H:cd} {a b:Code} {w:τ}
def Wj{d:κ}{e:κ->Option τ}(m:cB d e=some w)(g k2:Nat)(R:κ->Fr->cd->Prop)(i:∀(j:κ) (K:Fr->cd->Prop),(∀f h,R j f h->K f h)->e j=some w->Wf X g (.c a::.h K::S) fr H)
  (k:∀f h,R d f h->Wf X k2 (.c b::S) f h):Wf X 0 (.c (.seq a b)::S) fr H:=
 wj g k2 (R d) (λK l=>i d K l m) k
def Wr(e:E){l:List α}{F:Int->α->σ->Option (dJ σ ρ)}{k:σ⊕ρ->Option τ}{d:σ}(m:ef (c0 l) (cB F λF=>bU (cY F l 0 d) k)=some w)(q:Nat)(I:Int->σ->Fr->cd->Prop)(v:I 0 d fr H)
  (y:∀s f h K,I (cE l) s f h->k (.inl s)=some w->Wf X q (.c a::.h K::S) f h)
  (hs:∀j x s f h K n c,I j s f h->((E/\tD j (cE l)=true)/\cq l j=some x)->F j x s=some c->cC n k c=some w->(∀g o p,I (da .i64 j 1) g o p->n g=some w->K o p)->Wf X q (.c a::.h K::S) f h)
  {z:Nat}:Wf X (z+1) (.c (.loop a)::S) fr H:=by
 obtain⟨r,m⟩:=pY m;have m:bU (cY F l 0 d) k=some w:=m;refine wl q (λn f h=>∃(i:Nat) (s:σ),I (i:Int) s f h/\i+n=l.length/\bU (cY F (l.drop i) i s) k=some w) l.length ⟨0,d,v,th,by simpa using m⟩ ?_;rintro n f h ⟨i,s,u,hi,hm⟩ K A;rcases n with _|n
 ·have t:i=l.length:=cw
  subst t;rw[Ep (fC _),k9] at hm;exact y s f h K u hm
 ·obtain⟨x,B,hg⟩:=MX (l:=l) (i:=i) cw;rw[B,cM,Ku] at hm;obtain⟨c,C,D⟩:=cJ hm;refine hs i x s f h K _ c u ⟨⟨e,Qy cw⟩,hg⟩ C D λg o p b hn=>A o p n (TD _) ⟨i+1,g,?_,cw,hn⟩;rw[Jr cw r] at b;exact b
def Wn{F:σ->Option (dJ σ ρ)}{k:σ⊕ρ->Option τ}{b:σ}(m:cB F (λF=>bU (mJ F FU b) k)=some w)(j:Nat)(I:σ->Fr->cd->Prop)(l:I b fr H)
  (hs:∀s f h K n c,I s f h->F s=some c->cC n k c=some w->(∀d e g,I d e g->n d=some w->K e g)->Wf X j (.c a::.h K::S) f h)
  {o:Nat}:Wf X (o+1) (.c (.loop a)::S) fr H:=by
 have m:bU (mJ F FU b) k=some w:=m;refine wl j (λn f h=>∃(s:σ),I s f h/\bU (mJ F n s) k=some w) FU ⟨b,l,m⟩ ?_;rintro n f h ⟨s,p,hm⟩ K q;rcases n with _|n
 ·cases hm
 ·rw[lv,Ku] at hm;obtain⟨c,r,t⟩:=cJ hm;exact hs s f h K _ c p r t λd e g i hn=>q e g n (TD _) ⟨d,i,hn⟩
variable{P:Program} {T:cW} {EE:List Nat} {ops:Array Oper} {q:Qt} {bs:List Bool} {rest:List Oper} {K:Fr->cd->Prop} {H':cd} {d:Option Nat} {as:List AV} {rr:AV} {g:FuncId}
def Cf(h:dB P T g as H rr H')(a:fl P T EE ops rest K (fr.put d rr) H'):gZ P T EE ops (.func (.func g) [] []) as d rest K fr H:=gZ.fn h a
def Cs(h:dB P T g as H rr H')(a:dy P T EE ops q bs rest K (fr.put d rr) H')(b:QK q H H':=by simp):dY P T EE ops q bs (.func (.func g) [] []) as d rest K fr H:=dY.fn h b a
def Ao{t e sz d:Nat}{s x:AV}{f:α->AV}{D:List Nat}{tag tag':Tag}(l m:List α)(h:hD fr.rq fr.ds D tag l.length)(a:ng P t=some (e,sz))(hlen:dP l m=true)
  (c:K {fr with env:=eH fr.env d (.slice (.loc d (fr.ds d+1)) ((dN l m).map f)),rq:=eH (r' tag fr.rq) d (some (dN l m).length),ds:=eH fr.ds d (fr.ds d+1)} H)
  (hs:s=.slice tag (l.map f):=by first|rfl|simp) (g:x=.slice tag' (m.map f):=by first|rfl|simp) (b:∀x,(f x).cells.length=sz:=by intro x;simp):qy P t s x d K fr H:=
 qy.own l m h a b hlen hs g c
def Ad{t e sz d:Nat}{s x:AV}{f:α->AV}{D:List Nat}{tag tag':Tag}(l m:List α)(h:hD fr.rq fr.ds D tag l.length)(a:ng P t=some (e,sz))(hlen:dP l m=true)
  (c:K {fr with env:=eH fr.env d (.slice (.loc d (fr.ds d+1)) ((dN l m).map f)),rq:=eH (r' tag fr.rq) d (some (dN l m).length),ds:=eH fr.ds d (fr.ds d+1)} H)
  (hs:s=.slice tag (l.map f):=by first|rfl|simp) (g:x=.slice tag' (m.map f):=by first|rfl|simp) (b:∀x,(f x).cells.length=sz:=by intro x;simp):yY P t s x d K fr H:=
 yY.own l m h a b hlen hs g c
end
attribute [simp] xT
end Go.jX
namespace Go.jX
open Go Go.dF
abbrev sI(n:Int):AV:=.sc (.int .i64 n)
abbrev sB(b:Bool):AV:=.sc (.bool b)
abbrev sL{α:Type}(f:α->AV)(l:List α):AV:=.slice .ja (l.map f)
abbrev sT{α:Type}(t:Tag)(f:α->AV)(l:List α):AV:=.slice t (l.map f)
abbrev Ow{α:Type}(f:Fr)(D:List Nat)(t:Tag)(l:List α):Prop:=hD f.rq f.ds D t l.length
section
variable{rq:Nat->Option Nat} {ds:Nat->Nat} {D D':List Nat} {n:Nat} {t:Tag}
def On(d:Nat)(h:d∈D:=by decide):hD (eH rq d (some n)) (eH ds d (ds d+1)) D (.loc d (ds d+1)) n:=hD.new h
end
section
variable{α β γ δ ε ζ η θ:Type}
abbrev t2(a:α->AV)(b:β->AV)(p:α×β):AV:=.tuple [a p.1,b p.2]
abbrev t3(a:α->AV)(b:β->AV)(c:γ->AV)(p:α×β×γ):AV:=.tuple [a p.1,b p.2.1,c p.2.2]
@[simp] theorem abZ(a:α->AV)(b:β->AV)(x:α)(y:β):t2 a b (x,y)=.tuple [a x,b y]:=rfl
@[simp] theorem abK(a:α->AV)(b:β->AV)(c:γ->AV)(x:α)(y:β)(z:γ):t3 a b c (x,y,z)=.tuple [a x,b y,c z]:=rfl
abbrev C0(P:Program)(g:FuncId)(f:Option θ)(z:θ->AV):Prop:=∀{T:cW} {H:cd} {r:θ},f=some r->dB P T g [] H (z r) H
abbrev C1(P:Program)(g:FuncId)(f:α->Option θ)(z:θ->AV)(a:α->AV):Prop:=∀{T:cW} {H:cd} {x:α} {r:θ},f x=some r->dB P T g [a x] H (z r) H
abbrev C2(P:Program)(g:FuncId)(f:α->β->Option θ)(z:θ->AV)(a:α->AV)(b:β->AV):Prop:=∀{T:cW} {H:cd} {x:α} {y:β} {r:θ},f x y=some r->dB P T g [a x,b y] H (z r) H
abbrev C3(P:Program)(g:FuncId)(f:α->β->γ->Option θ)(z:θ->AV)(a:α->AV)(b:β->AV)(c:γ->AV):Prop:=∀{T:cW} {H:cd} {x:α} {y:β} {v:γ} {r:θ},f x y v=some r->dB P T g [a x,b y,c v] H (z r) H
abbrev C4(P:Program)(g:FuncId)(f:α->β->γ->δ->Option θ)(z:θ->AV)(a:α->AV)(b:β->AV)(c:γ->AV)(d:δ->AV):Prop:=∀{T:cW} {H:cd} {x:α} {y:β} {v:γ} {w:δ} {r:θ},f x y v w=some r->dB P T g [a x,b y,c v,d w] H (z r) H
abbrev C5(P:Program)(g:FuncId)(f:α->β->γ->δ->ε->Option θ)(z:θ->AV)(a:α->AV)(b:β->AV)(c:γ->AV)(d:δ->AV)(e:ε->AV):Prop:=∀{T:cW} {H:cd} {x:α} {y:β} {v:γ} {w:δ} {u:ε} {r:θ},f x y v w u=some r->dB P T g [a x,b y,c v,d w,e u] H (z r) H
end
end Go.jX
namespace Go.jX
open Go Go.dF
abbrev nL:AV:=.slice .full []
abbrev bx(f:Fr)(b:Nat)(c:List AV):Prop:=f.1 b=AV.gJ b (f.gen b) 0/\f.box b=some c
attribute [simp] bx
section
variable{E G:Prop} {ρ:Type} {r:ρ} {c:Bool} {a b:Option ρ}
def Iq(e:E)(m:(if c then a else b)=some r)(d:E/\c=true->a=some r->G)(f:E/\c=false->b=some r->G):G:=
 (Io e m).elim (λh=>d h.1 h.2) (λh=>f h.1 h.2)
def Ir(e:E)(m:(if c then a else b)=some r)(d:E/\c=false->b=some r->G)(f:E/\c=true->a=some r->G):G:=Iq e m f d
def Il(e:E)(m:(if c then a else b)=some r)(d:E/\c=false->b=some r->G)(f:E/\c=true->a=some r->G:=by intro e m;cases m;(try cases z);(try cases z);simp[e];done):G:=Iq e m f d
def Im(e:E)(m:(if c then a else b)=some r)(d:E/\c=true->a=some r->G)(f:E/\c=false->b=some r->G:=by intro e m;cases m;(try cases z);(try cases z);simp[e];done):G:=Iq e m d f
def au(h:G:=by cases m;(try cases z);(try cases z);simp[e];done):G:=h
def aj(h:G:=by simp[e];exact g _ _ VW):G:=h
def Xj(h:G:=by simp[e];exact g _ _ ⟨VW,m⟩):G:=h
def iO(h:G:=by simp[e];exact g _ _ ⟨_,VW,m⟩):G:=h
def ak2(h:G:=by simp[e];exact g _ _ ⟨_,_,VW,m⟩):G:=h
def ak3(h:G:=by simp[e];exact g _ _ ⟨_,_,_,VW,m⟩):G:=h
def al(h:G:=by simp[e];cases m;exact p _ _ _ VW z):G:=h
end
section
variable{P:Program} {T:cW} {EE:List Nat} {ops:Array Oper} {q:Qt} {bs:List Bool} {rest:List Oper} {K:Fr->cd->Prop} {H:cd} {d:Option Nat} {as:List AV} {g:FuncId} {fr:Fr} {ρ α β γ δ ε:Type} {r:ρ}
def dM{o:Option α}{F:α->Option ρ}{z:α->AV}{W:α->cd}(m:bU o F=some r)(h:∀{y},o=some y->dB P T g as H (z y) (W y))(a:∀y,F y=some r->fl P T EE ops rest K (fr.put d (z y)) (W y)):gZ P T EE ops (.func (.func g) [] []) as d rest K fr H:=by
 obtain⟨y,b,c⟩:=cJ m;exact Cf (h b) (a _ c)
def lZ{o:Option (α×β)}{F:α->β->Option ρ}{z:α->β->AV}{W:α->β->cd}(m:b8 o F=some r)(h:∀{y a},o=some (y,a)->dB P T g as H (z y a) (W y a))(b:∀y a,F y a=some r->fl P T EE ops rest K (fr.put d (z y a)) (W y a)):gZ P T EE ops (.func (.func g) [] []) as d rest K fr H:=by
 obtain⟨y,a,c,e⟩:=qK m;exact Cf (h c) (b _ _ e)
def Pc{o:Option (α×β×γ)}{F:α->β->γ->Option ρ}{z:α->β->γ->AV}{W:α->β->γ->cd}(m:gM o F=some r)(h:∀{y a u},o=some (y,a,u)->dB P T g as H (z y a u) (W y a u))(b:∀y a u,F y a u=some r->fl P T EE ops rest K (fr.put d (z y a u)) (W y a u)):gZ P T EE ops (.func (.func g) [] []) as d rest K fr H:=by
 obtain⟨y,a,u,c,e⟩:=zq m;exact Cf (h c) (b _ _ _ e)
def d_{o:Option α}{F:α->Option ρ}{z:α->AV}{W:α->cd}(m:bU o F=some r)(h:∀{y},o=some y->dB P T g as H (z y) (W y))(a:∀y,F y=some r->dy P T EE ops q bs rest K (fr.put d (z y)) (W y))(b:∀y,QK q H (W y):=by simp):dY P T EE ops q bs (.func (.func g) [] []) as d rest K fr H:=by
 obtain⟨y,c,e⟩:=cJ m;exact Cs (h c) (a _ e) (b _)
def sm{o:Option (α×β)}{F:α->β->Option ρ}{z:α->β->AV}{W:α->β->cd}(m:b8 o F=some r)(h:∀{y a},o=some (y,a)->dB P T g as H (z y a) (W y a))(b:∀y a,F y a=some r->dy P T EE ops q bs rest K (fr.put d (z y a)) (W y a))(c:∀y a,QK q H (W y a):=by simp):dY P T EE ops q bs (.func (.func g) [] []) as d rest K fr H:=by
 obtain⟨y,a,e,f⟩:=qK m;exact Cs (h e) (b _ _ f) (c _ _)
def Cs3{o:Option (α×β×γ)}{F:α->β->γ->Option ρ}{z:α->β->γ->AV}{W:α->β->γ->cd}(m:gM o F=some r)(h:∀{y a u},o=some (y,a,u)->dB P T g as H (z y a u) (W y a u))(b:∀y a u,F y a u=some r->dy P T EE ops q bs rest K (fr.put d (z y a u)) (W y a u))(c:∀y a u,QK q H (W y a u):=by simp):dY P T EE ops q bs (.func (.func g) [] []) as d rest K fr H:=by
 obtain⟨y,a,u,e,f⟩:=zq m;exact Cs (h e) (b _ _ _ f) (c _ _ _)
end
section
variable{ρ α σ τ κ:Type} {E:Prop} {X:Cx} {S:List It} {fr:Fr} {H:cd} {a b:Code} {w:τ}
def I5(d k2:Nat)(R:Fr->cd->Prop)(e:∀fr H,R fr H->Wf X k2 (.c b::S) fr H)(f:∀K:Fr->cd->Prop,(∀fr H,R fr H->K fr H)->Wf X d (.c a::.h K::S) fr H):Wf X 0 (.c (.seq a b)::S) fr H:=wj d k2 R f e
def yJ{d:κ}{e:κ->Option τ}(m:cB d e=some w)(g k2:Nat)(R:κ->Fr->cd->Prop)(i:∀f h,R d f h->Wf X k2 (.c b::S) f h)(k:∀(j:κ) (K:Fr->cd->Prop),(∀f h,R j f h->K f h)->e j=some w->Wf X g (.c a::.h K::S) fr H):Wf X 0 (.c (.seq a b)::S) fr H:=Wj m g k2 R k i
def Bu(e:E){l:List α}{F:Int->α->σ->Option (dJ σ ρ)}{k:σ⊕ρ->Option τ}{d:σ}(m:ef (c0 l) (cB F λF=>bU (cY F l 0 d) k)=some w)(b:Nat)(I:Int->σ->Fr->cd->Prop)(p:I 0 d fr H)
 (hs:∀j x s f h K n c,I j s f h->((E/\tD j (cE l)=true)/\cq l j=some x)->F j x s=some c->cC n k c=some w->(∀g i o,I (da .i64 j 1) g i o->n g=some w->K i o)->Wf X b (.c a::.h K::S) f h)
 (q:∀s f h K,I (cE l) s f h->k (.inl s)=some w->Wf X b (.c a::.h K::S) f h)
 {r:Nat}:Wf X (r+1) (.c (.loop a)::S) fr H:=Wr e m b I p q hs
end
section
variable{P:Program} {fn:Func} {g:FuncId} {c:Code} {α β γ δ ε θ:Type} {z:θ->AV} {a:α->AV} {b:β->AV} {y:γ->AV} {d:δ->AV} {e:ε->AV}
def u0[i:Nonempty (P.follows .mixedOrders=true)](k:Nat)(d:P.funcs[g]?=some fn){f:Option θ}(h:∀T H r,f=some r->True->Wf {P:=P,T:=T,n:=fn.ntmps,E:=[],D:=[],rs:=fn.results.toList,Post:=λv K=>v=z r/\K=H} k [.c c] (J8 []) H)
  (e:fn.body=some c:=by rfl) (a:jl P g=true:=by decide+kernel) (b:qJ fn.ntmps [] [] c=true:=by decide+kernel):C0 P g f z:=
 λ{T H r} j=>i.elim λhm=>wi hm d [] [] k (h T H r j trivial) e a (Vo _) b
def u1[i:Nonempty (P.follows .mixedOrders=true)](k:Nat)(e:P.funcs[g]?=some fn){f:α->Option θ}(h:∀T H x r,f x=some r->True->Wf {P:=P,T:=T,n:=fn.ntmps,E:=[],D:=[],rs:=fn.results.toList,Post:=λv K=>v=z r/\K=H} k [.c c] (J8 [a x]) H)
  (j:fn.body=some c:=by rfl) (b:jl P g=true:=by decide+kernel) (hlen:1<=fn.ntmps:=by exact zC rfl) (d:qJ fn.ntmps [] [] c=true:=by decide+kernel):C1 P g f z a:=
 λ{T H x r} l=>i.elim λhm=>wi hm e [] [] k (h T H x r l trivial) j b hlen d
def u2[i:Nonempty (P.follows .mixedOrders=true)](k:Nat)(l:P.funcs[g]?=some fn){f:α->β->Option θ}(h:∀T H x j r,f x j=some r->True->Wf {P:=P,T:=T,n:=fn.ntmps,E:=[],D:=[],rs:=fn.results.toList,Post:=λv K=>v=z r/\K=H} k [.c c] (J8 [a x,b j]) H)
  (m:fn.body=some c:=by rfl) (d:jl P g=true:=by decide+kernel) (hlen:2<=fn.ntmps:=by exact zC rfl) (e:qJ fn.ntmps [] [] c=true:=by decide+kernel):C2 P g f z a b:=
 λ{T H x j r} o=>i.elim λhm=>wi hm l [] [] k (h T H x j r o trivial) m d hlen e
def u3[i:Nonempty (P.follows .mixedOrders=true)](k:Nat)(l:P.funcs[g]?=some fn){f:α->β->γ->Option θ}(h:∀T H x j v r,f x j v=some r->True->Wf {P:=P,T:=T,n:=fn.ntmps,E:=[],D:=[],rs:=fn.results.toList,Post:=λv K=>v=z r/\K=H} k [.c c] (J8 [a x,b j,y v]) H)
  (m:fn.body=some c:=by rfl) (d:jl P g=true:=by decide+kernel) (hlen:3<=fn.ntmps:=by exact zC rfl) (e:qJ fn.ntmps [] [] c=true:=by decide+kernel):C3 P g f z a b y:=
 λ{T H x j v r} o=>i.elim λhm=>wi hm l [] [] k (h T H x j v r o trivial) m d hlen e
def u4[i:Nonempty (P.follows .mixedOrders=true)](k:Nat)(m:P.funcs[g]?=some fn){f:α->β->γ->δ->Option θ}(h:∀T H x l v w r,f x l v w=some r->True->Wf {P:=P,T:=T,n:=fn.ntmps,E:=[],D:=[],rs:=fn.results.toList,Post:=λv K=>v=z r/\K=H} k [.c c] (J8 [a x,b l,y v,d w]) H)
  (o:fn.body=some c:=by rfl) (e:jl P g=true:=by decide+kernel) (hlen:4<=fn.ntmps:=by exact zC rfl) (j:qJ fn.ntmps [] [] c=true:=by decide+kernel):C4 P g f z a b y d:=
 λ{T H x l v w r} p=>i.elim λhm=>wi hm m [] [] k (h T H x l v w r p trivial) o e hlen j
def u5[i:Nonempty (P.follows .mixedOrders=true)](k:Nat)(o:P.funcs[g]?=some fn){f:α->β->γ->δ->ε->Option θ}(h:∀T H x m v w u r,f x m v w u=some r->True->Wf {P:=P,T:=T,n:=fn.ntmps,E:=[],D:=[],rs:=fn.results.toList,Post:=λv K=>v=z r/\K=H} k [.c c] (J8 [a x,b m,y v,d w,e u]) H)
  (p:fn.body=some c:=by rfl) (j:jl P g=true:=by decide+kernel) (hlen:5<=fn.ntmps:=by exact zC rfl) (l:qJ fn.ntmps [] [] c=true:=by decide+kernel):C5 P g f z a b y d e:=
 λ{T H x m v w u r} q=>i.elim λhm=>wi hm o [] [] k (h T H x m v w u r q trivial) p j hlen l
def v0[i:Nonempty (P.follows .mixedOrders=true)](d:P.funcs[g]?=some fn){f:Option θ}(h:∀T H r,f=some r->True->Wf {P:=P,T:=T,n:=fn.ntmps,E:=[],D:=[],rs:=fn.results.toList,Post:=λv K=>v=z r/\K=H} 999 [.c c] (J8 []) H)
  (e:fn.body=some c:=by rfl) (a:jl P g=true:=by decide+kernel) (b:qJ fn.ntmps [] [] c=true:=by decide+kernel):C0 P g f z:=
 u0 999 d h e a b
def v1[i:Nonempty (P.follows .mixedOrders=true)](e:P.funcs[g]?=some fn){f:α->Option θ}(h:∀T H x r,f x=some r->True->Wf {P:=P,T:=T,n:=fn.ntmps,E:=[],D:=[],rs:=fn.results.toList,Post:=λv K=>v=z r/\K=H} 999 [.c c] (J8 [a x]) H)
  (j:fn.body=some c:=by rfl) (b:jl P g=true:=by decide+kernel) (hlen:1<=fn.ntmps:=by exact zC rfl) (d:qJ fn.ntmps [] [] c=true:=by decide+kernel):C1 P g f z a:=
 u1 999 e h j b hlen d
def v2[i:Nonempty (P.follows .mixedOrders=true)](k:P.funcs[g]?=some fn){f:α->β->Option θ}(h:∀T H x j r,f x j=some r->True->Wf {P:=P,T:=T,n:=fn.ntmps,E:=[],D:=[],rs:=fn.results.toList,Post:=λv K=>v=z r/\K=H} 999 [.c c] (J8 [a x,b j]) H)
  (l:fn.body=some c:=by rfl) (d:jl P g=true:=by decide+kernel) (hlen:2<=fn.ntmps:=by exact zC rfl) (e:qJ fn.ntmps [] [] c=true:=by decide+kernel):C2 P g f z a b:=
 u2 999 k h l d hlen e
def v3[i:Nonempty (P.follows .mixedOrders=true)](k:P.funcs[g]?=some fn){f:α->β->γ->Option θ}(h:∀T H x j v r,f x j v=some r->True->Wf {P:=P,T:=T,n:=fn.ntmps,E:=[],D:=[],rs:=fn.results.toList,Post:=λv K=>v=z r/\K=H} 999 [.c c] (J8 [a x,b j,y v]) H)
  (l:fn.body=some c:=by rfl) (d:jl P g=true:=by decide+kernel) (hlen:3<=fn.ntmps:=by exact zC rfl) (e:qJ fn.ntmps [] [] c=true:=by decide+kernel):C3 P g f z a b y:=
 u3 999 k h l d hlen e
def v4[i:Nonempty (P.follows .mixedOrders=true)](l:P.funcs[g]?=some fn){f:α->β->γ->δ->Option θ}(h:∀T H x k v w r,f x k v w=some r->True->Wf {P:=P,T:=T,n:=fn.ntmps,E:=[],D:=[],rs:=fn.results.toList,Post:=λv K=>v=z r/\K=H} 999 [.c c] (J8 [a x,b k,y v,d w]) H)
  (m:fn.body=some c:=by rfl) (e:jl P g=true:=by decide+kernel) (hlen:4<=fn.ntmps:=by exact zC rfl) (j:qJ fn.ntmps [] [] c=true:=by decide+kernel):C4 P g f z a b y d:=
 u4 999 l h m e hlen j
def v5[i:Nonempty (P.follows .mixedOrders=true)](m:P.funcs[g]?=some fn){f:α->β->γ->δ->ε->Option θ}(h:∀T H x l v w u r,f x l v w u=some r->True->Wf {P:=P,T:=T,n:=fn.ntmps,E:=[],D:=[],rs:=fn.results.toList,Post:=λv K=>v=z r/\K=H} 999 [.c c] (J8 [a x,b l,y v,d w,e u]) H)
  (o:fn.body=some c:=by rfl) (j:jl P g=true:=by decide+kernel) (hlen:5<=fn.ntmps:=by exact zC rfl) (k:qJ fn.ntmps [] [] c=true:=by decide+kernel):C5 P g f z a b y d e:=
 u5 999 m h o j hlen k
def i1{M:Nat->α->Option θ}(h:∀n,C1 P g (M n) z a->C1 P g (M (n+1)) z a)(c:∀x,M 0 x=none:=by intros;rfl){n:Nat}:C1 P g (M n) z a:=by
 induction n with
 |zero=>intro T H x r b;rw[c] at b;cases b
 |succ n d=>exact h n d
def i2{M:Nat->α->β->Option θ}(h:∀n,C2 P g (M n) z a b->C2 P g (M (n+1)) z a b)(e:∀x c,M 0 x c=none:=by intros;rfl){n:Nat}:C2 P g (M n) z a b:=by
 induction n with
 |zero=>intro T H x c r d;rw[e] at d;cases d
 |succ n f=>exact h n f
def i3{M:Nat->α->β->γ->Option θ}(h:∀n,C3 P g (M n) z a b y->C3 P g (M (n+1)) z a b y)(e:∀x c v,M 0 x c v=none:=by intros;rfl){n:Nat}:C3 P g (M n) z a b y:=by
 induction n with
 |zero=>intro T H x c v r d;rw[e] at d;cases d
 |succ n f=>exact h n f
def i4{M:Nat->α->β->γ->δ->Option θ}(h:∀n,C4 P g (M n) z a b y d->C4 P g (M (n+1)) z a b y d)(f:∀x c v w,M 0 x c v w=none:=by intros;rfl){n:Nat}:C4 P g (M n) z a b y d:=by
 induction n with
 |zero=>intro T H x c v w r e;rw[f] at e;cases e
 |succ n i=>exact h n i
def i5{M:Nat->α->β->γ->δ->ε->Option θ}(h:∀n,C5 P g (M n) z a b y d e->C5 P g (M (n+1)) z a b y d e)(i:∀x c v w u,M 0 x c v w u=none:=by intros;rfl){n:Nat}:C5 P g (M n) z a b y d e:=by
 induction n with
 |zero=>intro T H x c v w u r f;rw[i] at f;cases f
 |succ n j=>exact h n j
end
end Go.jX
