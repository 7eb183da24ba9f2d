/- Part of the proof of KernelChoice: layer. -/
import Derived.Test.YtobcafblgapgfaaGreatDoorL11
set_option linter.all false
namespace Go.ky
open Go Go.fg
inductive It where
 |c (x:Code)|b (id:Nat)|h (K:Fr->cV->Prop)
def Ny:List (Nat×Bool×List Bool)->Nat->Bool×List Bool
 |[],_=>(false,[])|x::l,i=>if i=x.1 then x.2 else Ny l i
structure Cx where
 P:Program
 T:dA
 n:Nat
 E:List Nat
 D:List (Nat×Bool×List Bool)
 rs:List ResultVar
 Post:AV->cV->Prop
def Az(n:Nat)(E:List Nat)(D:List (Nat×Bool×List Bool)):Code->Bool
 |.seq a b=>Az n E D a&&Az n E D b|.cond c a b=>ic c&&(Az n E D a&&Az n E D b)|.block _ a=>Az n E D a|.loop a=>Az n E D a|.scope a=>Az n E D a|.region _ ops false=>uI n ops|.region id ops true=>uI n ops&&uv E ops (λi=>(Ny D id).2.getD i true)|_=>true
def SQ(X:Cx):List It->Exit->Fr->cV->Prop
 |[],e,fr,H=>wm X.P X.rs X.Post e fr H|i::S,e,fr,H=>match i,e with
  |.c x,.normal=>X.P.follows .mixedOrders=true->Az X.n X.E X.D x=true->g_ X.P X.T X.n x (SQ X S) fr H|.b id,.exit j=>if j=id then SQ X S .normal fr H else SQ X S (.exit j) fr H|.h K,.normal=>K fr H|_,e=>SQ X S e fr H
def AH(id:Nat):List It->Option (List It)
 |[]=>none|.b j::S=>if j=id then some S else AH id S|_::S=>AH id S
def Lk(A B:Fr->cV->Prop)(v:AV)(fr:Fr)(H:cV):Prop:=Gq v (A fr H) (B fr H)
def Wf(X:Cx):Nat->List It->Fr->cV->Prop
 |0,S,fr,H=>SQ X S .normal fr H|_+1,[],fr,H=>wm X.P X.rs X.Post .normal fr H|k+1,.b _::S,fr,H=>Wf X k S fr H|_+1,.h K::_,fr,H=>K fr H|k+1,.c x::S,fr,H=>match x with
  |.seq a b=>Wf X k (.c a::.c b::S) fr H|.skip=>Wf X k S fr H|.label _=>Wf X k S fr H|.scope a=>Wf X k (.c a::S) fr H|.block id a=>Wf X k (.c a::.b id::S) fr H|.exit id=>match AH id S with|some d=>Wf X k d fr H|none=>False
  |.ret=>wm X.P X.rs X.Post .ret fr H|.cond c a b=>Lk (Wf X k (.c a::S)) (Wf X k (.c b::S)) (ev X.T fr c) fr H|.region _ ops false=>g' X.P X.T X.E ops ops.toList (Wf X k S) fr H|.region id ops true=>eM X.P X.T X.E ops (Ny X.D id).1 (Ny X.D id).2 ops.toList (Wf X k S) fr H|x=>SQ X (.c x::S) .normal fr H
def Ol(X:Cx):∀(S:List It) (fr:Fr) (H:cV),SQ X S .ret fr H=wm X.P X.rs X.Post .ret fr H
 |[],_,_=>rfl|i::S,fr,H=>by
  have:=Ol X S fr H;cases i<;>exact this
def LA(X:Cx)(l:Nat):∀(S:List It) (fr:Fr) (H:cV),SQ X S (.goto l) fr H=False
 |[],_,_=>rfl|i::S,fr,H=>by
  have:=LA X l S fr H;cases i<;>exact this
def Hc(X:Cx)(id:Nat):∀(S a:List It) (fr:Fr) (H:cV),AH id S=some a->SQ X S (.exit id) fr H=SQ X a .normal fr H
 |[],_,_,_,h=>by cases h
 |i::S,a,fr,H,h=>by
  cases i with
  |b j=>
   simp only[AH] at h;show(if id=j then SQ X S .normal fr H else SQ X S (.exit id) fr H)=_
   split at h
   ·rename_i e;rw[cG e.symm,gk h]
   ·rename_i e;rw[cB (λd=>e d.symm)];exact Hc X id S a fr H h
  |c x=>exact Hc X id S a fr H h|h K=>exact Hc X id S a fr H h
def Wm(K:Fr->cV->Prop):Exit->Fr->cV->Prop
 |.normal,fr,H=>K fr H|_,_,_=>False
def kJ(X:Cx):∀(k:Nat) (S:List It) (fr:Fr) (H:cV),Wf X k S fr H->SQ X S .normal fr H
 |0,_,_,_,h=>h|_+1,[],_,_,h=>h|k+1,.b _::S,fr,H,h=>kJ X k S fr H h|_+1,.h _::_,_,_,h=>h|k+1,.c x::S,fr,H,h=>by
  have up:∀{c:Code} {S:List It} {fr:Fr} {H:cV},g_ X.P X.T X.n c (Wm (Wf X k S)) fr H->g_ X.P X.T X.n c (SQ X S) fr H:=λh=>h.mono λe fr' H' g=>by
   cases e<;>first|exact kJ X k _ _ _ g|exact g.elim
  intro hm f;cases x with
  |seq a b=>
   have i:Wf X k (.c a::.c b::S) fr H:=h;have j:=kJ X k _ _ _ i;simp only[Az,eJ] at f;refine g_.seq ((j hm f.1).mono λe fr' H' g=>?_)
   cases e<;>first|exact g hm f.2|exact g
  |skip=>exact g_.skip (kJ X k S fr H h)|label l=>exact g_.label (kJ X k S fr H h)|scope a=>
   have j:=kJ X k (.c a::S) fr H h;refine g_.scope ((j hm f).mono λe fr' H' g=>?_)
   cases e<;>first|exact⟨trivial,g⟩|(rw[LA] at g;exact g.elim)
  |block id a=>
   have j:=kJ X k (.c a::.b id::S) fr H h;refine g_.block ((j hm f).mono λe fr' H' g=>?_);cases e<;>exact g
  |exit id=>
   have i:(match AH id S with|some m=>Wf X k m fr H|none=>False):=h
   split at i
   ·rename_i m hs;refine g_.exit ?_;rw[Hc X id S m fr H hs];exact kJ X k m fr H i
   ·exact i.elim
  |ret=>
   refine g_.ret ?_;rw[Ol];exact h
  |cond c a b=>
   simp only[Az,eJ] at f;have i:Gq (ev X.T fr c) (Wf X k (.c a::S) fr H) (Wf X k (.c b::S) fr H):=h;refine g_.A' (λA B o p=>?_) f.1;generalize ev X.T fr c=v at i;cases v with
   |sc w=>
    cases w with
    |bool t=>
     cases t with
     |true=>exact o _ _ (kJ X k _ _ _ i hm f.2.1)|false=>exact p _ _ (kJ X k _ _ _ i hm f.2.2)
    |_=>exact i.elim
   |_=>exact i.elim
  |region id ops d=>
   cases d with
   |false=>exact up (g_.region X.E f h)|true=>
    simp only[Az,eJ] at f;exact up (g_.QT X.E (Ny X.D id).1 (Ny X.D id).2 hm f.1 f.2 h)
  |_=>exact h hm f
section
variable{X:Cx} {k:Nat} {S:List It} {fr:Fr} {H:cV} {a b:Code} {c:Operand} {id:Nat} {ops:Array Oper} {A B:Fr->cV->Prop}
@[simp] theorem ZZ:Wf X (k+1) [] fr H=wm X.P X.rs X.Post .normal fr H:=rfl
@[simp] theorem aa5:Wf X (k+1) (.b id::S) fr H=Wf X k S fr H:=rfl
@[simp] theorem aaZ{K:Fr->cV->Prop}:Wf X (k+1) (.h K::S) fr H=K fr H:=rfl
@[simp] theorem Zt:Wf X (k+1) (.c (.seq a b)::S) fr H=Wf X k (.c a::.c b::S) fr H:=rfl
@[simp] theorem YA:Wf X (k+1) (.c .skip::S) fr H=Wf X k S fr H:=rfl
@[simp] theorem Xc:Wf X (k+1) (.c (.block id a)::S) fr H=Wf X k (.c a::.b id::S) fr H:=rfl
@[simp] theorem Y2:Wf X (k+1) (.c (.exit id)::S) fr H=match AH id S with|some a=>Wf X k a fr H|none=>False:=rfl
@[simp] theorem ZJ:Wf X (k+1) (.c .ret::S) fr H=wm X.P X.rs X.Post .ret fr H:=rfl
@[simp] theorem YC:Wf X (k+1) (.c (.cond c a b)::S) fr H=Lk (Wf X k (.c a::S)) (Wf X k (.c b::S)) (ev X.T fr c) fr H:=rfl
@[simp] theorem ZH:Wf X (k+1) (.c (.region id ops false)::S) fr H=g' X.P X.T X.E ops ops.toList (Wf X k S) fr H:=rfl
@[simp] theorem Yl:Wf X (k+1) (.c (.region id ops true)::S) fr H=eM X.P X.T X.E ops (Ny X.D id).1 (Ny X.D id).2 ops.toList (Wf X k S) fr H:=rfl
@[simp] theorem Tj:Lk A B (.sc (.bool true)) fr H=A fr H:=rfl
@[simp] theorem Rq:Lk A B (.sc (.bool false)) fr H=B fr H:=rfl
@[simp] theorem ZA:AH id (.c a::S)=AH id S:=rfl
@[simp] theorem Y'{K:Fr->cV->Prop}:AH id (.h K::S)=AH id S:=rfl
@[simp] theorem ZN{j:Nat}:AH id (.b j::S)=if j=id then some S else AH id S:=rfl
@[simp] theorem Yx{i:Nat}:Ny [] i=(false,[]):=rfl
@[simp] theorem Wl{x:Nat×Bool×List Bool}{l:List (Nat×Bool×List Bool)}{i:Nat}:Ny (x::l) i=if i=x.1 then x.2 else Ny l i:=rfl
@[simp] theorem PE{P:Program}{T:dA}{E:List Nat}{q:Bool}{o:Oper}{rest:List Oper}{K:Fr->cV->Prop}:eM P T E ops q [] (o::rest) K fr H=eM P T E ops q [true] (o::rest) K fr H:=rfl
def wg(k:Nat)(h:Wf X k S fr H):Wf X 0 S fr H:=kJ X k S fr H h
def wj(f k2:Nat)(R:Fr->cV->Prop)(i:∀K:Fr->cV->Prop,(∀fr H,R fr H->K fr H)->Wf X f (.c a::.h K::S) fr H)(j:∀fr H,R fr H->Wf X k2 (.c b::S) fr H):Wf X 0 (.c (.seq a b)::S) fr H:=by
 intro hm d;simp only[Az,eJ] at d;have k:=kJ X f _ _ _ (i (SQ X (.c b::S) .normal) λfr H h=>kJ X k2 _ _ _ (j fr H h));refine g_.seq ((k hm d.1).mono λe fr' H' g=>?_)
 cases e<;>first|exact g hm d.2|exact g
def wl(d:Nat)(I:Nat->Fr->cV->Prop)(m:Nat)(g:I m fr H)(i:∀m fr H,I m fr H->∀K:Fr->cV->Prop,(∀fr' H' f,f<m->I f fr' H'->K fr' H')->Wf X d (.c a::.h K::S) fr H):Wf X (k+1) (.c (.loop a)::S) fr H:=by
 intro hm b;refine g_.Rk I m g λm fr H j K l=>?_;refine((kJ X d _ _ _ (i m fr H j K l)) hm b).mono λe fr' H' n=>?_;cases e<;>exact n
end
def wi{P:Program}{T:dA}{H:cV}{f:FuncId}{args:List AV}{Post:AV->cV->Prop}{fn:Func}{c:Code}(hm:P.follows .mixedOrders=true)(d:P.funcs[f]?=some fn)(E:List Nat)(D:List (Nat×Bool×List Bool))(k:Nat)
  (h:Wf {P:=P,T:=T,n:=fn.ntmps,E:=E,D:=D,rs:=fn.results.toList,Post:=Post} k [.c c] (YR args) H)
  (e:fn.body=some c:=by rfl) (a:rh P f=true:=by decide+kernel) (hlen:args.length<=fn.ntmps:=by exact SC rfl) (b:Az fn.ntmps E D c=true:=by decide+kernel):ej P T f args H Post:=
 ej.intro d e a hlen (((kJ _ _ _ _ _ h) hm b).mono λ_ _ _ g=>g)
end Go.ky
namespace Go.ky
open Go Go.fg
section
variable{α β γ δ ε ζ ρ σ τ κ:Type} {E A:Prop} {r:ρ} {c:Bool}
def Aj(e:E)(a:A):E/\A:=⟨e,a⟩
def c7(e:E){o:Option α}{f:α->Option ρ}(m:cA o f=some r):∃a,(E/\o=some a)/\f a=some r:=by
 obtain⟨a,b,c⟩:=dj m;exact⟨a,⟨e,b⟩,c⟩
def gb(e:E){o:Option (α×β)}{f:α->β->Option ρ}(m:cN o f=some r):∃a b,(E/\o=some (a,b))/\f a b=some r:=by
 obtain⟨a,b,c,d⟩:=gK m;exact⟨a,b,⟨e,c⟩,d⟩
def XF(e:E){o:Option (α×β×γ)}{f:α->β->γ->Option ρ}(m:gd o f=some r):∃a b c,(E/\o=some (a,b,c))/\f a b c=some r:=by
 obtain⟨a,b,c,d,g⟩:=CU m;exact⟨a,b,c,⟨e,d⟩,g⟩
def Bo4(e:E){o:Option (α×β×γ×δ)}{f:α->β->γ->δ->Option ρ}(m:LG o f=some r):∃a b c d,(E/\o=some (a,b,c,d))/\f a b c d=some r:=by
 obtain⟨a,b,c,d,g,h⟩:=J2 m;exact⟨a,b,c,d,⟨e,g⟩,h⟩
def Ck(e:E){o:Option ρ}(m:fh c o=some r):(E/\c=true)/\o=some r:=⟨⟨e,(nq m).1⟩,(nq m).2⟩
def Io(e:E){a b:Option ρ}(m:(if c=true then a else b)=some r):((E/\c=true)/\a=some r)\/((E/\c=false)/\b=some r):=
 (ik m).imp (λh=>⟨⟨e,h.1⟩,h.2⟩) (λh=>⟨⟨e,h.1⟩,h.2⟩)
def Pb(c:Bool)(e:E):(E/\c=true)\/(E/\c=false):=by cases c<;>simp[e]
@[simp] theorem Ye(a:Int):rv a a=false:=by simp[rv]
def cC(n:σ->Option τ)(k:σ⊕ρ->Option τ):eA σ ρ->Option τ
 |.next s=>n s|.zO s=>k (.inl s)|.ret x=>k (.inr x)
def Iq(o:Option (eA σ ρ))(n:σ->Option (σ⊕ρ))(k:σ⊕ρ->Option τ):cA (cA o (HY n)) k=cA o (cC (λs=>cA (n s) k) k):=by
 cases o with
 |none=>rfl|some c=>cases c<;>rfl
def Qb{n:σ->Option τ}{g:σ->Option τ}{h:ρ->Option τ}{s:σ}{w:τ}(q:cC n (ez g h) (.zO s)=some w):g s=some w:=q
variable{X:Cx} {S:List It} {fr:Fr} {H:cV} {a b:Code} {w:τ}
def Wj{d:κ}{e:κ->Option τ}(m:db d e=some w)(g k2:Nat)(R:κ->Fr->cV->Prop)(i:∀(j:κ) (K:Fr->cV->Prop),(∀f h,R j f h->K f h)->e j=some w->Wf X g (.c a::.h K::S) fr H)
  (k:∀f h,R d f h->Wf X k2 (.c b::S) f h):Wf X 0 (.c (.seq a b)::S) fr H:=
 wj g k2 (R d) (λK l=>i d K l m) k
def Wr(e:E){l:List α}{F:Int->α->σ->Option (eA σ ρ)}{k:σ⊕ρ->Option τ}{d:σ}(m:fh (dG l) (db F λF=>cA (dH F l 0 d) k)=some w)(q:Nat)(I:Int->σ->Fr->cV->Prop)(v:I 0 d fr H)
  (y:∀s f h K,I (dm l) s f h->k (.inl s)=some w->Wf X q (.c a::.h K::S) f h)
  (hs:∀j x s f h K n c,I j s f h->((E/\rv j (dm l)=true)/\c_ l j=some x)->F j x s=some c->cC n k c=some w->(∀g o p,I (dB .i64 j 1) g o p->n g=some w->K o p)->Wf X q (.c a::.h K::S) f h)
  {z:Nat}:Wf X (z+1) (.c (.loop a)::S) fr H:=by
 obtain⟨r,m⟩:=nq m;have m:cA (dH F l 0 d) k=some w:=m;refine wl q (λn f h=>∃(i:Nat) (s:σ),I (i:Int) s f h/\i+n=l.length/\cA (dH F (l.drop i) i s) k=some w) l.length ⟨0,d,v,by simp,by simpa using m⟩ ?_;rintro n f h ⟨i,s,u,hi,hm⟩ K A;rcases n with _|n
 ·have t:i=l.length:=by omega
  subst t;rw[IT (hO _),oA] at hm;exact y s f h K u hm
 ·obtain⟨x,B,hg⟩:=LC (l:=l) (i:=i) (by omega);rw[B,dC,Iq] at hm;obtain⟨c,C,D⟩:=dj hm;refine hs i x s f h K _ c u ⟨⟨e,N6 (by omega)⟩,hg⟩ C D λg o p b hn=>A o p n (XY _) ⟨i+1,g,?_,by omega,hn⟩;rw[HN (by omega) r] at b;exact b
def Wn{F:σ->Option (eA σ ρ)}{k:σ⊕ρ->Option τ}{b:σ}(m:db F (λF=>cA (lu F FU b) k)=some w)(j:Nat)(I:σ->Fr->cV->Prop)(l:I b fr H)
  (hs:∀s f h K n c,I s f h->F s=some c->cC n k c=some w->(∀d e g,I d e g->n d=some w->K e g)->Wf X j (.c a::.h K::S) f h)
  {o:Nat}:Wf X (o+1) (.c (.loop a)::S) fr H:=by
 have m:cA (lu F FU b) k=some w:=m;refine wl j (λn f h=>∃(s:σ),I s f h/\cA (lu F n s) k=some w) FU ⟨b,l,m⟩ ?_;rintro n f h ⟨s,p,hm⟩ K q;rcases n with _|n
 ·cases hm
 ·rw[lE,Iq] at hm;obtain⟨c,r,t⟩:=dj hm;exact hs s f h K _ c p r t λd e g i hn=>q e g n (XY _) ⟨d,i,hn⟩
variable{P:Program} {T:dA} {EE:List Nat} {ops:Array Oper} {q:Bool} {bs:List Bool} {rest:List Oper} {K:Fr->cV->Prop} {H':cV} {d:Option Nat} {as:List AV} {rr:AV} {g:FuncId}
def Cf(h:dy P T g as H rr H')(a:g' P T EE ops rest K (fr.put d rr) H'):mb P T EE ops (.func (.func g) [] []) as d rest K fr H:=mb.fn h a
def Cs(h:dy P T g as H rr H')(a:eM P T EE ops q bs rest K (fr.put d rr) H')(b:q=true->H'=H:=by simp):nL P T EE ops q bs (.func (.func g) [] []) as d rest K fr H:=nL.fn h b a
def Ao{t e sz d:Nat}{s x:AV}{f:α->AV}{D:List Nat}{tag a:Tag}(l m:List α)(h:iS fr.qS fr.ea D tag l.length)(b:nM P t=some (e,sz))(hlen:eC l m=true)
  (g:K {fr with env:=fF fr.env d (.slice (.loc d (fr.ea d+1)) ((fp l m).map f)),qS:=fF (rq tag fr.qS) d (some (fp l m).length),ea:=fF fr.ea d (fr.ea d+1)} H)
  (hs:s=.slice tag (l.map f):=by first|rfl|simp) (i:x=.slice a (m.map f):=by first|rfl|simp) (c:∀x,(f x).cells.length=sz:=by intro x;simp):uQ P t s x d K fr H:=
 uQ.own l m h b c hlen hs i g
def Ad{t e sz d:Nat}{s x:AV}{f:α->AV}{D:List Nat}{tag a:Tag}(l m:List α)(h:iS fr.qS fr.ea D tag l.length)(b:nM P t=some (e,sz))(hlen:eC l m=true)
  (g:K {fr with env:=fF fr.env d (.slice (.loc d (fr.ea d+1)) ((fp l m).map f)),qS:=fF (rq tag fr.qS) d (some (fp l m).length),ea:=fF fr.ea d (fr.ea d+1)} H)
  (hs:s=.slice tag (l.map f):=by first|rfl|simp) (i:x=.slice a (m.map f):=by first|rfl|simp) (c:∀x,(f x).cells.length=sz:=by intro x;simp):xF P t s x d K fr H:=
 xF.own l m h b c hlen hs i g
end
attribute [simp] wm
end Go.ky
namespace Go.ky
open Go Go.fg
abbrev sI(n:Int):AV:=.sc (.int .i64 n)
abbrev sB(b:Bool):AV:=.sc (.bool b)
abbrev sL{α:Type}(f:α->AV)(l:List α):AV:=.slice .eh (l.map f)
abbrev sT{α:Type}(t:Tag)(f:α->AV)(l:List α):AV:=.slice t (l.map f)
abbrev Ow{α:Type}(f:Fr)(D:List Nat)(t:Tag)(l:List α):Prop:=iS f.qS f.ea D t l.length
section
variable{qS:Nat->Option Nat} {ea:Nat->Nat} {D D':List Nat} {n:Nat} {t:Tag}
def On(d:Nat)(h:d∈D:=by decide):iS (fF qS d (some n)) (fF ea d (ea d+1)) D (.loc d (ea d+1)) n:=iS.new h
end
section
variable{α β γ δ ε ζ η θ:Type}
abbrev t2(a:α->AV)(b:β->AV)(p:α×β):AV:=.tuple [a p.1,b p.2]
abbrev t3(a:α->AV)(b:β->AV)(c:γ->AV)(p:α×β×γ):AV:=.tuple [a p.1,b p.2.1,c p.2.2]
@[simp] theorem aau(a:α->AV)(b:β->AV)(x:α)(y:β):t2 a b (x,y)=.tuple [a x,b y]:=rfl
abbrev C0(P:Program)(g:FuncId)(f:Option θ)(z:θ->AV):Prop:=∀{T:dA} {H:cV} {r:θ},f=some r->dy P T g [] H (z r) H
abbrev C1(P:Program)(g:FuncId)(f:α->Option θ)(z:θ->AV)(a:α->AV):Prop:=∀{T:dA} {H:cV} {x:α} {r:θ},f x=some r->dy P T g [a x] H (z r) H
abbrev C2(P:Program)(g:FuncId)(f:α->β->Option θ)(z:θ->AV)(a:α->AV)(b:β->AV):Prop:=∀{T:dA} {H:cV} {x:α} {y:β} {r:θ},f x y=some r->dy P T g [a x,b y] H (z r) H
abbrev C3(P:Program)(g:FuncId)(f:α->β->γ->Option θ)(z:θ->AV)(a:α->AV)(b:β->AV)(c:γ->AV):Prop:=∀{T:dA} {H:cV} {x:α} {y:β} {v:γ} {r:θ},f x y v=some r->dy P T g [a x,b y,c v] H (z r) H
abbrev C4(P:Program)(g:FuncId)(f:α->β->γ->δ->Option θ)(z:θ->AV)(a:α->AV)(b:β->AV)(c:γ->AV)(d:δ->AV):Prop:=∀{T:dA} {H:cV} {x:α} {y:β} {v:γ} {w:δ} {r:θ},f x y v w=some r->dy P T g [a x,b y,c v,d w] H (z r) H
abbrev C5(P:Program)(g:FuncId)(f:α->β->γ->δ->ε->Option θ)(z:θ->AV)(a:α->AV)(b:β->AV)(c:γ->AV)(d:δ->AV)(e:ε->AV):Prop:=∀{T:dA} {H:cV} {x:α} {y:β} {v:γ} {w:δ} {u:ε} {r:θ},f x y v w u=some r->dy P T g [a x,b y,c v,d w,e u] H (z r) H
end
end Go.ky
