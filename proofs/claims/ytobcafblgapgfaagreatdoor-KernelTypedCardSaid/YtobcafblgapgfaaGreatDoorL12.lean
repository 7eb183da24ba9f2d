/- Part of the proof of KernelTyped: layer. -/
import Derived.Test.YtobcafblgapgfaaGreatDoorL11
set_option linter.all false
namespace Go.m7
open Go Go.hI
inductive It where
 |c (x:Code)|b (id:Nat)|h (K:Fr->eD->Prop)
def Ry:List (Nat×Bool×List Bool)->Nat->Bool×List Bool
 |[],_=>(false,[])|x::l,i=>if i=x.1 then x.2 else Ry l i
structure Cx where
 P:Program
 T:fa
 n:Nat
 E:List Nat
 D:List (Nat×Bool×List Bool)
 rs:List ResultVar
 Post:AV->eD->Prop
def DK(n:Nat)(E:List Nat)(D:List (Nat×Bool×List Bool)):Code->Bool
 |.seq a b=>DK n E D a&&DK n E D b|.cond c a b=>jY c&&(DK n E D a&&DK n E D b)|.block _ a=>DK n E D a|.loop a=>DK n E D a|.scope a=>DK n E D a|.region _ ops false=>x' n ops|.region id ops true=>x' n ops&&xz E ops (λi=>(Ry D id).2.getD i true)|_=>true
def SQ(X:Cx):List It->Exit->Fr->eD->Prop
 |[],e,fr,H=>vS X.P X.rs X.Post e fr H|i::S,e,fr,H=>match i,e with
  |.c x,.normal=>X.P.follows .mixedOrders=true->DK X.n X.E X.D x=true->gJ X.P X.T X.n x (SQ X S) fr H|.b id,.exit j=>if j=id then SQ X S .normal fr H else SQ X S (.exit j) fr H|.h K,.normal=>K fr H|_,e=>SQ X S e fr H
def D4(id:Nat):List It->Option (List It)
 |[]=>none|.b j::S=>if j=id then some S else D4 id S|_::S=>D4 id S
def O7(A B:Fr->eD->Prop)(v:AV)(fr:Fr)(H:eD):Prop:=Ko v (A fr H) (B fr H)
def Wf(X:Cx):Nat->List It->Fr->eD->Prop
 |0,S,fr,H=>SQ X S .normal fr H|_+1,[],fr,H=>vS X.P X.rs X.Post .normal fr H|k+1,.b _::S,fr,H=>Wf X k S fr H|_+1,.h K::_,fr,H=>K fr H|k+1,.c x::S,fr,H=>match x with
  |.seq a b=>Wf X k (.c a::.c b::S) fr H|.skip=>Wf X k S fr H|.label _=>Wf X k S fr H|.scope a=>Wf X k (.c a::S) fr H|.block id a=>Wf X k (.c a::.b id::S) fr H|.exit id=>match D4 id S with|some d=>Wf X k d fr H|none=>False
  |.ret=>vS X.P X.rs X.Post .ret fr H|.cond c a b=>O7 (Wf X k (.c a::S)) (Wf X k (.c b::S)) (ev X.T fr c) fr H|.region _ ops false=>ju X.P X.T X.E ops ops.toList (Wf X k S) fr H|.region id ops true=>gO X.P X.T X.E ops (Ry X.D id).1 (Ry X.D id).2 ops.toList (Wf X k S) fr H|x=>SQ X (.c x::S) .normal fr H
def RO(X:Cx):∀(S:List It) (fr:Fr) (H:eD),SQ X S .ret fr H=vS X.P X.rs X.Post .ret fr H
 |[],_,_=>rfl|i::S,fr,H=>by
  have:=RO X S fr H;cases i<;>exact this
def OR(X:Cx)(l:Nat):∀(S:List It) (fr:Fr) (H:eD),SQ X S (.goto l) fr H=False
 |[],_,_=>rfl|i::S,fr,H=>by
  have:=OR X l S fr H;cases i<;>exact this
def KW(X:Cx)(id:Nat):∀(S a:List It) (fr:Fr) (H:eD),D4 id S=some a->SQ X S (.exit id) fr H=SQ X a .normal fr H
 |[],_,_,_,h=>by cases h
 |i::S,a,fr,H,h=>by
  cases i with
  |b j=>
   simp only[D4] at h;show(if id=j then SQ X S .normal fr H else SQ X S (.exit id) fr H)=_
   split at h
   ·rename_i e;rw[ee e.symm,iy h]
   ·rename_i e;rw[ea (λd=>e d.symm)];exact KW X id S a fr H h
  |c x=>exact KW X id S a fr H h|h K=>exact KW X id S a fr H h
def YL(K:Fr->eD->Prop):Exit->Fr->eD->Prop
 |.normal,fr,H=>K fr H|_,_,_=>False
def mr(X:Cx):∀(k:Nat) (S:List It) (fr:Fr) (H:eD),Wf X k S fr H->SQ X S .normal fr H
 |0,_,_,_,h=>h|_+1,[],_,_,h=>h|k+1,.b _::S,fr,H,h=>mr X k S fr H h|_+1,.h _::_,_,_,h=>h|k+1,.c x::S,fr,H,h=>by
  have up:∀{c:Code} {S:List It} {fr:Fr} {H:eD},gJ X.P X.T X.n c (YL (Wf X k S)) fr H->gJ X.P X.T X.n c (SQ X S) fr H:=λh=>h.mono λe fr' H' g=>by
   cases e<;>first|exact mr X k _ _ _ g|exact g.elim
  intro hm f;cases x with
  |seq a b=>
   have i:Wf X k (.c a::.c b::S) fr H:=h;have j:=mr X k _ _ _ i;simp only[DK,gI] at f;refine gJ.seq ((j hm f.1).mono λe fr' H' g=>?_)
   cases e<;>first|exact g hm f.2|exact g
  |skip=>exact gJ.skip (mr X k S fr H h)|label l=>exact gJ.label (mr X k S fr H h)|scope a=>
   have j:=mr X k (.c a::S) fr H h;refine gJ.scope ((j hm f).mono λe fr' H' g=>?_)
   cases e<;>first|exact⟨trivial,g⟩|(rw[OR] at g;exact g.elim)
  |block id a=>
   have j:=mr X k (.c a::.b id::S) fr H h;refine gJ.block ((j hm f).mono λe fr' H' g=>?_);cases e<;>exact g
  |exit id=>
   have i:(match D4 id S with|some m=>Wf X k m fr H|none=>False):=h
   split at i
   ·rename_i m hs;refine gJ.exit ?_;rw[KW X id S m fr H hs];exact mr X k m fr H i
   ·exact i.elim
  |ret=>
   refine gJ.ret ?_;rw[RO];exact h
  |cond c a b=>
   simp only[DK,gI] at f;have i:Ko (ev X.T fr c) (Wf X k (.c a::S) fr H) (Wf X k (.c b::S) fr H):=h;refine gJ.tS (λA B o p=>?_) f.1;generalize ev X.T fr c=v at i;cases v with
   |sc w=>
    cases w with
    |bool t=>
     cases t with
     |true=>exact o _ _ (mr X k _ _ _ i hm f.2.1)|false=>exact p _ _ (mr X k _ _ _ i hm f.2.2)
    |_=>exact i.elim
   |_=>exact i.elim
  |region id ops d=>
   cases d with
   |false=>exact up (gJ.region X.E f h)|true=>
    simp only[DK,gI] at f;exact up (gJ.TW X.E (Ry X.D id).1 (Ry X.D id).2 hm f.1 f.2 h)
  |_=>exact h hm f
section
variable{X:Cx} {k:Nat} {S:List It} {fr:Fr} {H:eD} {a b:Code} {c:Operand} {id:Nat} {ops:Array Oper} {A B:Fr->eD->Prop}
@[simp] theorem abf:Wf X (k+1) [] fr H=vS X.P X.rs X.Post .normal fr H:=rfl
@[simp] theorem abV:Wf X (k+1) (.b id::S) fr H=Wf X k S fr H:=rfl
@[simp] theorem abT{K:Fr->eD->Prop}:Wf X (k+1) (.h K::S) fr H=K fr H:=rfl
@[simp] theorem abk:Wf X (k+1) (.c (.seq a b)::S) fr H=Wf X k (.c a::.c b::S) fr H:=rfl
@[simp] theorem aav:Wf X (k+1) (.c .skip::S) fr H=Wf X k S fr H:=rfl
@[simp] theorem ZI:Wf X (k+1) (.c (.block id a)::S) fr H=Wf X k (.c a::.b id::S) fr H:=rfl
@[simp] theorem aat:Wf X (k+1) (.c (.exit id)::S) fr H=match D4 id S with|some a=>Wf X k a fr H|none=>False:=rfl
@[simp] theorem aa7:Wf X (k+1) (.c .ret::S) fr H=vS X.P X.rs X.Post .ret fr H:=rfl
@[simp] theorem aaA:Wf X (k+1) (.c (.cond c a b)::S) fr H=O7 (Wf X k (.c a::S)) (Wf X k (.c b::S)) (ev X.T fr c) fr H:=rfl
@[simp] theorem aaR:Wf X (k+1) (.c (.region id ops false)::S) fr H=ju X.P X.T X.E ops ops.toList (Wf X k S) fr H:=rfl
@[simp] theorem aaK:Wf X (k+1) (.c (.region id ops true)::S) fr H=gO X.P X.T X.E ops (Ry X.D id).1 (Ry X.D id).2 ops.toList (Wf X k S) fr H:=rfl
@[simp] theorem Xf:O7 A B (.sc (.bool true)) fr H=A fr H:=rfl
@[simp] theorem Vd:O7 A B (.sc (.bool false)) fr H=B fr H:=rfl
@[simp] theorem abn:D4 id (.c a::S)=D4 id S:=rfl
@[simp] theorem abm{K:Fr->eD->Prop}:D4 id (.h K::S)=D4 id S:=rfl
@[simp] theorem abv{j:Nat}:D4 id (.b j::S)=if j=id then some S else D4 id S:=rfl
@[simp] theorem aau{i:Nat}:Ry [] i=(false,[]):=rfl
@[simp] theorem Z7{x:Nat×Bool×List Bool}{l:List (Nat×Bool×List Bool)}{i:Nat}:Ry (x::l) i=if i=x.1 then x.2 else Ry l i:=rfl
@[simp] theorem Ts{P:Program}{T:fa}{E:List Nat}{q:Bool}{o:Oper}{rest:List Oper}{K:Fr->eD->Prop}:gO P T E ops q [] (o::rest) K fr H=gO P T E ops q [true] (o::rest) K fr H:=rfl
def wg(k:Nat)(h:Wf X k S fr H):Wf X 0 S fr H:=mr X k S fr H h
def wj(f k2:Nat)(R:Fr->eD->Prop)(i:∀K:Fr->eD->Prop,(∀fr H,R fr H->K fr H)->Wf X f (.c a::.h K::S) fr H)(j:∀fr H,R fr H->Wf X k2 (.c b::S) fr H):Wf X 0 (.c (.seq a b)::S) fr H:=by
 intro hm d;simp only[DK,gI] at d;have k:=mr X f _ _ _ (i (SQ X (.c b::S) .normal) λfr H h=>mr X k2 _ _ _ (j fr H h));refine gJ.seq ((k hm d.1).mono λe fr' H' g=>?_)
 cases e<;>first|exact g hm d.2|exact g
def wl(d:Nat)(I:Nat->Fr->eD->Prop)(m:Nat)(g:I m fr H)(i:∀m fr H,I m fr H->∀K:Fr->eD->Prop,(∀fr' H' f,f<m->I f fr' H'->K fr' H')->Wf X d (.c a::.h K::S) fr H):Wf X (k+1) (.c (.loop a)::S) fr H:=by
 intro hm b;refine gJ.Mu I m g λm fr H j K l=>?_;refine((mr X d _ _ _ (i m fr H j K l)) hm b).mono λe fr' H' n=>?_;cases e<;>exact n
end
def wi{P:Program}{T:fa}{H:eD}{f:FuncId}{args:List AV}{Post:AV->eD->Prop}{fn:Func}{c:Code}(hm:P.follows .mixedOrders=true)(d:P.funcs[f]?=some fn)(E:List Nat)(D:List (Nat×Bool×List Bool))(k:Nat)
  (h:Wf {P:=P,T:=T,n:=fn.ntmps,E:=E,D:=D,rs:=fn.results.toList,Post:=Post} k [.c c] (fr0 args) H)
  (e:fn.body=some c:=by rfl) (a:sw P f=true:=by decide+kernel) (hlen:args.length<=fn.ntmps:=by exact XV rfl) (b:DK fn.ntmps E D c=true:=by decide+kernel):fG P T f args H Post:=
 fG.intro d e a hlen (((mr _ _ _ _ _ h) hm b).mono λ_ _ _ g=>g)
end Go.m7
namespace Go.m7
open Go Go.hI
section
variable{α β γ δ ε ζ ρ σ τ κ:Type} {E A:Prop} {r:ρ} {c:Bool}
def Aj(e:E)(a:A):E/\A:=⟨e,a⟩
def ep(e:E){o:Option α}{f:α->Option ρ}(m:cv o f=some r):∃a,(E/\o=some a)/\f a=some r:=by
 obtain⟨a,b,c⟩:=eO m;exact⟨a,⟨e,b⟩,c⟩
def gv(e:E){o:Option (α×β)}{f:α->β->Option ρ}(m:ek o f=some r):∃a b,(E/\o=some (a,b))/\f a b=some r:=by
 obtain⟨a,b,c,d⟩:=jk m;exact⟨a,b,⟨e,c⟩,d⟩
def Kd(e:E){o:Option (α×β×γ)}{f:α->β->γ->Option ρ}(m:iL o f=some r):∃a b c,(E/\o=some (a,b,c))/\f a b c=some r:=by
 obtain⟨a,b,c,d,g⟩:=BK m;exact⟨a,b,c,⟨e,d⟩,g⟩
def Bo4(e:E){o:Option (α×β×γ×δ)}{f:α->β->γ->δ->Option ρ}(m:Ph o f=some r):∃a b c d,(E/\o=some (a,b,c,d))/\f a b c d=some r:=by
 obtain⟨a,b,c,d,g,h⟩:=NY m;exact⟨a,b,c,d,⟨e,g⟩,h⟩
def Ck(e:E){o:Option ρ}(m:gS c o=some r):(E/\c=true)/\o=some r:=⟨⟨e,(m9 m).1⟩,(m9 m).2⟩
def Io(e:E){a b:Option ρ}(m:(if c=true then a else b)=some r):((E/\c=true)/\a=some r)\/((E/\c=false)/\b=some r):=
 (jw m).imp (λh=>⟨⟨e,h.1⟩,h.2⟩) (λh=>⟨⟨e,h.1⟩,h.2⟩)
def Pb(c:Bool)(e:E):(E/\c=true)\/(E/\c=false):=by cases c<;>simp[e]
@[simp] theorem YF(a:Int):ue a a=false:=by simp[ue]
def cC(n:σ->Option τ)(k:σ⊕ρ->Option τ):gj σ ρ->Option τ
 |.next s=>n s|.Ft s=>k (.inl s)|.ret x=>k (.inr x)
def LZ(o:Option (gj σ ρ))(n:σ->Option (σ⊕ρ))(k:σ⊕ρ->Option τ):cv (cv o (MB n)) k=cv o (cC (λs=>cv (n s) k) k):=by
 cases o with
 |none=>rfl|some c=>cases c<;>rfl
def Qb{n g:σ->Option τ}{h:ρ->Option τ}{s:σ}{w:τ}(q:cC n (gd g h) (.Ft s)=some w):g s=some w:=q
variable{X:Cx} {S:List It} {fr:Fr} {H:eD} {a b:Code} {w:τ}
def Wj{d:κ}{e:κ->Option τ}(m:eK d e=some w)(g k2:Nat)(R:κ->Fr->eD->Prop)(i:∀(j:κ) (K:Fr->eD->Prop),(∀f h,R j f h->K f h)->e j=some w->Wf X g (.c a::.h K::S) fr H)
  (k:∀f h,R d f h->Wf X k2 (.c b::S) f h):Wf X 0 (.c (.seq a b)::S) fr H:=
 wj g k2 (R d) (λK l=>i d K l m) k
def Wr(e:E){l:List α}{F:Int->α->σ->Option (gj σ ρ)}{k:σ⊕ρ->Option τ}{d:σ}(m:gS (fm l) (eK F λF=>cv (fp F l 0 d) k)=some w)(q:Nat)(I:Int->σ->Fr->eD->Prop)(v:I 0 d fr H)
  (y:∀s f h K,I (eM l) s f h->k (.inl s)=some w->Wf X q (.c a::.h K::S) f h)
  (hs:∀j x s f h K n c,I j s f h->((E/\ue j (eM l)=true)/\eJ l j=some x)->F j x s=some c->cC n k c=some w->(∀g o p,I (fk .i64 j 1) g o p->n g=some w->K o p)->Wf X q (.c a::.h K::S) f h)
  {z:Nat}:Wf X (z+1) (.c (.loop a)::S) fr H:=by
 obtain⟨r,m⟩:=m9 m;have m:cv (fp F l 0 d) k=some w:=m;refine wl q (λn f h=>∃(i:Nat) (s:σ),I (i:Int) s f h/\i+n=l.length/\cv (fp F (l.drop i) i s) k=some w) l.length ⟨0,d,v,by simp,by simpa using m⟩ ?_;rintro n f h ⟨i,s,u,hi,hm⟩ K A;rcases n with _|n
 ·have t:i=l.length:=by omega
  subst t;rw[IM (jo _),pq] at hm;exact y s f h K u hm
 ·obtain⟨x,B,hg⟩:=Pj (l:=l) (i:=i) (by omega);rw[B,fl,LZ] at hm;obtain⟨c,C,D⟩:=eO hm;refine hs i x s f h K _ c u ⟨⟨e,Sn (by omega)⟩,hg⟩ C D λg o p b hn=>A o p n (Zr _) ⟨i+1,g,?_,by omega,hn⟩;rw[MU (by omega) r] at b;exact b
def Wn{F:σ->Option (gj σ ρ)}{k:σ⊕ρ->Option τ}{b:σ}(m:eK F (λF=>cv (pw F FU b) k)=some w)(j:Nat)(I:σ->Fr->eD->Prop)(l:I b fr H)
  (hs:∀s f h K n c,I s f h->F s=some c->cC n k c=some w->(∀d e g,I d e g->n d=some w->K e g)->Wf X j (.c a::.h K::S) f h)
  {o:Nat}:Wf X (o+1) (.c (.loop a)::S) fr H:=by
 have m:cv (pw F FU b) k=some w:=m;refine wl j (λn f h=>∃(s:σ),I s f h/\cv (pw F n s) k=some w) FU ⟨b,l,m⟩ ?_;rintro n f h ⟨s,p,hm⟩ K q;rcases n with _|n
 ·cases hm
 ·rw[od,LZ] at hm;obtain⟨c,r,t⟩:=eO hm;exact hs s f h K _ c p r t λd e g i hn=>q e g n (Zr _) ⟨d,i,hn⟩
variable{P:Program} {T:fa} {EE:List Nat} {ops:Array Oper} {q:Bool} {bs:List Bool} {rest:List Oper} {K:Fr->eD->Prop} {H':eD} {d:Option Nat} {as:List AV} {rr:AV} {g:FuncId}
def Cf(h:eZ P T g as H rr H')(a:ju P T EE ops rest K (fr.put d rr) H'):nc P T EE ops (.func (.func g) [] []) as d rest K fr H:=nc.fn h a
def Cs(h:eZ P T g as H rr H')(a:gO P T EE ops q bs rest K (fr.put d rr) H')(b:q=true->H'=H:=by simp):qJ P T EE ops q bs (.func (.func g) [] []) as d rest K fr H:=qJ.fn h b a
def Ao{t e sz d:Nat}{s x:AV}{f:α->AV}{D:List Nat}{tag a:Tag}(l m:List α)(h:iX fr.tM fr.fN D tag l.length)(b:qG P t=some (e,sz))(hlen:gr l m=true)
  (g:K {fr with env:=hS fr.env d (.slice (.loc d (fr.fN d+1)) ((gG l m).map f)),tM:=hS (uy tag fr.tM) d (some (gG l m).length),fN:=hS fr.fN d (fr.fN d+1)} H)
  (hs:s=.slice tag (l.map f):=by first|rfl|simp) (i:x=.slice a (m.map f):=by first|rfl|simp) (c:∀x,(f x).cells.length=sz:=by intro x;simp):sg P t s x d K fr H:=
 sg.own l m h b c hlen hs i g
def Ad{t e sz d:Nat}{s x:AV}{f:α->AV}{D:List Nat}{tag a:Tag}(l m:List α)(h:iX fr.tM fr.fN D tag l.length)(b:qG P t=some (e,sz))(hlen:gr l m=true)
  (g:K {fr with env:=hS fr.env d (.slice (.loc d (fr.fN d+1)) ((gG l m).map f)),tM:=hS (uy tag fr.tM) d (some (gG l m).length),fN:=hS fr.fN d (fr.fN d+1)} H)
  (hs:s=.slice tag (l.map f):=by first|rfl|simp) (i:x=.slice a (m.map f):=by first|rfl|simp) (c:∀x,(f x).cells.length=sz:=by intro x;simp):AY P t s x d K fr H:=
 AY.own l m h b c hlen hs i g
end
attribute [simp] vS
end Go.m7
namespace Go.m7
open Go Go.hI
abbrev sI(n:Int):AV:=.sc (.int .i64 n)
abbrev sB(b:Bool):AV:=.sc (.bool b)
abbrev sL{α:Type}(f:α->AV)(l:List α):AV:=.slice .iP (l.map f)
abbrev sT{α:Type}(t:Tag)(f:α->AV)(l:List α):AV:=.slice t (l.map f)
abbrev Ow{α:Type}(f:Fr)(D:List Nat)(t:Tag)(l:List α):Prop:=iX f.tM f.fN D t l.length
section
variable{tM:Nat->Option Nat} {fN:Nat->Nat} {D D':List Nat} {n:Nat} {t:Tag}
def On(d:Nat)(h:d∈D:=by decide):iX (hS tM d (some n)) (hS fN d (fN d+1)) D (.loc d (fN d+1)) n:=iX.new h
end
section
variable{α β γ δ ε ζ η θ:Type}
abbrev t2(a:α->AV)(b:β->AV)(p:α×β):AV:=.tuple [a p.1,b p.2]
abbrev t3(a:α->AV)(b:β->AV)(c:γ->AV)(p:α×β×γ):AV:=.tuple [a p.1,b p.2.1,c p.2.2]
@[simp] theorem abE(a:α->AV)(b:β->AV)(x:α)(y:β):t2 a b (x,y)=.tuple [a x,b y]:=rfl
@[simp] theorem abG(a:α->AV)(b:β->AV)(c:γ->AV)(x:α)(y:β)(z:γ):t3 a b c (x,y,z)=.tuple [a x,b y,c z]:=rfl
abbrev C0(P:Program)(g:FuncId)(f:Option θ)(z:θ->AV):Prop:=∀{T:fa} {H:eD} {r:θ},f=some r->eZ P T g [] H (z r) H
abbrev C1(P:Program)(g:FuncId)(f:α->Option θ)(z:θ->AV)(a:α->AV):Prop:=∀{T:fa} {H:eD} {x:α} {r:θ},f x=some r->eZ P T g [a x] H (z r) H
abbrev C2(P:Program)(g:FuncId)(f:α->β->Option θ)(z:θ->AV)(a:α->AV)(b:β->AV):Prop:=∀{T:fa} {H:eD} {x:α} {y:β} {r:θ},f x y=some r->eZ P T g [a x,b y] H (z r) H
abbrev C3(P:Program)(g:FuncId)(f:α->β->γ->Option θ)(z:θ->AV)(a:α->AV)(b:β->AV)(c:γ->AV):Prop:=∀{T:fa} {H:eD} {x:α} {y:β} {v:γ} {r:θ},f x y v=some r->eZ P T g [a x,b y,c v] H (z r) H
abbrev C4(P:Program)(g:FuncId)(f:α->β->γ->δ->Option θ)(z:θ->AV)(a:α->AV)(b:β->AV)(c:γ->AV)(d:δ->AV):Prop:=∀{T:fa} {H:eD} {x:α} {y:β} {v:γ} {w:δ} {r:θ},f x y v w=some r->eZ P T g [a x,b y,c v,d w] H (z r) H
abbrev C5(P:Program)(g:FuncId)(f:α->β->γ->δ->ε->Option θ)(z:θ->AV)(a:α->AV)(b:β->AV)(c:γ->AV)(d:δ->AV)(e:ε->AV):Prop:=∀{T:fa} {H:eD} {x:α} {y:β} {v:γ} {w:δ} {u:ε} {r:θ},f x y v w u=some r->eZ P T g [a x,b y,c v,d w,e u] H (z r) H
end
end Go.m7
