/- Part of the proof of KernelUniform: layer. -/
import Derived.Test.YtobcafblgapgfaaGreatDoorL11
set_option linter.all false
namespace Go.mS
open Go Go.hJ
inductive It where
 |c (x:Code)|b (id:Nat)|h (K:Fr->eD->Prop)
def Q9:List (Nat×Bool×List Bool)->Nat->Bool×List Bool
 |[],_=>(false,[])|x::l,i=>if i=x.1 then x.2 else Q9 l i
structure Cx where
 P:Program
 T:fg
 n:Nat
 E:List Nat
 D:List (Nat×Bool×List Bool)
 rs:List ResultVar
 Post:AV->eD->Prop
def CS(n:Nat)(E:List Nat)(D:List (Nat×Bool×List Bool)):Code->Bool
 |.seq a b=>CS n E D a&&CS n E D b|.cond c a b=>jT c&&(CS n E D a&&CS n E D b)|.block _ a=>CS n E D a|.loop a=>CS n E D a|.scope a=>CS n E D a|.region _ ops false=>yc n ops|.region id ops true=>yc n ops&&wH E ops (λi=>(Q9 D id).2.getD i true)|_=>true
def SQ(X:Cx):List It->Exit->Fr->eD->Prop
 |[],e,fr,H=>vu X.P X.rs X.Post e fr H|i::S,e,fr,H=>match i,e with
  |.c x,.normal=>X.P.follows .mixedOrders=true->CS X.n X.E X.D x=true->gI X.P X.T X.n x (SQ X S) fr H|.b id,.exit j=>if j=id then SQ X S .normal fr H else SQ X S (.exit j) fr H|.h K,.normal=>K fr H|_,e=>SQ X S e fr H
def Dq(id:Nat):List It->Option (List It)
 |[]=>none|.b j::S=>if j=id then some S else Dq id S|_::S=>Dq id S
def N_(A B:Fr->eD->Prop)(v:AV)(fr:Fr)(H:eD):Prop:=Jk v (A fr H) (B fr H)
def Wf(X:Cx):Nat->List It->Fr->eD->Prop
 |0,S,fr,H=>SQ X S .normal fr H|_+1,[],fr,H=>vu X.P X.rs X.Post .normal fr H|k+1,.b _::S,fr,H=>Wf X k S fr H|_+1,.h K::_,fr,H=>K fr H|k+1,.c x::S,fr,H=>match x with
  |.seq a b=>Wf X k (.c a::.c b::S) fr H|.skip=>Wf X k S fr H|.label _=>Wf X k S fr H|.scope a=>Wf X k (.c a::S) fr H|.block id a=>Wf X k (.c a::.b id::S) fr H|.exit id=>match Dq id S with|some d=>Wf X k d fr H|none=>False
  |.ret=>vu X.P X.rs X.Post .ret fr H|.cond c a b=>N_ (Wf X k (.c a::S)) (Wf X k (.c b::S)) (ev X.T fr c) fr H|.region _ ops false=>jn X.P X.T X.E ops ops.toList (Wf X k S) fr H|.region id ops true=>gP X.P X.T X.E ops (Q9 X.D id).1 (Q9 X.D id).2 ops.toList (Wf X k S) fr H|x=>SQ X (.c x::S) .normal fr H
def Sb(X:Cx):∀(S:List It) (fr:Fr) (H:eD),SQ X S .ret fr H=vu X.P X.rs X.Post .ret fr H
 |[],_,_=>rfl|i::S,fr,H=>by
  have:=Sb X S fr H;cases i<;>exact this
def N'(X:Cx)(l:Nat):∀(S:List It) (fr:Fr) (H:eD),SQ X S (.goto l) fr H=False
 |[],_,_=>rfl|i::S,fr,H=>by
  have:=N' X l S fr H;cases i<;>exact this
def J5(X:Cx)(id:Nat):∀(S a:List It) (fr:Fr) (H:eD),Dq id S=some a->SQ X S (.exit id) fr H=SQ X a .normal fr H
 |[],_,_,_,h=>by cases h
 |i::S,a,fr,H,h=>by
  cases i with
  |b j=>
   simp only[Dq] at h;show(if id=j then SQ X S .normal fr H else SQ X S (.exit id) fr H)=_
   split at h
   ·rename_i e;rw[ee e.symm,iw h]
   ·rename_i e;rw[ea (λd=>e d.symm)];exact J5 X id S a fr H h
  |c x=>exact J5 X id S a fr H h|h K=>exact J5 X id S a fr H h
def Y2(K:Fr->eD->Prop):Exit->Fr->eD->Prop
 |.normal,fr,H=>K fr H|_,_,_=>False
def mo(X:Cx):∀(k:Nat) (S:List It) (fr:Fr) (H:eD),Wf X k S fr H->SQ X S .normal fr H
 |0,_,_,_,h=>h|_+1,[],_,_,h=>h|k+1,.b _::S,fr,H,h=>mo X k S fr H h|_+1,.h _::_,_,_,h=>h|k+1,.c x::S,fr,H,h=>by
  have up:∀{c:Code} {S:List It} {fr:Fr} {H:eD},gI X.P X.T X.n c (Y2 (Wf X k S)) fr H->gI X.P X.T X.n c (SQ X S) fr H:=λh=>h.mono λe fr' H' g=>by
   cases e<;>first|exact mo X k _ _ _ g|exact g.elim
  intro hm f;cases x with
  |seq a b=>
   have i:Wf X k (.c a::.c b::S) fr H:=h;have j:=mo X k _ _ _ i;simp only[CS,gL] at f;refine gI.seq ((j hm f.1).mono λe fr' H' g=>?_)
   cases e<;>first|exact g hm f.2|exact g
  |skip=>exact gI.skip (mo X k S fr H h)|label l=>exact gI.label (mo X k S fr H h)|scope a=>
   have j:=mo X k (.c a::S) fr H h;refine gI.scope ((j hm f).mono λe fr' H' g=>?_)
   cases e<;>first|exact⟨trivial,g⟩|(rw[N'] at g;exact g.elim)
  |block id a=>
   have j:=mo X k (.c a::.b id::S) fr H h;refine gI.block ((j hm f).mono λe fr' H' g=>?_);cases e<;>exact g
  |exit id=>
   have i:(match Dq id S with|some m=>Wf X k m fr H|none=>False):=h
   split at i
   ·rename_i m hs;refine gI.exit ?_;rw[J5 X id S m fr H hs];exact mo X k m fr H i
   ·exact i.elim
  |ret=>
   refine gI.ret ?_;rw[Sb];exact h
  |cond c a b=>
   simp only[CS,gL] at f;have i:Jk (ev X.T fr c) (Wf X k (.c a::S) fr H) (Wf X k (.c b::S) fr H):=h;refine gI.tM (λA B o p=>?_) f.1;generalize ev X.T fr c=v at i;cases v with
   |sc w=>
    cases w with
    |bool t=>
     cases t with
     |true=>exact o _ _ (mo X k _ _ _ i hm f.2.1)|false=>exact p _ _ (mo X k _ _ _ i hm f.2.2)
    |_=>exact i.elim
   |_=>exact i.elim
  |region id ops d=>
   cases d with
   |false=>exact up (gI.region X.E f h)|true=>
    simp only[CS,gL] at f;exact up (gI.Te X.E (Q9 X.D id).1 (Q9 X.D id).2 hm f.1 f.2 h)
  |_=>exact h hm f
section
variable{X:Cx} {k:Nat} {S:List It} {fr:Fr} {H:eD} {a b:Code} {c:Operand} {id:Nat} {ops:Array Oper} {A B:Fr->eD->Prop}
@[simp] theorem Z9:Wf X (k+1) [] fr H=vu X.P X.rs X.Post .normal fr H:=rfl
@[simp] theorem aa0:Wf X (k+1) (.b id::S) fr H=Wf X k S fr H:=rfl
@[simp] theorem aa6{K:Fr->eD->Prop}:Wf X (k+1) (.h K::S) fr H=K fr H:=rfl
@[simp] theorem aaf:Wf X (k+1) (.c (.seq a b)::S) fr H=Wf X k (.c a::.c b::S) fr H:=rfl
@[simp] theorem ZH:Wf X (k+1) (.c .skip::S) fr H=Wf X k S fr H:=rfl
@[simp] theorem Yy:Wf X (k+1) (.c (.block id a)::S) fr H=Wf X k (.c a::.b id::S) fr H:=rfl
@[simp] theorem ZN:Wf X (k+1) (.c (.exit id)::S) fr H=match Dq id S with|some a=>Wf X k a fr H|none=>False:=rfl
@[simp] theorem aaq:Wf X (k+1) (.c .ret::S) fr H=vu X.P X.rs X.Post .ret fr H:=rfl
@[simp] theorem ZG:Wf X (k+1) (.c (.cond c a b)::S) fr H=N_ (Wf X k (.c a::S)) (Wf X k (.c b::S)) (ev X.T fr c) fr H:=rfl
@[simp] theorem aaw:Wf X (k+1) (.c (.region id ops false)::S) fr H=jn X.P X.T X.E ops ops.toList (Wf X k S) fr H:=rfl
@[simp] theorem ZD:Wf X (k+1) (.c (.region id ops true)::S) fr H=gP X.P X.T X.E ops (Q9 X.D id).1 (Q9 X.D id).2 ops.toList (Wf X k S) fr H:=rfl
@[simp] theorem Vm:N_ A B (.sc (.bool true)) fr H=A fr H:=rfl
@[simp] theorem Uv:N_ A B (.sc (.bool false)) fr H=B fr H:=rfl
@[simp] theorem Z3:Dq id (.c a::S)=Dq id S:=rfl
@[simp] theorem aaI{K:Fr->eD->Prop}:Dq id (.h K::S)=Dq id S:=rfl
@[simp] theorem aas{j:Nat}:Dq id (.b j::S)=if j=id then some S else Dq id S:=rfl
@[simp] theorem ZO{i:Nat}:Q9 [] i=(false,[]):=rfl
@[simp] theorem Yt{x:Nat×Bool×List Bool}{l:List (Nat×Bool×List Bool)}{i:Nat}:Q9 (x::l) i=if i=x.1 then x.2 else Q9 l i:=rfl
@[simp] theorem SA{P:Program}{T:fg}{E:List Nat}{q:Bool}{o:Oper}{rest:List Oper}{K:Fr->eD->Prop}:gP P T E ops q [] (o::rest) K fr H=gP P T E ops q [true] (o::rest) K fr H:=rfl
def wg(k:Nat)(h:Wf X k S fr H):Wf X 0 S fr H:=mo X k S fr H h
def wj(f k2:Nat)(R:Fr->eD->Prop)(i:∀K:Fr->eD->Prop,(∀fr H,R fr H->K fr H)->Wf X f (.c a::.h K::S) fr H)(j:∀fr H,R fr H->Wf X k2 (.c b::S) fr H):Wf X 0 (.c (.seq a b)::S) fr H:=by
 intro hm d;simp only[CS,gL] at d;have k:=mo X f _ _ _ (i (SQ X (.c b::S) .normal) λfr H h=>mo X k2 _ _ _ (j fr H h));refine gI.seq ((k hm d.1).mono λe fr' H' g=>?_)
 cases e<;>first|exact g hm d.2|exact g
def wl(d:Nat)(I:Nat->Fr->eD->Prop)(m:Nat)(g:I m fr H)(i:∀m fr H,I m fr H->∀K:Fr->eD->Prop,(∀fr' H' f,f<m->I f fr' H'->K fr' H')->Wf X d (.c a::.h K::S) fr H):Wf X (k+1) (.c (.loop a)::S) fr H:=by
 intro hm b;refine gI.Lt I m g λm fr H j K l=>?_;refine((mo X d _ _ _ (i m fr H j K l)) hm b).mono λe fr' H' n=>?_;cases e<;>exact n
end
def wi{P:Program}{T:fg}{H:eD}{f:FuncId}{args:List AV}{Post:AV->eD->Prop}{fn:Func}{c:Code}(hm:P.follows .mixedOrders=true)(d:P.funcs[f]?=some fn)(E:List Nat)(D:List (Nat×Bool×List Bool))(k:Nat)
  (h:Wf {P:=P,T:=T,n:=fn.ntmps,E:=E,D:=D,rs:=fn.results.toList,Post:=Post} k [.c c] (ZK args) H)
  (e:fn.body=some c:=by rfl) (a:su P f=true:=by decide+kernel) (hlen:args.length<=fn.ntmps:=by exact R3 rfl) (b:CS fn.ntmps E D c=true:=by decide+kernel):fH P T f args H Post:=
 fH.intro d e a hlen (((mo _ _ _ _ _ h) hm b).mono λ_ _ _ g=>g)
end Go.mS
namespace Go.mS
open Go Go.hJ
section
variable{α β γ δ ε ζ ρ σ τ κ:Type} {E A:Prop} {r:ρ} {c:Bool}
def Aj(e:E)(a:A):E/\A:=⟨e,a⟩
def ep(e:E){o:Option α}{f:α->Option ρ}(m:cv o f=some r):∃a,(E/\o=some a)/\f a=some r:=by
 obtain⟨a,b,c⟩:=eO m;exact⟨a,⟨e,b⟩,c⟩
def gq(e:E){o:Option (α×β)}{f:α->β->Option ρ}(m:ei o f=some r):∃a b,(E/\o=some (a,b))/\f a b=some r:=by
 obtain⟨a,b,c,d⟩:=jg m;exact⟨a,b,⟨e,c⟩,d⟩
def Ix(e:E){o:Option (α×β×γ)}{f:α->β->γ->Option ρ}(m:iG o f=some r):∃a b c,(E/\o=some (a,b,c))/\f a b c=some r:=by
 obtain⟨a,b,c,d,g⟩:=Bo m;exact⟨a,b,c,⟨e,d⟩,g⟩
def Bo4(e:E){o:Option (α×β×γ×δ)}{f:α->β->γ->δ->Option ρ}(m:Ob o f=some r):∃a b c d,(E/\o=some (a,b,c,d))/\f a b c d=some r:=by
 obtain⟨a,b,c,d,g,h⟩:=M_ m;exact⟨a,b,c,d,⟨e,g⟩,h⟩
def Ck(e:E){o:Option ρ}(m:g_ c o=some r):(E/\c=true)/\o=some r:=⟨⟨e,(mV m).1⟩,(mV m).2⟩
def Io(e:E){a b:Option ρ}(m:(if c=true then a else b)=some r):((E/\c=true)/\a=some r)\/((E/\c=false)/\b=some r):=
 (jm m).imp (λh=>⟨⟨e,h.1⟩,h.2⟩) (λh=>⟨⟨e,h.1⟩,h.2⟩)
def Pb(c:Bool)(e:E):(E/\c=true)\/(E/\c=false):=by cases c<;>simp[e]
@[simp] theorem Yp(a:Int):tW a a=false:=by simp[tW]
def cC(n:σ->Option τ)(k:σ⊕ρ->Option τ):gu σ ρ->Option τ
 |.next s=>n s|.DQ s=>k (.inl s)|.ret x=>k (.inr x)
def KM(o:Option (gu σ ρ))(n:σ->Option (σ⊕ρ))(k:σ⊕ρ->Option τ):cv (cv o (LK n)) k=cv o (cC (λs=>cv (n s) k) k):=by
 cases o with
 |none=>rfl|some c=>cases c<;>rfl
def Qb{n g:σ->Option τ}{h:ρ->Option τ}{s:σ}{w:τ}(q:cC n (gm g h) (.DQ s)=some w):g s=some w:=q
variable{X:Cx} {S:List It} {fr:Fr} {H:eD} {a b:Code} {w:τ}
def Wj{d:κ}{e:κ->Option τ}(m:eJ d e=some w)(g k2:Nat)(R:κ->Fr->eD->Prop)(i:∀(j:κ) (K:Fr->eD->Prop),(∀f h,R j f h->K f h)->e j=some w->Wf X g (.c a::.h K::S) fr H)
  (k:∀f h,R d f h->Wf X k2 (.c b::S) f h):Wf X 0 (.c (.seq a b)::S) fr H:=
 wj g k2 (R d) (λK l=>i d K l m) k
def Wr(e:E){l:List α}{F:Int->α->σ->Option (gu σ ρ)}{k:σ⊕ρ->Option τ}{d:σ}(m:g_ (fo l) (eJ F λF=>cv (ft F l 0 d) k)=some w)(q:Nat)(I:Int->σ->Fr->eD->Prop)(v:I 0 d fr H)
  (y:∀s f h K,I (eM l) s f h->k (.inl s)=some w->Wf X q (.c a::.h K::S) f h)
  (hs:∀j x s f h K n c,I j s f h->((E/\tW j (eM l)=true)/\eI l j=some x)->F j x s=some c->cC n k c=some w->(∀g o p,I (fj .i64 j 1) g o p->n g=some w->K o p)->Wf X q (.c a::.h K::S) f h)
  {z:Nat}:Wf X (z+1) (.c (.loop a)::S) fr H:=by
 obtain⟨r,m⟩:=mV m;have m:cv (ft F l 0 d) k=some w:=m;refine wl q (λn f h=>∃(i:Nat) (s:σ),I (i:Int) s f h/\i+n=l.length/\cv (ft F (l.drop i) i s) k=some w) l.length ⟨0,d,v,by simp,by simpa using m⟩ ?_;rintro n f h ⟨i,s,u,hi,hm⟩ K A;rcases n with _|n
 ·have t:i=l.length:=by omega
  subst t;rw[Hh (jh _),pe] at hm;exact y s f h K u hm
 ·obtain⟨x,B,hg⟩:=Om (l:=l) (i:=i) (by omega);rw[B,fm,KM] at hm;obtain⟨c,C,D⟩:=eO hm;refine hs i x s f h K _ c u ⟨⟨e,Q0 (by omega)⟩,hg⟩ C D λg o p b hn=>A o p n (QB _) ⟨i+1,g,?_,by omega,hn⟩;rw[L4 (by omega) r] at b;exact b
def Wn{F:σ->Option (gu σ ρ)}{k:σ⊕ρ->Option τ}{b:σ}(m:eJ F (λF=>cv (oH F FU b) k)=some w)(j:Nat)(I:σ->Fr->eD->Prop)(l:I b fr H)
  (hs:∀s f h K n c,I s f h->F s=some c->cC n k c=some w->(∀d e g,I d e g->n d=some w->K e g)->Wf X j (.c a::.h K::S) f h)
  {o:Nat}:Wf X (o+1) (.c (.loop a)::S) fr H:=by
 have m:cv (oH F FU b) k=some w:=m;refine wl j (λn f h=>∃(s:σ),I s f h/\cv (oH F n s) k=some w) FU ⟨b,l,m⟩ ?_;rintro n f h ⟨s,p,hm⟩ K q;rcases n with _|n
 ·cases hm
 ·rw[nP,KM] at hm;obtain⟨c,r,t⟩:=eO hm;exact hs s f h K _ c p r t λd e g i hn=>q e g n (QB _) ⟨d,i,hn⟩
variable{P:Program} {T:fg} {EE:List Nat} {ops:Array Oper} {q:Bool} {bs:List Bool} {rest:List Oper} {K:Fr->eD->Prop} {H':eD} {d:Option Nat} {as:List AV} {rr:AV} {g:FuncId}
def Cf(h:e9 P T g as H rr H')(a:jn P T EE ops rest K (fr.put d rr) H'):mW P T EE ops (.func (.func g) [] []) as d rest K fr H:=mW.fn h a
def Cs(h:e9 P T g as H rr H')(a:gP P T EE ops q bs rest K (fr.put d rr) H')(b:q=true->H'=H:=by simp):qF P T EE ops q bs (.func (.func g) [] []) as d rest K fr H:=qF.fn h b a
def Ao{t e sz d:Nat}{s x:AV}{f:α->AV}{D:List Nat}{tag a:Tag}(l m:List α)(h:iM fr.tx fr.fN D tag l.length)(b:qG P t=some (e,sz))(hlen:gf l m=true)
  (g:K {fr with env:=hQ fr.env d (.slice (.loc d (fr.fN d+1)) ((gv l m).map f)),tx:=hQ (uk tag fr.tx) d (some (gv l m).length),fN:=hQ fr.fN d (fr.fN d+1)} H)
  (hs:s=.slice tag (l.map f):=by first|rfl|simp) (i:x=.slice a (m.map f):=by first|rfl|simp) (c:∀x,(f x).cells.length=sz:=by intro x;simp):si P t s x d K fr H:=
 si.own l m h b c hlen hs i g
def Ad{t e sz d:Nat}{s x:AV}{f:α->AV}{D:List Nat}{tag a:Tag}(l m:List α)(h:iM fr.tx fr.fN D tag l.length)(b:qG P t=some (e,sz))(hlen:gf l m=true)
  (g:K {fr with env:=hQ fr.env d (.slice (.loc d (fr.fN d+1)) ((gv l m).map f)),tx:=hQ (uk tag fr.tx) d (some (gv l m).length),fN:=hQ fr.fN d (fr.fN d+1)} H)
  (hs:s=.slice tag (l.map f):=by first|rfl|simp) (i:x=.slice a (m.map f):=by first|rfl|simp) (c:∀x,(f x).cells.length=sz:=by intro x;simp):Ay P t s x d K fr H:=
 Ay.own l m h b c hlen hs i g
end
attribute [simp] vu
end Go.mS
namespace Go.mS
open Go Go.hJ
abbrev sI(n:Int):AV:=.sc (.int .i64 n)
abbrev sB(b:Bool):AV:=.sc (.bool b)
abbrev sL{α:Type}(f:α->AV)(l:List α):AV:=.slice .iN (l.map f)
abbrev sT{α:Type}(t:Tag)(f:α->AV)(l:List α):AV:=.slice t (l.map f)
abbrev Ow{α:Type}(f:Fr)(D:List Nat)(t:Tag)(l:List α):Prop:=iM f.tx f.fN D t l.length
section
variable{tx:Nat->Option Nat} {fN:Nat->Nat} {D D':List Nat} {n:Nat} {t:Tag}
def On(d:Nat)(h:d∈D:=by decide):iM (hQ tx d (some n)) (hQ fN d (fN d+1)) D (.loc d (fN d+1)) n:=iM.new h
end
section
variable{α β γ δ ε ζ η θ:Type}
abbrev t2(a:α->AV)(b:β->AV)(p:α×β):AV:=.tuple [a p.1,b p.2]
abbrev t3(a:α->AV)(b:β->AV)(c:γ->AV)(p:α×β×γ):AV:=.tuple [a p.1,b p.2.1,c p.2.2]
@[simp] theorem aaN(a:α->AV)(b:β->AV)(x:α)(y:β):t2 a b (x,y)=.tuple [a x,b y]:=rfl
@[simp] theorem aaO(a:α->AV)(b:β->AV)(c:γ->AV)(x:α)(y:β)(z:γ):t3 a b c (x,y,z)=.tuple [a x,b y,c z]:=rfl
abbrev C0(P:Program)(g:FuncId)(f:Option θ)(z:θ->AV):Prop:=∀{T:fg} {H:eD} {r:θ},f=some r->e9 P T g [] H (z r) H
abbrev C1(P:Program)(g:FuncId)(f:α->Option θ)(z:θ->AV)(a:α->AV):Prop:=∀{T:fg} {H:eD} {x:α} {r:θ},f x=some r->e9 P T g [a x] H (z r) H
abbrev C2(P:Program)(g:FuncId)(f:α->β->Option θ)(z:θ->AV)(a:α->AV)(b:β->AV):Prop:=∀{T:fg} {H:eD} {x:α} {y:β} {r:θ},f x y=some r->e9 P T g [a x,b y] H (z r) H
abbrev C3(P:Program)(g:FuncId)(f:α->β->γ->Option θ)(z:θ->AV)(a:α->AV)(b:β->AV)(c:γ->AV):Prop:=∀{T:fg} {H:eD} {x:α} {y:β} {v:γ} {r:θ},f x y v=some r->e9 P T g [a x,b y,c v] H (z r) H
abbrev C4(P:Program)(g:FuncId)(f:α->β->γ->δ->Option θ)(z:θ->AV)(a:α->AV)(b:β->AV)(c:γ->AV)(d:δ->AV):Prop:=∀{T:fg} {H:eD} {x:α} {y:β} {v:γ} {w:δ} {r:θ},f x y v w=some r->e9 P T g [a x,b y,c v,d w] H (z r) H
abbrev C5(P:Program)(g:FuncId)(f:α->β->γ->δ->ε->Option θ)(z:θ->AV)(a:α->AV)(b:β->AV)(c:γ->AV)(d:δ->AV)(e:ε->AV):Prop:=∀{T:fg} {H:eD} {x:α} {y:β} {v:γ} {w:δ} {u:ε} {r:θ},f x y v w u=some r->e9 P T g [a x,b y,c v,d w,e u] H (z r) H
end
end Go.mS
