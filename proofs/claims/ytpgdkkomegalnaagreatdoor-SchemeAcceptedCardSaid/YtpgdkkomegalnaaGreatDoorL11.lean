/- Part of the proof of SchemeAccepted: layer. -/
import Derived.Test.YtpgdkkomegalnaaGreatDoorL10
set_option linter.all false
namespace Go.kY
open Go Go.fN
inductive It where
 |c (x:Code)|b (id:Nat)|h (K:Fr->dS->Prop)
def Zq:List (Nat×Bool×List Bool)->Nat->Bool×List Bool
 |[],_=>(false,[])|x::l,i=>if i=x.1 then x.2 else Zq l i
structure Cx where
 P:Program
 T:eA
 n:Nat
 E:List Nat
 D:List (Nat×Bool×List Bool)
 rs:List ResultVar
 Post:AV->dS->Prop
 st:Nat->Bool:=λ_=>false
 cl:Nat->Nat:=λ_=>0
def tZ(n:Nat)(E:List Nat)(D:List (Nat×Bool×List Bool)):Code->Bool
 |.seq a b=>tZ n E D a&&tZ n E D b|.cond c a b=>jk c&&(tZ n E D a&&tZ n E D b)|.block _ a=>tZ n E D a|.loop a=>tZ n E D a|.scope a=>tZ n E D a|.region _ ops false=>xZ n ops|.region id ops true=>xZ n ops&&xM E ops (λi=>(Zq D id).2.getD i true)|_=>true
def SQ(X:Cx):List It->Exit->Fr->dS->Prop
 |[],e,fr,H=>vB X.P X.rs X.Post e fr H|i::S,e,fr,H=>match i,e with
  |.c x,.normal=>X.P.follows .mixedOrders=true->tZ X.n X.E X.D x=true->gd X.P X.T X.n x (SQ X S) fr H|.b id,.exit j=>if j=id then SQ X S .normal fr H else SQ X S (.exit j) fr H|.h K,.normal=>K fr H|_,e=>SQ X S e fr H
def Fo(id:Nat):List It->Option (List It)
 |[]=>none|.b j::S=>if j=id then some S else Fo id S|_::S=>Fo id S
def Ui(A B:Fr->dS->Prop)(v:AV)(fr:Fr)(H:dS):Prop:=MV v (A fr H) (B fr H)
def Wf(X:Cx):Nat->List It->Fr->dS->Prop
 |0,S,fr,H=>SQ X S .normal fr H|_+1,[],fr,H=>vB X.P X.rs X.Post .normal fr H|k+1,.b _::S,fr,H=>Wf X k S fr H|_+1,.h K::_,fr,H=>K fr H|k+1,.c x::S,fr,H=>match x with
  |.seq a b=>Wf X k (.c a::.c b::S) fr H|.skip=>Wf X k S fr H|.label _=>Wf X k S fr H|.scope a=>Wf X k (.c a::S) fr H|.block id a=>Wf X k (.c a::.b id::S) fr H|.exit id=>match Fo id S with|some d=>Wf X k d fr H|none=>False
  |.ret=>vB X.P X.rs X.Post .ret fr H|.cond c a b=>Ui (Wf X k (.c a::S)) (Wf X k (.c b::S)) (ev X.T fr c) fr H|.region _ ops false=>hJ X.P X.T X.E ops ops.toList (Wf X k S) fr H|.region id ops true=>fA X.P X.T X.E ops ⟨(Zq X.D id).1,X.st,X.cl⟩ (Zq X.D id).2 ops.toList (Wf X k S) fr H|x=>SQ X (.c x::S) .normal fr H
def ZX(X:Cx):∀(S:List It) (fr:Fr) (H:dS),SQ X S .ret fr H=vB X.P X.rs X.Post .ret fr H
 |[],_,_=>rfl|i::S,fr,H=>by
  have:=ZX X S fr H;cases i<;>exact this
def TE(X:Cx)(l:Nat):∀(S:List It) (fr:Fr) (H:dS),SQ X S (.goto l) fr H=False
 |[],_,_=>rfl|i::S,fr,H=>by
  have:=TE X l S fr H;cases i<;>exact this
def MA(X:Cx)(id:Nat):∀(S a:List It) (fr:Fr) (H:dS),Fo id S=some a->SQ X S (.exit id) fr H=SQ X a .normal fr H
 |[],_,_,_,h=>by cases h
 |i::S,a,fr,H,h=>by
  cases i with
  |b j=>
   simp only[Fo] at h;show(if id=j then SQ X S .normal fr H else SQ X S (.exit id) fr H)=_
   split at h
   ·rename_i e;rw[dO e.symm,iq h]
   ·rename_i e;rw[dI (λd=>e d.symm)];exact MA X id S a fr H h
  |c x=>exact MA X id S a fr H h|h K=>exact MA X id S a fr H h
def ajc(K:Fr->dS->Prop):Exit->Fr->dS->Prop
 |.normal,fr,H=>K fr H|_,_,_=>False
def lO(X:Cx):∀(k:Nat) (S:List It) (fr:Fr) (H:dS),Wf X k S fr H->SQ X S .normal fr H
 |0,_,_,_,h=>h|_+1,[],_,_,h=>h|k+1,.b _::S,fr,H,h=>lO X k S fr H h|_+1,.h _::_,_,_,h=>h|k+1,.c x::S,fr,H,h=>by
  have up:∀{c:Code} {S:List It} {fr:Fr} {H:dS},gd X.P X.T X.n c (ajc (Wf X k S)) fr H->gd X.P X.T X.n c (SQ X S) fr H:=λh=>h.mono λe fr' H' i=>by
   cases e<;>first|exact lO X k _ _ _ i|exact i.elim
  intro hm f;cases x with
  |seq a b=>
   have j:Wf X k (.c a::.c b::S) fr H:=h;have o:=lO X k _ _ _ j;simp only[tZ,gE] at f;refine gd.seq ((o hm f.1).mono λe fr' H' i=>?_)
   cases e<;>first|exact i hm f.2|exact i
  |skip=>exact gd.skip (lO X k S fr H h)|label l=>exact gd.label (lO X k S fr H h)|scope a=>
   have o:=lO X k (.c a::S) fr H h;refine gd.scope ((o hm f).mono λe fr' H' i=>?_)
   cases e<;>first|exact⟨trivial,i⟩|(rw[TE] at i;exact i.elim)
  |block id a=>
   have o:=lO X k (.c a::.b id::S) fr H h;refine gd.block ((o hm f).mono λe fr' H' i=>?_);cases e<;>exact i
  |exit id=>
   have j:(match Fo id S with|some q=>Wf X k q fr H|none=>False):=h
   split at j
   ·rename_i q hs;refine gd.exit ?_;rw[MA X id S q fr H hs];exact lO X k q fr H j
   ·exact j.elim
  |ret=>
   refine gd.ret ?_;rw[ZX];exact h
  |cond c a b=>
   simp only[tZ,gE] at f;have j:MV (ev X.T fr c) (Wf X k (.c a::S) fr H) (Wf X k (.c b::S) fr H):=h;refine gd.tA (λA B r s=>?_) f.1;generalize ev X.T fr c=v at j;cases v with
   |sc w=>
    cases w with
    |bool t=>
     cases t with
     |true=>exact r _ _ (lO X k _ _ _ j hm f.2.1)|false=>exact s _ _ (lO X k _ _ _ j hm f.2.2)
    |_=>exact j.elim
   |_=>exact j.elim
  |region id ops d=>
   cases d with
   |false=>exact up (gd.region X.E f h)|true=>
    simp only[tZ,gE] at f;exact up (gd.acP X.E ⟨(Zq X.D id).1,X.st,X.cl⟩ (Zq X.D id).2 hm f.1 f.2 h)
  |_=>exact h hm f
section
variable{X:Cx} {k:Nat} {S:List It} {fr:Fr} {H:dS} {a b:Code} {c:Operand} {id:Nat} {ops:Array Oper} {A B:Fr->dS->Prop}
@[simp] theorem amQ:Wf X (k+1) [] fr H=vB X.P X.rs X.Post .normal fr H:=rfl
@[simp] theorem anT:Wf X (k+1) (.b id::S) fr H=Wf X k S fr H:=rfl
@[simp] theorem anE{K:Fr->dS->Prop}:Wf X (k+1) (.h K::S) fr H=K fr H:=rfl
@[simp] theorem am1:Wf X (k+1) (.c (.seq a b)::S) fr H=Wf X k (.c a::.c b::S) fr H:=rfl
@[simp] theorem al5:Wf X (k+1) (.c .skip::S) fr H=Wf X k S fr H:=rfl
@[simp] theorem ajm:Wf X (k+1) (.c (.label id)::S) fr H=Wf X k S fr H:=rfl
@[simp] theorem ajK:Wf X (k+1) (.c (.scope a)::S) fr H=Wf X k (.c a::S) fr H:=rfl
@[simp] theorem ajh:Wf X (k+1) (.c (.block id a)::S) fr H=Wf X k (.c a::.b id::S) fr H:=rfl
@[simp] theorem alH:Wf X (k+1) (.c (.exit id)::S) fr H=match Fo id S with|some a=>Wf X k a fr H|none=>False:=rfl
@[simp] theorem amR:Wf X (k+1) (.c .ret::S) fr H=vB X.P X.rs X.Post .ret fr H:=rfl
@[simp] theorem alS:Wf X (k+1) (.c (.cond c a b)::S) fr H=Ui (Wf X k (.c a::S)) (Wf X k (.c b::S)) (ev X.T fr c) fr H:=rfl
@[simp] theorem amt:Wf X (k+1) (.c (.region id ops false)::S) fr H=hJ X.P X.T X.E ops ops.toList (Wf X k S) fr H:=rfl
@[simp] theorem al0:Wf X (k+1) (.c (.region id ops true)::S) fr H=fA X.P X.T X.E ops ⟨(Zq X.D id).1,X.st,X.cl⟩ (Zq X.D id).2 ops.toList (Wf X k S) fr H:=rfl
@[simp] theorem ahN:Ui A B (.sc (.bool true)) fr H=A fr H:=rfl
@[simp] theorem adW:Ui A B (.sc (.bool false)) fr H=B fr H:=rfl
@[simp] theorem ame:Fo id (.c a::S)=Fo id S:=rfl
@[simp] theorem amb{K:Fr->dS->Prop}:Fo id (.h K::S)=Fo id S:=rfl
@[simp] theorem amh{j:Nat}:Fo id (.b j::S)=if j=id then some S else Fo id S:=rfl
@[simp] theorem alI{i:Nat}:Zq [] i=(false,[]):=rfl
@[simp] theorem aj5{x:Nat×Bool×List Bool}{l:List (Nat×Bool×List Bool)}{i:Nat}:Zq (x::l) i=if i=x.1 then x.2 else Zq l i:=rfl
@[simp] theorem aap{P:Program}{T:eA}{E:List Nat}{q:Qt}{o:Oper}{rest:List Oper}{K:Fr->dS->Prop}:fA P T E ops q [] (o::rest) K fr H=fA P T E ops q [true] (o::rest) K fr H:=rfl
def wg(k:Nat)(h:Wf X k S fr H):Wf X 0 S fr H:=lO X k S fr H h
def wj(f k2:Nat)(R:Fr->dS->Prop)(j:∀K:Fr->dS->Prop,(∀fr H,R fr H->K fr H)->Wf X f (.c a::.h K::S) fr H)(k:∀fr H,R fr H->Wf X k2 (.c b::S) fr H):Wf X 0 (.c (.seq a b)::S) fr H:=by
 intro hm d;simp only[tZ,gE] at d;have l:=lO X f _ _ _ (j (SQ X (.c b::S) .normal) λfr H h=>lO X k2 _ _ _ (k fr H h));refine gd.seq ((l hm d.1).mono λe fr' H' i=>?_)
 cases e<;>first|exact i hm d.2|exact i
def wl(d:Nat)(I:Nat->Fr->dS->Prop)(m:Nat)(i:I m fr H)(j:∀m fr H,I m fr H->∀K:Fr->dS->Prop,(∀fr' H' f,f<m->I f fr' H'->K fr' H')->Wf X d (.c a::.h K::S) fr H):Wf X (k+1) (.c (.loop a)::S) fr H:=by
 intro hm b;refine gd.Pl I m i λm fr H l K n=>?_;refine((lO X d _ _ _ (j m fr H l K n)) hm b).mono λe fr' H' o=>?_;cases e<;>exact o
end
def wi{P:Program}{T:eA}{H:dS}{f:FuncId}{args:List AV}{Post:AV->dS->Prop}{fn:Func}{c:Code}(hm:P.follows .mixedOrders=true)(d:P.funcs[f]?=some fn)(E:List Nat)(D:List (Nat×Bool×List Bool))(k:Nat)
  (h:Wf {P:=P,T:=T,n:=fn.ntmps,E:=E,D:=D,rs:=fn.results.toList,Post:=Post} k [.c c] (Rq args) H)
  (i:fn.body=some c:=by rfl) (a:kj P f=true:=by decide+kernel) (hlen:args.length<=fn.ntmps:=by exact B5 rfl) (b:tZ fn.ntmps E D c=true:=by decide+kernel):fb P T f args H Post:=
 fb.intro d i a hlen (((lO _ _ _ _ _ h) hm b).mono λ_ _ _ j=>j)
end Go.kY
namespace Go.kY
open Go Go.fN
section
variable{α β γ δ ε ζ ρ σ τ κ:Type} {E A:Prop} {r:ρ} {c:Bool}
def Aj(e:E)(a:A):E/\A:=⟨e,a⟩
def iR(e:E){o:Option α}{f:α->Option ρ}(m:dE o f=some r):∃a,(E/\o=some a)/\f a=some r:=by
 obtain⟨a,b,c⟩:=ep m;exact⟨a,⟨e,b⟩,c⟩
def Bo2(e:E){o:Option (α×β)}{f:α->β->Option ρ}(m:dR o f=some r):∃a b,(E/\o=some (a,b))/\f a b=some r:=by
 obtain⟨a,b,c,d⟩:=ik m;exact⟨a,b,⟨e,c⟩,d⟩
def Bo3(e:E){o:Option (α×β×γ)}{f:α->β->γ->Option ρ}(m:fB o f=some r):∃a b c,(E/\o=some (a,b,c))/\f a b c=some r:=by
 obtain⟨a,b,c,d,h⟩:=vQ m;exact⟨a,b,c,⟨e,d⟩,h⟩
def Bo4(e:E){o:Option (α×β×γ×δ)}{f:α->β->γ->δ->Option ρ}(m:OY o f=some r):∃a b c d,(E/\o=some (a,b,c,d))/\f a b c d=some r:=by
 obtain⟨a,b,c,d,h,i⟩:=Sr m;exact⟨a,b,c,d,⟨e,h⟩,i⟩
def Bo5(e:E){o:Option (α×β×γ×δ×ε)}{f:α->β->γ->δ->ε->Option ρ}(m:TV o f=some r):∃a b c d g,(E/\o=some (a,b,c,d,g))/\f a b c d g=some r:=by
 obtain⟨a,b,c,d,g,h,i⟩:=RV m;exact⟨a,b,c,d,g,⟨e,h⟩,i⟩
def Ck(e:E){o:Option ρ}(m:gh c o=some r):(E/\c=true)/\o=some r:=⟨⟨e,(lh m).1⟩,(lh m).2⟩
def Io(e:E){a b:Option ρ}(m:(if c then a else b)=some r):((E/\c=true)/\a=some r)\/((E/\c=false)/\b=some r):=
 (iS m).imp (λh=>⟨⟨e,h.1⟩,h.2⟩) (λh=>⟨⟨e,h.1⟩,h.2⟩)
def Pb(c:Bool)(e:E):(E/\c=true)\/(E/\c=false):=by grind
@[simp] theorem akT(a:Int):rA a a=false:=by simp[rA]
def cC(n:σ->Option τ)(k:σ⊕ρ->Option τ):fV σ ρ->Option τ
 |.next s=>n s|.FP s=>k (.inl s)|.ret x=>k (.inr x)
def OU(o:Option (fV σ ρ))(n:σ->Option (σ⊕ρ))(k:σ⊕ρ->Option τ):dE (dE o (PD n)) k=dE o (cC (λs=>dE (n s) k) k):=by
 cases o with
 |none=>rfl|some c=>cases c<;>rfl
def Qb{n g:σ->Option τ}{h:ρ->Option τ}{s:σ}{w:τ}(q:cC n (fG g h) (.FP s)=some w):g s=some w:=q
variable{X:Cx} {S:List It} {fr:Fr} {H:dS} {a b:Code} {w:τ}
def Wj{d:κ}{i:κ->Option τ}(m:ec d i=some w)(k k2:Nat)(R:κ->Fr->dS->Prop)(l:∀(j:κ) (K:Fr->dS->Prop),(∀f h,R j f h->K f h)->i j=some w->Wf X k (.c a::.h K::S) fr H)
  (n:∀f h,R d f h->Wf X k2 (.c b::S) f h):Wf X 0 (.c (.seq a b)::S) fr H:=
 wj k k2 (R d) (λK o=>l d K o m) n
def Wr(e:E){l:List α}{F:Int->α->σ->Option (fV σ ρ)}{k:σ⊕ρ->Option τ}{r:σ}(m:gh (eM l) (ec F λF=>dE (eV F l 0 r) k)=some w)(t:Nat)(I:Int->σ->Fr->dS->Prop)(A:I 0 r fr H)
  (B:∀s f h K,I (ey l) s f h->k (.inl s)=some w->Wf X t (.c a::.h K::S) f h)
  (hs:∀j x s f h K n c,I j s f h->((E/\rA j (ey l)=true)/\dX l j=some x)->F j x s=some c->cC n k c=some w->(∀d o q,I (eL .i64 j 1) d o q->n d=some w->K o q)->Wf X t (.c a::.h K::S) f h)
  {C:Nat}:Wf X (C+1) (.c (.loop a)::S) fr H:=by
 obtain⟨u,m⟩:=lh m;refine wl t (λn f h=>∃(i:Nat) (s:σ),I (i:Int) s f h/\i+n=l.length/\dE (eV F (l.drop i) i s) k=some w) l.length ⟨0,r,A,LA,by simpa using m⟩ ?_;rintro n f h ⟨i,s,y,hi,hm⟩ K D;rcases n with _|n
 ·have v:i=l.length:=xL
  subst v;rw[Ku (jy _),oH] at hm;exact B s f h K y hm
 ·obtain⟨x,G,hg⟩:=Uv (l:=l) (i:=i) xL;rw[G,fm,OU] at hm;obtain⟨c,J,L⟩:=ep hm;refine hs i x s f h K _ c y ⟨⟨e,ZW xL⟩,hg⟩ J L λd o q b hn=>D o q n (X7 _) ⟨i+1,d,?_,xL,hn⟩;rw[Pv xL u] at b;exact b
def Wn{F:σ->Option (fV σ ρ)}{k:σ⊕ρ->Option τ}{j:σ}(m:ec F (λF=>dE (n9 F FU j) k)=some w)(o:Nat)(I:σ->Fr->dS->Prop)(q:I j fr H)
  (hs:∀s f h K n c,I s f h->F s=some c->cC n k c=some w->(∀b d i,I b d i->n b=some w->K d i)->Wf X o (.c a::.h K::S) f h)
  {r:Nat}:Wf X (r+1) (.c (.loop a)::S) fr H:=by
 refine wl o (λn f h=>∃(s:σ),I s f h/\dE (n9 F n s) k=some w) FU ⟨j,q,m⟩ ?_;rintro n f h ⟨s,t,hm⟩ K u;rcases n with _|n
 ·cases hm
 ·rw[qX,OU] at hm;obtain⟨c,v,x⟩:=ep hm;exact hs s f h K _ c t v x λb d i l hn=>u d i n (X7 _) ⟨b,l,hn⟩
variable{P:Program} {T:eA} {EE:List Nat} {ops:Array Oper} {q:Qt} {bs:List Bool} {rest:List Oper} {K:Fr->dS->Prop} {H':dS} {d:Option Nat} {as:List AV} {rr:AV} {g:FuncId}
def Cf(h:et P T g as H rr H')(a:hJ P T EE ops rest K (fr.put d rr) H'):kB P T EE ops (.func (.func g) [] []) as d rest K fr H:=kB.fn h a
def Cs(h:et P T g as H rr H')(a:fA P T EE ops q bs rest K (fr.put d rr) H')(b:QK q H H':=by simp):gM P T EE ops q bs (.func (.func g) [] []) as d rest K fr H:=gM.fn h b a
def Ao{t e sz d:Nat}{s x:AV}{f:α->AV}{D:List Nat}{tag a:Tag}(l m:List α)(h:gL fr.qb fr.fa D tag l.length)(b:n7 P t=some (e,sz))(hlen:fK l m=true)
  (i:K {fr with env:=gA fr.env d (.slice (.loc d (fr.fa d+1)) ((fT l m).map f)),qb:=gA (uv tag fr.qb) d (some (fT l m).length),fa:=gA fr.fa d (fr.fa d+1)} H)
  (hs:s=.slice tag (l.map f):=by first|rfl|simp) (j:x=.slice a (m.map f):=by first|rfl|simp) (c:∀x,(f x).cells.length=sz:=by intro x;simp):rC P t s x d K fr H:=
 rC.own l m h b c hlen hs j i
def Ad{t e sz d:Nat}{s x:AV}{f:α->AV}{D:List Nat}{tag a:Tag}(l m:List α)(h:gL fr.qb fr.fa D tag l.length)(b:n7 P t=some (e,sz))(hlen:fK l m=true)
  (i:K {fr with env:=gA fr.env d (.slice (.loc d (fr.fa d+1)) ((fT l m).map f)),qb:=gA (uv tag fr.qb) d (some (fT l m).length),fa:=gA fr.fa d (fr.fa d+1)} H)
  (hs:s=.slice tag (l.map f):=by first|rfl|simp) (j:x=.slice a (m.map f):=by first|rfl|simp) (c:∀x,(f x).cells.length=sz:=by intro x;simp):BY P t s x d K fr H:=
 BY.own l m h b c hlen hs j i
end
attribute [simp] vB
end Go.kY
namespace Go.kY
open Go Go.fN
abbrev sI(n:Int):AV:=.sc (.int .i64 n)
abbrev sB(b:Bool):AV:=.sc (.bool b)
abbrev sL{α:Type}(f:α->AV)(l:List α):AV:=.slice .gx (l.map f)
abbrev sT{α:Type}(t:Tag)(f:α->AV)(l:List α):AV:=.slice t (l.map f)
abbrev Ow{α:Type}(f:Fr)(D:List Nat)(t:Tag)(l:List α):Prop:=gL f.qb f.fa D t l.length
section
variable{qb:Nat->Option Nat} {fa:Nat->Nat} {D D':List Nat} {n:Nat} {t:Tag}
def On(d:Nat)(h:d∈D:=by decide):gL (gA qb d (some n)) (gA fa d (fa d+1)) D (.loc d (fa d+1)) n:=gL.new h
def Om(h:gL qb fa D t n)(a:∀k,k∈D->k∈D':=by decide):gL qb fa D' t n:=h.mono a
end
section
variable{α β γ δ ε ζ η θ:Type}
abbrev t2(a:α->AV)(b:β->AV)(p:α×β):AV:=.tuple [a p.1,b p.2]
abbrev t3(a:α->AV)(b:β->AV)(c:γ->AV)(p:α×β×γ):AV:=.tuple [a p.1,b p.2.1,c p.2.2]
@[simp] theorem anm(a:α->AV)(b:β->AV)(x:α)(y:β):t2 a b (x,y)=.tuple [a x,b y]:=rfl
@[simp] theorem ank(a:α->AV)(b:β->AV)(c:γ->AV)(x:α)(y:β)(z:γ):t3 a b c (x,y,z)=.tuple [a x,b y,c z]:=rfl
abbrev C0(P:Program)(g:FuncId)(f:Option θ)(z:θ->AV):Prop:=∀{T:eA} {H:dS} {r:θ},f=some r->et P T g [] H (z r) H
abbrev C1(P:Program)(g:FuncId)(f:α->Option θ)(z:θ->AV)(a:α->AV):Prop:=∀{T:eA} {H:dS} {x:α} {r:θ},f x=some r->et P T g [a x] H (z r) H
abbrev C2(P:Program)(g:FuncId)(f:α->β->Option θ)(z:θ->AV)(a:α->AV)(b:β->AV):Prop:=∀{T:eA} {H:dS} {x:α} {y:β} {r:θ},f x y=some r->et P T g [a x,b y] H (z r) H
abbrev C3(P:Program)(g:FuncId)(f:α->β->γ->Option θ)(z:θ->AV)(a:α->AV)(b:β->AV)(c:γ->AV):Prop:=∀{T:eA} {H:dS} {x:α} {y:β} {v:γ} {r:θ},f x y v=some r->et P T g [a x,b y,c v] H (z r) H
abbrev C4(P:Program)(g:FuncId)(f:α->β->γ->δ->Option θ)(z:θ->AV)(a:α->AV)(b:β->AV)(c:γ->AV)(d:δ->AV):Prop:=∀{T:eA} {H:dS} {x:α} {y:β} {v:γ} {w:δ} {r:θ},f x y v w=some r->et P T g [a x,b y,c v,d w] H (z r) H
abbrev C5(P:Program)(g:FuncId)(f:α->β->γ->δ->ε->Option θ)(z:θ->AV)(a:α->AV)(b:β->AV)(c:γ->AV)(d:δ->AV)(e:ε->AV):Prop:=∀{T:eA} {H:dS} {x:α} {y:β} {v:γ} {w:δ} {u:ε} {r:θ},f x y v w u=some r->et P T g [a x,b y,c v,d w,e u] H (z r) H
end
end Go.kY
namespace Go.kY
open Go Go.fN
abbrev nL:AV:=.slice .full []
abbrev bx(f:Fr)(b:Nat)(c:List AV):Prop:=f.1 b=AV.gX b (f.gen b) 0/\f.box b=some c
attribute [simp] bx
section
variable{E G:Prop} {ρ:Type} {r:ρ} {c:Bool} {a b:Option ρ}
def Iq(e:E)(m:(if c then a else b)=some r)(d:E/\c=true->a=some r->G)(f:E/\c=false->b=some r->G):G:=
 (Io e m).elim (λh=>d h.1 h.2) (λh=>f h.1 h.2)
def Ir(e:E)(m:(if c then a else b)=some r)(d:E/\c=false->b=some r->G)(f:E/\c=true->a=some r->G):G:=Iq e m f d
def Il(e:E) (m:(if c then a else b)=some r) (d:E/\c=false->b=some r->G) (f:E/\c=true->a=some r->G:=by intro e m;cases m;(try cases z);(try cases z);simp[e];done):G:=Iq e m f d
def Im(e:E) (m:(if c then a else b)=some r) (d:E/\c=true->a=some r->G) (f:E/\c=false->b=some r->G:=by intro e m;cases m;(try cases z);(try cases z);simp[e];done):G:=Iq e m d f
def au(h:G:=by cases m;(try cases z);(try cases z);simp[e];done):G:=h
def aj(h:G:=by simp[e];exact g _ _ VW):G:=h
def ak0(h:G:=by simp[e];exact g _ _ ⟨VW,m⟩):G:=h
def iC(h:G:=by simp[e];exact g _ _ ⟨_,VW,m⟩):G:=h
def ak2(h:G:=by simp[e];exact g _ _ ⟨_,_,VW,m⟩):G:=h
def ak3(h:G:=by simp[e];exact g _ _ ⟨_,_,_,VW,m⟩):G:=h
def al(h:G:=by simp[e];cases m;exact p _ _ _ VW z):G:=h
end
section
variable{P:Program} {T:eA} {EE:List Nat} {ops:Array Oper} {q:Qt} {bs:List Bool} {rest:List Oper} {K:Fr->dS->Prop} {H:dS} {d:Option Nat} {as:List AV} {g:FuncId} {fr:Fr} {ρ α β γ δ ε:Type} {r:ρ}
def zq{o:Option α}{F:α->Option ρ}{z:α->AV}{W:α->dS}(m:dE o F=some r)(h:∀{y},o=some y->et P T g as H (z y) (W y))(a:∀y,F y=some r->hJ P T EE ops rest K (fr.put d (z y)) (W y)):kB P T EE ops (.func (.func g) [] []) as d rest K fr H:=by
 obtain⟨y,b,c⟩:=ep m;exact Cf (h b) (a _ c)
def zp{o:Option (α×β)}{F:α->β->Option ρ}{z:α->β->AV}{W:α->β->dS}(m:dR o F=some r)(h:∀{y a},o=some (y,a)->et P T g as H (z y a) (W y a))(b:∀y a,F y a=some r->hJ P T EE ops rest K (fr.put d (z y a)) (W y a)):kB P T EE ops (.func (.func g) [] []) as d rest K fr H:=by
 obtain⟨y,a,c,f⟩:=ik m;exact Cf (h c) (b _ _ f)
def VR{o:Option (α×β×γ)}{F:α->β->γ->Option ρ}{z:α->β->γ->AV}{W:α->β->γ->dS}(m:fB o F=some r)(h:∀{y a u},o=some (y,a,u)->et P T g as H (z y a u) (W y a u))(b:∀y a u,F y a u=some r->hJ P T EE ops rest K (fr.put d (z y a u)) (W y a u)):kB P T EE ops (.func (.func g) [] []) as d rest K fr H:=by
 obtain⟨y,a,u,c,f⟩:=vQ m;exact Cf (h c) (b _ _ _ f)
def qP{o:Option α}{F:α->Option ρ}{z:α->AV}{W:α->dS}(m:dE o F=some r)(h:∀{y},o=some y->et P T g as H (z y) (W y))(a:∀y,F y=some r->fA P T EE ops q bs rest K (fr.put d (z y)) (W y))(b:∀y,QK q H (W y):=by simp):gM P T EE ops q bs (.func (.func g) [] []) as d rest K fr H:=by
 obtain⟨y,c,f⟩:=ep m;exact Cs (h c) (a _ f) (b _)
def o4{o:Option (α×β)}{F:α->β->Option ρ}{z:α->β->AV}{W:α->β->dS}(m:dR o F=some r)(h:∀{y a},o=some (y,a)->et P T g as H (z y a) (W y a))(b:∀y a,F y a=some r->fA P T EE ops q bs rest K (fr.put d (z y a)) (W y a))(c:∀y a,QK q H (W y a):=by simp):gM P T EE ops q bs (.func (.func g) [] []) as d rest K fr H:=by
 obtain⟨y,a,f,i⟩:=ik m;exact Cs (h f) (b _ _ i) (c _ _)
def Ie{o:Option (α×β×γ)}{F:α->β->γ->Option ρ}{z:α->β->γ->AV}{W:α->β->γ->dS}(m:fB o F=some r)(h:∀{y a u},o=some (y,a,u)->et P T g as H (z y a u) (W y a u))(b:∀y a u,F y a u=some r->fA P T EE ops q bs rest K (fr.put d (z y a u)) (W y a u))(c:∀y a u,QK q H (W y a u):=by simp):gM P T EE ops q bs (.func (.func g) [] []) as d rest K fr H:=by
 obtain⟨y,a,u,f,i⟩:=vQ m;exact Cs (h f) (b _ _ _ i) (c _ _ _)
end
section
variable{ρ α σ τ κ:Type} {E:Prop} {X:Cx} {S:List It} {fr:Fr} {H:dS} {a b:Code} {w:τ}
def wjs(d k2:Nat)(R:Fr->dS->Prop)(f:∀fr H,R fr H->Wf X k2 (.c b::S) fr H)(i:∀K:Fr->dS->Prop,(∀fr H,R fr H->K fr H)->Wf X d (.c a::.h K::S) fr H):Wf X 0 (.c (.seq a b)::S) fr H:=wj d k2 R i f
def yC{d:κ}{i:κ->Option τ}(m:ec d i=some w)(k k2:Nat)(R:κ->Fr->dS->Prop)(l:∀f h,R d f h->Wf X k2 (.c b::S) f h)(n:∀(j:κ) (K:Fr->dS->Prop),(∀f h,R j f h->K f h)->i j=some w->Wf X k (.c a::.h K::S) fr H):Wf X 0 (.c (.seq a b)::S) fr H:=Wj m k k2 R n l
def Re(e:E){l:List α}{F:Int->α->σ->Option (fV σ ρ)}{k:σ⊕ρ->Option τ}{d:σ}(m:gh (eM l) (ec F λF=>dE (eV F l 0 d) k)=some w)(b:Nat)(I:Int->σ->Fr->dS->Prop)(r:I 0 d fr H)
 (hs:∀j x s f h K n c,I j s f h->((E/\rA j (ey l)=true)/\dX l j=some x)->F j x s=some c->cC n k c=some w->(∀i o q,I (eL .i64 j 1) i o q->n i=some w->K o q)->Wf X b (.c a::.h K::S) f h)
 (t:∀s f h K,I (ey l) s f h->k (.inl s)=some w->Wf X b (.c a::.h K::S) f h)
 {u:Nat}:Wf X (u+1) (.c (.loop a)::S) fr H:=Wr e m b I r t hs
end
section
variable{P:Program} {fn:Func} {g:FuncId} {c:Code} {α β γ δ ε θ:Type} {z:θ->AV} {a:α->AV} {b:β->AV} {y:γ->AV} {d:δ->AV} {e:ε->AV}
def u0[i:Nonempty (P.follows .mixedOrders=true)](k:Nat)(d:P.funcs[g]?=some fn){f:Option θ}(h:∀T H r,f=some r->True->Wf {P:=P,T:=T,n:=fn.ntmps,E:=[],D:=[],rs:=fn.results.toList,Post:=λv K=>v=z r/\K=H} k [.c c] (Rq []) H)
  (j:fn.body=some c:=by rfl) (a:kj P g=true:=by decide+kernel) (b:tZ fn.ntmps [] [] c=true:=by decide+kernel):C0 P g f z:=
 λ{T H r} l=>i.elim λhm=>wi hm d [] [] k (h T H r l trivial) j a (afa _) b
def u1[i:Nonempty (P.follows .mixedOrders=true)](k:Nat)(j:P.funcs[g]?=some fn){f:α->Option θ}(h:∀T H x r,f x=some r->True->Wf {P:=P,T:=T,n:=fn.ntmps,E:=[],D:=[],rs:=fn.results.toList,Post:=λv K=>v=z r/\K=H} k [.c c] (Rq [a x]) H)
  (l:fn.body=some c:=by rfl) (b:kj P g=true:=by decide+kernel) (hlen:1<=fn.ntmps:=by exact B5 rfl) (d:tZ fn.ntmps [] [] c=true:=by decide+kernel):C1 P g f z a:=
 λ{T H x r} o=>i.elim λhm=>wi hm j [] [] k (h T H x r o trivial) l b hlen d
def u2[i:Nonempty (P.follows .mixedOrders=true)](k:Nat)(o:P.funcs[g]?=some fn){f:α->β->Option θ}(h:∀T H x l r,f x l=some r->True->Wf {P:=P,T:=T,n:=fn.ntmps,E:=[],D:=[],rs:=fn.results.toList,Post:=λv K=>v=z r/\K=H} k [.c c] (Rq [a x,b l]) H)
  (q:fn.body=some c:=by rfl) (d:kj P g=true:=by decide+kernel) (hlen:2<=fn.ntmps:=by exact B5 rfl) (j:tZ fn.ntmps [] [] c=true:=by decide+kernel):C2 P g f z a b:=
 λ{T H x l r} s=>i.elim λhm=>wi hm o [] [] k (h T H x l r s trivial) q d hlen j
def u3[i:Nonempty (P.follows .mixedOrders=true)](k:Nat)(o:P.funcs[g]?=some fn){f:α->β->γ->Option θ}(h:∀T H x l v r,f x l v=some r->True->Wf {P:=P,T:=T,n:=fn.ntmps,E:=[],D:=[],rs:=fn.results.toList,Post:=λv K=>v=z r/\K=H} k [.c c] (Rq [a x,b l,y v]) H)
  (q:fn.body=some c:=by rfl) (d:kj P g=true:=by decide+kernel) (hlen:3<=fn.ntmps:=by exact B5 rfl) (j:tZ fn.ntmps [] [] c=true:=by decide+kernel):C3 P g f z a b y:=
 λ{T H x l v r} s=>i.elim λhm=>wi hm o [] [] k (h T H x l v r s trivial) q d hlen j
def u4[i:Nonempty (P.follows .mixedOrders=true)](k:Nat)(q:P.funcs[g]?=some fn){f:α->β->γ->δ->Option θ}(h:∀T H x o v w r,f x o v w=some r->True->Wf {P:=P,T:=T,n:=fn.ntmps,E:=[],D:=[],rs:=fn.results.toList,Post:=λv K=>v=z r/\K=H} k [.c c] (Rq [a x,b o,y v,d w]) H)
  (s:fn.body=some c:=by rfl) (j:kj P g=true:=by decide+kernel) (hlen:4<=fn.ntmps:=by exact B5 rfl) (l:tZ fn.ntmps [] [] c=true:=by decide+kernel):C4 P g f z a b y d:=
 λ{T H x o v w r} t=>i.elim λhm=>wi hm q [] [] k (h T H x o v w r t trivial) s j hlen l
def u5[i:Nonempty (P.follows .mixedOrders=true)](k:Nat)(q:P.funcs[g]?=some fn){f:α->β->γ->δ->ε->Option θ}(h:∀T H x o v w u r,f x o v w u=some r->True->Wf {P:=P,T:=T,n:=fn.ntmps,E:=[],D:=[],rs:=fn.results.toList,Post:=λv K=>v=z r/\K=H} k [.c c] (Rq [a x,b o,y v,d w,e u]) H)
  (s:fn.body=some c:=by rfl) (j:kj P g=true:=by decide+kernel) (hlen:5<=fn.ntmps:=by exact B5 rfl) (l:tZ fn.ntmps [] [] c=true:=by decide+kernel):C5 P g f z a b y d e:=
 λ{T H x o v w u r} t=>i.elim λhm=>wi hm q [] [] k (h T H x o v w u r t trivial) s j hlen l
def v0[i:Nonempty (P.follows .mixedOrders=true)](d:P.funcs[g]?=some fn){f:Option θ}(h:∀T H r,f=some r->True->Wf {P:=P,T:=T,n:=fn.ntmps,E:=[],D:=[],rs:=fn.results.toList,Post:=λv K=>v=z r/\K=H} 999 [.c c] (Rq []) H)
  (j:fn.body=some c:=by rfl) (a:kj P g=true:=by decide+kernel) (b:tZ fn.ntmps [] [] c=true:=by decide+kernel):C0 P g f z:=
 u0 999 d h j a b
def v1[i:Nonempty (P.follows .mixedOrders=true)](j:P.funcs[g]?=some fn){f:α->Option θ}(h:∀T H x r,f x=some r->True->Wf {P:=P,T:=T,n:=fn.ntmps,E:=[],D:=[],rs:=fn.results.toList,Post:=λv K=>v=z r/\K=H} 999 [.c c] (Rq [a x]) H)
  (k:fn.body=some c:=by rfl) (b:kj P g=true:=by decide+kernel) (hlen:1<=fn.ntmps:=by exact B5 rfl) (d:tZ fn.ntmps [] [] c=true:=by decide+kernel):C1 P g f z a:=
 u1 999 j h k b hlen d
def v2[i:Nonempty (P.follows .mixedOrders=true)](l:P.funcs[g]?=some fn){f:α->β->Option θ}(h:∀T H x k r,f x k=some r->True->Wf {P:=P,T:=T,n:=fn.ntmps,E:=[],D:=[],rs:=fn.results.toList,Post:=λv K=>v=z r/\K=H} 999 [.c c] (Rq [a x,b k]) H)
  (o:fn.body=some c:=by rfl) (d:kj P g=true:=by decide+kernel) (hlen:2<=fn.ntmps:=by exact B5 rfl) (j:tZ fn.ntmps [] [] c=true:=by decide+kernel):C2 P g f z a b:=
 u2 999 l h o d hlen j
def v3[i:Nonempty (P.follows .mixedOrders=true)](l:P.funcs[g]?=some fn){f:α->β->γ->Option θ}(h:∀T H x k v r,f x k v=some r->True->Wf {P:=P,T:=T,n:=fn.ntmps,E:=[],D:=[],rs:=fn.results.toList,Post:=λv K=>v=z r/\K=H} 999 [.c c] (Rq [a x,b k,y v]) H)
  (o:fn.body=some c:=by rfl) (d:kj P g=true:=by decide+kernel) (hlen:3<=fn.ntmps:=by exact B5 rfl) (j:tZ fn.ntmps [] [] c=true:=by decide+kernel):C3 P g f z a b y:=
 u3 999 l h o d hlen j
def v4[i:Nonempty (P.follows .mixedOrders=true)](o:P.funcs[g]?=some fn){f:α->β->γ->δ->Option θ}(h:∀T H x l v w r,f x l v w=some r->True->Wf {P:=P,T:=T,n:=fn.ntmps,E:=[],D:=[],rs:=fn.results.toList,Post:=λv K=>v=z r/\K=H} 999 [.c c] (Rq [a x,b l,y v,d w]) H)
  (q:fn.body=some c:=by rfl) (j:kj P g=true:=by decide+kernel) (hlen:4<=fn.ntmps:=by exact B5 rfl) (k:tZ fn.ntmps [] [] c=true:=by decide+kernel):C4 P g f z a b y d:=
 u4 999 o h q j hlen k
def v5[i:Nonempty (P.follows .mixedOrders=true)](o:P.funcs[g]?=some fn){f:α->β->γ->δ->ε->Option θ}(h:∀T H x l v w u r,f x l v w u=some r->True->Wf {P:=P,T:=T,n:=fn.ntmps,E:=[],D:=[],rs:=fn.results.toList,Post:=λv K=>v=z r/\K=H} 999 [.c c] (Rq [a x,b l,y v,d w,e u]) H)
  (q:fn.body=some c:=by rfl) (j:kj P g=true:=by decide+kernel) (hlen:5<=fn.ntmps:=by exact B5 rfl) (k:tZ fn.ntmps [] [] c=true:=by decide+kernel):C5 P g f z a b y d e:=
 u5 999 o h q j hlen k
def i1{M:Nat->α->Option θ}(h:∀n,C1 P g (M n) z a->C1 P g (M (n+1)) z a)(b:∀x,M 0 x=none:=by intros;rfl){n:Nat}:C1 P g (M n) z a:=by
 induction n with
 |zero=>grind|succ n ih=>grind
def i2{M:Nat->α->β->Option θ}(h:∀n,C2 P g (M n) z a b->C2 P g (M (n+1)) z a b)(d:∀x c,M 0 x c=none:=by intros;rfl){n:Nat}:C2 P g (M n) z a b:=by
 induction n with
 |zero=>grind|succ n ih=>grind
def i3{M:Nat->α->β->γ->Option θ}(h:∀n,C3 P g (M n) z a b y->C3 P g (M (n+1)) z a b y)(d:∀x c v,M 0 x c v=none:=by intros;rfl){n:Nat}:C3 P g (M n) z a b y:=by
 induction n with
 |zero=>grind|succ n ih=>grind
def i4{M:Nat->α->β->γ->δ->Option θ}(h:∀n,C4 P g (M n) z a b y d->C4 P g (M (n+1)) z a b y d)(f:∀x c v w,M 0 x c v w=none:=by intros;rfl){n:Nat}:C4 P g (M n) z a b y d:=by
 induction n with
 |zero=>grind|succ n ih=>grind
end
end Go.kY
