/- Part of the proof of TheoryNeeds: layer. -/
import Derived.Test.YtjgjcpnoaeljkaaGreatDoorNL10
set_option linter.all false
namespace Go.kC
open Go Go.eU
inductive It where
 |c (x:Code)|b (id:Nat)|h (K:Fr->cZ->Prop)
def VV:List (Nat×Bool×List Bool)->Nat->Bool×List Bool
 |[],_=>(false,[])|x::l,i=>if i=x.1 then x.2 else VV l i
structure Cx where
 P:Program
 T:dt
 n:Nat
 E:List Nat
 D:List (Nat×Bool×List Bool)
 rs:List ResultVar
 Post:AV->cZ->Prop
 st:Nat->Bool:=λ_=>false
 cl:Nat->Nat:=λ_=>0
def sC(n:Nat)(E:List Nat)(D:List (Nat×Bool×List Bool)):Code->Bool
 |.seq a b=>sC n E D a&&sC n E D b|.cond c a b=>iv c&&(sC n E D a&&sC n E D b)|.block _ a=>sC n E D a|.loop a=>sC n E D a|.scope a=>sC n E D a|.region _ ops false=>vL n ops|.region id ops true=>vL n ops&&wQ E ops (λi=>(VV D id).2.getD i true)|_=>true
def SQ(X:Cx):List It->Exit->Fr->cZ->Prop
 |[],e,fr,H=>uo X.P X.rs X.Post e fr H|i::S,e,fr,H=>match i,e with
  |.c x,.normal=>X.P.follows .mixedOrders=true->sC X.n X.E X.D x=true->fa X.P X.T X.n x (SQ X S) fr H|.b id,.exit j=>if j=id then SQ X S .normal fr H else SQ X S (.exit j) fr H|.h K,.normal=>K fr H|_,e=>SQ X S e fr H
def CY(id:Nat):List It->Option (List It)
 |[]=>none|.b j::S=>if j=id then some S else CY id S|_::S=>CY id S
def QX(A B:Fr->cZ->Prop)(v:AV)(fr:Fr)(H:cZ):Prop:=KE v (A fr H) (B fr H)
def Wf(X:Cx):Nat->List It->Fr->cZ->Prop
 |0,S,fr,H=>SQ X S .normal fr H|_+1,[],fr,H=>uo X.P X.rs X.Post .normal fr H|k+1,.b _::S,fr,H=>Wf X k S fr H|_+1,.h K::_,fr,H=>K fr H|k+1,.c x::S,fr,H=>match x with
  |.seq a b=>Wf X k (.c a::.c b::S) fr H|.skip=>Wf X k S fr H|.label _=>Wf X k S fr H|.scope a=>Wf X k (.c a::S) fr H|.block id a=>Wf X k (.c a::.b id::S) fr H|.exit id=>match CY id S with|some d=>Wf X k d fr H|none=>False
  |.ret=>uo X.P X.rs X.Post .ret fr H|.cond c a b=>QX (Wf X k (.c a::S)) (Wf X k (.c b::S)) (ev X.T fr c) fr H|.region _ ops false=>gn X.P X.T X.E ops ops.toList (Wf X k S) fr H|.region id ops true=>eR X.P X.T X.E ops ⟨(VV X.D id).1,X.st,X.cl⟩ (VV X.D id).2 ops.toList (Wf X k S) fr H|x=>SQ X (.c x::S) .normal fr H
def Uh(X:Cx):∀(S:List It) (fr:Fr) (H:cZ),SQ X S .ret fr H=uo X.P X.rs X.Post .ret fr H
 |[],_,_=>rfl|i::S,fr,H=>by
  have:=Uh X S fr H;cases i<;>exact this
def QZ(X:Cx)(l:Nat):∀(S:List It) (fr:Fr) (H:cZ),SQ X S (.goto l) fr H=False
 |[],_,_=>rfl|i::S,fr,H=>by
  have:=QZ X l S fr H;cases i<;>exact this
def KN(X:Cx)(id:Nat):∀(S a:List It) (fr:Fr) (H:cZ),CY id S=some a->SQ X S (.exit id) fr H=SQ X a .normal fr H
 |[],_,_,_,h=>by cases h
 |i::S,a,fr,H,h=>by
  cases i with
  |b j=>
   simp only[CY] at h;show(if id=j then SQ X S .normal fr H else SQ X S (.exit id) fr H)=_
   split at h
   .rename_i e;rw[cS e.symm,fQ h]
   .rename_i e;rw[cO (λd=>e d.symm)];exact KN X id S a fr H h
  |c x=>exact KN X id S a fr H h|h K=>exact KN X id S a fr H h
def ZJ(K:Fr->cZ->Prop):Exit->Fr->cZ->Prop
 |.normal,fr,H=>K fr H|_,_,_=>False
def kx(X:Cx):∀(k:Nat) (S:List It) (fr:Fr) (H:cZ),Wf X k S fr H->SQ X S .normal fr H
 |0,_,_,_,h=>h|_+1,[],_,_,h=>h|k+1,.b _::S,fr,H,h=>kx X k S fr H h|_+1,.h _::_,_,_,h=>h|k+1,.c x::S,fr,H,h=>by
  have up:∀{c:Code} {S:List It} {fr:Fr} {H:cZ},fa X.P X.T X.n c (ZJ (Wf X k S)) fr H->fa X.P X.T X.n c (SQ X S) fr H:=λh=>h.mono λe fr' H' i=>by
   cases e<;>first|exact kx X k _ _ _ i|exact i.elim
  intro hm f;cases x with
  |seq a b=>
   have j:Wf X k (.c a::.c b::S) fr H:=h;have o:=kx X k _ _ _ j;simp only[sC,fI] at f;refine fa.seq ((o hm f.1).mono λe fr' H' i=>?_)
   cases e<;>first|exact i hm f.2|exact i
  |skip=>exact fa.skip (kx X k S fr H h)|label l=>exact fa.label (kx X k S fr H h)|scope a=>
   have o:=kx X k (.c a::S) fr H h;refine fa.scope ((o hm f).mono λe fr' H' i=>?_)
   cases e<;>first|exact⟨trivial,i⟩|(rw[QZ] at i;exact i.elim)
  |block id a=>
   have o:=kx X k (.c a::.b id::S) fr H h;refine fa.block ((o hm f).mono λe fr' H' i=>?_);cases e<;>exact i
  |exit id=>
   have j:(match CY id S with|some q=>Wf X k q fr H|none=>False):=h
   split at j
   .rename_i q hs;refine fa.exit ?_;rw[KN X id S q fr H hs];exact kx X k q fr H j
   .exact j.elim
  |ret=>
   refine fa.ret ?_;rw[Uh];exact h
  |cond c a b=>
   simp only[sC,fI] at f;have j:KE (ev X.T fr c) (Wf X k (.c a::S) fr H) (Wf X k (.c b::S) fr H):=h;refine fa.sx (λA B r s=>?_) f.1;generalize ev X.T fr c=v at j;cases v with
   |sc w=>
    cases w with
    |bool t=>
     cases t with
     |true=>exact r _ _ (kx X k _ _ _ j hm f.2.1)|false=>exact s _ _ (kx X k _ _ _ j hm f.2.2)
    |_=>exact j.elim
   |_=>exact j.elim
  |region id ops d=>
   cases d with
   |false=>exact up (fa.region X.E f h)|true=>
    simp only[sC,fI] at f;exact up (fa.X2 X.E ⟨(VV X.D id).1,X.st,X.cl⟩ (VV X.D id).2 hm f.1 f.2 h)
  |_=>exact h hm f
section
variable{X:Cx} {k:Nat} {S:List It} {fr:Fr} {H:cZ} {a b:Code} {c:Operand} {id:Nat} {ops:Array Oper} {A B:Fr->cZ->Prop}
@[simp] theorem ahp:Wf X (k+1) [] fr H=uo X.P X.rs X.Post .normal fr H:=rfl
@[simp] theorem ah3:Wf X (k+1) (.b id::S) fr H=Wf X k S fr H:=rfl
@[simp] theorem aih{K:Fr->cZ->Prop}:Wf X (k+1) (.h K::S) fr H=K fr H:=rfl
@[simp] theorem agR:Wf X (k+1) (.c (.seq a b)::S) fr H=Wf X k (.c a::.c b::S) fr H:=rfl
@[simp] theorem agC:Wf X (k+1) (.c .skip::S) fr H=Wf X k S fr H:=rfl
@[simp] theorem aee:Wf X (k+1) (.c (.block id a)::S) fr H=Wf X k (.c a::.b id::S) fr H:=rfl
@[simp] theorem agu:Wf X (k+1) (.c (.exit id)::S) fr H=match CY id S with|some a=>Wf X k a fr H|none=>False:=rfl
@[simp] theorem agP:Wf X (k+1) (.c .ret::S) fr H=uo X.P X.rs X.Post .ret fr H:=rfl
@[simp] theorem agM:Wf X (k+1) (.c (.cond c a b)::S) fr H=QX (Wf X k (.c a::S)) (Wf X k (.c b::S)) (ev X.T fr c) fr H:=rfl
@[simp] theorem ahg:Wf X (k+1) (.c (.region id ops false)::S) fr H=gn X.P X.T X.E ops ops.toList (Wf X k S) fr H:=rfl
@[simp] theorem agx:Wf X (k+1) (.c (.region id ops true)::S) fr H=eR X.P X.T X.E ops ⟨(VV X.D id).1,X.st,X.cl⟩ (VV X.D id).2 ops.toList (Wf X k S) fr H:=rfl
@[simp] theorem ac6:QX A B (.sc (.bool true)) fr H=A fr H:=rfl
@[simp] theorem Z1:QX A B (.sc (.bool false)) fr H=B fr H:=rfl
@[simp] theorem ag':CY id (.c a::S)=CY id S:=rfl
@[simp] theorem ahk{K:Fr->cZ->Prop}:CY id (.h K::S)=CY id S:=rfl
@[simp] theorem ahx{j:Nat}:CY id (.b j::S)=if j=id then some S else CY id S:=rfl
@[simp] theorem agp{i:Nat}:VV [] i=(false,[]):=rfl
@[simp] theorem agf{x:Nat×Bool×List Bool}{l:List (Nat×Bool×List Bool)}{i:Nat}:VV (x::l) i=if i=x.1 then x.2 else VV l i:=rfl
@[simp] theorem Xd{P:Program}{T:dt}{E:List Nat}{q:Qt}{o:Oper}{rest:List Oper}{K:Fr->cZ->Prop}:eR P T E ops q [] (o::rest) K fr H=eR P T E ops q [true] (o::rest) K fr H:=rfl
def wg(k:Nat)(h:Wf X k S fr H):Wf X 0 S fr H:=kx X k S fr H h
def wj(f k2:Nat)(R:Fr->cZ->Prop)(j:∀K:Fr->cZ->Prop,(∀fr H,R fr H->K fr H)->Wf X f (.c a::.h K::S) fr H)(k:∀fr H,R fr H->Wf X k2 (.c b::S) fr H):Wf X 0 (.c (.seq a b)::S) fr H:=by
 intro hm d;simp only[sC,fI] at d;have l:=kx X f _ _ _ (j (SQ X (.c b::S) .normal) λfr H h=>kx X k2 _ _ _ (k fr H h));refine fa.seq ((l hm d.1).mono λe fr' H' i=>?_)
 cases e<;>first|exact i hm d.2|exact i
def wl(d:Nat)(I:Nat->Fr->cZ->Prop)(m:Nat)(i:I m fr H)(j:∀m fr H,I m fr H->∀K:Fr->cZ->Prop,(∀fr' H' f,f<m->I f fr' H'->K fr' H')->Wf X d (.c a::.h K::S) fr H):Wf X (k+1) (.c (.loop a)::S) fr H:=by
 intro hm b;refine fa.NB I m i λm fr H l K n=>?_;refine((kx X d _ _ _ (j m fr H l K n)) hm b).mono λe fr' H' o=>?_;cases e<;>exact o
end
def wi{P:Program}{T:dt}{H:cZ}{f:FuncId}{args:List AV}{Post:AV->cZ->Prop}{fn:Func}{c:Code}(hm:P.follows .mixedOrders=true)(d:P.funcs[f]?=some fn)(E:List Nat)(D:List (Nat×Bool×List Bool))(k:Nat)
  (h:Wf {P:=P,T:=T,n:=fn.ntmps,E:=E,D:=D,rs:=fn.results.toList,Post:=Post} k [.c c] (N_ args) H)
  (i:fn.body=some c:=by rfl) (a:iS P f=true:=by decide+kernel) (hlen:args.length<=fn.ntmps:=by exact A3 rfl) (b:sC fn.ntmps E D c=true:=by decide+kernel):ec P T f args H Post:=
 ec.intro d i a hlen (((kx _ _ _ _ _ h) hm b).mono λ_ _ _ j=>j)
end Go.kC
namespace Go.kC
open Go Go.eU
section
variable{α β γ δ ε ζ ρ σ τ κ:Type} {E A:Prop} {r:ρ} {c:Bool}
def Aj(e:E)(a:A):E/\A:=⟨e,a⟩
def Ac(e:E){o:Option α}{f:α->Option ρ}(m:cM o f=some r):∃a,(E/\o=some a)/\f a=some r:=by
 obtain⟨a,b,c⟩:=dm m;exact⟨a,⟨e,b⟩,c⟩
def Bo2(e:E){o:Option (α×β)}{f:α->β->Option ρ}(m:cW o f=some r):∃a b,(E/\o=some (a,b))/\f a b=some r:=by
 obtain⟨a,b,c,d⟩:=gB m;exact⟨a,b,⟨e,c⟩,d⟩
def Bo3(e:E){o:Option (α×β×γ)}{f:α->β->γ->Option ρ}(m:gX o f=some r):∃a b c,(E/\o=some (a,b,c))/\f a b c=some r:=by
 obtain⟨a,b,c,d,h⟩:=uB m;exact⟨a,b,c,⟨e,d⟩,h⟩
def Bo4(e:E){o:Option (α×β×γ×δ)}{f:α->β->γ->δ->Option ρ}(m:QE o f=some r):∃a b c d,(E/\o=some (a,b,c,d))/\f a b c d=some r:=by
 obtain⟨a,b,c,d,h,i⟩:=PY m;exact⟨a,b,c,d,⟨e,h⟩,i⟩
def Ck(e:E){o:Option ρ}(m:e_ c o=some r):(E/\c=true)/\o=some r:=⟨⟨e,(j0 m).1⟩,(j0 m).2⟩
def Io(e:E){a b:Option ρ}(m:(if c then a else b)=some r):((E/\c=true)/\a=some r)\/((E/\c=false)/\b=some r):=
 (gR m).imp (λh=>⟨⟨e,h.1⟩,h.2⟩) (λh=>⟨⟨e,h.1⟩,h.2⟩)
def Pb(c:Bool)(e:E):(E/\c=true)\/(E/\c=false):=by grind
@[simp] theorem afD(a:Int):qT a a=false:=by simp[qT]
def cC(n:σ->Option τ)(k:σ⊕ρ->Option τ):dW σ ρ->Option τ
 |.next s=>n s|.brk s=>k (.inl s)|.ret x=>k (.inr x)
def L_(o:Option (dW σ ρ))(n:σ->Option (σ⊕ρ))(k:σ⊕ρ->Option τ):cM (cM o (LU n)) k=cM o (cC (λs=>cM (n s) k) k):=by
 cases o with
 |none=>rfl|some c=>cases c<;>rfl
def Qb{n g:σ->Option τ}{h:ρ->Option τ}{s:σ}{w:τ}(q:cC n (eB g h) (.brk s)=some w):g s=some w:=q
variable{X:Cx} {S:List It} {fr:Fr} {H:cZ} {a b:Code} {w:τ}
def Wj{d:κ}{i:κ->Option τ}(m:de d i=some w)(k k2:Nat)(R:κ->Fr->cZ->Prop)(l:∀(j:κ) (K:Fr->cZ->Prop),(∀f h,R j f h->K f h)->i j=some w->Wf X k (.c a::.h K::S) fr H)
  (n:∀f h,R d f h->Wf X k2 (.c b::S) f h):Wf X 0 (.c (.seq a b)::S) fr H:=
 wj k k2 (R d) (λK o=>l d K o m) n
def Wr(e:E){l:List α}{F:Int->α->σ->Option (dW σ ρ)}{k:σ⊕ρ->Option τ}{r:σ}(m:e_ (dE l) (de F λF=>cM (dF F l 0 r) k)=some w)(t:Nat)(I:Int->σ->Fr->cZ->Prop)(A:I 0 r fr H)
  (B:∀s f h K,I (dp l) s f h->k (.inl s)=some w->Wf X t (.c a::.h K::S) f h)
  (hs:∀j x s f h K n c,I j s f h->((E/\qT j (dp l)=true)/\dg l j=some x)->F j x s=some c->cC n k c=some w->(∀d o q,I (dJ .i64 j 1) d o q->n d=some w->K o q)->Wf X t (.c a::.h K::S) f h)
  {C:Nat}:Wf X (C+1) (.c (.loop a)::S) fr H:=by
 obtain⟨u,m⟩:=j0 m;refine wl t (λn f h=>∃(i:Nat) (s:σ),I (i:Int) s f h/\i+n=l.length/\cM (dF F (l.drop i) i s) k=some w) l.length ⟨0,r,A,aaL,by simpa using m⟩ ?_;rintro n f h ⟨i,s,y,hi,hm⟩ K D;rcases n with _|n
 .have v:i=l.length:=VW
  subst v;rw[HE (gO _),nT] at hm;exact B s f h K y hm
 .obtain⟨x,G,hg⟩:=Q9 (l:=l) (i:=i) VW;rw[G,dB,L_] at hm;obtain⟨c,J,L⟩:=dm hm;refine hs i x s f h K _ c y ⟨⟨e,VA VW⟩,hg⟩ J L λd o q b hn=>D o q n (Vl _) ⟨i+1,d,?_,VW,hn⟩;rw[LO VW u] at b;exact b
def Wn{F:σ->Option (dW σ ρ)}{k:σ⊕ρ->Option τ}{j:σ}(m:de F (λF=>cM (nk F FU j) k)=some w)(o:Nat)(I:σ->Fr->cZ->Prop)(q:I j fr H)
  (hs:∀s f h K n c,I s f h->F s=some c->cC n k c=some w->(∀b d i,I b d i->n b=some w->K d i)->Wf X o (.c a::.h K::S) f h)
  {r:Nat}:Wf X (r+1) (.c (.loop a)::S) fr H:=by
 refine wl o (λn f h=>∃(s:σ),I s f h/\cM (nk F n s) k=some w) FU ⟨j,q,m⟩ ?_;rintro n f h ⟨s,t,hm⟩ K u;rcases n with _|n
 .cases hm
 .rw[j2,L_] at hm;obtain⟨c,v,x⟩:=dm hm;exact hs s f h K _ c t v x λb d i l hn=>u d i n (Vl _) ⟨b,l,hn⟩
variable{P:Program} {T:dt} {EE:List Nat} {ops:Array Oper} {q:Qt} {bs:List Bool} {rest:List Oper} {K:Fr->cZ->Prop} {H':cZ} {d:Option Nat} {as:List AV} {rr:AV} {g:FuncId}
def Cf(h:ds P T g as H rr H')(a:gn P T EE ops rest K (fr.put d rr) H'):il P T EE ops (.func (.func g) [] []) as d rest K fr H:=il.fn h a
def Cs(h:ds P T g as H rr H')(a:eR P T EE ops q bs rest K (fr.put d rr) H')(b:QK q H H':=by simp):jw P T EE ops q bs (.func (.func g) [] []) as d rest K fr H:=jw.fn h b a
def Ao{t e sz d:Nat}{s x:AV}{f:α->AV}{D:List Nat}{tag a:Tag}(l m:List α)(h:ig fr.qd fr.eg D tag l.length)(b:mK P t=some (e,sz))(hlen:eI l m=true)
  (i:K {fr with env:=fO fr.env d (.slice (.loc d (fr.eg d+1)) ((fk l m).map f)),qd:=fO (tv tag fr.qd) d (some (fk l m).length),eg:=fO fr.eg d (fr.eg d+1)} H)
  (hs:s=.slice tag (l.map f):=by first|rfl|simp) (j:x=.slice a (m.map f):=by first|rfl|simp) (c:∀x,(f x).cells.length=sz:=by intro x;simp):rp P t s x d K fr H:=
 rp.own l m h b c hlen hs j i
def Ad{t e sz d:Nat}{s x:AV}{f:α->AV}{D:List Nat}{tag a:Tag}(l m:List α)(h:ig fr.qd fr.eg D tag l.length)(b:mK P t=some (e,sz))(hlen:eI l m=true)
  (i:K {fr with env:=fO fr.env d (.slice (.loc d (fr.eg d+1)) ((fk l m).map f)),qd:=fO (tv tag fr.qd) d (some (fk l m).length),eg:=fO fr.eg d (fr.eg d+1)} H)
  (hs:s=.slice tag (l.map f):=by first|rfl|simp) (j:x=.slice a (m.map f):=by first|rfl|simp) (c:∀x,(f x).cells.length=sz:=by intro x;simp):As P t s x d K fr H:=
 As.own l m h b c hlen hs j i
end
attribute [simp] uo
end Go.kC
namespace Go.kC
open Go Go.eU
abbrev sI(n:Int):AV:=.sc (.int .i64 n)
abbrev sB(b:Bool):AV:=.sc (.bool b)
abbrev sS(s:ByteArray):AV:=.sc (.string s)
abbrev sL{α:Type}(f:α->AV)(l:List α):AV:=.slice .iw (l.map f)
abbrev sT{α:Type}(t:Tag)(f:α->AV)(l:List α):AV:=.slice t (l.map f)
abbrev Ow{α:Type}(f:Fr)(D:List Nat)(t:Tag)(l:List α):Prop:=ig f.qd f.eg D t l.length
section
variable{qd:Nat->Option Nat} {eg:Nat->Nat} {D D':List Nat} {n:Nat} {t:Tag}
def On(d:Nat)(h:d∈D:=by decide):ig (fO qd d (some n)) (fO eg d (eg d+1)) D (.loc d (eg d+1)) n:=ig.new h
end
section
variable{α β γ δ ε ζ η θ:Type}
abbrev t2(a:α->AV)(b:β->AV)(p:α×β):AV:=.tuple [a p.1,b p.2]
abbrev t3(a:α->AV)(b:β->AV)(c:γ->AV)(p:α×β×γ):AV:=.tuple [a p.1,b p.2.1,c p.2.2]
@[simp] theorem ahL(a:α->AV)(b:β->AV)(x:α)(y:β):t2 a b (x,y)=.tuple [a x,b y]:=rfl
@[simp] theorem ahM(a:α->AV)(b:β->AV)(c:γ->AV)(x:α)(y:β)(z:γ):t3 a b c (x,y,z)=.tuple [a x,b y,c z]:=rfl
abbrev C0(P:Program)(g:FuncId)(f:Option θ)(z:θ->AV):Prop:=∀{T:dt} {H:cZ} {r:θ},f=some r->ds P T g [] H (z r) H
abbrev C1(P:Program)(g:FuncId)(f:α->Option θ)(z:θ->AV)(a:α->AV):Prop:=∀{T:dt} {H:cZ} {x:α} {r:θ},f x=some r->ds P T g [a x] H (z r) H
abbrev C2(P:Program)(g:FuncId)(f:α->β->Option θ)(z:θ->AV)(a:α->AV)(b:β->AV):Prop:=∀{T:dt} {H:cZ} {x:α} {y:β} {r:θ},f x y=some r->ds P T g [a x,b y] H (z r) H
abbrev C3(P:Program)(g:FuncId)(f:α->β->γ->Option θ)(z:θ->AV)(a:α->AV)(b:β->AV)(c:γ->AV):Prop:=∀{T:dt} {H:cZ} {x:α} {y:β} {v:γ} {r:θ},f x y v=some r->ds P T g [a x,b y,c v] H (z r) H
abbrev C4(P:Program)(g:FuncId)(f:α->β->γ->δ->Option θ)(z:θ->AV)(a:α->AV)(b:β->AV)(c:γ->AV)(d:δ->AV):Prop:=∀{T:dt} {H:cZ} {x:α} {y:β} {v:γ} {w:δ} {r:θ},f x y v w=some r->ds P T g [a x,b y,c v,d w] H (z r) H
abbrev C5(P:Program)(g:FuncId)(f:α->β->γ->δ->ε->Option θ)(z:θ->AV)(a:α->AV)(b:β->AV)(c:γ->AV)(d:δ->AV)(e:ε->AV):Prop:=∀{T:dt} {H:cZ} {x:α} {y:β} {v:γ} {w:δ} {u:ε} {r:θ},f x y v w u=some r->ds P T g [a x,b y,c v,d w,e u] H (z r) H
end
end Go.kC
namespace Go.kC
open Go Go.eU
abbrev nL:AV:=.slice .full []
abbrev bx(f:Fr)(b:Nat)(c:List AV):Prop:=f.1 b=AV.gx b (f.gen b) 0/\f.box b=some c
attribute [simp] bx
section
variable{E G:Prop} {ρ:Type} {r:ρ} {c:Bool} {a b:Option ρ}
def Iq(e:E)(m:(if c then a else b)=some r)(d:E/\c=true->a=some r->G)(f:E/\c=false->b=some r->G):G:=
 (Io e m).elim (λh=>d h.1 h.2) (λh=>f h.1 h.2)
def Ir(e:E)(m:(if c then a else b)=some r)(d:E/\c=false->b=some r->G)(f:E/\c=true->a=some r->G):G:=Iq e m f d
def Il(e:E) (m:(if c then a else b)=some r) (d:E/\c=false->b=some r->G) (f:E/\c=true->a=some r->G:=by intro e m;cases m;(try cases z);(try cases z);simp[e];done):G:=Iq e m f d
def Im(e:E) (m:(if c then a else b)=some r) (d:E/\c=true->a=some r->G) (f:E/\c=false->b=some r->G:=by intro e m;cases m;(try cases z);(try cases z);simp[e];done):G:=Iq e m d f
def au(h:G:=by cases m;(try cases z);(try cases z);simp[e];done):G:=h
def aj(h:G:=by simp[e];exact g _ _ aaQ):G:=h
def XN(h:G:=by simp[e];exact g _ _ ⟨aaQ,m⟩):G:=h
def ij(h:G:=by simp[e];exact g _ _ ⟨_,aaQ,m⟩):G:=h
def ak2(h:G:=by simp[e];exact g _ _ ⟨_,_,aaQ,m⟩):G:=h
def ak3(h:G:=by simp[e];exact g _ _ ⟨_,_,_,aaQ,m⟩):G:=h
def al(h:G:=by simp[e];cases m;exact p _ _ _ aaQ z):G:=h
end
section
variable{P:Program} {T:dt} {EE:List Nat} {ops:Array Oper} {q:Qt} {bs:List Bool} {rest:List Oper} {K:Fr->cZ->Prop} {H:cZ} {d:Option Nat} {as:List AV} {g:FuncId} {fr:Fr} {ρ α β γ δ ε:Type} {r:ρ}
def qc{o:Option α}{F:α->Option ρ}{z:α->AV}{W:α->cZ}(m:cM o F=some r)(h:∀{y},o=some y->ds P T g as H (z y) (W y))(a:∀y,F y=some r->gn P T EE ops rest K (fr.put d (z y)) (W y)):il P T EE ops (.func (.func g) [] []) as d rest K fr H:=by
 obtain⟨y,b,c⟩:=dm m;exact Cf (h b) (a _ c)
def s8{o:Option (α×β)}{F:α->β->Option ρ}{z:α->β->AV}{W:α->β->cZ}(m:cW o F=some r)(h:∀{y a},o=some (y,a)->ds P T g as H (z y a) (W y a))(b:∀y a,F y a=some r->gn P T EE ops rest K (fr.put d (z y a)) (W y a)):il P T EE ops (.func (.func g) [] []) as d rest K fr H:=by
 obtain⟨y,a,c,f⟩:=gB m;exact Cf (h c) (b _ _ f)
def RM{o:Option (α×β×γ)}{F:α->β->γ->Option ρ}{z:α->β->γ->AV}{W:α->β->γ->cZ}(m:gX o F=some r)(h:∀{y a u},o=some (y,a,u)->ds P T g as H (z y a u) (W y a u))(b:∀y a u,F y a u=some r->gn P T EE ops rest K (fr.put d (z y a u)) (W y a u)):il P T EE ops (.func (.func g) [] []) as d rest K fr H:=by
 obtain⟨y,a,u,c,f⟩:=uB m;exact Cf (h c) (b _ _ _ f)
def lI{o:Option α}{F:α->Option ρ}{z:α->AV}{W:α->cZ}(m:cM o F=some r)(h:∀{y},o=some y->ds P T g as H (z y) (W y))(a:∀y,F y=some r->eR P T EE ops q bs rest K (fr.put d (z y)) (W y))(b:∀y,QK q H (W y):=by simp):jw P T EE ops q bs (.func (.func g) [] []) as d rest K fr H:=by
 obtain⟨y,c,f⟩:=dm m;exact Cs (h c) (a _ f) (b _)
def nW{o:Option (α×β)}{F:α->β->Option ρ}{z:α->β->AV}{W:α->β->cZ}(m:cW o F=some r)(h:∀{y a},o=some (y,a)->ds P T g as H (z y a) (W y a))(b:∀y a,F y a=some r->eR P T EE ops q bs rest K (fr.put d (z y a)) (W y a))(c:∀y a,QK q H (W y a):=by simp):jw P T EE ops q bs (.func (.func g) [] []) as d rest K fr H:=by
 obtain⟨y,a,f,i⟩:=gB m;exact Cs (h f) (b _ _ i) (c _ _)
def Cs3{o:Option (α×β×γ)}{F:α->β->γ->Option ρ}{z:α->β->γ->AV}{W:α->β->γ->cZ}(m:gX o F=some r)(h:∀{y a u},o=some (y,a,u)->ds P T g as H (z y a u) (W y a u))(b:∀y a u,F y a u=some r->eR P T EE ops q bs rest K (fr.put d (z y a u)) (W y a u))(c:∀y a u,QK q H (W y a u):=by simp):jw P T EE ops q bs (.func (.func g) [] []) as d rest K fr H:=by
 obtain⟨y,a,u,f,i⟩:=uB m;exact Cs (h f) (b _ _ _ i) (c _ _ _)
end
section
variable{ρ α σ τ κ:Type} {E:Prop} {X:Cx} {S:List It} {fr:Fr} {H:cZ} {a b:Code} {w:τ}
def wjs(d k2:Nat)(R:Fr->cZ->Prop)(f:∀fr H,R fr H->Wf X k2 (.c b::S) fr H)(i:∀K:Fr->cZ->Prop,(∀fr H,R fr H->K fr H)->Wf X d (.c a::.h K::S) fr H):Wf X 0 (.c (.seq a b)::S) fr H:=wj d k2 R i f
def D5{d:κ}{i:κ->Option τ}(m:de d i=some w)(k k2:Nat)(R:κ->Fr->cZ->Prop)(l:∀f h,R d f h->Wf X k2 (.c b::S) f h)(n:∀(j:κ) (K:Fr->cZ->Prop),(∀f h,R j f h->K f h)->i j=some w->Wf X k (.c a::.h K::S) fr H):Wf X 0 (.c (.seq a b)::S) fr H:=Wj m k k2 R n l
def Xn(e:E){l:List α}{F:Int->α->σ->Option (dW σ ρ)}{k:σ⊕ρ->Option τ}{d:σ}(m:e_ (dE l) (de F λF=>cM (dF F l 0 d) k)=some w)(b:Nat)(I:Int->σ->Fr->cZ->Prop)(r:I 0 d fr H)
 (hs:∀j x s f h K n c,I j s f h->((E/\qT j (dp l)=true)/\dg l j=some x)->F j x s=some c->cC n k c=some w->(∀i o q,I (dJ .i64 j 1) i o q->n i=some w->K o q)->Wf X b (.c a::.h K::S) f h)
 (t:∀s f h K,I (dp l) s f h->k (.inl s)=some w->Wf X b (.c a::.h K::S) f h)
 {u:Nat}:Wf X (u+1) (.c (.loop a)::S) fr H:=Wr e m b I r t hs
end
section
variable{P:Program} {fn:Func} {g:FuncId} {c:Code} {α β γ δ ε θ:Type} {z:θ->AV} {a:α->AV} {b:β->AV} {y:γ->AV} {d:δ->AV} {e:ε->AV}
def u0[i:Nonempty (P.follows .mixedOrders=true)](k:Nat)(d:P.funcs[g]?=some fn){f:Option θ}(h:∀T H r,f=some r->True->Wf {P:=P,T:=T,n:=fn.ntmps,E:=[],D:=[],rs:=fn.results.toList,Post:=λv K=>v=z r/\K=H} k [.c c] (N_ []) H)
  (j:fn.body=some c:=by rfl) (a:iS P g=true:=by decide+kernel) (b:sC fn.ntmps [] [] c=true:=by decide+kernel):C0 P g f z:=
 λ{T H r} l=>i.elim λhm=>wi hm d [] [] k (h T H r l trivial) j a (YZ _) b
def u1[i:Nonempty (P.follows .mixedOrders=true)](k:Nat)(j:P.funcs[g]?=some fn){f:α->Option θ}(h:∀T H x r,f x=some r->True->Wf {P:=P,T:=T,n:=fn.ntmps,E:=[],D:=[],rs:=fn.results.toList,Post:=λv K=>v=z r/\K=H} k [.c c] (N_ [a x]) H)
  (l:fn.body=some c:=by rfl) (b:iS P g=true:=by decide+kernel) (hlen:1<=fn.ntmps:=by exact A3 rfl) (d:sC fn.ntmps [] [] c=true:=by decide+kernel):C1 P g f z a:=
 λ{T H x r} o=>i.elim λhm=>wi hm j [] [] k (h T H x r o trivial) l b hlen d
def u2[i:Nonempty (P.follows .mixedOrders=true)](k:Nat)(o:P.funcs[g]?=some fn){f:α->β->Option θ}(h:∀T H x l r,f x l=some r->True->Wf {P:=P,T:=T,n:=fn.ntmps,E:=[],D:=[],rs:=fn.results.toList,Post:=λv K=>v=z r/\K=H} k [.c c] (N_ [a x,b l]) H)
  (q:fn.body=some c:=by rfl) (d:iS P g=true:=by decide+kernel) (hlen:2<=fn.ntmps:=by exact A3 rfl) (j:sC fn.ntmps [] [] c=true:=by decide+kernel):C2 P g f z a b:=
 λ{T H x l r} s=>i.elim λhm=>wi hm o [] [] k (h T H x l r s trivial) q d hlen j
def u3[i:Nonempty (P.follows .mixedOrders=true)](k:Nat)(o:P.funcs[g]?=some fn){f:α->β->γ->Option θ}(h:∀T H x l v r,f x l v=some r->True->Wf {P:=P,T:=T,n:=fn.ntmps,E:=[],D:=[],rs:=fn.results.toList,Post:=λv K=>v=z r/\K=H} k [.c c] (N_ [a x,b l,y v]) H)
  (q:fn.body=some c:=by rfl) (d:iS P g=true:=by decide+kernel) (hlen:3<=fn.ntmps:=by exact A3 rfl) (j:sC fn.ntmps [] [] c=true:=by decide+kernel):C3 P g f z a b y:=
 λ{T H x l v r} s=>i.elim λhm=>wi hm o [] [] k (h T H x l v r s trivial) q d hlen j
def u4[i:Nonempty (P.follows .mixedOrders=true)](k:Nat)(q:P.funcs[g]?=some fn){f:α->β->γ->δ->Option θ}(h:∀T H x o v w r,f x o v w=some r->True->Wf {P:=P,T:=T,n:=fn.ntmps,E:=[],D:=[],rs:=fn.results.toList,Post:=λv K=>v=z r/\K=H} k [.c c] (N_ [a x,b o,y v,d w]) H)
  (s:fn.body=some c:=by rfl) (j:iS P g=true:=by decide+kernel) (hlen:4<=fn.ntmps:=by exact A3 rfl) (l:sC fn.ntmps [] [] c=true:=by decide+kernel):C4 P g f z a b y d:=
 λ{T H x o v w r} t=>i.elim λhm=>wi hm q [] [] k (h T H x o v w r t trivial) s j hlen l
def u5[i:Nonempty (P.follows .mixedOrders=true)](k:Nat)(q:P.funcs[g]?=some fn){f:α->β->γ->δ->ε->Option θ}(h:∀T H x o v w u r,f x o v w u=some r->True->Wf {P:=P,T:=T,n:=fn.ntmps,E:=[],D:=[],rs:=fn.results.toList,Post:=λv K=>v=z r/\K=H} k [.c c] (N_ [a x,b o,y v,d w,e u]) H)
  (s:fn.body=some c:=by rfl) (j:iS P g=true:=by decide+kernel) (hlen:5<=fn.ntmps:=by exact A3 rfl) (l:sC fn.ntmps [] [] c=true:=by decide+kernel):C5 P g f z a b y d e:=
 λ{T H x o v w u r} t=>i.elim λhm=>wi hm q [] [] k (h T H x o v w u r t trivial) s j hlen l
def v0[i:Nonempty (P.follows .mixedOrders=true)](d:P.funcs[g]?=some fn){f:Option θ}(h:∀T H r,f=some r->True->Wf {P:=P,T:=T,n:=fn.ntmps,E:=[],D:=[],rs:=fn.results.toList,Post:=λv K=>v=z r/\K=H} 999 [.c c] (N_ []) H)
  (j:fn.body=some c:=by rfl) (a:iS P g=true:=by decide+kernel) (b:sC fn.ntmps [] [] c=true:=by decide+kernel):C0 P g f z:=
 u0 999 d h j a b
def v1[i:Nonempty (P.follows .mixedOrders=true)](j:P.funcs[g]?=some fn){f:α->Option θ}(h:∀T H x r,f x=some r->True->Wf {P:=P,T:=T,n:=fn.ntmps,E:=[],D:=[],rs:=fn.results.toList,Post:=λv K=>v=z r/\K=H} 999 [.c c] (N_ [a x]) H)
  (k:fn.body=some c:=by rfl) (b:iS P g=true:=by decide+kernel) (hlen:1<=fn.ntmps:=by exact A3 rfl) (d:sC fn.ntmps [] [] c=true:=by decide+kernel):C1 P g f z a:=
 u1 999 j h k b hlen d
def v2[i:Nonempty (P.follows .mixedOrders=true)](l:P.funcs[g]?=some fn){f:α->β->Option θ}(h:∀T H x k r,f x k=some r->True->Wf {P:=P,T:=T,n:=fn.ntmps,E:=[],D:=[],rs:=fn.results.toList,Post:=λv K=>v=z r/\K=H} 999 [.c c] (N_ [a x,b k]) H)
  (o:fn.body=some c:=by rfl) (d:iS P g=true:=by decide+kernel) (hlen:2<=fn.ntmps:=by exact A3 rfl) (j:sC fn.ntmps [] [] c=true:=by decide+kernel):C2 P g f z a b:=
 u2 999 l h o d hlen j
def v3[i:Nonempty (P.follows .mixedOrders=true)](l:P.funcs[g]?=some fn){f:α->β->γ->Option θ}(h:∀T H x k v r,f x k v=some r->True->Wf {P:=P,T:=T,n:=fn.ntmps,E:=[],D:=[],rs:=fn.results.toList,Post:=λv K=>v=z r/\K=H} 999 [.c c] (N_ [a x,b k,y v]) H)
  (o:fn.body=some c:=by rfl) (d:iS P g=true:=by decide+kernel) (hlen:3<=fn.ntmps:=by exact A3 rfl) (j:sC fn.ntmps [] [] c=true:=by decide+kernel):C3 P g f z a b y:=
 u3 999 l h o d hlen j
def v4[i:Nonempty (P.follows .mixedOrders=true)](o:P.funcs[g]?=some fn){f:α->β->γ->δ->Option θ}(h:∀T H x l v w r,f x l v w=some r->True->Wf {P:=P,T:=T,n:=fn.ntmps,E:=[],D:=[],rs:=fn.results.toList,Post:=λv K=>v=z r/\K=H} 999 [.c c] (N_ [a x,b l,y v,d w]) H)
  (q:fn.body=some c:=by rfl) (j:iS P g=true:=by decide+kernel) (hlen:4<=fn.ntmps:=by exact A3 rfl) (k:sC fn.ntmps [] [] c=true:=by decide+kernel):C4 P g f z a b y d:=
 u4 999 o h q j hlen k
def v5[i:Nonempty (P.follows .mixedOrders=true)](o:P.funcs[g]?=some fn){f:α->β->γ->δ->ε->Option θ}(h:∀T H x l v w u r,f x l v w u=some r->True->Wf {P:=P,T:=T,n:=fn.ntmps,E:=[],D:=[],rs:=fn.results.toList,Post:=λv K=>v=z r/\K=H} 999 [.c c] (N_ [a x,b l,y v,d w,e u]) H)
  (q:fn.body=some c:=by rfl) (j:iS P g=true:=by decide+kernel) (hlen:5<=fn.ntmps:=by exact A3 rfl) (k:sC fn.ntmps [] [] c=true:=by decide+kernel):C5 P g f z a b y d e:=
 u5 999 o h q j hlen k
def i1{M:Nat->α->Option θ}(h:∀n,C1 P g (M n) z a->C1 P g (M (n+1)) z a)(b:∀x,M 0 x=none:=by intros;rfl){n:Nat}:C1 P g (M n) z a:=by
 induction n with
 |zero=>grind|succ n ih=>grind
def i2{M:Nat->α->β->Option θ}(h:∀n,C2 P g (M n) z a b->C2 P g (M (n+1)) z a b)(d:∀x c,M 0 x c=none:=by intros;rfl){n:Nat}:C2 P g (M n) z a b:=by
 induction n with
 |zero=>grind|succ n ih=>grind
def i3{M:Nat->α->β->γ->Option θ}(h:∀n,C3 P g (M n) z a b y->C3 P g (M (n+1)) z a b y)(d:∀x c v,M 0 x c v=none:=by intros;rfl){n:Nat}:C3 P g (M n) z a b y:=by
 induction n with
 |zero=>grind|succ n ih=>grind
def i4{M:Nat->α->β->γ->δ->Option θ}(h:∀n,C4 P g (M n) z a b y d->C4 P g (M (n+1)) z a b y d)(f:∀x c v w,M 0 x c v w=none:=by intros;rfl){n:Nat}:C4 P g (M n) z a b y d:=by
 induction n with
 |zero=>grind|succ n ih=>grind
end
end Go.kC
