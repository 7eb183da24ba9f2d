/- Part of the proof of UniformExact, UniformAccepted: layer. -/
import Derived.Test.YtijednbpbbddbaaGreatDoorL12
set_option linter.all false
namespace Go.ns
open Go Go.ek
inductive It where
 |c (x:Code)|b (id:Nat)|h (K:Fr->dd->Prop)
def WW:List (Nat×Bool×List Bool)->Nat->Bool×List Bool
 |[],_=>(false,[])|x::l,i=>if i=x.1 then x.2 else WW l i
structure Cx where
 P:Program
 T:ec
 n:Nat
 E:List Nat
 D:List (Nat×Bool×List Bool)
 rs:List ResultVar
 Post:AV->dd->Prop
 st:Nat->Bool:=λ_=>false
 cl:Nat->Nat:=λ_=>0
def y8(n:Nat)(E:List Nat)(D:List (Nat×Bool×List Bool)):Code->Bool
 |.seq a b=>y8 n E D a&&y8 n E D b|.cond c a b=>lG c&&(y8 n E D a&&y8 n E D b)|.block _ a=>y8 n E D a|.loop a=>y8 n E D a|.scope a=>y8 n E D a|.region _ ops false=>DI n ops|.region id ops true=>DI n ops&&CA E ops (λi=>(WW D id).2.getD i true)|_=>true
def SQ(X:Cx):List It->Exit->Fr->dd->Prop
 |[],e,fr,H=>Ai X.P X.rs X.Post e fr H|i::S,e,fr,H=>match i,e with
  |.c x,.normal=>X.P.follows .mixedOrders=true->y8 X.n X.E X.D x=true->gM X.P X.T X.n x (SQ X S) fr H|.b id,.exit j=>if j=id then SQ X S .normal fr H else SQ X S (.exit j) fr H|.h K,.normal=>K fr H|_,e=>SQ X S e fr H
def Kt(id:Nat):List It->Option (List It)
 |[]=>none|.b j::S=>if j=id then some S else Kt id S|_::S=>Kt id S
def Uv(A B:Fr->dd->Prop)(v:AV)(fr:Fr)(H:dd):Prop:=P0 v (A fr H) (B fr H)
def Wf(X:Cx):Nat->List It->Fr->dd->Prop
 |0,S,fr,H=>SQ X S .normal fr H|_+1,[],fr,H=>Ai X.P X.rs X.Post .normal fr H|k+1,.b _::S,fr,H=>Wf X k S fr H|_+1,.h K::_,fr,H=>K fr H|k+1,.c x::S,fr,H=>match x with
  |.seq a b=>Wf X k (.c a::.c b::S) fr H|.skip=>Wf X k S fr H|.label _=>Wf X k S fr H|.scope a=>Wf X k (.c a::S) fr H|.block id a=>Wf X k (.c a::.b id::S) fr H|.exit id=>match Kt id S with|some d=>Wf X k d fr H|none=>False
  |.ret=>Ai X.P X.rs X.Post .ret fr H|.cond c a b=>Uv (Wf X k (.c a::S)) (Wf X k (.c b::S)) (ev X.T fr c) fr H|.region _ ops false=>jH X.P X.T X.E ops ops.toList (Wf X k S) fr H|.region id ops true=>fM X.P X.T X.E ops ⟨(WW X.D id).1,X.st,X.cl⟩ (WW X.D id).2 ops.toList (Wf X k S) fr H|x=>SQ X (.c x::S) .normal fr H
def W4(X:Cx):∀(S:List It) (fr:Fr) (H:dd),SQ X S .ret fr H=Ai X.P X.rs X.Post .ret fr H
 |[],_,_=>rfl|i::S,fr,H=>by
  have:=W4 X S fr H;cases i<;>exact this
def Ui(X:Cx)(l:Nat):∀(S:List It) (fr:Fr) (H:dd),SQ X S (.goto l) fr H=False
 |[],_,_=>rfl|i::S,fr,H=>by
  have:=Ui X l S fr H;cases i<;>exact this
def P5(X:Cx)(id:Nat):∀(S a:List It) (fr:Fr) (H:dd),Kt id S=some a->SQ X S (.exit id) fr H=SQ X a .normal fr H
 |[],_,_,_,h=>by cases h
 |i::S,a,fr,H,h=>by
  cases i with
  |b j=>
   simp only[Kt] at h;show(if id=j then SQ X S .normal fr H else SQ X S (.exit id) fr H)=_
   split at h
   ·rename_i e;rw[cK e.symm,gB h]
   ·rename_i e;rw[cI (λd=>e d.symm)];exact P5 X id S a fr H h
  |c x=>exact P5 X id S a fr H h|h K=>exact P5 X id S a fr H h
def ac9(K:Fr->dd->Prop):Exit->Fr->dd->Prop
 |.normal,fr,H=>K fr H|_,_,_=>False
def ou(X:Cx):∀(k:Nat) (S:List It) (fr:Fr) (H:dd),Wf X k S fr H->SQ X S .normal fr H
 |0,_,_,_,h=>h|_+1,[],_,_,h=>h|k+1,.b _::S,fr,H,h=>ou X k S fr H h|_+1,.h _::_,_,_,h=>h|k+1,.c x::S,fr,H,h=>by
  have up:∀{c:Code} {S:List It} {fr:Fr} {H:dd},gM X.P X.T X.n c (ac9 (Wf X k S)) fr H->gM X.P X.T X.n c (SQ X S) fr H:=λh=>h.mono λe fr' H' g=>by
   cases e<;>first|exact ou X k _ _ _ g|exact g.elim
  intro hm f;cases x with
  |seq a b=>
   have i:Wf X k (.c a::.c b::S) fr H:=h;have j:=ou X k _ _ _ i;simp only[y8,ez] at f;refine gM.seq ((j hm f.1).mono λe fr' H' g=>?_)
   cases e<;>first|exact g hm f.2|exact g
  |skip=>exact gM.skip (ou X k S fr H h)|label l=>exact gM.label (ou X k S fr H h)|scope a=>
   have j:=ou X k (.c a::S) fr H h;refine gM.scope ((j hm f).mono λe fr' H' g=>?_)
   cases e<;>first|exact⟨trivial,g⟩|(rw[Ui] at g;exact g.elim)
  |block id a=>
   have j:=ou X k (.c a::.b id::S) fr H h;refine gM.block ((j hm f).mono λe fr' H' g=>?_);cases e<;>exact g
  |exit id=>
   have i:(match Kt id S with|some m=>Wf X k m fr H|none=>False):=h
   split at i
   ·rename_i m hs;refine gM.exit ?_;rw[P5 X id S m fr H hs];exact ou X k m fr H i
   ·exact i.elim
  |ret=>
   refine gM.ret ?_;rw[W4];exact h
  |cond c a b=>
   simp only[y8,ez] at f;have i:P0 (ev X.T fr c) (Wf X k (.c a::S) fr H) (Wf X k (.c b::S) fr H):=h;refine gM.yE (λA B o p=>?_) f.1;generalize ev X.T fr c=v at i;cases v with
   |sc w=>
    cases w with
    |bool t=>
     cases t with
     |true=>exact o _ _ (ou X k _ _ _ i hm f.2.1)|false=>exact p _ _ (ou X k _ _ _ i hm f.2.2)
    |_=>exact i.elim
   |_=>exact i.elim
  |region id ops d=>
   cases d with
   |false=>exact up (gM.region X.E f h)|true=>
    simp only[y8,ez] at f;exact up (gM.YM X.E ⟨(WW X.D id).1,X.st,X.cl⟩ (WW X.D id).2 hm f.1 f.2 h)
  |_=>exact h hm f
section
variable{X:Cx} {k:Nat} {S:List It} {fr:Fr} {H:dd} {a b:Code} {c:Operand} {id:Nat} {ops:Array Oper} {A B:Fr->dd->Prop}
@[simp] theorem afP:Wf X (k+1) [] fr H=Ai X.P X.rs X.Post .normal fr H:=rfl
@[simp] theorem aga:Wf X (k+1) (.b id::S) fr H=Wf X k S fr H:=rfl
@[simp] theorem agc{K:Fr->dd->Prop}:Wf X (k+1) (.h K::S) fr H=K fr H:=rfl
@[simp] theorem afp:Wf X (k+1) (.c (.seq a b)::S) fr H=Wf X k (.c a::.c b::S) fr H:=rfl
@[simp] theorem ae8:Wf X (k+1) (.c .skip::S) fr H=Wf X k S fr H:=rfl
@[simp] theorem aeJ:Wf X (k+1) (.c (.label id)::S) fr H=Wf X k S fr H:=rfl
@[simp] theorem adg:Wf X (k+1) (.c (.scope a)::S) fr H=Wf X k (.c a::S) fr H:=rfl
@[simp] theorem aeN:Wf X (k+1) (.c (.block id a)::S) fr H=Wf X k (.c a::.b id::S) fr H:=rfl
@[simp] theorem afd:Wf X (k+1) (.c (.exit id)::S) fr H=match Kt id S with|some a=>Wf X k a fr H|none=>False:=rfl
@[simp] theorem afF:Wf X (k+1) (.c .ret::S) fr H=Ai X.P X.rs X.Post .ret fr H:=rfl
@[simp] theorem ae3:Wf X (k+1) (.c (.cond c a b)::S) fr H=Uv (Wf X k (.c a::S)) (Wf X k (.c b::S)) (ev X.T fr c) fr H:=rfl
@[simp] theorem afM:Wf X (k+1) (.c (.region id ops false)::S) fr H=jH X.P X.T X.E ops ops.toList (Wf X k S) fr H:=rfl
@[simp] theorem afk:Wf X (k+1) (.c (.region id ops true)::S) fr H=fM X.P X.T X.E ops ⟨(WW X.D id).1,X.st,X.cl⟩ (WW X.D id).2 ops.toList (Wf X k S) fr H:=rfl
@[simp] theorem abF:Uv A B (.sc (.bool true)) fr H=A fr H:=rfl
@[simp] theorem Zg:Uv A B (.sc (.bool false)) fr H=B fr H:=rfl
@[simp] theorem afU:Kt id (.c a::S)=Kt id S:=rfl
@[simp] theorem afX{K:Fr->dd->Prop}:Kt id (.h K::S)=Kt id S:=rfl
@[simp] theorem afu{j:Nat}:Kt id (.b j::S)=if j=id then some S else Kt id S:=rfl
@[simp] theorem afg{i:Nat}:WW [] i=(false,[]):=rfl
@[simp] theorem aes{x:Nat×Bool×List Bool}{l:List (Nat×Bool×List Bool)}{i:Nat}:WW (x::l) i=if i=x.1 then x.2 else WW l i:=rfl
@[simp] theorem XN{P:Program}{T:ec}{E:List Nat}{q:Qt}{o:Oper}{rest:List Oper}{K:Fr->dd->Prop}:fM P T E ops q [] (o::rest) K fr H=fM P T E ops q [true] (o::rest) K fr H:=rfl
def wg(k:Nat)(h:Wf X k S fr H):Wf X 0 S fr H:=ou X k S fr H h
def wj(f k2:Nat)(R:Fr->dd->Prop)(i:∀K:Fr->dd->Prop,(∀fr H,R fr H->K fr H)->Wf X f (.c a::.h K::S) fr H)(j:∀fr H,R fr H->Wf X k2 (.c b::S) fr H):Wf X 0 (.c (.seq a b)::S) fr H:=by
 intro hm d;simp only[y8,ez] at d;have k:=ou X f _ _ _ (i (SQ X (.c b::S) .normal) λfr H h=>ou X k2 _ _ _ (j fr H h));refine gM.seq ((k hm d.1).mono λe fr' H' g=>?_)
 cases e<;>first|exact g hm d.2|exact g
def wl(d:Nat)(I:Nat->Fr->dd->Prop)(m:Nat)(g:I m fr H)(i:∀m fr H,I m fr H->∀K:Fr->dd->Prop,(∀fr' H' f,f<m->I f fr' H'->K fr' H')->Wf X d (.c a::.h K::S) fr H):Wf X (k+1) (.c (.loop a)::S) fr H:=by
 intro hm b;refine gM.RB I m g λm fr H j K l=>?_;refine((ou X d _ _ _ (i m fr H j K l)) hm b).mono λe fr' H' n=>?_;cases e<;>exact n
end
def wi{P:Program}{T:ec}{H:dd}{f:FuncId}{args:List AV}{Post:AV->dd->Prop}{fn:Func}{c:Code}(hm:P.follows .mixedOrders=true)(d:P.funcs[f]?=some fn)(E:List Nat)(D:List (Nat×Bool×List Bool))(k:Nat)
  (h:Wf {P:=P,T:=T,n:=fn.ntmps,E:=E,D:=D,rs:=fn.results.toList,Post:=Post} k [.c c] (Sj args) H)
  (e:fn.body=some c:=by rfl) (a:mX P f=true:=by decide+kernel) (hlen:args.length<=fn.ntmps:=by exact G4 rfl) (b:y8 fn.ntmps E D c=true:=by decide+kernel):fl P T f args H Post:=
 fl.intro d e a hlen (((ou _ _ _ _ _ h) hm b).mono λ_ _ _ g=>g)
end Go.ns
namespace Go.ns
open Go Go.ek
section
variable{α β γ δ ε ζ ρ σ τ κ:Type} {E A:Prop} {r:ρ} {c:Bool}
def Aj(e:E)(a:A):E/\A:=⟨e,a⟩
def fh(e:E){o:Option α}{f:α->Option ρ}(m:cG o f=some r):∃a,(E/\o=some a)/\f a=some r:=by
 obtain⟨a,b,c⟩:=dJ m;exact⟨a,⟨e,b⟩,c⟩
def Bo2(e:E){o:Option (α×β)}{f:α->β->Option ρ}(m:cX o f=some r):∃a b,(E/\o=some (a,b))/\f a b=some r:=by
 obtain⟨a,b,c,d⟩:=j9 m;exact⟨a,b,⟨e,c⟩,d⟩
def Bo3(e:E){o:Option (α×β×γ)}{f:α->β->γ->Option ρ}(m:hB o f=some r):∃a b c,(E/\o=some (a,b,c))/\f a b c=some r:=by
 obtain⟨a,b,c,d,g⟩:=AX m;exact⟨a,b,c,⟨e,d⟩,g⟩
def Bo4(e:E){o:Option (α×β×γ×δ)}{f:α->β->γ->δ->Option ρ}(m:OO o f=some r):∃a b c d,(E/\o=some (a,b,c,d))/\f a b c d=some r:=by
 obtain⟨a,b,c,d,g,h⟩:=SY m;exact⟨a,b,c,d,⟨e,g⟩,h⟩
def Ck(e:E){o:Option ρ}(m:fY c o=some r):(E/\c=true)/\o=some r:=⟨⟨e,(oR m).1⟩,(oR m).2⟩
def Io(e:E){a b:Option ρ}(m:(if c then a else b)=some r):((E/\c=true)/\a=some r)\/((E/\c=false)/\b=some r):=
 (kU m).imp (λh=>⟨⟨e,h.1⟩,h.2⟩) (λh=>⟨⟨e,h.1⟩,h.2⟩)
def Pb(c:Bool)(e:E):(E/\c=true)\/(E/\c=false):=by cases c<;>simp[e]
@[simp] theorem aea(a:Int):pP a a=false:=by simp[pP]
def cC(n:σ->Option τ)(k:σ⊕ρ->Option τ):eu σ ρ->Option τ
 |.next s=>n s|.vN s=>k (.inl s)|.ret x=>k (.inr x)
def Q0(o:Option (eu σ ρ))(n:σ->Option (σ⊕ρ))(k:σ⊕ρ->Option τ):cG (cG o (Rf n)) k=cG o (cC (λs=>cG (n s) k) k):=by
 cases o with
 |none=>rfl|some c=>cases c<;>rfl
def Qb{n g:σ->Option τ}{h:ρ->Option τ}{s:σ}{w:τ}(q:cC n (fi g h) (.vN s)=some w):g s=some w:=q
variable{X:Cx} {S:List It} {fr:Fr} {H:dd} {a b:Code} {w:τ}
def Wj{d:κ}{e:κ->Option τ}(m:dj d e=some w)(g k2:Nat)(R:κ->Fr->dd->Prop)(i:∀(j:κ) (K:Fr->dd->Prop),(∀f h,R j f h->K f h)->e j=some w->Wf X g (.c a::.h K::S) fr H)
  (k:∀f h,R d f h->Wf X k2 (.c b::S) f h):Wf X 0 (.c (.seq a b)::S) fr H:=
 wj g k2 (R d) (λK l=>i d K l m) k
def Wr(e:E){l:List α}{F:Int->α->σ->Option (eu σ ρ)}{k:σ⊕ρ->Option τ}{d:σ}(m:fY (eg l) (dj F λF=>cG (dP F l 0 d) k)=some w)(q:Nat)(I:Int->σ->Fr->dd->Prop)(v:I 0 d fr H)
  (y:∀s f h K,I (dn l) s f h->k (.inl s)=some w->Wf X q (.c a::.h K::S) f h)
  (hs:∀j x s f h K n c,I j s f h->((E/\pP j (dn l)=true)/\df l j=some x)->F j x s=some c->cC n k c=some w->(∀g o p,I (dR .i64 j 1) g o p->n g=some w->K o p)->Wf X q (.c a::.h K::S) f h)
  {z:Nat}:Wf X (z+1) (.c (.loop a)::S) fr H:=by
 obtain⟨r,m⟩:=oR m;have m:cG (dP F l 0 d) k=some w:=m;refine wl q (λn f h=>∃(i:Nat) (s:σ),I (i:Int) s f h/\i+n=l.length/\cG (dP F (l.drop i) i s) k=some w) l.length ⟨0,d,v,aaB,by simpa using m⟩ ?_;rintro n f h ⟨i,s,u,hi,hm⟩ K A;rcases n with _|n
 ·have t:i=l.length:=VW
  subst t;rw[H9 (ig _),lT] at hm;exact y s f h K u hm
 ·obtain⟨x,B,hg⟩:=Uj (l:=l) (i:=i) VW;rw[B,dq,Q0] at hm;obtain⟨c,C,D⟩:=dJ hm;refine hs i x s f h K _ c u ⟨⟨e,WU VW⟩,hg⟩ C D λg o p b hn=>A o p n (Oc _) ⟨i+1,g,?_,VW,hn⟩;rw[Ro VW r] at b;exact b
def Wn{F:σ->Option (eu σ ρ)}{k:σ⊕ρ->Option τ}{b:σ}(m:dj F (λF=>cG (jb F FU b) k)=some w)(j:Nat)(I:σ->Fr->dd->Prop)(l:I b fr H)
  (hs:∀s f h K n c,I s f h->F s=some c->cC n k c=some w->(∀d e g,I d e g->n d=some w->K e g)->Wf X j (.c a::.h K::S) f h)
  {o:Nat}:Wf X (o+1) (.c (.loop a)::S) fr H:=by
 have m:cG (jb F FU b) k=some w:=m;refine wl j (λn f h=>∃(s:σ),I s f h/\cG (jb F n s) k=some w) FU ⟨b,l,m⟩ ?_;rintro n f h ⟨s,p,hm⟩ K q;rcases n with _|n
 ·cases hm
 ·rw[gb,Q0] at hm;obtain⟨c,r,t⟩:=dJ hm;exact hs s f h K _ c p r t λd e g i hn=>q e g n (Oc _) ⟨d,i,hn⟩
variable{P:Program} {T:ec} {EE:List Nat} {ops:Array Oper} {q:Qt} {bs:List Bool} {rest:List Oper} {K:Fr->dd->Prop} {H':dd} {d:Option Nat} {as:List AV} {rr:AV} {g:FuncId}
def Cf(h:dY P T g as H rr H')(a:jH P T EE ops rest K (fr.put d rr) H'):nM P T EE ops (.func (.func g) [] []) as d rest K fr H:=nM.fn h a
def Cs(h:dY P T g as H rr H')(a:fM P T EE ops q bs rest K (fr.put d rr) H')(b:QK q H H':=by simp):oa P T EE ops q bs (.func (.func g) [] []) as d rest K fr H:=oa.fn h b a
def Ao{t e sz d:Nat}{s x:AV}{f:α->AV}{D:List Nat}{tag a:Tag}(l m:List α)(h:jj fr.yB fr.fu D tag l.length)(b:rp P t=some (e,sz))(hlen:eM l m=true)
  (g:K {fr with env:=ia fr.env d (.slice (.loc d (fr.fu d+1)) ((eV l m).map f)),yB:=ia (zm tag fr.yB) d (some (eV l m).length),fu:=ia fr.fu d (fr.fu d+1)} H)
  (hs:s=.slice tag (l.map f):=by first|rfl|simp) (i:x=.slice a (m.map f):=by first|rfl|simp) (c:∀x,(f x).cells.length=sz:=by intro x;simp):w_ P t s x d K fr H:=
 w_.own l m h b c hlen hs i g
def Ad{t e sz d:Nat}{s x:AV}{f:α->AV}{D:List Nat}{tag a:Tag}(l m:List α)(h:jj fr.yB fr.fu D tag l.length)(b:rp P t=some (e,sz))(hlen:eM l m=true)
  (g:K {fr with env:=ia fr.env d (.slice (.loc d (fr.fu d+1)) ((eV l m).map f)),yB:=ia (zm tag fr.yB) d (some (eV l m).length),fu:=ia fr.fu d (fr.fu d+1)} H)
  (hs:s=.slice tag (l.map f):=by first|rfl|simp) (i:x=.slice a (m.map f):=by first|rfl|simp) (c:∀x,(f x).cells.length=sz:=by intro x;simp):Gl P t s x d K fr H:=
 Gl.own l m h b c hlen hs i g
end
attribute [simp] Ai
end Go.ns
namespace Go.ns
open Go Go.ek
abbrev sI(n:Int):AV:=.sc (.int .i64 n)
abbrev sB(b:Bool):AV:=.sc (.bool b)
abbrev sL{α:Type}(f:α->AV)(l:List α):AV:=.slice .jU (l.map f)
abbrev sT{α:Type}(t:Tag)(f:α->AV)(l:List α):AV:=.slice t (l.map f)
abbrev Ow{α:Type}(f:Fr)(D:List Nat)(t:Tag)(l:List α):Prop:=jj f.yB f.fu D t l.length
section
variable{yB:Nat->Option Nat} {fu:Nat->Nat} {D D':List Nat} {n:Nat} {t:Tag}
def On(d:Nat)(h:d∈D:=by decide):jj (ia yB d (some n)) (ia fu d (fu d+1)) D (.loc d (fu d+1)) n:=jj.new h
end
section
variable{α β γ δ ε ζ η θ:Type}
abbrev t2(a:α->AV)(b:β->AV)(p:α×β):AV:=.tuple [a p.1,b p.2]
abbrev t3(a:α->AV)(b:β->AV)(c:γ->AV)(p:α×β×γ):AV:=.tuple [a p.1,b p.2.1,c p.2.2]
@[simp] theorem af4(a:α->AV)(b:β->AV)(x:α)(y:β):t2 a b (x,y)=.tuple [a x,b y]:=rfl
@[simp] theorem af'(a:α->AV)(b:β->AV)(c:γ->AV)(x:α)(y:β)(z:γ):t3 a b c (x,y,z)=.tuple [a x,b y,c z]:=rfl
abbrev C0(P:Program)(g:FuncId)(f:Option θ)(z:θ->AV):Prop:=∀{T:ec} {H:dd} {r:θ},f=some r->dY P T g [] H (z r) H
abbrev C1(P:Program)(g:FuncId)(f:α->Option θ)(z:θ->AV)(a:α->AV):Prop:=∀{T:ec} {H:dd} {x:α} {r:θ},f x=some r->dY P T g [a x] H (z r) H
abbrev C2(P:Program)(g:FuncId)(f:α->β->Option θ)(z:θ->AV)(a:α->AV)(b:β->AV):Prop:=∀{T:ec} {H:dd} {x:α} {y:β} {r:θ},f x y=some r->dY P T g [a x,b y] H (z r) H
abbrev C3(P:Program)(g:FuncId)(f:α->β->γ->Option θ)(z:θ->AV)(a:α->AV)(b:β->AV)(c:γ->AV):Prop:=∀{T:ec} {H:dd} {x:α} {y:β} {v:γ} {r:θ},f x y v=some r->dY P T g [a x,b y,c v] H (z r) H
abbrev C4(P:Program)(g:FuncId)(f:α->β->γ->δ->Option θ)(z:θ->AV)(a:α->AV)(b:β->AV)(c:γ->AV)(d:δ->AV):Prop:=∀{T:ec} {H:dd} {x:α} {y:β} {v:γ} {w:δ} {r:θ},f x y v w=some r->dY P T g [a x,b y,c v,d w] H (z r) H
abbrev C5(P:Program)(g:FuncId)(f:α->β->γ->δ->ε->Option θ)(z:θ->AV)(a:α->AV)(b:β->AV)(c:γ->AV)(d:δ->AV)(e:ε->AV):Prop:=∀{T:ec} {H:dd} {x:α} {y:β} {v:γ} {w:δ} {u:ε} {r:θ},f x y v w u=some r->dY P T g [a x,b y,c v,d w,e u] H (z r) H
end
end Go.ns
namespace Go.ns
open Go Go.ek
abbrev nL:AV:=.slice .full []
abbrev bx(f:Fr)(b:Nat)(c:List AV):Prop:=f.1 b=AV.jo b (f.gen b) 0/\f.box b=some c
attribute [simp] bx
section
variable{E G:Prop} {ρ:Type} {r:ρ} {c:Bool} {a b:Option ρ}
def Iq(e:E)(m:(if c then a else b)=some r)(d:E/\c=true->a=some r->G)(f:E/\c=false->b=some r->G):G:=
 (Io e m).elim (λh=>d h.1 h.2) (λh=>f h.1 h.2)
def Ir(e:E)(m:(if c then a else b)=some r)(d:E/\c=false->b=some r->G)(f:E/\c=true->a=some r->G):G:=Iq e m f d
def Il(e:E)(m:(if c then a else b)=some r)(d:E/\c=false->b=some r->G)(f:E/\c=true->a=some r->G:=by intro e m;cases m;(try cases z);(try cases z);simp[e];done):G:=Iq e m f d
def Im(e:E)(m:(if c then a else b)=some r)(d:E/\c=true->a=some r->G)(f:E/\c=false->b=some r->G:=by intro e m;cases m;(try cases z);(try cases z);simp[e];done):G:=Iq e m d f
def au(h:G:=by cases m;(try cases z);(try cases z);simp[e];done):G:=h
def aj(h:G:=by simp[e];exact g _ _ aaN):G:=h
def ZF(h:G:=by simp[e];exact g _ _ ⟨aaN,m⟩):G:=h
def iO(h:G:=by simp[e];exact g _ _ ⟨_,aaN,m⟩):G:=h
def ak2(h:G:=by simp[e];exact g _ _ ⟨_,_,aaN,m⟩):G:=h
def ak3(h:G:=by simp[e];exact g _ _ ⟨_,_,_,aaN,m⟩):G:=h
def al(h:G:=by simp[e];cases m;exact p _ _ _ aaN z):G:=h
end
section
variable{P:Program} {T:ec} {EE:List Nat} {ops:Array Oper} {q:Qt} {bs:List Bool} {rest:List Oper} {K:Fr->dd->Prop} {H:dd} {d:Option Nat} {as:List AV} {g:FuncId} {fr:Fr} {ρ α β γ δ ε:Type} {r:ρ}
def eI{o:Option α}{F:α->Option ρ}{z:α->AV}{W:α->dd}(m:cG o F=some r)(h:∀{y},o=some y->dY P T g as H (z y) (W y))(a:∀y,F y=some r->jH P T EE ops rest K (fr.put d (z y)) (W y)):nM P T EE ops (.func (.func g) [] []) as d rest K fr H:=by
 obtain⟨y,b,c⟩:=dJ m;exact Cf (h b) (a _ c)
def ke{o:Option (α×β)}{F:α->β->Option ρ}{z:α->β->AV}{W:α->β->dd}(m:cX o F=some r)(h:∀{y a},o=some (y,a)->dY P T g as H (z y a) (W y a))(b:∀y a,F y a=some r->jH P T EE ops rest K (fr.put d (z y a)) (W y a)):nM P T EE ops (.func (.func g) [] []) as d rest K fr H:=by
 obtain⟨y,a,c,e⟩:=j9 m;exact Cf (h c) (b _ _ e)
def KE{o:Option (α×β×γ)}{F:α->β->γ->Option ρ}{z:α->β->γ->AV}{W:α->β->γ->dd}(m:hB o F=some r)(h:∀{y a u},o=some (y,a,u)->dY P T g as H (z y a u) (W y a u))(b:∀y a u,F y a u=some r->jH P T EE ops rest K (fr.put d (z y a u)) (W y a u)):nM P T EE ops (.func (.func g) [] []) as d rest K fr H:=by
 obtain⟨y,a,u,c,e⟩:=AX m;exact Cf (h c) (b _ _ _ e)
def eO{o:Option α}{F:α->Option ρ}{z:α->AV}{W:α->dd}(m:cG o F=some r)(h:∀{y},o=some y->dY P T g as H (z y) (W y))(a:∀y,F y=some r->fM P T EE ops q bs rest K (fr.put d (z y)) (W y))(b:∀y,QK q H (W y):=by simp):oa P T EE ops q bs (.func (.func g) [] []) as d rest K fr H:=by
 obtain⟨y,c,e⟩:=dJ m;exact Cs (h c) (a _ e) (b _)
def oA{o:Option (α×β)}{F:α->β->Option ρ}{z:α->β->AV}{W:α->β->dd}(m:cX o F=some r)(h:∀{y a},o=some (y,a)->dY P T g as H (z y a) (W y a))(b:∀y a,F y a=some r->fM P T EE ops q bs rest K (fr.put d (z y a)) (W y a))(c:∀y a,QK q H (W y a):=by simp):oa P T EE ops q bs (.func (.func g) [] []) as d rest K fr H:=by
 obtain⟨y,a,e,f⟩:=j9 m;exact Cs (h e) (b _ _ f) (c _ _)
def Cs3{o:Option (α×β×γ)}{F:α->β->γ->Option ρ}{z:α->β->γ->AV}{W:α->β->γ->dd}(m:hB o F=some r)(h:∀{y a u},o=some (y,a,u)->dY P T g as H (z y a u) (W y a u))(b:∀y a u,F y a u=some r->fM P T EE ops q bs rest K (fr.put d (z y a u)) (W y a u))(c:∀y a u,QK q H (W y a u):=by simp):oa P T EE ops q bs (.func (.func g) [] []) as d rest K fr H:=by
 obtain⟨y,a,u,e,f⟩:=AX m;exact Cs (h e) (b _ _ _ f) (c _ _ _)
end
section
variable{ρ α σ τ κ:Type} {E:Prop} {X:Cx} {S:List It} {fr:Fr} {H:dd} {a b:Code} {w:τ}
def OV(d k2:Nat)(R:Fr->dd->Prop)(e:∀fr H,R fr H->Wf X k2 (.c b::S) fr H)(f:∀K:Fr->dd->Prop,(∀fr H,R fr H->K fr H)->Wf X d (.c a::.h K::S) fr H):Wf X 0 (.c (.seq a b)::S) fr H:=wj d k2 R f e
def yU{d:κ}{e:κ->Option τ}(m:dj d e=some w)(g k2:Nat)(R:κ->Fr->dd->Prop)(i:∀f h,R d f h->Wf X k2 (.c b::S) f h)(k:∀(j:κ) (K:Fr->dd->Prop),(∀f h,R j f h->K f h)->e j=some w->Wf X g (.c a::.h K::S) fr H):Wf X 0 (.c (.seq a b)::S) fr H:=Wj m g k2 R k i
def FC(e:E){l:List α}{F:Int->α->σ->Option (eu σ ρ)}{k:σ⊕ρ->Option τ}{d:σ}(m:fY (eg l) (dj F λF=>cG (dP F l 0 d) k)=some w)(b:Nat)(I:Int->σ->Fr->dd->Prop)(p:I 0 d fr H)
 (hs:∀j x s f h K n c,I j s f h->((E/\pP j (dn l)=true)/\df l j=some x)->F j x s=some c->cC n k c=some w->(∀g i o,I (dR .i64 j 1) g i o->n g=some w->K i o)->Wf X b (.c a::.h K::S) f h)
 (q:∀s f h K,I (dn l) s f h->k (.inl s)=some w->Wf X b (.c a::.h K::S) f h)
 {r:Nat}:Wf X (r+1) (.c (.loop a)::S) fr H:=Wr e m b I p q hs
end
section
variable{P:Program} {fn:Func} {g:FuncId} {c:Code} {α β γ δ ε θ:Type} {z:θ->AV} {a:α->AV} {b:β->AV} {y:γ->AV} {d:δ->AV} {e:ε->AV}
def u0[i:Nonempty (P.follows .mixedOrders=true)](k:Nat)(d:P.funcs[g]?=some fn){f:Option θ}(h:∀T H r,f=some r->True->Wf {P:=P,T:=T,n:=fn.ntmps,E:=[],D:=[],rs:=fn.results.toList,Post:=λv K=>v=z r/\K=H} k [.c c] (Sj []) H)
  (e:fn.body=some c:=by rfl) (a:mX P g=true:=by decide+kernel) (b:y8 fn.ntmps [] [] c=true:=by decide+kernel):C0 P g f z:=
 λ{T H r} j=>i.elim λhm=>wi hm d [] [] k (h T H r j trivial) e a (XC _) b
def u1[i:Nonempty (P.follows .mixedOrders=true)](k:Nat)(e:P.funcs[g]?=some fn){f:α->Option θ}(h:∀T H x r,f x=some r->True->Wf {P:=P,T:=T,n:=fn.ntmps,E:=[],D:=[],rs:=fn.results.toList,Post:=λv K=>v=z r/\K=H} k [.c c] (Sj [a x]) H)
  (j:fn.body=some c:=by rfl) (b:mX P g=true:=by decide+kernel) (hlen:1<=fn.ntmps:=by exact G4 rfl) (d:y8 fn.ntmps [] [] c=true:=by decide+kernel):C1 P g f z a:=
 λ{T H x r} l=>i.elim λhm=>wi hm e [] [] k (h T H x r l trivial) j b hlen d
def u2[i:Nonempty (P.follows .mixedOrders=true)](k:Nat)(l:P.funcs[g]?=some fn){f:α->β->Option θ}(h:∀T H x j r,f x j=some r->True->Wf {P:=P,T:=T,n:=fn.ntmps,E:=[],D:=[],rs:=fn.results.toList,Post:=λv K=>v=z r/\K=H} k [.c c] (Sj [a x,b j]) H)
  (m:fn.body=some c:=by rfl) (d:mX P g=true:=by decide+kernel) (hlen:2<=fn.ntmps:=by exact G4 rfl) (e:y8 fn.ntmps [] [] c=true:=by decide+kernel):C2 P g f z a b:=
 λ{T H x j r} o=>i.elim λhm=>wi hm l [] [] k (h T H x j r o trivial) m d hlen e
def u3[i:Nonempty (P.follows .mixedOrders=true)](k:Nat)(l:P.funcs[g]?=some fn){f:α->β->γ->Option θ}(h:∀T H x j v r,f x j v=some r->True->Wf {P:=P,T:=T,n:=fn.ntmps,E:=[],D:=[],rs:=fn.results.toList,Post:=λv K=>v=z r/\K=H} k [.c c] (Sj [a x,b j,y v]) H)
  (m:fn.body=some c:=by rfl) (d:mX P g=true:=by decide+kernel) (hlen:3<=fn.ntmps:=by exact G4 rfl) (e:y8 fn.ntmps [] [] c=true:=by decide+kernel):C3 P g f z a b y:=
 λ{T H x j v r} o=>i.elim λhm=>wi hm l [] [] k (h T H x j v r o trivial) m d hlen e
def u4[i:Nonempty (P.follows .mixedOrders=true)](k:Nat)(m:P.funcs[g]?=some fn){f:α->β->γ->δ->Option θ}(h:∀T H x l v w r,f x l v w=some r->True->Wf {P:=P,T:=T,n:=fn.ntmps,E:=[],D:=[],rs:=fn.results.toList,Post:=λv K=>v=z r/\K=H} k [.c c] (Sj [a x,b l,y v,d w]) H)
  (o:fn.body=some c:=by rfl) (e:mX P g=true:=by decide+kernel) (hlen:4<=fn.ntmps:=by exact G4 rfl) (j:y8 fn.ntmps [] [] c=true:=by decide+kernel):C4 P g f z a b y d:=
 λ{T H x l v w r} p=>i.elim λhm=>wi hm m [] [] k (h T H x l v w r p trivial) o e hlen j
def u5[i:Nonempty (P.follows .mixedOrders=true)](k:Nat)(o:P.funcs[g]?=some fn){f:α->β->γ->δ->ε->Option θ}(h:∀T H x m v w u r,f x m v w u=some r->True->Wf {P:=P,T:=T,n:=fn.ntmps,E:=[],D:=[],rs:=fn.results.toList,Post:=λv K=>v=z r/\K=H} k [.c c] (Sj [a x,b m,y v,d w,e u]) H)
  (p:fn.body=some c:=by rfl) (j:mX P g=true:=by decide+kernel) (hlen:5<=fn.ntmps:=by exact G4 rfl) (l:y8 fn.ntmps [] [] c=true:=by decide+kernel):C5 P g f z a b y d e:=
 λ{T H x m v w u r} q=>i.elim λhm=>wi hm o [] [] k (h T H x m v w u r q trivial) p j hlen l
def v0[i:Nonempty (P.follows .mixedOrders=true)](d:P.funcs[g]?=some fn){f:Option θ}(h:∀T H r,f=some r->True->Wf {P:=P,T:=T,n:=fn.ntmps,E:=[],D:=[],rs:=fn.results.toList,Post:=λv K=>v=z r/\K=H} 999 [.c c] (Sj []) H)
  (e:fn.body=some c:=by rfl) (a:mX P g=true:=by decide+kernel) (b:y8 fn.ntmps [] [] c=true:=by decide+kernel):C0 P g f z:=
 u0 999 d h e a b
def v1[i:Nonempty (P.follows .mixedOrders=true)](e:P.funcs[g]?=some fn){f:α->Option θ}(h:∀T H x r,f x=some r->True->Wf {P:=P,T:=T,n:=fn.ntmps,E:=[],D:=[],rs:=fn.results.toList,Post:=λv K=>v=z r/\K=H} 999 [.c c] (Sj [a x]) H)
  (j:fn.body=some c:=by rfl) (b:mX P g=true:=by decide+kernel) (hlen:1<=fn.ntmps:=by exact G4 rfl) (d:y8 fn.ntmps [] [] c=true:=by decide+kernel):C1 P g f z a:=
 u1 999 e h j b hlen d
def v2[i:Nonempty (P.follows .mixedOrders=true)](k:P.funcs[g]?=some fn){f:α->β->Option θ}(h:∀T H x j r,f x j=some r->True->Wf {P:=P,T:=T,n:=fn.ntmps,E:=[],D:=[],rs:=fn.results.toList,Post:=λv K=>v=z r/\K=H} 999 [.c c] (Sj [a x,b j]) H)
  (l:fn.body=some c:=by rfl) (d:mX P g=true:=by decide+kernel) (hlen:2<=fn.ntmps:=by exact G4 rfl) (e:y8 fn.ntmps [] [] c=true:=by decide+kernel):C2 P g f z a b:=
 u2 999 k h l d hlen e
def v3[i:Nonempty (P.follows .mixedOrders=true)](k:P.funcs[g]?=some fn){f:α->β->γ->Option θ}(h:∀T H x j v r,f x j v=some r->True->Wf {P:=P,T:=T,n:=fn.ntmps,E:=[],D:=[],rs:=fn.results.toList,Post:=λv K=>v=z r/\K=H} 999 [.c c] (Sj [a x,b j,y v]) H)
  (l:fn.body=some c:=by rfl) (d:mX P g=true:=by decide+kernel) (hlen:3<=fn.ntmps:=by exact G4 rfl) (e:y8 fn.ntmps [] [] c=true:=by decide+kernel):C3 P g f z a b y:=
 u3 999 k h l d hlen e
def v4[i:Nonempty (P.follows .mixedOrders=true)](l:P.funcs[g]?=some fn){f:α->β->γ->δ->Option θ}(h:∀T H x k v w r,f x k v w=some r->True->Wf {P:=P,T:=T,n:=fn.ntmps,E:=[],D:=[],rs:=fn.results.toList,Post:=λv K=>v=z r/\K=H} 999 [.c c] (Sj [a x,b k,y v,d w]) H)
  (m:fn.body=some c:=by rfl) (e:mX P g=true:=by decide+kernel) (hlen:4<=fn.ntmps:=by exact G4 rfl) (j:y8 fn.ntmps [] [] c=true:=by decide+kernel):C4 P g f z a b y d:=
 u4 999 l h m e hlen j
def v5[i:Nonempty (P.follows .mixedOrders=true)](m:P.funcs[g]?=some fn){f:α->β->γ->δ->ε->Option θ}(h:∀T H x l v w u r,f x l v w u=some r->True->Wf {P:=P,T:=T,n:=fn.ntmps,E:=[],D:=[],rs:=fn.results.toList,Post:=λv K=>v=z r/\K=H} 999 [.c c] (Sj [a x,b l,y v,d w,e u]) H)
  (o:fn.body=some c:=by rfl) (j:mX P g=true:=by decide+kernel) (hlen:5<=fn.ntmps:=by exact G4 rfl) (k:y8 fn.ntmps [] [] c=true:=by decide+kernel):C5 P g f z a b y d e:=
 u5 999 m h o j hlen k
def i1{M:Nat->α->Option θ}(h:∀n,C1 P g (M n) z a->C1 P g (M (n+1)) z a)(c:∀x,M 0 x=none:=by intros;rfl){n:Nat}:C1 P g (M n) z a:=by
 induction n with
 |zero=>intro T H x r b;rw[c] at b;cases b
 |succ n d=>exact h n d
def i2{M:Nat->α->β->Option θ}(h:∀n,C2 P g (M n) z a b->C2 P g (M (n+1)) z a b)(e:∀x c,M 0 x c=none:=by intros;rfl){n:Nat}:C2 P g (M n) z a b:=by
 induction n with
 |zero=>intro T H x c r d;rw[e] at d;cases d
 |succ n f=>exact h n f
def i3{M:Nat->α->β->γ->Option θ}(h:∀n,C3 P g (M n) z a b y->C3 P g (M (n+1)) z a b y)(e:∀x c v,M 0 x c v=none:=by intros;rfl){n:Nat}:C3 P g (M n) z a b y:=by
 induction n with
 |zero=>intro T H x c v r d;rw[e] at d;cases d
 |succ n f=>exact h n f
def i4{M:Nat->α->β->γ->δ->Option θ}(h:∀n,C4 P g (M n) z a b y d->C4 P g (M (n+1)) z a b y d)(f:∀x c v w,M 0 x c v w=none:=by intros;rfl){n:Nat}:C4 P g (M n) z a b y d:=by
 induction n with
 |zero=>intro T H x c v w r e;rw[f] at e;cases e
 |succ n i=>exact h n i
def i5{M:Nat->α->β->γ->δ->ε->Option θ}(h:∀n,C5 P g (M n) z a b y d e->C5 P g (M (n+1)) z a b y d e)(i:∀x c v w u,M 0 x c v w u=none:=by intros;rfl){n:Nat}:C5 P g (M n) z a b y d e:=by
 induction n with
 |zero=>intro T H x c v w u r f;rw[i] at f;cases f
 |succ n j=>exact h n j
end
end Go.ns
