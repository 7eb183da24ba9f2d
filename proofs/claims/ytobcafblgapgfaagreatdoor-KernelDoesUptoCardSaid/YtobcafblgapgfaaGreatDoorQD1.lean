/- Part of the proof of KernelDoes: walks by hand. -/
import Derived.Test.YtobcafblgapgfaaGreatDoorL18
import Derived.Test.YtobcafblgapgfaaGreatDoorW2
set_option linter.all false
set_option maxRecDepth 20000
namespace Go.fB
open Go Go.ke
def Pf.QL{p:Pf->Prop}(h:∀k i s ts a l,(∀t∈l,p t)->p (.mk k i s ts a l))(t:Pf):p t:=by
 match t with
 |.mk k i s ts a l=>exact h k i s ts a l λx b=>Pf.QL h x
structure NP where
 k:Int
 i:Int
 ty:Ty
 t:AV
 f:AV
 a:AV
def NP.cs(n:NP):List AV:=[sI n.k,sI n.i,sI n.ty.acS,.slice .hY (n.ty.acT.map Ty.av),n.t,n.f,n.a]
def NP.av(n:NP):AV:=.agg n.cs
def NP.len(n:NP):n.av.cells.length=7:=rfl
def Tm.JQ(t:Tm):t.av.cells.length=5:=by rw[Tm.fo];rfl
def Fm.JQ(t:Fm):t.av.cells.length=5:=by rw[Fm.fo];rfl
def Flat{α:Type}(b:Bool)(H:cW)(f:α->AV)(sz:Nat)(l:List α)(s:AV)(I:Nat->Prop):Prop:=
 (s=.slice .hY (l.map f)/\(b=false->l=[])/\∀x,¬I x)\/∃o cap j,s=.pQ o 0 l.length cap/\H[o]?=some (gO f l j)/\cap*sz=l.length*sz+j/\0<l.length/\∀x,I x↔x=o
def RF(b:Bool)(H:cW)(R:List NP->(Nat->Prop)->Prop)(l:List Pf)(s:AV)(I:Nat->Prop):Prop:=
 (s=.slice .hY (l.map Pf.av)/\(b=false->l=[])/\∀x,¬I x)\/∃(o cap j:Nat) (a:List NP) (J:Nat->Prop),s=.pQ o 0 a.length cap/\H[o]?=some (gO NP.av a j)/\cap*7=a.length*7+j/\0<a.length/\R a J/\¬J o/\∀x,I x↔x=o\/J x
mutual
def mb(b:Bool)(H:cW):Pf->NP->(Nat->Prop)->Prop
 |.mk k i ty ts d l,n,I=>n.k=k/\n.i=i/\n.ty=ty/\∃It If c:Nat->Prop,Flat b H Tm.av 5 ts n.t It/\Flat b H Fm.av 5 d n.f If/\RF b H (qx b H l) l n.a c/\(∀x,It x->¬If x)/\(∀x,It x->¬c x)/\(∀x,If x->¬c x)/\∀x,I x↔It x\/If x\/c x
def qx(b:Bool)(H:cW):List Pf->List NP->(Nat->Prop)->Prop
 |[],c,I=>c=[]/\∀x,¬I x|p::l,c,I=>∃(n:NP) (a:List NP) (d e:Nat->Prop),c=n::a/\mb b H p n d/\qx b H l a e/\(∀x,d x->¬e x)/\∀x,I x↔d x\/e x
end
def l7{b:Bool}{H:cW}{k i:Int}{ty:Ty}{ts:List Tm}{d:List Fm}{l:List Pf}{n:NP}{I:Nat->Prop}:mb b H (.mk k i ty ts d l) n I↔n.k=k/\n.i=i/\n.ty=ty/\∃It If c:Nat->Prop,Flat b H Tm.av 5 ts n.t It/\Flat b H Fm.av 5 d n.f If/\RF b H (qx b H l) l n.a c/\(∀x,It x->¬If x)/\(∀x,It x->¬c x)/\(∀x,If x->¬c x)/\∀x,I x↔It x\/If x\/c x:=by rw[mb]
def mr{b:Bool}{H:cW}{a:List NP}{I:Nat->Prop}:qx b H [] a I↔a=[]/\∀x,¬I x:=by rw[qx]
def jO{b:Bool}{H:cW}{p:Pf}{l:List Pf}{e:List NP}{I:Nat->Prop}:qx b H (p::l) e I↔∃(n:NP) (a:List NP) (c d:Nat->Prop),e=n::a/\mb b H p n c/\qx b H l a d/\(∀x,c x->¬d x)/\∀x,I x↔c x\/d x:=by rw[qx]
def uK{b:Bool}{H:cW}:∀{l:List Pf} {a:List NP} {I:Nat->Prop},qx b H l a I->a.length=l.length
 |[],_,_,h=>by rw[(mr.1 h).1];rfl|p::l,_,_,h=>by
  obtain⟨n,c,e,f,rfl,_,d,_⟩:=jO.1 h;rw[kN,kN,uK d]
def Flat.frame{α:Type}{b d:Bool}{H H':cW}{f:α->AV}{sz:Nat}{l:List α}{s:AV}{I:Nat->Prop}(i:d=false->b=false)(h:Flat b H f sz l s I)(k:∀x,I x->H'[x]?=H[x]?):Flat d H' f sz l s I:=by
 rcases h with⟨h1,a,c⟩|⟨o,cap,j,h1,a,c,m,g⟩
 ·exact .inl ⟨h1,λe=>a (i e),c⟩
 ·exact .inr ⟨o,cap,j,h1,by rw[k o ((g o).2 rfl)];exact a,c,m,g⟩
def mb.frame{b s:Bool}{H H':cW}(g:s=false->b=false)(p:Pf):∀(n:NP) (I:Nat->Prop),mb b H p n I->(∀x,I x->H'[x]?=H[x]?)->mb s H' p n I:=by
 induction p using Pf.QL with
 |h k i ty ts L l t=>
  intro n I h c;obtain⟨h1,A,B,It,If,C,g1,g2,g3,d1,d2,d3,e⟩:=l7.1 h;refine l7.2 ⟨h1,A,B,It,If,C,g1.frame g λx a=>c x ((e x).2 (.inl a)),g2.frame g λx a=>c x ((e x).2 (.inr (.inl a))),?_,d1,d2,d3,e⟩;rcases g3 with⟨a1,a2,a3⟩|⟨o,cap,j,u,J,a1,a2,a3,a4,a5,v,f⟩
  ·exact .inl ⟨a1,λe=>a2 (g e),a3⟩
  ·refine .inr ⟨o,cap,j,u,J,a1,by rw[c o ((e o).2 (.inr (.inr ((f o).2 (.inl rfl)))))];exact a2,a3,a4,?_,v,f⟩;have w:∀x,J x->H'[x]?=H[x]?:=λx a=>c x ((e x).2 (.inr (.inr ((f x).2 (.inr a)))));clear a1 a2 a3 a4 v f g1 g2 d1 d2 d3 e c h
   induction l generalizing u J with
   |nil=>exact mr.2 (mr.1 a5)|cons p l m=>
    obtain⟨n1,d,y,z,D,E,F,G,r⟩:=jO.1 a5;exact jO.2 ⟨n1,d,y,z,D,t p aa4 n1 y E (λx a=>w x ((r x).2 (.inl a))),m (λq K=>t q (by simp[K])) d z F (λx a=>w x ((r x).2 (.inr a))),G,r⟩
def qx.frame{b f:Bool}{H H':cW}(g:f=false->b=false):∀(l:List Pf) (c:List NP) (I:Nat->Prop),qx b H l c I->(∀x,I x->H'[x]?=H[x]?)->qx f H' l c I
 |[],_,_,h,_=>mr.2 (mr.1 h)|p::l,c,I,h,i=>by
  obtain⟨n1,a,j,k,m,n,o,q,d⟩:=jO.1 h;exact jO.2 ⟨n1,a,j,k,m,n.frame g p n1 j λx e=>i x ((d x).2 (.inl e)),qx.frame g l a k o (λx e=>i x ((d x).2 (.inr e))),q,d⟩
def mb.Vw{b:Bool}{H:cW}{p:Pf}{n:NP}{I:Nat->Prop}(h:mb b H p n I):n.k=p.acS/\n.i=p.acV/\n.ty=p.cP/\∃It If c:Nat->Prop,Flat b H Tm.av 5 p.c9 n.t It/\Flat b H Fm.av 5 p.dV n.f If/\RF b H (qx b H p.acT) p.acT n.a c/\(∀x,It x->¬If x)/\(∀x,It x->¬c x)/\(∀x,If x->¬c x)/\∀x,I x↔It x\/If x\/c x:=by
 cases p;exact l7.1 h
def mb.aad{b:Bool}{H:cW}{p:Pf}{n:NP}{I:Nat->Prop}(h:n.k=p.acS/\n.i=p.acV/\n.ty=p.cP/\∃It If c:Nat->Prop,Flat b H Tm.av 5 p.c9 n.t It/\Flat b H Fm.av 5 p.dV n.f If/\RF b H (qx b H p.acT) p.acT n.a c/\(∀x,It x->¬If x)/\(∀x,It x->¬c x)/\(∀x,If x->¬c x)/\∀x,I x↔It x\/If x\/c x):mb b H p n I:=by
 cases p;exact l7.2 h
def qx.at_{H:cW}:∀(l:List Pf) (f:List NP) (I:Nat->Prop) (q:Nat),qx false H l f I->q<l.length->∃(p:Pf) (n:NP) (J:Nat->Prop),l[q]?=some p/\f[q]?=some n/\mb false H p n J/\(∀x,J x->I x)/\∀(H':cW) (g:Pf) (n':NP) (d:Nat->Prop),(∀x,I x->¬J x->H'[x]?=H[x]?)->mb true H' g n' d->(∀x,d x->J x\/¬I x)->∃i:Nat->Prop,qx true H' (l.set q g) (f.set q n') i/\∀x,i x->(I x/\¬J x)\/d x
 |[],_,_,q,_,r=>by simp at r
 |p::l,f,I,0,h,_=>by
  obtain⟨n,b,j,k,rfl,s,t,e,a⟩:=jO.1 h;refine⟨p,n,j,rfl,rfl,s,λx hx=>(a x).2 (.inl hx),λH' g n' d m u o=>?_⟩;refine⟨λx=>d x\/k x,jO.2 ⟨n',b,d,k,rfl,u,t.frame aa4 l b k λx hx=>m x ((a x).2 (.inr hx)) (λh1=>e x h1 hx),λx hx c=>?_,λx=>Iff.rfl⟩,?_⟩
  ·rcases o x hx with h1|h1
   ·exact e x h1 c
   ·exact h1 ((a x).2 (.inr c))
  ·rintro x (hx|hx)
   ·exact .inr hx
   ·exact .inl ⟨(a x).2 (.inr hx),λh1=>e x h1 hx⟩
 |p::l,f,I,q+1,h,r=>by
  obtain⟨n,b,j,k,rfl,s,t,e,a⟩:=jO.1 h;obtain⟨w,n2,J,a1,a2,a3,a4,a5⟩:=qx.at_ l b k q t (by simpa using r);refine⟨w,n2,J,a1,a2,a3,λx hx=>(a x).2 (.inr (a4 x hx)),λH' g n' d m u o=>?_⟩;obtain⟨i,y,v⟩:=a5 H' g n' d (λx h1 h2=>m x ((a x).2 (.inr h1)) h2) u (λx hx=>(o x hx).imp id λh1 h2=>h1 ((a x).2 (.inr h2)));refine⟨λx=>j x\/i x,jO.2 ⟨n,b.set q n',j,i,rfl,s.frame aa4 p n j λx hx=>m x ((a x).2 (.inl hx)) (λh1=>e x hx (a4 x h1)),y,λx hx c=>?_,λx=>Iff.rfl⟩,?_⟩
  ·rcases v x c with h1|h1
   ·exact e x hx h1.1
   ·rcases o x h1 with h2|h2
    ·exact e x hx (a4 x h2)
    ·exact h2 ((a x).2 (.inl hx))
  ·rintro x (hx|hx)
   ·exact .inl ⟨(a x).2 (.inl hx),λh1=>e x hx (a4 x h1)⟩
   ·rcases v x hx with h1|h1
    ·exact .inl ⟨(a x).2 (.inr h1.1),h1.2⟩
    ·exact .inr h1
def M1(b:Nat)(h1:cW)(P:Pf)(a q:Nat)(cs:List AV)(pc:Pf)(J:Nat->Prop):Prop:=∀(c:cW) (d:Pf) (n':NP) (e:Nat->Prop),(∀x,b<=x->x≠a->¬J x->c[x]?=h1[x]?)->c[a]?=some (setCells cs (q*7) n'.cs)->mb true c d n' e->(∀x,e x->J x)->∃(pr:Pf) (f:NP) (I:Nat->Prop),c[b]?=some f.cs/\mb true c pr f I/\(∀x,I x->b<x)/\yl P pc d pr
def wo{cs xs:List AV}{k:Nat}(h:(cs.drop k).take xs.length=xs):setCells cs k xs=cs:=by
 unfold setCells;have h1:=Q6 k cs;have a:=Q6 xs.length (cs.drop k);rw[aai,h] at a;rw[tE,a];exact h1
def NP.JG(n:NP):n.cs.length=7:=rfl
def M1.root{b:Nat}{h1:cW}{P:Pf}{n:NP}{J:Nat->Prop}(a:∀x,J x->b<x):M1 b h1 P b 0 n.cs P J:=by
 intro i c n' d _ e f g;refine⟨c,n',d,?_,f,λx h=>a x (g x h),.here⟩;rw[e];simp[setCells,NP.cs]
def M1.step{b:Nat}{h1:cW}{P pc:Pf}{a q:Nat}{cs:List AV}{n:NP}{J:Nat->Prop}(h:M1 b h1 P a q cs pc J)(O:h1[a]?=some cs)(E:(cs.drop (q*7)).take 7=n.cs)(Q:b<=a)(C:∀x,J x->b<x)(u:¬J a)(R:mb false h1 pc n J){y:Nat}(hy:y<pc.acT.length):∃(c cap j:Nat) (g:List NP) (v:Pf) (n2:NP) (t:Nat->Prop),n.a=.pQ c 0 g.length cap/\g.length=pc.acT.length/\h1[c]?=some (gO NP.av g j)/\b<c/\g[y]?=some n2/\pc.acT[y]?=some v/\mb false h1 v n2 t/\¬t c/\(∀x,t x->b<x)/\M1 b h1 P c y (gO NP.av g j) v t:=by
 obtain⟨k,i,ty,ts,L,l⟩:=pc;obtain⟨S,T,U,It,If,V,g1,g2,g3,d1,d2,d3,e⟩:=l7.1 R;have hy:y<l.length:=hy;rcases g3 with⟨_,a2,_⟩|⟨c,cap,j,g,K,a1,a2,a3,a4,a5,F,p⟩
 ·rw[a2 rfl] at hy;simp at hy
 ·obtain⟨v,n2,t,M,N,W,r,X⟩:=qx.at_ l g K y a5 hy;have d:∀x,K x->J x:=λx hx=>(e x).2 (.inr (.inr ((p x).2 (.inr hx))));have m:J c:=(e c).2 (.inr (.inr ((p c).2 (.inl rfl))));refine⟨c,cap,j,g,v,n2,t,a1,uK a5,a2,C _ m,N,M,W,λhx=>F (r _ hx),λx hx=>C x (d x (r x hx)),?_⟩;intro D G n' Y f1 f2 f3 f4
  have H:a≠c:=by rintro rfl;exact u m
  obtain⟨w,s1,s2⟩:=X D G n' Y (λx hx o=>f1 x (by have:=C x (d x hx);omega) (by rintro rfl;exact F hx) o) f3 (λx hx=>.inl (f4 x hx));have dH:setCells (gO NP.av g j) (y*7) n'.cs=gO NP.av (g.set y n') j:=FQ (f:=NP.av) NP.len (y:=n') (kj.1 N).1;have z:∀x,J x->¬V x->D[x]?=h1[x]?:=λx hx o=>f1 x (by have:=C x hx;omega) (by rintro rfl;exact o ((p _).2 (.inl rfl))) (λh2=>o ((p x).2 (.inr (r x h2))))
  have A:mb true D (.mk k i ty ts L (l.set y G)) n (λx=>It x\/If x\/(x=c\/w x)):=by
   have s:∀x,w x->K x:=λx hx=>(s2 x hx).elim (λh=>h.1) (λh=>r x (f4 x h));refine l7.2 ⟨S,T,U,It,If,λx=>x=c\/w x,g1.frame aa4 (λx hx=>z x ((e x).2 (.inl hx)) (d2 x hx)),g2.frame aa4 (λx hx=>z x ((e x).2 (.inr (.inl hx))) (d3 x hx)),.inr ⟨c,cap,j,g.set y n',w,by rw[CN];exact a1,by rw[f2,dH],by rw[CN];exact a3,by rw[CN];exact a4,s1,λhx=>F (s _ hx),λx=>Iff.rfl⟩,d1,λx hx=>?_,λx hx=>?_,λx=>Iff.rfl⟩
   ·rintro(rfl|h2)
    ·exact d2 _ hx ((p _).2 (.inl rfl))
    ·exact d2 _ hx ((p _).2 (.inr (s _ h2)))
   ·rintro(rfl|h2)
    ·exact d3 _ hx ((p _).2 (.inl rfl))
    ·exact d3 _ hx ((p _).2 (.inr (s _ h2)))
  obtain⟨pr,Z,I,t1,t2,t3,t4⟩:=h D (.mk k i ty ts L (l.set y G)) n (λx=>It x\/If x\/(x=c\/w x)) (λx hx aa B=>f1 x hx (by rintro rfl;exact B m) (λh2=>B (d x (r x h2)))) (by
    rw[f1 a Q H (λh2=>u (d a (r a h2))),O,wo (by rw[NP.JG];exact E)]) A (λx hx=>by
    rcases hx with hx|hx|rfl|hx
    ·exact(e x).2 (.inl hx)
    ·exact(e x).2 (.inr (.inl hx))
    ·exact m
    ·rcases s2 x hx with h2|h2
     ·exact d x h2.1
     ·exact d x (r x (f4 x h2)))
  exact⟨pr,Z,I,t1,t2,t3,t4.trans (.arg M .here)⟩
def Fin(b:Nat)(a:cW)(P:Pf)(GT:Tm->Prop)(GF:Fm->Prop)(GP:Pf->Prop):Prop:=∃(c x pr:Pf) (d:NP) (I:Nat->Prop),a[b]?=some d.cs/\mb true a pr d I/\(∀x,I x->b<x)/\Np GT GF GP c x/\yl P c x pr
def vK{h:cW}{a:Nat}{c d:List AV}(b:h[a]?=some d):(dH h a c)[a]?=some c:=by
 unfold dH;rw[JY (kj.1 b).1]
def nJ{h:cW}{a x:Nat}{c:List AV}(b:x≠a):(dH h a c)[x]?=h[x]?:=by
 unfold dH;rw[Dm (λh=>b h.symm)]
section
variable{b:Nat} {h1 h:cW} {P pc:Pf} {a q:Nat} {cs:List AV} {n:NP} {J:Nat->Prop} {GT:Tm->Prop} {GF:Fm->Prop} {GP:Pf->Prop}
def M1.acg(i:M1 b h1 P a q cs pc J)(j:h1[a]?=some cs)(k:b<=a)(g:∀x,b<=x->h[x]?=h1[x]?)(c:Pf)(l:GP c):Fin b (dH h a (setCells cs (q*7) c.av.cells)) P GT GF GP:=by
 have hn:mb true (dH h a (setCells cs (q*7) c.av.cells)) c ⟨c.acS,c.acV,c.cP,.slice .hY (c.c9.map Tm.av),.slice .hY (c.dV.map Fm.av),.slice .hY (c.acT.map Pf.av)⟩ (λ_=>False):=by
  refine mb.aad ⟨rfl,rfl,rfl,λ_=>False,λ_=>False,λ_=>False,.inl ⟨rfl,aa4,aa4⟩,.inl ⟨rfl,aa4,aa4⟩,.inl ⟨rfl,aa4,aa4⟩,aa4,aa4,aa4,aa4⟩
 have d:=g a k;rw[j] at d;obtain⟨pr,m,I,t1,t2,t3,t4⟩:=i _ c _ (λ_=>False) (λx e f _=>by rw[nJ f,g x e]) (by rw[vK d,Pf.fo];rfl) hn (λx e=>e.elim);exact⟨pc,c,pr,m,I,t1,t2,t3,.new l,t4⟩
def M1.aaj(v:M1 b h1 P a q cs pc J)(w:h1[a]?=some cs)(g:(cs.drop (q*7)).take 7=n.cs)(y:b<=a)(z:∀x,J x->b<x)(j:¬J a)(t:mb false h1 pc n J)(m:∀x,b<=x->h[x]?=h1[x]?)(k':Int):Fin b (dH h a (setCells cs (q*7) [sI k'])) P GT GF GP:=by
 obtain⟨k,i,ty,ts,o,l⟩:=pc;obtain⟨D,A,B,It,If,u,g1,g2,g3,d1,d2,d3,e⟩:=l7.1 t;have f:=m a y;rw[w] at f
 have p:mb true (dH h a (setCells cs (q*7) [sI k'])) (.mk k i ty ts o l) n J:=t.frame aa4 _ n J λx d=>by
  rw[nJ (by rintro rfl;exact j d),m x (by have:=z x d;omega)]
 obtain⟨_,_,_,It,If,u,g1,g2,g3,d1,d2,d3,e⟩:=l7.1 p;have hn:mb true (dH h a (setCells cs (q*7) [sI k'])) (.mk k' i ty ts o l) {n with k:=k'} J:=l7.2 ⟨rfl,A,B,It,If,u,g1,g2,g3,d1,d2,d3,e⟩
 have c:setCells cs (q*7) [sI k']=setCells cs (q*7) ({n with k:=k'}:NP).cs:=by
  have r:cs.drop (q*7)=n.cs++cs.drop (q*7+7):=by
   have:=Q6 7 (cs.drop (q*7));rw[g,aai] at this;exact this.symm
  have h1:cs.drop (q*7+1)=n.cs.drop 1++cs.drop (q*7+7):=by
   rw[<-aai,r];rfl
  unfold setCells;rw[show(q*7+[sI k'].length)=q*7+1 from rfl,h1,NP.JG];simp[NP.cs]
 obtain⟨pr,C,I,t1,t2,t3,t4⟩:=v _ (.mk k' i ty ts o l) {n with k:=k'} J (λx d s _=>by rw[nJ s,m x d]) (by rw[vK f,c]) hn (λx d=>d);exact⟨_,_,pr,C,I,t1,t2,t3,.acS,t4⟩
def Flat.at_{α:Type}{f:α->AV}{sz:Nat}{l:List α}{s:AV}{I:Nat->Prop}(c:Flat false h1 f sz l s I)(d:l≠[])(a:∀x,(f x).cells.length=sz):∃(o cap j:Nat),s=.pQ o 0 l.length cap/\h1[o]?=some (gO f l j)/\0<l.length/\I o/\∀(b:cW) (y:α),b[o]?=some (setCells (gO f l j) 0 (f y).cells)->Flat true b f sz (l.set 0 y) s I:=by
 rcases c with⟨_,e,_⟩|⟨o,cap,j,g1,g2,g3,g4,g5⟩
 ·exact absurd (e rfl) d
 ·refine⟨o,cap,j,g1,g2,g4,(g5 o).2 rfl,λb y hy=>.inr ⟨o,cap,j,by rw[CN];exact g1,?_,by rw[CN];exact g3,by rw[CN];exact g4,g5⟩⟩;have:=FQ (f:=f) (k:=j) a (y:=y) g4;rw[Nat.zero_mul] at this;rw[hy,this]
def M1.Ve(D:M1 b h1 P a q cs pc J)(E:h1[a]?=some cs)(s:(cs.drop (q*7)).take 7=n.cs)(F:b<=a)(u:∀x,J x->b<x)(v:¬J a)(G:mb false h1 pc n J)(H:pc.c9≠[]):∃(o cap j:Nat),n.t=.pQ o 0 pc.c9.length cap/\h1[o]?=some (gO Tm.av pc.c9 j)/\b<o/\0<pc.c9.length/\∀(h:cW) (t:Tm),(∀x,b<=x->h[x]?=h1[x]?)->GT t->Fin b (dH h o (setCells (gO Tm.av pc.c9 j) 0 t.av.cells)) P GT GF GP:=by
 obtain⟨k,i,ty,ts,B,l⟩:=pc;obtain⟨L,M,N,It,If,C,g1,g2,g3,d1,d2,d3,e⟩:=l7.1 G;obtain⟨o,cap,j,f1,f2,f3,f4,f5⟩:=g1.at_ H Tm.JQ;have d:J o:=(e o).2 (.inl f4);refine⟨o,cap,j,f1,f2,u o d,f3,λh t r O=>?_⟩;have f:=r o (by have:=u o d;omega);rw[f2] at f
 have w:a≠o:=by rintro rfl;exact v d
 have g:∀x,J x->x≠o->(dH h o (setCells (gO Tm.av ts j) 0 t.av.cells))[x]?=h1[x]?:=λx c y=>by rw[nJ y,r x (by have:=u x c;omega)]
 have hn:mb true (dH h o (setCells (gO Tm.av ts j) 0 t.av.cells)) (.mk k i ty (ts.set 0 t) B l) n J:=by
  refine l7.2 ⟨L,M,N,It,If,C,f5 _ t (vK f),g2.frame aa4 λx c=>g x ((e x).2 (.inr (.inl c))) (by rintro rfl;exact d1 _ f4 c),?_,d1,d2,d3,e⟩;rcases g3 with⟨a1,a2,a3⟩|⟨o2,m,Q,R,K,a1,a2,a3,a4,a5,S,z⟩
  ·exact .inl ⟨a1,aa4,a3⟩
  ·have p:∀x,C x->(dH h o (setCells (gO Tm.av ts j) 0 t.av.cells))[x]?=h1[x]?:=λx c=>g x ((e x).2 (.inr (.inr c))) (by rintro rfl;exact d2 _ f4 c);exact .inr ⟨o2,m,Q,R,K,a1,by rw[p o2 ((z o2).2 (.inl rfl))];exact a2,a3,a4,a5.frame aa4 _ _ _ λx c=>p x ((z x).2 (.inr c)),S,z⟩
 obtain⟨pr,T,I,t1,t2,t3,t4⟩:=D _ (.mk k i ty (ts.set 0 t) B l) n J (λx c U A=>by rw[nJ (by rintro rfl;exact A d),r x c]) (by rw[nJ w,r a F,E,wo (by rw[NP.JG];exact s)]) hn (λx c=>c);exact⟨_,_,pr,T,I,t1,t2,t3,.term O,t4⟩
def M1.Vh(E:M1 b h1 P a q cs pc J)(F:h1[a]?=some cs)(v:(cs.drop (q*7)).take 7=n.cs)(G:b<=a)(w:∀x,J x->b<x)(y:¬J a)(H:mb false h1 pc n J)(L:pc.dV≠[]):∃(o cap j:Nat),n.f=.pQ o 0 pc.dV.length cap/\h1[o]?=some (gO Fm.av pc.dV j)/\b<o/\0<pc.dV.length/\∀(h:cW) (t:Fm),(∀x,b<=x->h[x]?=h1[x]?)->GF t->Fin b (dH h o (setCells (gO Fm.av pc.dV j) 0 t.av.cells)) P GT GF GP:=by
 obtain⟨k,i,ty,ts,g,l⟩:=pc;obtain⟨M,N,O,It,If,D,g1,g2,g3,d1,d2,d3,e⟩:=l7.1 H;obtain⟨o,cap,j,f1,f2,f3,f4,f5⟩:=g2.at_ L Fm.JQ;have d:J o:=(e o).2 (.inr (.inl f4));refine⟨o,cap,j,f1,f2,w o d,f3,λh t u Q=>?_⟩;have m:=u o (by have:=w o d;omega);rw[f2] at m
 have z:a≠o:=by rintro rfl;exact y d
 have p:∀x,J x->x≠o->(dH h o (setCells (gO Fm.av g j) 0 t.av.cells))[x]?=h1[x]?:=λx c A=>by rw[nJ A,u x (by have:=w x c;omega)]
 have hn:mb true (dH h o (setCells (gO Fm.av g j) 0 t.av.cells)) (.mk k i ty ts (g.set 0 t) l) n J:=by
  refine l7.2 ⟨M,N,O,It,If,D,g1.frame aa4 λx c=>p x ((e x).2 (.inl c)) (by rintro rfl;exact d1 _ c f4),f5 _ t (vK m),?_,d1,d2,d3,e⟩;rcases g3 with⟨a1,a2,a3⟩|⟨o2,r,R,S,K,a1,a2,a3,a4,a5,T,B⟩
  ·exact .inl ⟨a1,aa4,a3⟩
  ·have s:∀x,D x->(dH h o (setCells (gO Fm.av g j) 0 t.av.cells))[x]?=h1[x]?:=λx c=>p x ((e x).2 (.inr (.inr c))) (by rintro rfl;exact d3 _ f4 c);exact .inr ⟨o2,r,R,S,K,a1,by rw[s o2 ((B o2).2 (.inl rfl))];exact a2,a3,a4,a5.frame aa4 _ _ _ λx c=>s x ((B x).2 (.inr c)),T,B⟩
 obtain⟨pr,U,I,t1,t2,t3,t4⟩:=E _ (.mk k i ty ts (g.set 0 t) l) n J (λx c V C=>by rw[nJ (by rintro rfl;exact C d),u x c]) (by rw[nJ z,u a G,F,wo (by rw[NP.JG];exact v)]) hn (λx c=>c);exact⟨_,_,pr,U,I,t1,t2,t3,.form Q,t4⟩
end
def wV.U_{H:cW}{k:Nat}:∀{cs:List AV},AV.gA k cs=true->wV H k cs cs
 |[],_=>.nil|c::cs,h=>by
  simp only[AV.gA,ft] at h;exact .cons (.MB h.1) (wV.U_ h.2)
def Ds{α:Type}{f:α->AV}{L:List α}{j:Nat}{x:AV}{xs:List AV}{a:α}{l:List α}(b:L=a::l)(c:(f a).cells=x::xs)(d:lj (x::xs)=true):lj (gO f L j)=true:=by
 subst b;unfold gO;rw[wb,vP,c]
 revert d
 cases x<;>simp[lj]
def Flat.stl{α:Type}{b:Bool}{H:cW}{k:Nat}{f:α->AV}{sz:Nat}{l:List α}{s:AV}{I:Nat->Prop}(h:Flat b H f sz l s I)(g:∀x,I x->k<=x)(c:∀a,(f a).cells.length=sz)(e:∀l:List α,AV.gA k (l.map f)=true)(d:∀(L:List α) (j:Nat),0<L.length->lj (gO f L j)=true):QC H k s (.slice .hY (l.map f)):=by
 rcases h with⟨rfl,_,_⟩|⟨o,cap,j,rfl,i,r,m,n⟩
 ·exact .MB (by simpa[AV.low] using e l)
 ·have p:((gO f l j).drop 0).take (l.length*sz)=(l.map f).flatMap AV.cells:=by rw[aaa];exact ud c
  exact .pQ (sz:=sz) (cs:=gO f l j) (g o ((n o).2 rfl)) i (d _ _ m) (by rw[lq c];omega) (by rw[p];exact wV.U_ (AV.LI (e l))) (by rw[AP]) (λx q=>by
   obtain⟨a,_,rfl⟩:=l8.1 q
   exact c a)
def XA(L:List Tm)(j:Nat)(h:0<L.length):lj (gO Tm.av L j)=true:=by
 cases L with
 |nil=>simp at h
 |cons a l=>exact Ds rfl (Tm.fo a) rfl
def Xa(L:List Fm)(j:Nat)(h:0<L.length):lj (gO Fm.av L j)=true:=by
 cases L with
 |nil=>simp at h
 |cons a l=>exact Ds rfl (Fm.fo a) rfl
def V'(L:List NP)(j:Nat)(h:0<L.length):lj (gO NP.av L j)=true:=by
 cases L with
 |nil=>simp at h
 |cons a l=>exact Ds (x:=sI a.k) rfl rfl rfl
def mb.stl{b:Bool}{H:cW}{k:Nat}(p:Pf):∀(n:NP) (I:Nat->Prop),mb b H p n I->(∀x,I x->k<=x)->wV H k n.cs p.av.cells:=by
 induction p using Pf.QL with
 |h kd i ty ts G l t=>
  intro n I h f;obtain⟨h1,w,y,It,If,K,g1,g2,g3,d1,d2,d3,e⟩:=l7.1 h;rw[Pf.fo];unfold NP.cs;simp only[Pf.dn,Pf.eP,Pf.dR,Pf.fU,Pf.Cg,Pf.dd];rw[h1,w,y];refine .cons (.MB rfl) (.cons (.MB rfl) (.cons (.MB rfl) (.cons (.MB (by simpa[AV.low] using Ty.nU k ty.acT)) (.cons (g1.stl (λx c=>f x ((e x).2 (.inl c))) Tm.JQ (Tm.nU k) XA) (.cons (g2.stl (λx c=>f x ((e x).2 (.inr (.inl c)))) Fm.JQ (Fm.nU k) Xa) (.cons ?_ .nil))))));rcases g3 with⟨a1,a2,a3⟩|⟨o,cap,j,d,J,a1,a2,a3,a4,a5,z,m⟩
  ·rw[a1];exact .MB (by simpa[AV.low] using Pf.nU k l)
  ·rw[a1]
   have g:wV H k ((d.map NP.av).flatMap AV.cells) ((l.map Pf.av).flatMap AV.cells):=by
    have u:∀x,J x->k<=x:=λx c=>f x ((e x).2 (.inr (.inr ((m x).2 (.inr c)))));clear a1 a2 a3 a4 z m g1 g2 d1 d2 d3 e f h
    induction l generalizing d J with
    |nil=>obtain⟨rfl,_⟩:=mr.1 a5;exact .nil
    |cons p l r=>
     obtain⟨n1,s,A,B,rfl,C,D,L,v⟩:=jO.1 a5;rw[wb,vP,wb,vP];exact(t p aa4 n1 A C (λx c=>u x ((v x).2 (.inl c)))).append (r (λq E=>t q (by simp[E])) s B D (λx c=>u x ((v x).2 (.inr c))))
   have hlen:=uK a5
   have F:((gO NP.av d j).drop 0).take (d.length*7)=(d.map NP.av).flatMap AV.cells:=by rw[aaa];exact ud NP.len
   exact .pQ (sz:=7) (cs:=gO NP.av d j) (f o ((e o).2 (.inr (.inr ((m o).2 (.inl rfl)))))) a2 (V' _ _ a4) (by rw[lq NP.len];omega) (by rw[F];exact g) (by rw[AP,hlen]) (λx c=>by
    obtain⟨a,_,rfl⟩:=l8.1 c
    rw[Pf.fo];rfl)
def Grown{α:Type}(H:cW)(f:α->AV)(sz:Nat)(L:List α)(s:AV)(I:Nat->Prop):Prop:=
 (L=[]/\s=.slice .full []/\∀x,¬I x)\/∃o cap j,s=.pQ o 0 L.length cap/\H[o]?=some (gO f L j)/\cap*sz=L.length*sz+j/\0<L.length/\∀x,I x↔x=o
section
variable{α:Type} {H H':cW} {f:α->AV} {sz:Nat} {L:List α} {s:AV} {I:Nat->Prop}
def Grown.nil:Grown H f sz [] (.slice .full []) (λ_=>False):=.inl ⟨rfl,rfl,λ_ h=>h⟩
def Grown.cells(h:Grown H f sz L s I):s.cells=[s]/\dY s=true/\s.eD=true:=by
 rcases h with⟨_,rfl,_⟩|⟨o,cap,j,rfl,_⟩<;>exact⟨rfl,rfl,rfl⟩
def Grown.lt(h:Grown H f sz L s I):∀x,I x->x<H.length:=by
 rcases h with⟨_,_,b⟩|⟨o,cap,j,_,c,_,_,d⟩
 ·exactλx a=>absurd a (b x)
 ·intro x a;rw[(d x).1 a];exact(kj.1 c).1
def Grown.frame(h:Grown H f sz L s I)(b:∀x,I x->H'[x]?=H[x]?):Grown H' f sz L s I:=by
 rcases h with h|⟨o,cap,j,h1,c,d,e,a⟩
 ·exact .inl h
 ·exact .inr ⟨o,cap,j,h1,by rw[b o ((a o).2 rfl)];exact c,d,e,a⟩
def Grown.flat(h:Grown H f sz L s I):Flat false H f sz L s.h_ I:=by
 rcases h with⟨rfl,rfl,a⟩|⟨o,cap,j,rfl,b,a,c,d⟩
 ·exact .inl ⟨rfl,λ_=>rfl,a⟩
 ·exact .inr ⟨o,cap,j,rfl,b,a,c,d⟩
def BV.grow{P:Program}{t e d:Nat}{x:AV}{K:Fr->cW->Prop}{fr:Fr}{c:AV}{i:Tag}(g:Grown H f sz L s I)(l:nT P t=some (e,sz))(n:∃w,js P e=some w)(y:∀a,(f a).cells.length=sz)(q:0<sz)(r:∀(L:List α) (j:Nat),0<L.length->lj (gO f L j)=true)
  (a:α) (b:x=.slice i [c]) (p:c.cells=(f a).cells) (B:L.length+1<=ie)
  (u:∀(z:AV) (H':cW) (A:Nat->Prop),Grown H' f sz (L++[a]) z A->H.length<=H'.length->(∀x,x<H.length->¬I x->H'[x]?=H[x]?)->(∀x,A x->I x\/(H.length<=x/\x<H'.length))->K (fr.put (some d) z) H'):BV P t s x d K fr H:=by
 have m:c.cells.length=sz:=by rw[p];exact y a
 rcases g with⟨rfl,rfl,g3⟩|⟨o,cap,j,rfl,g2,g3,g4,g5⟩
 ·subst b;obtain⟨w,n⟩:=n;unfold BV;rw[l];refine⟨by simp[jq,m],by rw[n];rfl,aa4,rfl,by simp[ie],λcap xt=>?_⟩;refine u _ _ (λx=>x=H.length) (.inr ⟨H.length,cap,(cap-1)*sz,rfl,?_,?_,aa4,λx=>Iff.rfl⟩) aa4 (λx b _=>by rw[p4 b]) (λx b=>.inr (by subst b;simp))
  ·simp[gO,p]
  ·simp only[mR,aaR,vo,r_] at xt|-;rw[<-xu]
   congr 1
   omega
 ·refine BV.WO (f:=f) (L:=L) (k:=j) l n y m q b rfl g2 g3 g4 (r _ _ g4) B (λk' C=>?_) (λh xt=>?_)
  ·refine u _ _ (λx=>x=o) (.inr ⟨o,cap,k',by rw[oJ];rfl,?_,?_,aa4,λx=>Iff.rfl⟩) (by rw[CN];exact gu _) (λx b v=>?_) (λx b=>.inl ((g5 x).2 b))
   ·rw[JY (kj.1 g2).1];simp[gO,p]
   ·simp only[oJ,aaR,W_];omega
   ·rw[Dm];rintro rfl;exact v ((g5 _).2 rfl)
  ·refine u _ _ (λx=>x=H.length) (.inr ⟨H.length,h,(h-(L.length+1))*sz,by rw[oJ];rfl,?_,?_,aa4,λx=>Iff.rfl⟩) aa4 (λx b _=>by rw[p4 b]) (λx b=>.inr (by subst b;simp))
   ·simp[gO,p]
   ·simp only[oJ,aaR];rw[<-xu]
    congr 1
    omega
end
def Ext(H H':cW):Prop:=H.length<=H'.length/\∀x,x<H.length->H'[x]?=H[x]?
def Ext.refl{H:cW}:Ext H H:=⟨gu _,λ_ _=>rfl⟩
def Ext.trans{H H' a:cW}(h:Ext H H')(g:Ext H' a):Ext H a:=⟨uJ h.1 g.1,λx b=>by rw[g.2 x (FE b h.1),h.2 x b]⟩
def Ext.app{H X:cW}:Ext H (H++X):=⟨aa4,λx a=>by rw[p4 a]⟩
def mb.lt{b:Bool}{H:cW}(p:Pf):∀(n:NP) (I:Nat->Prop),mb b H p n I->∀x,I x->x<H.length:=by
 have hF:∀{α:Type} {f:α->AV} {sz:Nat} {l:List α} {s:AV} {I:Nat->Prop},Flat b H f sz l s I->∀x,I x->x<H.length:=by
  intro α f sz l s I h;rcases h with⟨_,_,m⟩|⟨o,cap,j,_,r,_,_,t⟩
  ·exactλx hx=>absurd hx (m x)
  ·intro x hx;rw[(t x).1 hx];exact(kj.1 r).1
 induction p using Pf.QL with
 |h k i ty ts D l d=>
  intro n I h x hx;obtain⟨_,_,_,It,If,E,g1,g2,g3,_,_,_,e⟩:=l7.1 h;rcases(e x).1 hx with hx|hx|hx
  ·exact hF g1 x hx
  ·exact hF g2 x hx
  ·rcases g3 with⟨_,_,a3⟩|⟨o,cap,j,u,J,a1,a2,a3,a4,a5,v,g⟩
   ·exact absurd hx (a3 x)
   ·rcases(g x).1 hx with rfl|hx
    ·exact(kj.1 a2).1
    ·clear a1 a2 a3 a4 v g g1 g2 e h
     induction l generalizing u J with
     |nil=>exact absurd hx ((mr.1 a5).2 x)|cons p l a=>
      obtain⟨n1,c,w,y,F,z,A,G,B⟩:=jO.1 a5;rcases(B x).1 hx with h1|h1
      ·exact d p aa4 n1 w z x h1
      ·exact a (λq C=>d q (by simp[C])) c y A h1
def qx.lt{b:Bool}{H:cW}:∀(l:List Pf) (d:List NP) (J:Nat->Prop),qx b H l d J->∀x,J x->x<H.length
 |[],_,_,h,x,a=>absurd a ((mr.1 h).2 x)|p::l,d,J,h,x,a=>by
  obtain⟨n1,c,j,e,k,f,g,m,i⟩:=jO.1 h;rcases(i x).1 a with h1|h1
  ·exact f.lt _ _ _ x h1
  ·exact qx.lt l c e g x h1
def qx.snoc{b:Bool}{H:cW}{p:Pf}{n:NP}{I:Nat->Prop}:∀{l:List Pf} {a:List NP} {J:Nat->Prop},qx b H l a J->mb b H p n I->(∀x,J x->¬I x)->qx b H (l++[p]) (a++[n]) (λx=>J x\/I x)
 |[],a,J,h,d,hd=>by
  obtain⟨rfl,g⟩:=mr.1 h;exact jO.2 ⟨n,[],I,λ_=>False,rfl,d,mr.2 ⟨rfl,λ_ h=>h⟩,λ_ _ h=>h,λx=>⟨λh=>.inl (h.resolve_left (g x)),λh=>.inr (h.resolve_right id)⟩⟩
 |q::l,a,J,h,d,hd=>by
  obtain⟨n1,e,i,j,rfl,k,m,o,f⟩:=jO.1 h;refine jO.2 ⟨n1,e++[n],i,λx=>j x\/I x,rfl,k,qx.snoc m d λx c=>hd x ((f x).2 (.inr c)),λx c=>?_,λx=>?_⟩
  ·rintro(h1|h1)
   ·exact o x c h1
   ·exact hd x ((f x).2 (.inl c)) h1
  ·rw[f x];exact or_assoc
def mb.one{b:Bool}{H:cW}{p:Pf}{n:NP}{I:Nat->Prop}(h:mb b H p n I):(n.t.cells=[n.t]/\dY n.t=true/\n.t.eD=true/\n.t.h_=n.t)/\(n.f.cells=[n.f]/\dY n.f=true/\n.f.eD=true/\n.f.h_=n.f)/\n.a.cells=[n.a]/\dY n.a=true/\n.a.eD=true/\n.a.h_=n.a:=by
 have hF:∀{α:Type} {f:α->AV} {sz:Nat} {l:List α} {s:AV} {I:Nat->Prop},Flat b H f sz l s I->s.cells=[s]/\dY s=true/\s.eD=true/\s.h_=s:=by
  intro α f sz l s I h;rcases h with⟨rfl,_⟩|⟨o,cap,j,rfl,_⟩<;>exact⟨rfl,rfl,rfl,rfl⟩
 obtain⟨_,_,_,It,If,c,g1,g2,g3,_⟩:=h.Vw;refine⟨hF g1,hF g2,?_⟩;rcases g3 with⟨a1,_⟩|⟨o,cap,j,d,J,a1,_⟩<;>rw[a1]<;>exact⟨rfl,rfl,rfl,rfl⟩
def L5(H:cW)(p:Pf)(r:AV)(H':cW):Prop:=∃(n:NP) (I:Nat->Prop),Ext H H'/\r=.agg n.cs/\mb false H' p n I/\∀x,I x->H.length<=x
def Flat.Vr{α:Type}(H:cW)(f:α->AV)(sz:Nat)(l:List α):∃(s:AV) (I:Nat->Prop) (H':cW),Ext H H'/\Flat false H' f sz l s I/\∀x,I x->H.length<=x:=by
 by_cases a:l=[]
 ·exact⟨.slice .hY (l.map f),λ_=>False,H,.refl,.inl ⟨rfl,λ_=>a,λ_ h=>h⟩,λ_ h=>h.elim⟩
 ·exact⟨.pQ H.length 0 l.length l.length,λx=>x=H.length,H++[gO f l 0],.app,.inr ⟨H.length,l.length,0,rfl,aa4,aa4,EX.2 a,λ_=>Iff.rfl⟩,λx b=>by rw[b];exact gu _⟩
def Oj(p:Pf):∀H:cW,∃r H',L5 H p r H':=by
 induction p using Pf.QL with
 |h k i ty ts K l D=>
  intro H
  have g:∀H:cW,∃(a:List NP) (J:Nat->Prop) (H':cW),Ext H H'/\qx false H' l a J/\∀x,J x->H.length<=x:=by
   clear H
   induction l with
   |nil=>exactλH=>⟨[],λ_=>False,H,.refl,mr.2 ⟨rfl,λ_ h=>h⟩,λ_ h=>h.elim⟩|cons q l A=>
    intro H;obtain⟨r,H1,n,I,d,rfl,B,i1⟩:=D q aa4 H;obtain⟨a,J,H2,c,L,i2⟩:=A (λt M=>D t (by simp[M])) H1;refine⟨n::a,λx=>I x\/J x,H2,d.trans c,jO.2 ⟨n,a,I,J,rfl,B.frame aa4 _ _ _ λx hx=>c.2 x (B.lt _ _ _ x hx),L,λx hx b=>?_,λ_=>Iff.rfl⟩,?_⟩
    ·have:=B.lt _ _ _ x hx;have:=i2 x b;omega
    ·rintro x (hx|hx)
     ·exact i1 x hx
     ·exact uJ d.1 (i2 x hx)
  obtain⟨s1,m,H1,d,f1,i1⟩:=Flat.Vr H Tm.av 5 ts;obtain⟨s2,s,H2,c,f2,i2⟩:=Flat.Vr H1 Fm.av 5 K;obtain⟨a,J,e,f,w,i3⟩:=g H2
  have u:∀x,m x->x<H1.length:=by
   rcases f1 with⟨_,_,y⟩|⟨o,cap,j,_,h2,_,_,C⟩
   ·exactλx hx=>absurd hx (y x)
   ·intro x hx;rw[(C x).1 hx];exact(kj.1 h2).1
  have E:∀x,s x->x<H2.length:=by
   rcases f2 with⟨_,_,y⟩|⟨o,cap,j,_,h2,_,_,C⟩
   ·exactλx hx=>absurd hx (y x)
   ·intro x hx;rw[(C x).1 hx];exact(kj.1 h2).1
  by_cases F:l=[]
  ·subst F;obtain⟨rfl,y⟩:=mr.1 w;refine⟨_,H2,⟨k,i,ty,s1,s2,.slice .hY []⟩,λx=>m x\/s x\/False,d.trans c,rfl,l7.2 ⟨rfl,rfl,rfl,m,s,λ_=>False,f1.frame aa4 λx hx=>c.2 x (u x hx),f2,.inl ⟨rfl,λ_=>rfl,λ_ h=>h⟩,λx hx b=>?_,λ_ _ h=>h,λ_ _ h=>h,λ_=>Iff.rfl⟩,?_⟩
   ·have:=u x hx;have:=i2 x b;omega
   ·rintro x (hx|hx|hx)
    ·exact i1 x hx
    ·exact uJ d.1 (i2 x hx)
    ·exact hx.elim
  ·have hlen:=uK w
   have v:0<a.length:=by rw[hlen];exact EX.2 F
   have G:=qx.lt _ _ _ w;have z:Ext e (e++[gO NP.av a 0]):=.app
   refine⟨_,e++[gO NP.av a 0],⟨k,i,ty,s1,s2,.pQ e.length 0 a.length a.length⟩,λx=>m x\/s x\/(x=e.length\/J x),d.trans (c.trans (f.trans z)),rfl,l7.2 ⟨rfl,rfl,rfl,m,s,λx=>x=e.length\/J x,f1.frame aa4 λx hx=>(c.trans (f.trans z)).2 x (u x hx),f2.frame aa4 λx hx=>(f.trans z).2 x (E x hx),.inr ⟨e.length,a.length,0,a,J,rfl,aa4,aa4,v,w.frame aa4 _ _ _ λx hx=>z.2 x (G x hx),λh=>by have:=G _ h;omega,λ_=>Iff.rfl⟩,λx hx b=>?_,λx hx=>?_,λx hx=>?_,λ_=>Iff.rfl⟩,?_⟩
   ·have:=u x hx;have:=i2 x b;omega
   ·have:=u x hx;have:=c.1;have:=f.1;rintro(rfl|h2)
    ·omega
    ·have:=i3 x h2;omega
   ·have:=E x hx;have:=f.1;rintro(rfl|h2)
    ·omega
    ·have:=i3 x h2;omega
   ·have:=d.1;have:=c.1;have:=f.1;rintro x (hx|hx|rfl|hx)
    ·exact i1 x hx
    ·have:=i2 x hx;omega
    ·omega
    ·have:=i3 x hx;omega
def mb.empty{b:Bool}{H:cW}{p:Pf}{n:NP}{I:Nat->Prop}(h:mb b H p n I):(p.c9=[]->n.t=.slice .hY [])/\(p.dV=[]->n.f=.slice .hY [])/\(p.acT=[]->n.a=.slice .hY []):=by
 obtain⟨_,_,_,It,If,i,g1,g2,g3,_⟩:=h.Vw;refine⟨λc=>?_,λc=>?_,λc=>?_⟩
 ·rcases g1 with⟨h1,_⟩|⟨o,cap,j,_,_,_,d,_⟩
  ·rw[h1,c];rfl
  ·rw[c] at d;simp at d
 ·rcases g2 with⟨h1,_⟩|⟨o,cap,j,_,_,_,d,_⟩
  ·rw[h1,c];rfl
  ·rw[c] at d;simp at d
 ·rcases g3 with⟨h1,_⟩|⟨o,cap,j,k,J,_,_,_,d,e,_⟩
  ·rw[h1,c];rfl
  ·have g:=uK e;rw[c,vo] at g;omega
def tz.len{p:Pf}(h:tz p):p.acT.length<=1000000000:=by cases h;assumption
def tz.mem{p x:Pf}(h:tz p)(a:x∈p.acT):tz x:=by cases h with|mk _ b=>exact b x a
end Go.fB
set_option maxRecDepth 20000
set_option maxHeartbeats 4000000
namespace Go.Proofs.YtobcafblgapgfaaGreatDoor
open Go Go.ke Go.fB
def Gi{α:Type}{l:List α}{x:α}(h:eJ l [x]=true):l.length+1<=ie:=by simpa[eJ,JV,ie] using h
def G7(h:cW)(l:List Pf)(s:AV)(K:Nat->Prop):Prop:=∃(a:List NP) (I J:Nat->Prop),Grown h NP.av 7 a s I/\qx false h l a J/\(∀x,I x->¬J x)/\∀x,K x↔I x\/J x
def G7.cells{h:cW}{l:List Pf}{s:AV}{K:Nat->Prop}(g:G7 h l s K):s.cells=[s]/\dY s=true/\s.eD=true:=by
 obtain⟨a,I,J,g1,_⟩:=g;exact g1.cells
def G7.lt{h:cW}{l:List Pf}{s:AV}{K:Nat->Prop}(g:G7 h l s K):∀x,K x->x<h.length:=by
 obtain⟨a,I,J,g1,g2,g3,g4⟩:=g;intro x hx;rcases(g4 x).1 hx with hx|hx
 ·exact g1.lt x hx
 ·exact g2.lt _ _ _ x hx
def G7.nil{h:cW}:G7 h [] (.slice .full []) (λ_=>False):=⟨[],λ_=>False,λ_=>False,.nil,mr.2 ⟨rfl,λ_ h=>h⟩,λ_ h=>h.elim,λx=>by simp⟩
def G7.row{h:cW}{l:List Pf}{s:AV}{K:Nat->Prop}(g:G7 h l s K):RF false h (qx false h l) l s.h_ K:=by
 obtain⟨c,I,J,g1,g2,g3,g4⟩:=g;rcases g1 with⟨rfl,rfl,a⟩|⟨o,cap,j,rfl,d,a,e,b⟩
 ·have f:l=[]:=by
   have:=uK g2;exact Aa (by simpa using this.symm)
  subst f
  exact .inl ⟨rfl,λ_=>rfl,λx hx=>by
   rcases(g4 x).1 hx with hx|hx
   ·exact a x hx
   ·exact(mr.1 g2).2 x hx⟩
 ·exact .inr ⟨o,cap,j,c,J,rfl,d,a,e,g2,λhx=>g3 o ((b o).2 rfl) hx,λx=>by rw[g4 x,b x]⟩
def Zr:∀(n:Nat) (a0 r:Pf),kS n a0=some r->∀{T:dx} {H:cW},dL Tryz.prog T 75 [a0.av] H (L5 H r):=by
 intro n
 induction n with
 |zero=>intro a0 r hm;cases hm
 |succ n ih=>
 intro a0 r hm T H;rw[kS] at hm;have e:=trivial;refine wi acX Tryz.func75 [30,45,58,60] [] 999 ?_;obtain⟨F,e,m⟩:=ee e hm;simp[e];refine Cs (hV e.2) ?_;simp[e];refine Wr e m 999 (λj2 M f h=>∃(s:AV) (I:Nat->Prop),(f.1 1=AV.fC 1 (f.gen 1) 0/\f.1 2=AV.fC 2 (f.gen 2) 0/\f.1 3=AV.fC 3 (f.gen 3) 0/\f.1 19=sL Tm.av a0.c9/\f.1 20=sI (di a0.c9)/\f.1 21=sI j2/\f.box 1=some (Pf.av a0).cells/\f.box 2=some [sI 0,sI 0,sI 0,AV.slice .full [],AV.slice .full [],AV.slice .full [],AV.slice .full []]/\f.box 3=some [sI a0.acS,sI a0.acV,sI F.acS,sL Ty.av F.acT,s,AV.slice .full [],AV.slice .full []])/\Ext H h/\Grown h Tm.av 5 M s I/\∀x,I x->H.length<=x) (by exact⟨_,_,aa8,.refl,.nil,λ_ h=>h.elim⟩) (λM ah N K5 E m=>?_) (λj2 x6 M ah N K5 n7 c8 E e m z9 O=>?_);rotate_left
 ·obtain⟨s,I,E,c,hG,hI⟩:=E;have e:=Aj (Aj e E) hG.cells;obtain⟨ai,e,m⟩:=ee e m;simp[e];refine Cs (kr e.2) ?_;obtain⟨e,m⟩:=Ck e m;simp[e];refine BV.grow hG A1 ⟨_,Se⟩ Tm.JQ VW XA ai rfl aa4 (Gi e.2) λv h' l b G w hi'=>?_;have e:=Aj e b.cells;simp[e];cases m;refine O _ _ _ ⟨v,l,aa8,⟨uJ c.1 G,λx hx=>by rw[w x (FE hx c.1) (λh1=>by have:=hI x h1;omega),c.2 x hx]⟩,b,λx hx=>?_⟩ z9;rcases hi' x hx with h1|h1
  ·exact hI x h1
  ·exact uJ c.1 h1.1
 obtain⟨s,I,E,c,hG,hI⟩:=E;have e:=Aj (Aj e E) hG.cells;dsimp only[cU]at m;simp[e];refine Wr e m 999 (λP y f h=>∃(v:AV) (l:Nat->Prop),(f.1 1=AV.fC 1 (f.gen 1) 0/\f.1 2=AV.fC 2 (f.gen 2) 0/\f.1 3=AV.fC 3 (f.gen 3) 0/\f.1 34=sL Fm.av a0.dV/\f.1 35=sI (di a0.dV)/\f.1 36=sI P/\f.box 1=some (Pf.av a0).cells/\f.box 2=some [sI 0,sI 0,sI 0,AV.slice .full [],AV.slice .full [],AV.slice .full [],AV.slice .full []]/\f.box 3=some [sI a0.acS,sI a0.acV,sI F.acS,sL Ty.av F.acT,s,v,AV.slice .full []])/\Ext H h/\Grown h Tm.av 5 M s I/\Grown h Fm.av 5 y v l/\(∀x,l x->H.length<=x)/\∀x,I x->¬l x) (by exact⟨_,_,aa8,c,hG,.nil,λ_ h=>h.elim,λ_ _ h=>h⟩) (λy Q ak an E m=>?_) (λP aC y Q ak an aD aE E e m aq R=>?_);rotate_left
 ·obtain⟨v,l,E,c,hG,b,z,hd⟩:=E;have e:=Aj (Aj (Aj e E) hG.cells) b.cells;obtain⟨ar,e,m⟩:=ee e m;simp[e];refine Cs (i_ e.2) ?_;obtain⟨e,m⟩:=Ck e m;simp[e];refine BV.grow b BW ⟨_,XO⟩ Fm.JQ VW Xa ar rfl aa4 (Gi e.2) λs2 h' I2 S G w hi'=>?_;have e:=Aj e S.cells;simp[e];cases m;refine R _ _ _ ⟨s2,I2,aa8,⟨uJ c.1 G,λx hx=>by rw[w x (FE hx c.1) (λh1=>by have:=z x h1;omega),c.2 x hx]⟩,hG.frame λx hx=>w x (hG.lt x hx) (hd x hx),S,λx hx=>?_,λx hx hx2=>?_⟩ aq
  ·rcases hi' x hx with h1|h1
   ·exact z x h1
   ·exact uJ c.1 h1.1
  ·rcases hi' x hx2 with h1|h1
   ·exact hd x hx h1
   ·have:=hG.lt x hx;omega
 obtain⟨v,l,E,c,hG,b,z,hd⟩:=E;have e:=Aj (Aj (Aj e E) hG.cells) b.cells;dsimp only[cU]at m;simp[e];refine Wr e m 999 (λU A f h=>∃(s2:AV) (K:Nat->Prop),(f.1 2=AV.fC 2 (f.gen 2) 0/\f.1 3=AV.fC 3 (f.gen 3) 0/\f.1 49=sL Pf.av a0.acT/\f.1 50=sI (di a0.acT)/\f.1 51=sI U/\f.box 2=some [sI 0,sI 0,sI 0,AV.slice .full [],AV.slice .full [],AV.slice .full [],AV.slice .full []]/\f.box 3=some [sI a0.acS,sI a0.acV,sI F.acS,sL Ty.av F.acT,s,v,s2])/\Ext H h/\Grown h Tm.av 5 M s I/\Grown h Fm.av 5 y v l/\G7 h A s2 K/\(∀x,K x->H.length<=x)/\(∀x,I x->¬K x)/\∀x,l x->¬K x) (by exact⟨_,_,aa8,c,hG,b,.nil,λ_ h=>h.elim,λ_ _ h=>h,λ_ _ h=>h⟩) (λA V g aw E m=>?_) (λU aF A V g aw aG aH E e m ax W=>?_)
 ·obtain⟨s2,K,E,c,hG,b,X,Y,o,p⟩:=E;have e:=Aj (Aj (Aj (Aj e E) hG.cells) b.cells) X.cells;dsimp only[cU]at m;cases m;simp[e];refine⟨⟨a0.acS,a0.acV,F,s.h_,v.h_,s2.h_⟩,λx=>I x\/l x\/K x,c,rfl,l7.2 ⟨rfl,rfl,rfl,I,l,K,hG.flat,b.flat,X.row,hd,o,p,λ_=>Iff.rfl⟩,?_⟩;rintro x (h1|h1|h1)
  ·exact hI x h1
  ·exact z x h1
  ·exact Y x h1
 obtain⟨s2,K,E,c,hG,b,X,Y,o,p⟩:=E;have e:=Aj (Aj (Aj (Aj e E) hG.cells) b.cells) X.cells;obtain⟨Z,e,m⟩:=ee e m;simp[e];refine jD.rel (ih _ _ e.2) (Oj Z g) abq ?_;rintro _ h2 ⟨q,Ip,d,rfl,B,j⟩;refine⟨by simp[QK],?_⟩;obtain⟨e,m⟩:=Ck e m;have aa:q.cs=[sI q.k,sI q.i,sI q.ty.acS,.slice .hY (q.ty.acT.map Ty.av),q.t,q.f,q.a]:=rfl;have C:=B.one;have e:=Aj (Aj e aa) C;simp[e];obtain⟨ns,Ia,J,g1,g2,g3,g4⟩:=X;have aB:∀x,K x->x<g.length:=G7.lt ⟨ns,Ia,J,g1,g2,g3,g4⟩;have ay:=g1.frame λx hx=>d.2 x (g1.lt x hx);refine BV.grow ay Xv ⟨_,X6⟩ NP.len VW V' q rfl (by simp[NP.av,aa,C]) (by rw[uK g2];exact Gi e.1.1.2) λs4 N I4 ab az ad u=>?_;have e:=Aj e ab.cells;simp[e];cases m;have ae:∀x,Ia x->x<g.length:=g1.lt
 have fr:∀x,x<g.length->¬Ia x->N[x]?=g[x]?:=λx hx hn=>by rw[ad x (FE hx d.1) hn,d.2 x hx]
 have aA:qx false N A ns J:=g2.frame aa4 _ _ _ λx hx=>fr x (g2.lt _ _ _ x hx) (λh1=>g3 x h1 hx);have af:mb false N Z q Ip:=B.frame aa4 _ _ _ λx hx=>ad x (B.lt _ _ _ x hx) (λh1=>by have:=j x hx;have:=ae x h1;omega);have D:∀x,J x->x<g.length:=g2.lt _ _ _;have L:∀x,Ip x->x<h2.length:=B.lt _ _ _
 refine W _ _ _ ⟨s4,λx=>I4 x\/(J x\/Ip x),aa8,⟨uJ c.1 (uJ d.1 az),λx hx=>?_⟩,hG.frame λx hx=>fr x (hG.lt x hx) (λh1=>o x hx ((g4 x).2 (.inl h1))),b.frame λx hx=>fr x (b.lt x hx) (λh1=>p x hx ((g4 x).2 (.inl h1))),⟨ns++[q],I4,λx=>J x\/Ip x,ab,aA.snoc af (λx hx hx2=>by have:=D x hx;have:=j x hx2;omega),λx hx=>?_,λ_=>Iff.rfl⟩,λx hx=>?_,λx hx hx2=>?_,λx hx hx2=>?_⟩ ax
 ·rw[fr x (FE hx c.1) (λh1=>by have:=Y x ((g4 x).2 (.inl h1));omega),c.2 x hx]
 ·rintro(h1|h1)
  ·rcases u x hx with h3|h3
   ·exact g3 x h3 h1
   ·have:=D x h1;have:=d.1;omega
  ·rcases u x hx with h3|h3
   ·have:=ae x h3;have:=j x h1;omega
   ·have:=L x h1;omega
 ·have h0:=c.1;have h5:=d.1;rcases hx with hx|hx|hx
  ·rcases u x hx with h3|h3
   ·exact Y x ((g4 x).2 (.inl h3))
   ·omega
  ·exact Y x ((g4 x).2 (.inr hx))
  ·have:=j x hx;omega
 ·have h0:=hG.lt x hx;have h5:=d.1;rcases hx2 with hx2|hx2|hx2
  ·rcases u x hx2 with h3|h3
   ·exact o x hx ((g4 x).2 (.inl h3))
   ·omega
  ·exact o x hx ((g4 x).2 (.inr hx2))
  ·have:=j x hx2;omega
 ·have h0:=b.lt x hx;have h5:=d.1;rcases hx2 with hx2|hx2|hx2
  ·rcases u x hx2 with h3|h3
   ·exact p x hx ((g4 x).2 (.inl h3))
   ·omega
  ·exact p x hx ((g4 x).2 (.inr hx2))
  ·have:=j x hx2;omega
def dk(d:cV):List AV:=[sL sI d.l,sI d.oU]
structure RI (T:dx) (wf:cV->Prop) (o:Nat) (L:List Fm) (s:Sq) (GT:Tm->Prop) (GF:Fm->Prop) (GP:Pf->Prop):Prop where
 next:∀(h:cW) d,h[o]?=some (dk d)->wf d->∀n:Int,1<=n->n<=1000000000->∃x d',0<=x/\x<n/\wf d'/\du Tryz.prog T 55 [AV.dM o 0,sI n] h (sI x) (dH h o (dk d'))
 term:∀(h:cW) d,h[o]?=some (dk d)->wf d->∃y d1 t d2,du Tryz.prog T 33 [AV.dM o 0,sI 1] h (Ty.av y) (dH h o (dk d1))/\du Tryz.prog T 35 [AV.dM o 0,sL Ty.av s.acW,Ty.av y,sI 1] (dH h o (dk d1)) (Tm.av t) (dH h o (dk d2))/\wf d2/\GT t
 form:∀(h:cW) d,h[o]?=some (dk d)->wf d->∃f d',du Tryz.prog T 28 [AV.dM o 0,sL Ty.av s.acW,sI 1] h (Fm.av f) (dH h o (dk d'))/\wf d'/\GF f
 proof:∀(h:cW) d,h[o]?=some (dk d)->wf d->∃p d',du Tryz.prog T 19 [AV.dM o 0,sL Fm.av L,Sq.av s,sI 1] h (Pf.av p) (dH h o (dk d'))/\wf d'/\GP p
def QG(wf:cV->Prop)(H:cW)(o:Nat)(P:Pf)(GT:Tm->Prop)(GF:Fm->Prop)(GP:Pf->Prop)(r:AV)(H':cW):Prop:=∃a,wf a/\H.length<=H'.length/\(∀x,x<H.length->H'[x]?=(dH H o (dk a))[x]?)/\∃(c x pr:Pf) (b:NP) (I:Nat->Prop),r=.agg b.cs/\mb true H' pr b I/\(∀x,I x->H.length<x)/\Np GT GF GP c x/\yl P c x pr
def CS(wf:cV->Prop)(H h1:cW)(o:Nat)(P:Pf)(L:List Fm)(s:Sq)(m:Nat)(f:Fr)(h:cW):Prop:=∃(b:cV) (a q:Nat) (cs:List AV) (pc:Pf) (n:NP) (J:Nat->Prop),wf b/\h1[a]?=some cs/\lj cs=true/\q*7+7<=cs.length/\(cs.drop (q*7)).take 7=n.cs/\H.length<=a/\mb false h1 pc n J/\¬J a/\(∀x,J x->H.length<x)/\M1 H.length h1 P a q cs pc J/\tz pc/\SizeOf.sizeOf pc=m/\(h=dH h1 o (dk b)/\f.1 0=AV.dM o 0/\f.1 1=sL Fm.av L/\f.1 6=AV.fC 6 (f.gen 6) 0/\f.1 7=AV.dM H.length 0/\f.1 8=AV.fC 8 (f.gen 8) 0/\f.box 6=some (Sq.av s).cells/\f.box 8=some [sI 0,sI 0,sI 0,AV.slice .full [],AV.slice .full [],AV.slice .full [],AV.slice .full []]/\f.1 9=AV.dM a (q*7))
def uZ{cs:List AV}{q:Nat}{n:NP}(h:(cs.drop (q*7)).take 7=n.cs):cs[q*7]?=some (sI n.k)/\cs[q*7+4]?=some n.t/\cs[q*7+5]?=some n.f/\cs[q*7+6]?=some n.a:=by
 have b:∀i,i<7->cs[q*7+i]?=n.cs[i]?:=λi hi=>by
  rw[<-h,DG,cO hi,Js]
 exact⟨b 0 VW,b 4 VW,b 5 VW,b 6 VW⟩
def UQ{p x:Pf}(h:x∈p.acT):SizeOf.sizeOf x<SizeOf.sizeOf p:=by
 obtain⟨k,i,ty,ts,a,l⟩:=p;have h:x∈l:=h;have:=Wz h;rw[Pf.mk.sizeOf_spec];omega
def NM{T:dx}{wf:cV->Prop}{H:cW}{o:Nat}{P:Pf}{GT:Tm->Prop}{GF:Fm->Prop}{GP:Pf->Prop}{f:FuncId}{acT:List AV}(e:o<H.length)(h:dL Tryz.prog T f acT H (QG wf H o P GT GF GP)):dL Tryz.prog T f acT H λr H'=>∃(m:Pf) (a:cV),wf a/\(∃c x,Np GT GF GP c x/\yl P c x m)/\r=m.av/\H'=dH H o (dk a):=by
 refine dL.settle h ?_;rintro r H' ⟨a,g,u,b,c,x,pr,n,I,rfl,p,q,s,j⟩;refine⟨dH H o (dk a),H'.drop H.length,pr.av,?_,jk,?_,?_,pr,a,g,⟨c,x,s,j⟩,rfl,rfl⟩
 ·apply Qm;intro i;rcases qu i H.length with hi|hi
  ·rw[b i hi,p4 (by rw[jk];exact hi)]
  ·rw[wc (by rw[jk];exact hi),jk,Js]
   congr 1
   omega
 ·intro cs l;obtain⟨i,hi⟩:=Wd.1 l
  by_cases d:o=i
  ·subst d;unfold dH at hi;rw[JY e] at hi;cases hi;exact .inr (by simp[dk,AV.gA,AV.low])
  ·unfold dH at hi;rw[Dm d] at hi;exact .inl (z6 hi)
 ·rw[Pf.fp];exact .agg (by have:=p.stl (k:=H.length) pr n I (λx t=>by have:=q x t;omega);rwa [Pf.fo] at this)
def CK{wf:cV->Prop}{H b:cW}{o:Nat}{P:Pf}{GT:Tm->Prop}{GF:Fm->Prop}{GP:Pf->Prop}{d2:cV}(hF:Fin H.length b P GT GF GP)(e:wf d2)(j:H.length<=b.length)(d:∀x,x<H.length->b[x]?=(dH H o (dk d2))[x]?):∃n:NP,b[H.length]?=some [sI n.k,sI n.i,sI n.ty.acS,.slice .hY (n.ty.acT.map Ty.av),n.t,n.f,n.a]/\((n.t.cells=[n.t]/\dY n.t=true/\n.t.eD=true/\n.t.h_=n.t)/\(n.f.cells=[n.f]/\dY n.f=true/\n.f.eD=true/\n.f.h_=n.f)/\n.a.cells=[n.a]/\dY n.a=true/\n.a.eD=true/\n.a.h_=n.a)/\QG wf H o P GT GF GP (.agg [sI n.k,sI n.i,sI n.ty.acS,.slice .hY (n.ty.acT.map Ty.av),n.t,n.f,n.a]) b:=by
 obtain⟨c,x,pr,g,I,l,h,m,p,q⟩:=hF;exact⟨g,l,h.one,d2,e,j,d,c,x,pr,g,I,rfl,h,m,p,q⟩
def So{H h1:cW}{o:Nat}{b c:List AV}{cl:Nat->Nat}(d:o<H.length):QK ⟨false,λx=>decide (H.length<=x),cl⟩ (dH h1 o b) (dH h1 o c):=
 ⟨(λe=>by cases e),λo' a=>by
  have a:H.length<=o':=by simpa using a
  rw[nJ VW,nJ VW]⟩
def T'{H h1:cW}{o:Nat}{d2:cV}{b:Nat}{c:List AV}(f:∀x,x<H.length->h1[x]?=H[x]?)(d:o<H.length)(e:H.length<h1.length)(h:H.length<=b):∀x,x<H.length->(dH (dH h1 o (dk d2)) b c)[x]?=(dH H o (dk d2))[x]?:=by
 intro x g;rw[nJ VW]
 by_cases a:x=o
 ·subst a;unfold dH;rw[JY VW,JY d]
 ·rw[nJ a,nJ a,f x g]
def Kv{T:dx}{wf:cV->Prop}{H:cW}{o:Nat}{L:List Fm}{s:Sq}{GT:Tm->Prop}{GF:Fm->Prop}{GP:Pf->Prop}(hD:RI T wf o L s GT GF GP){d:cV}(ho:H[o]?=some (dk d))(hd:wf d){P:Pf}{n0:Nat}(hP:kS n0 P=some P)(aC:tz P):dL Tryz.prog T 20 [AV.dM o 0,sL Fm.av L,Sq.av s,Pf.av P] H (QG wf H o P GT GF GP):=by
 have e:=trivial;have R:=(kj.1 ho).1;refine wiS (λx=>decide (H.length<=x)) (λ_=>0) acX Tryz.func20 [7] [(4,false,[true,true,true,true,true,true,true,true,true,true,true,true,true]),(7,false,[true,true,true,true,true,true,true,true,true,true,true,false]),(9,false,[true,true,true,true,true,true,true,true,true,false])] 999 ?_;simp[e];refine h9.fnP (Zr n0 P P hP) ?_;rintro r H' ⟨n,J,hE,rfl,hR,hJ⟩
 have aK:(H++[(Pf.av P).cells])[H.length]?=some (Pf.av P).cells:=aa4
 have aD:H.length<H'.length:=by have:=hE.1;simp at this;omega
 have ae:H'[H.length]?=some (Pf.av P).cells:=by rw[hE.2 H.length aa4];simp
 have aq:∀x,x<H.length->H'[x]?=H[x]?:=λx S=>by rw[hE.2 x aa_,p4 S]
 have ab:∀x,J x->H.length<x:=λx S=>by have:=hJ x S;simp at this;omega
 obtain⟨h1,Z⟩:∃h1,dH H' H.length [sI n.k,sI n.i,sI n.ty.acS,.slice .hY (n.ty.acT.map Ty.av),n.t,n.f,n.a]=h1:=⟨_,rfl⟩
 have r1:h1[H.length]?=some n.cs:=by rw[<-Z];exact vK ae
 have rl:∀x,x<H.length->h1[x]?=H[x]?:=λx S=>by rw[<-Z,nJ VW];exact aq x S
 have ro:h1[o]?=some (dk d):=by rw[rl o R];exact ho
 have V:H.length<h1.length:=by rw[<-Z,jk];exact aD
 have aE:mb false h1 P n J:=hR.frame aa4 P n J λx S=>by rw[<-Z,nJ (by have:=ab x S;omega)]
 have af:dH h1 o (dk d)=h1:=by
  unfold dH;obtain⟨aF,h0⟩:=kj.1 ro;rw[<-h0];exact PF aF
 have ar:n.cs=[sI n.k,sI n.i,sI n.ty.acS,.slice .hY (n.ty.acT.map Ty.av),n.t,n.f,n.a]:=rfl;have aw:lj n.cs=true:=rfl;have e:=Aj (Aj (Aj (Aj (Aj e ae) ar) hR.one) Z) (Pf.fo P);simp[e];refine wlb 999 2 (CS wf H h1 o P L s) (SizeOf.sizeOf P) (λf h=>∃m,CS wf H h1 o P L s m f h) ?_ ?_ ?_
 ·exact⟨d,H.length,0,n.cs,P,n,J,hd,r1,aw,by simp[NP.cs],by simp[NP.cs],gu _,aE,λh=>by have:=ab _ h;omega,ab,M1.root ab,aC,rfl,af.symm,aa8⟩
 ·rintro m f h ⟨B,a,q,cs,pc,np,Jc,z,Y,G,W,u,Q,C,I,M,hC,U,ad,E⟩ K K2 hK ax;have e:=Aj trivial E
  have N:∀d2,(dH h1 o (dk d2))[a]?=some cs:=λd2=>by rw[nJ VW];exact Y
  have O:∀d2,(dH h1 o (dk d2))[o]?=some (dk d2):=λd2=>vK ro;have w:=Aj (Aj (Aj (N B) G) (uZ u)) (show(H.length<=a)=True from eq_true Q)
  by_cases g:pc.acT=[]
  ·have e:=Aj (Aj (Aj e w) ((mb.empty C).2.2 g)) (show kZ 0 0=false from rfl);simp[e];exact ax _ _ ⟨m,B,a,q,cs,pc,np,Jc,z,Y,G,W,u,Q,C,I,M,hC,U,ad,aa8⟩
  ·have aa:0<pc.acT.length:=EX.2 g;obtain⟨oA,cap,j,ns,_,_,_,g1,g2,g3,_⟩:=hC.step Y u Q M I C aa;have e:=Aj (Aj (Aj e w) g1) (show kZ (ns.length:Int) 0=true by unfold kZ;simp;omega);simp[e]
   obtain⟨x,d2,ah,ai,l,b⟩:=hD.next _ B (O B) z 3 VW VW
   rw[pU] at b;refine h9.fn b ?_;have e:=Aj e (N d2)
   by_cases S:0<x
   ·have e:=Aj e (show kZ x 0=true by unfold kZ;simpa using S);simp[e]
    have aL:ns.length<=1000000000:=by rw[g2];exact U.len
    obtain⟨y,d3,aG,aH,aI,X⟩:=hD.next _ d2 (O d2) l ns.length VW VW
    rw[pU] at X;refine Cs X ?_ ?_
    ·have e:=Aj (Aj e aG) aH;simp[e];obtain⟨ay,az,j',aM,p2,n2,J2,k1,k2,k3,k4,k5,k6,k7,k8,k9,aJ⟩:=hC.step Y u Q M I C (y:=y.toNat) VW
     obtain⟨rfl,rfl⟩:ay=oA/\az=cap:=by rw[g1] at k1;injection k1 with a1 a2 a3 a4;exact⟨a1.symm,a4.symm⟩
     have aA:p2∈pc.acT:=z6 k6;have aN:=(kj.1 k5).1;exact hK _ _ (SizeOf.sizeOf p2) (by rw[<-ad];exact UQ aA) ⟨d3,ay,y.toNat,_,p2,n2,J2,aI,k3,V' _ _ VW,by rw[lq NP.len];omega,U3 NP.len k5,VW,k7,k8,k9,aJ,U.mem aA,rfl,aa8⟩
    ·refine⟨(λh0=>by cases h0),λo' aB=>?_⟩
     have aB:H.length<=o':=by simpa using aB
     rw[nJ VW,nJ VW]
   ·have e:=Aj e (show kZ x 0=false by unfold kZ;simpa using S);simp[e];exact ax _ _ ⟨m,d2,a,q,cs,pc,np,Jc,l,Y,G,W,u,Q,C,I,M,hC,U,ad,aa8⟩
 ·rintro f h ⟨m,B,a,q,cs,pc,np,Jc,z,Y,G,W,u,Q,C,I,M,hC,U,ad,E⟩;have e:=Aj trivial E
  have N:∀d2,(dH h1 o (dk d2))[a]?=some cs:=λd2=>by rw[nJ VW];exact Y
  have O:∀d2,(dH h1 o (dk d2))[o]?=some (dk d2):=λd2=>vK ro;have w:=Aj (Aj (Aj (N B) G) (uZ u)) (show(H.length<=a)=True from eq_true Q);simp[e];refine Ke 999 0 (λf h'=>∃(d2:cV) (v:Bool),wf d2/\(v=true->pc.c9≠[])/\(h'=dH h1 o (dk d2)/\f.1 0=AV.dM o 0/\f.1 1=sL Fm.av L/\f.1 6=AV.fC 6 (f.gen 6) 0/\f.1 7=AV.dM H.length 0/\f.1 8=AV.fC 8 (f.gen 8) 0/\f.box 6=some (Sq.av s).cells/\f.box 8=some [sI 0,sI 0,sI 0,AV.slice .full [],AV.slice .full [],AV.slice .full [],AV.slice .full []]/\f.1 9=AV.dM a (q*7)/\f.1 41=sB v)) ?_ λK hK=>?_;rotate_left
  ·by_cases g:pc.c9=[]
   ·have e:=Aj (Aj (Aj e w) ((mb.empty C).1 g)) (show kZ 0 0=false from rfl);simp[e];exact hK _ _ ⟨B,false,z,aa4,aa8⟩
   ·have aa:0<pc.c9.length:=EX.2 g;obtain⟨oT,cap,j,g1,_⟩:=hC.Ve (GT:=GT) (GF:=GF) (GP:=GP) Y u Q M I C g;have e:=Aj (Aj (Aj e w) g1) (show kZ (pc.c9.length:Int) 0=true by unfold kZ;simp;omega);simp[e]
    obtain⟨x,d2,ah,ai,l,b⟩:=hD.next _ B (O B) z 2 VW VW
    rw[pU] at b;refine h9.fn b ?_;simp[e];exact hK _ _ ⟨d2,dg x 0,l,λ_=>g,aa8⟩
  clear E e w;rintro f h ⟨B,v,z,hv,E⟩;have e:=Aj trivial E;have w:=Aj (Aj (Aj (N B) G) (uZ u)) (show(H.length<=a)=True from eq_true Q);cases v with
  |true=>
   obtain⟨oT,cap,j,g1,g2,g3,g4,g5⟩:=hC.Ve (GT:=GT) (GF:=GF) (GP:=GP) Y u Q M I C (hv rfl);have e:=Aj (Aj (Aj e w) g1) (show(0<pc.c9.length)=True from eq_true g4);apply wg 999;simp[e];obtain⟨y,d1,t,d2,c1,c2,l,ht⟩:=hD.term _ B (O B) z;simp only[pU] at c1 c2;refine Cs c1 ?_ (So R);simp[e];refine Cs c2 ?_ (So R);have hF:=g5 (dH h1 o (dk d2)) t (λx S=>by rw[nJ VW]) ht
   have ak:(dH h1 o (dk d2))[oT]?=some (gO Tm.av pc.c9 j):=by rw[nJ VW];exact g2
   have an:(5<=(gO Tm.av pc.c9 j).length)=True:=eq_true (by rw[lq Tm.JQ];omega);have e:=Aj (Aj (Aj e ak) (XA pc.c9 j g4)) an;obtain⟨nR,c,D,hW⟩:=CK hF l (by rw[jk,jk];omega) (T' rl R V VW);obtain⟨h2,A⟩:∃h2,dH (dH h1 o (dk d2)) oT (setCells (gO Tm.av pc.c9 j) 0 t.av.cells)=h2:=⟨_,rfl⟩;rw[A] at c hW;have F:=A;simp[setCells] at F;have e:=Aj (Aj (Aj (Aj e F) A) c) D;simp[e];exact hW
  |false=>
   apply wg 1;simp[e];refine Ke 999 0 (λf h'=>∃(d2:cV) (v:Bool),wf d2/\(v=true->pc.dV≠[])/\(h'=dH h1 o (dk d2)/\f.1 0=AV.dM o 0/\f.1 1=sL Fm.av L/\f.1 6=AV.fC 6 (f.gen 6) 0/\f.1 7=AV.dM H.length 0/\f.1 8=AV.fC 8 (f.gen 8) 0/\f.box 6=some (Sq.av s).cells/\f.box 8=some [sI 0,sI 0,sI 0,AV.slice .full [],AV.slice .full [],AV.slice .full [],AV.slice .full []]/\f.1 9=AV.dM a (q*7)/\f.1 64=sB v)) ?_ λK hK=>?_;rotate_left
   ·by_cases g:pc.dV=[]
    ·have e:=Aj (Aj (Aj e w) ((mb.empty C).2.1 g)) (show kZ 0 0=false from rfl);simp[e];exact hK _ _ ⟨B,false,z,aa4,aa8⟩
    ·have aa:0<pc.dV.length:=EX.2 g;obtain⟨oT,cap,j,g1,_⟩:=hC.Vh (GT:=GT) (GF:=GF) (GP:=GP) Y u Q M I C g;have e:=Aj (Aj (Aj e w) g1) (show kZ (pc.dV.length:Int) 0=true by unfold kZ;simp;omega);simp[e]
     obtain⟨x,d2,ah,ai,l,b⟩:=hD.next _ B (O B) z 2 VW VW
     rw[pU] at b;refine h9.fn b ?_;simp[e];exact hK _ _ ⟨d2,dg x 0,l,λ_=>g,aa8⟩
   clear E e w;rintro f h ⟨B,v,z,hv,E⟩;have e:=Aj trivial E;have w:=Aj (Aj (Aj (N B) G) (uZ u)) (show(H.length<=a)=True from eq_true Q);cases v with
   |true=>
    obtain⟨oT,cap,j,g1,g2,g3,g4,g5⟩:=hC.Vh (GT:=GT) (GF:=GF) (GP:=GP) Y u Q M I C (hv rfl);have e:=Aj (Aj (Aj e w) g1) (show(0<pc.dV.length)=True from eq_true g4);apply wg 999;simp[e];obtain⟨t,d2,c1,l,ht⟩:=hD.form _ B (O B) z;rw[pU] at c1;refine Cs c1 ?_ (So R);have hF:=g5 (dH h1 o (dk d2)) t (λx S=>by rw[nJ VW]) ht
    have ak:(dH h1 o (dk d2))[oT]?=some (gO Fm.av pc.dV j):=by rw[nJ VW];exact g2
    have an:(5<=(gO Fm.av pc.dV j).length)=True:=eq_true (by rw[lq Fm.JQ];omega);have e:=Aj (Aj (Aj e ak) (Xa pc.dV j g4)) an;obtain⟨nR,c,D,hW⟩:=CK hF l (by rw[jk,jk];omega) (T' rl R V VW);obtain⟨h2,A⟩:∃h2,dH (dH h1 o (dk d2)) oT (setCells (gO Fm.av pc.dV j) 0 t.av.cells)=h2:=⟨_,rfl⟩;rw[A] at c hW;have F:=A;simp[setCells] at F;have e:=Aj (Aj (Aj (Aj e F) A) c) D;simp[e];exact hW
   |false=>
    apply wg 1;simp[e];refine Ke 999 0 (λf h'=>∃(d2:cV) (v:Bool),wf d2/\(v=true->True)/\(h'=dH h1 o (dk d2)/\f.1 0=AV.dM o 0/\f.1 1=sL Fm.av L/\f.1 6=AV.fC 6 (f.gen 6) 0/\f.1 7=AV.dM H.length 0/\f.1 8=AV.fC 8 (f.gen 8) 0/\f.box 6=some (Sq.av s).cells/\f.box 8=some [sI 0,sI 0,sI 0,AV.slice .full [],AV.slice .full [],AV.slice .full [],AV.slice .full []]/\f.1 9=AV.dM a (q*7)/\f.1 85=sB v)) ?_ λK hK=>?_;rotate_left
    ·obtain⟨x,d2,ah,ai,l,b⟩:=hD.next _ B (O B) z 2 VW VW
     rw[pU] at b;simp[e];refine h9.fn b ?_;have e:=Aj (Aj (Aj (Aj e (N d2)) G) (uZ u)) (show(H.length<=a)=True from eq_true Q);cases S:dg x 0 with
     |false=>
      have e:=Aj e S;simp[e];exact hK _ _ ⟨d2,false,l,aa4,aa8⟩
     |true=>
      have e:=Aj e S;cases hg:sM np.k 8 with
      |false=>
       have e:=Aj e hg;simp[e];exact hK _ _ ⟨d2,false,l,aa4,aa8⟩
      |true=>
       have e:=Aj e hg;simp[e];exact hK _ _ ⟨d2,Em np.k 11,l,aa4,aa8⟩
    clear E e w;rintro f h ⟨B,v,z,hv,E⟩;have e:=Aj trivial E;have w:=Aj (Aj (Aj (N B) G) (uZ u)) (show(H.length<=a)=True from eq_true Q);cases v with
    |true=>
     apply wg 999;have e:=Aj (Aj e w) (show(q*7+1<=cs.length)=True from eq_true VW);have l:=z;have hF:=hC.aaj (GT:=GT) (GF:=GF) (GP:=GP) Y u Q M I C (h:=dH h1 o (dk B)) (λx S=>by rw[nJ VW]) (dF .i64 np.k 4);simp[e];obtain⟨nR,c,D,hW⟩:=CK hF l (by rw[jk,jk];omega) (T' rl R V VW);obtain⟨h2,A⟩:∃h2,dH (dH h1 o (dk B)) a (setCells cs (q*7) [sI (dF .i64 np.k 4)])=h2:=⟨_,rfl⟩;rw[A] at c hW;have F:=A;simp[setCells] at F;have e:=Aj (Aj (Aj (Aj e F) A) c) D;simp[e];exact hW
    |false=>
     apply wg 999;obtain⟨p,d2,c1,l,hp⟩:=hD.proof _ B (O B) z;rw[pU] at c1;simp[e];refine h9.fn c1 ?_;have hF:=hC.acg (GT:=GT) (GF:=GF) (GP:=GP) Y Q (h:=dH h1 o (dk d2)) (λx S=>by rw[nJ VW]) p hp;have e:=Aj (Aj (Aj (Aj (Aj e (N d2)) G) (uZ u)) (show(H.length<=a)=True from eq_true Q)) (show(q*7+7<=cs.length)=True from eq_true W);obtain⟨nR,c,D,hW⟩:=CK hF l (by rw[jk,jk];omega) (T' rl R V VW);obtain⟨h2,A⟩:∃h2,dH (dH h1 o (dk d2)) a (setCells cs (q*7) p.av.cells)=h2:=⟨_,rfl⟩;rw[A] at c hW;have F:=A;simp[setCells] at F;have e:=Aj (Aj (Aj (Aj e F) A) c) D;simp[e];exact hW
def Pg{T:dx}{wf:cV->Prop}{H:cW}{o:Nat}{L:List Fm}{s:Sq}{GT:Tm->Prop}{GF:Fm->Prop}{GP:Pf->Prop}(g:RI T wf o L s GT GF GP){d:cV}(hd:wf d){P:Pf}{n0:Nat}(h:kS n0 P=some P)(a:tz P)(b:H[o]?=some (dk d)):dL Tryz.prog T 20 [AV.dM o 0,sL Fm.av L,Sq.av s,Pf.av P] H λr H'=>∃(e:Pf) (f:cV),wf f/\(∃c x,Np GT GF GP c x/\yl P c x e)/\r=e.av/\H'=dH H o (dk f):=
 NM (kj.1 b).1 (Kv g b hd h a)
def QP{T:dx}{wf:cV->Prop}{GT:Tm->Prop}{GF:Fm->Prop}{GP:Pf->Prop}{d:cV}{L:List Fm}{q:Sq}{p:Pf}{o:Nat}(h:Fk wf GT GF GP d L q p):RI T wf o L q GT GF GP:=by
 have hs:∀(h:cW) (d b:cV),h[o]?=some (dk d)->(dH h o (dk b))[o]?=some (dk b):=λh d b a=>vK a;refine⟨λi d a hd n h1 k=>?_,λi d a hd=>?_,λi d a hd=>?_,λi d a hd=>?_⟩
 ·obtain⟨x,b,c,e,g,j⟩:=h.next d hd n h1 k
  exact⟨x,b,e,g,j,et T a c⟩
 ·obtain⟨y,d1,t,d2,c,e,g,j⟩:=h.term d hd;refine⟨y,d1,t,d2,kF T a c,?_,g,j⟩;have:=j6 T (hs i d d1 a) e
  rwa [pU] at this
 ·obtain⟨f,b,c,e,g⟩:=h.form d hd;exact⟨f,b,rY T a c,e,g⟩
 ·obtain⟨p,b,c,e,g⟩:=h.proof d hd;exact⟨p,b,GG T a c,e,g⟩
def ac_(T:dx)(v:pE T){wf:cV->Prop}{GT:Tm->Prop}{GF:Fm->Prop}{GP:Pf->Prop}{a0:List Int}{a1:List Fm}{a2:Sq}{a3:Pf}{K:cV->List Fm->Sq->Pf->Option Bool}{F:Bool}(V:∀d L q p r,K d L q p=some r->Fk wf GT GF GP d L q p/\∀Q W,wf W->(∃c x,Np GT GF GP c x/\yl p c x Q)->adg a1 a2 a3 L q p Q=some r)(hm:ac3 a0 a1 a2 a3 K=some F):dL Tryz.prog T 3 [sL sI a0,sL Fm.av a1,Sq.av a2,Pf.av a3] [] (λx _=>x=sB F):=by
 rw[ac3] at hm;have e:=v;refine wi acX Tryz.func3 [] [] 5 ?_;obtain⟨x1,e,m⟩:=ee e hm;simp[e];refine Cf (JS T v e.2) ?_;simp[e];rcases Io e m with⟨e,m⟩|⟨e,m⟩;rotate_left
 ·apply wg 999;cases m;simp[e]
 apply wg 3;simp[e];refine Wj m 999 0 (λR f h=>∃(v3:Bool),(h=([]:cW)/\f.1 0=sL sI a0/\f.1 1=sL Fm.av a1/\f.1 6=AV.fC 6 (f.gen 6) 0/\f.1 7=AV.fC 7 (f.gen 7) 0/\f.1 39=sB v3/\f.box 6=some (Sq.av a2).cells/\f.box 7=some (Pf.av a3).cells)/\R v3=some F) (λR K4 k m=>?_) ?_
 ·obtain⟨x6,e,m⟩:=ee e m;simp[e];refine Cf (Sa e.2) ?_;rcases Io e m with⟨e,m⟩|⟨e,m⟩;rotate_left
  ·simp[e];exact k _ _ ⟨true,aa8,m⟩
  obtain⟨x7,e,m⟩:=ee e m;simp[e];refine Cf (adp e.2) ?_;rcases Io e m with⟨e,m⟩|⟨e,m⟩
  ·simp[e];exact k _ _ ⟨true,aa8,m⟩
  obtain⟨X,e,m⟩:=ee e m;simp[e];refine Cf (adq e.2) ?_;simp[e];exact k _ _ ⟨(qf X),aa8,m⟩
 rintro Y Z ⟨v3,E,m⟩;have e:=Aj e E;rcases Io e m with⟨e,m⟩|⟨e,m⟩
 ·apply wg 999;cases m;simp[e]
 apply wg 11;obtain⟨aa,e,m⟩:=ee e m;simp[e];refine Cf (SF T e.2) ?_;obtain⟨n,d12,e,m⟩:=VB e m;simp[e];refine Cf (Mb T aa8 e.2) ?_;obtain⟨s,d14,e,m⟩:=VB e m;simp[e];refine Cf (Kq T aa8 e.2) ?_;obtain⟨G,d16,e,m⟩:=VB e m;simp[e];refine Cf (GG T aa8 e.2) ?_;obtain⟨a,m⟩:=V _ _ _ _ _ m;simp[e];refine h9.fnP (Pg (QP a) a.hd a.cp a.ao (o:=0) (by simp[e,dk])) ?_;rintro _ _ ⟨w,d18,y,H,rfl,rfl⟩;have m:=m w d18 y H;rw[adg] at m;simp only[dk];simp[e];refine Wj m 999 999 (λz f h=>∃(v20:Bool),(h=dH [[]] 0 [sL sI d18.l,sI d18.oU]/\f.1 1=sL Fm.av a1/\f.1 6=AV.fC 6 (f.gen 6) 0/\f.1 7=AV.fC 7 (f.gen 7) 0/\f.1 10=sL Fm.av n/\f.1 11=AV.fC 11 (f.gen 11) 0/\f.1 12=AV.fC 12 (f.gen 12) 0/\f.1 13=AV.fC 13 (f.gen 13) 0/\f.1 70=sB v20/\f.box 6=some (Sq.av a2).cells/\f.box 7=some (Pf.av a3).cells/\f.box 11=some (Sq.av s).cells/\f.box 12=some (Pf.av G).cells/\f.box 13=some (Pf.av w).cells)/\z v20=some F) (λz ab i m=>?_) ?_
 ·obtain⟨ad,e,m⟩:=ee e m;simp[e];refine Cs (Db T v e.2) ?_;obtain⟨ae,e,m⟩:=ee e m;simp[e];refine Cs (EH e.2) ?_;rcases Io e m with⟨e,m⟩|⟨e,m⟩
  ·simp[e];exact i _ _ ⟨true,aa8,m⟩
  obtain⟨I,e,m⟩:=ee e m;simp[e];refine Cs (Db T v e.2) ?_;obtain⟨J,e,m⟩:=ee e m;simp[e];refine Cs (EH e.2) ?_;simp[e];exact i _ _ ⟨(dw I J),aa8,m⟩
 rintro S af ⟨v20,E,m⟩;have e:=Aj e E;rcases Io e m with⟨e,m⟩|⟨e,m⟩
 ·cases m;simp[e]
 simp[e];obtain⟨g,j,m⟩:=jw m;refine Wr e m 0 (λt A f h=>h=dH [[]] 0 [sL sI d18.l,sI d18.oU]/\f.1 1=sL Fm.av a1/\f.1 6=AV.fC 6 (f.gen 6) 0/\f.1 10=sL Fm.av n/\f.1 11=AV.fC 11 (f.gen 11) 0/\f.1 74=sT .full Pf.av g/\f.1 75=sI (di g)/\f.1 76=sI t/\f.box 6=some (Sq.av a2).cells/\f.box 11=some (Sq.av s).cells) (by(repeat' apply And.intro)<;>first|rfl|(rw[j];rfl)|simp[e,j,di]) (λA B M N E m=>?_) (λt ah A B M N ai O E e m z37 C=>?_)
 ·have e:=Aj e E;apply wg 999;dsimp only[cU]at m;cases m;simp[e]
 have e:=Aj e E;apply wg 17;obtain⟨ak,an,e,m⟩:=VB e m;simp[e];refine Cf (yR T v e.2) ?_;obtain⟨aq,ar,e,m⟩:=VB e m;simp[e];refine Cf (mS e.2) ?_;obtain⟨aw,ax,e,m⟩:=VB e m;simp[e];refine Cf (yR T v e.2) ?_;obtain⟨ay,az,e,m⟩:=VB e m;simp[e];refine Cf (mS e.2) ?_;simp[e];refine Wj m 999 999 (λD f h=>∃(u:Bool),(h=dH [[]] 0 [sL sI d18.l,sI d18.oU]/\f.1 1=sL Fm.av a1/\f.1 6=AV.fC 6 (f.gen 6) 0/\f.1 10=sL Fm.av n/\f.1 11=AV.fC 11 (f.gen 11) 0/\f.1 74=sT .full Pf.av g/\f.1 75=sI (di g)/\f.1 76=sI t/\f.1 127=sB u/\f.box 6=some (Sq.av a2).cells/\f.box 11=some (Sq.av s).cells)/\D u=some O) (λD aA b m=>?_) ?_;rotate_left
 ·rintro U aB ⟨u,E,m⟩;have e:=Aj e E;rcases Io e m with⟨e,m⟩|⟨e,m⟩
  ·cases m;cases z37;simp[e]
  simp[e];cases m;exact C _ _ _ aa8 z37
 rcases Io e m with⟨e,m⟩|⟨e,m⟩
 ·simp[e];exact b _ _ ⟨true,aa8,m⟩
 obtain⟨aC,e,m⟩:=ee e m;simp[e];refine Cf (ac6 e.2) ?_;rcases Io e m with⟨e,m⟩|⟨e,m⟩;rotate_left
 ·simp[e];exact b _ _ ⟨true,aa8,m⟩
 rcases Io e m with⟨e,m⟩|⟨e,m⟩
 ·simp[e];exact b _ _ ⟨true,aa8,m⟩
 obtain⟨P,e,m⟩:=ee e m;simp[e];refine Cf (ac6 e.2) ?_;simp[e];exact b _ _ ⟨(qf P),aa8,m⟩
end Go.Proofs.YtobcafblgapgfaaGreatDoor
