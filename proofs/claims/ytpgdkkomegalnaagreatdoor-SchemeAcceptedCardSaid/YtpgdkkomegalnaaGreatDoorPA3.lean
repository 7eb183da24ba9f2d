/- Part of the proof of SchemeAccepted: plain facts. -/
import Derived.KernelRfl
import Derived.Test.YtpgdkkomegalnaaGreatDoorPA2
set_option linter.all false
namespace Go.fN
open Go
section
variable{L:List Fm} {g:List Ty} {hs:List Fm}
def B_(r:PR)(f:Fm):Prop:=(∃e,mX e/\r=.inr e)\/∃a b,r=.inl (a,b)/\ry a f
def Tk(L:List Fm)(g:List Ty)(hs:List Fm)(P:Pf)(f:Fm):Prop:=Ev L ⟨g,hs⟩->P.Ws->(∃e,mX e/\P.inf L g hs=.inr e)\/∃a b,P.inf L g hs=.inl (a,b)/\ry a f/\Hg g a
def B_.uO{e:Int}{f:Fm}(h:mX e):B_ (vA (.inr e)) f:=.inl ⟨e,h,rfl⟩
def B_.gh{a f:Fm}{m:Nat}(h:ry a f):B_ (vA (.inl (a,m))) f:=by
 by_cases he:a.err=0
 ·rw[Mb he];exact .inr ⟨_,_,rfl,h⟩
 ·rw[UG he];exact .inl ⟨4,Az,rfl⟩
def Tk.of{P:Pf}{f:Fm}(h:Ev L ⟨g,hs⟩->P.Ws->B_ (P.inf L g hs) f):Tk L g hs P f:=λa hw=>by
 rcases h a hw with h|⟨b,c,d,i⟩
 ·exact .inl h
 ·exact .inr ⟨b,c,d,i,(Dv.of (P.w hw.1 hw.2) g hs b c a d).2⟩
def Tk.cv{P:Pf}{f a:Fm}(h:Tk L g hs P f)(b:ry f a):Tk L g hs P a:=λc hw=>by
 rcases h c hw with h|⟨x,m,d,i,j⟩
 ·exact .inl h
 ·exact .inr ⟨x,m,d,i.trans b,j⟩
def HE{e:Int}(h:mX e):e≠0:=by rcases h with h|h|h<;>rw[h]<;>decide
def xm{g:List Ty}{s:Ty}{F f:Fm}{t:Tm}{m:Nat}(hF:ic (g++[s]) F)(a:dQ g t s)(b:Hg g f)(hg:g.length<=1000000)(c:ry (Fm.fQ 0 F t) f):(∃e,mX e/\BS (.inl (f,m)) F t=.inr e)\/BS (.inl (f,m)) F t=.inl (f,m):=adl hF a b hg c
def Tk.hyp{i:Nat}{a f:Fm}(h:hs.reverse[i]?=some a)(b:ry a f):Tk L g hs (.mk 1 (i:Int) .z [] [] []) f:=
 .of λc _=>.inr ⟨a,0,abE c h,b⟩
def Tk.Qs{a b:Pf}{x y:Fm}(f:Tk L g hs a x)(h:Tk L g hs b y):Tk L g hs (.mk 3 0 .z [] [] [a,b]) (.mk 2 .z [] [x,y]):=.of λd hw=>by
 obtain⟨_,_,wp⟩:=hw.parts;rw[Pf.jE,Tz];rcases f d (wp _ LA)with⟨e,he,q⟩|⟨k,l,q,i,t1⟩
 ·rw[q];exact .uO he
 rcases h d (wp _ LA)with⟨e,he,c⟩|⟨n,n',c,j,t2⟩
 ·rw[q,c];exact .uO he
 rw[q,c];exact .gh (.two i j)
def Tk.ak6{a:Pf}{x y:Fm}(c:Tk L g hs a (.mk 2 .z [] [x,y])):Tk L g hs (.mk 4 0 .z [] [] [a]) x:=.of λd hw=>by
 obtain⟨_,_,wp⟩:=hw.parts;rw[Pf.jE,Sc];rcases c d (wp _ LA)with⟨e,he,q⟩|⟨f,h,q,b,t1⟩
 ·rw[q];exact .uO he
 obtain⟨i,j,rfl,b,k⟩:=b.TY;rw[q,EC (Fm.eF 2 .z [] _),fS];exact .gh b
def Tk.amn{a:Pf}{x y:Fm}(c:Tk L g hs a (.mk 2 .z [] [x,y])):Tk L g hs (.mk 5 0 .z [] [] [a]) y:=.of λd hw=>by
 obtain⟨_,_,wp⟩:=hw.parts;rw[Pf.jE,Tf];rcases c d (wp _ LA)with⟨e,he,q⟩|⟨h,i,q,b,t1⟩
 ·rw[q];exact .uO he
 obtain⟨j,k,rfl,b,f⟩:=b.TY;rw[q,EC (Fm.eF 2 .z [] _),fS];exact .gh f
def Tk.allI{s:Ty}{a:Pf}{f:Fm}(b:s.err=0)(d:Tk L (g++[s]) (hs.map (Fm.up 0 1)) a f):Tk L g hs (.mk 8 0 s [] [] [a]) (.mk 4 s [] [f]):=.of λh hw=>by
 obtain⟨_,_,wp⟩:=hw.parts;rw[Pf.jE]
 by_cases c:16<g.length+1
 ·rw[HP,jL c];exact .uO Mv
 rcases d (h.AK b xL) (wp _ LA)with⟨e,he,q⟩|⟨j,k,q,i,t1⟩
 ·rw[HP,j3 c,q];exact .uO he
 rw[HP,j3 c,q,fS];exact .gh (.q i)
def Tk.ajI{t:Tm}{s:Ty}{a:Pf}{x:Fm}(h:dQ g t s)(i:Tk L g hs a (.mk 4 s [] [x])):Tk L g hs (.mk 9 0 .z [t] [] [a]) (Fm.fQ 0 x t):=.of λb hw=>by
 obtain⟨wt,_,wp⟩:=hw.parts;have j:g.length<=16:=b.nv;have c:t.err=0:=wt _ LA;obtain⟨k,l⟩:=mj c;rw[Pf.jE,Z9,ru h b.ctx xL,gr rfl];rcases i b (wp _ LA)with⟨e,he,q⟩|⟨v,o,q,r,t1⟩
 ·rw[q];exact .uO he
 obtain⟨d,rfl,u⟩:=r.ae4;rw[q,EC (Fm.eF 4 s [] _),fS,j3 (by show¬s.kX s=false;rw[CH];decide)];show B_ (vA (kc (ll d t).2 (.inl ((ll d t).1,o|||rp t)))) _;rcases lD d t with f|⟨_,f⟩
 ·rw[f];exact .uO Az
 rw[f,gr rfl];exact .gh (u.fQ (n:=0) (.refl k) (abL 0))
theorem Tk.refl{t:Tm}(f:dQ g t .nat):Tk L g hs (.mk 18 0 .z [t] [] []) (.mk 1 .z [t,t] []):=.of λb hw=>by
 obtain⟨wt,_,wp⟩:=hw.parts;have h:g.length<=16:=b.nv;have a:t.err=0:=wt _ LA;obtain⟨c,i⟩:=mj a;have d:=Bj f b.ctx xL;rw[show Ty.nat.an6=1 from rfl] at d;rw[Pf.jE,RJ,gr d];exact .gh (.eq (.refl c) (.refl c))
def Tk.exI{t:Tm}{s:Ty}{a:Pf}{x:Fm}(f:dQ g t s)(hF:ic g (.mk 5 s [] [x]))(h:ic (g++[s]) x)(i:Tk L g hs a (Fm.fQ 0 x t)):Tk L g hs (.mk 10 0 .z [t] [.mk 5 s [] [x]] [a]) (.mk 5 s [] [x]):=.of λc hw=>by
 obtain⟨wt,wf,wp⟩:=hw.parts;have j:g.length<=16:=c.nv;have d:t.err=0:=wt _ LA;obtain⟨r,k⟩:=mj d;have b:Hg g (.mk 5 s [] [x]):=⟨wf _ LA,hF⟩;have:=b.an8;rw[Pf.jE,Ss,gr (om b.ty c.ctx xL),j3 LA,ru f c.ctx xL,gr rfl,j3 (by show¬s.kX s=false;rw[CH];decide)];rcases i c (wp _ LA)with⟨e,he,q⟩|⟨l,n,q,o,t1⟩
 ·rw[q];exact .uO he
 rw[q];show B_ (vA (pbind (BS (.inl (l,n)) x t) λ_ m=>.inl (.mk 5 s [] [x],m|||rp t))) _;rcases xm h f t1 xL o.symm with⟨e,he,q2⟩|q2
 ·rw[q2];exact .uO he
 ·rw[q2,fS];exact .gh (.refl hF)
def Tk.subst{F:Fm}{a b:Pf}{t u:Tm}(hF:ic (g++[.nat]) F)(l:Tk L g hs a (.mk 1 .z [t,u] []))(o:Tk L g hs b (Fm.fQ 0 F t)):Tk L g hs (.mk 19 0 .z [] [F] [a,b]) (Fm.fQ 0 F u):=.of λd hw=>by
 obtain⟨_,wf,wp⟩:=hw.parts;have r:g.length<=16:=d.nv;have c:Hg (g++[.nat]) F:=⟨wf _ LA,hF⟩;have s:=c.an8;rw[Pf.jE,N1,gr (om c.ty d.ctx.nat (by simp only[qf,oZ,DD];omega))];rcases l d (wp _ LA)with⟨e,he,q⟩|⟨I,J,q,v,t1⟩
 ·rw[q];exact .uO he
 obtain⟨h,f,rfl,ct,w⟩:=v.eq_inv
 obtain⟨i,A⟩:dQ g h .nat/\dQ g f .nat:=by
  obtain⟨x,y,e,B,C⟩:=t1.ty.Yg (Fm.eF _ _ _ _);simp at e;obtain⟨rfl,rfl⟩:=e;exact⟨B,C⟩
 rw[q,EC (Fm.eF 1 .z _ _),fS];show B_ (vA (pbind (BS (b.inf L g hs) F h) λ_ n=>kc (ll F f).2 (.inl ((ll F f).1,n)))) _;rcases o d (wp _ LA)with⟨e,he,j⟩|⟨D,n',j,G,t2⟩
 ·rw[j];exact .uO he
 have H:ry (Fm.fQ 0 F h) D:=((ry.refl hF).fQ ct xL).trans G.symm;rw[j];rcases xm hF i t2 xL H with⟨e,he,q3⟩|q3
 ·rw[q3];exact .uO he
 rw[q3,fS];rcases lD F f with k|⟨_,k⟩
 ·rw[k];exact .uO Az
 rw[k,gr rfl];exact .gh ((ry.refl hF).fQ w xL)
def Tk.exE{s:Ty}{a b:Pf}{x y:Fm}(d:s.err=0)(A:Tk L g hs a (.mk 5 s [] [x]))(B:ic g y)(C:∀c,ry c x->ic (g++[s]) c->Tk L (g++[s]) (hs.map (Fm.up 0 1)++[c]) b (y.up 0 1)):Tk L g hs (.mk 11 0 .z [] [] [a,b]) y:=.of λj hw=>by
 obtain⟨_,_,wp⟩:=hw.parts;have D:g.length<=16:=j.nv;rw[Pf.jE,HT];rcases A j (wp _ LA)with⟨e,he,q⟩|⟨K,k,q,F,t1⟩
 ·rw[q];exact .uO he
 obtain⟨c,rfl,G⟩:=F.ae4
 have h:Hg (g++[s]) c:=by
  obtain⟨u,v,e,M,H⟩:=t1.ty.uY (Fm.eF _ _ _ _) (.inr (.inl rfl));simp at e;obtain⟨rfl,rfl⟩:=e;exact t1.sub LA H
 have i:ES (.inl (Fm.mk 5 s [] [c],k)) 5=.inl (Fm.mk 5 s [] [c],k):=EC (Fm.eF _ _ _ _);rw[q,i,fS]
 by_cases t:16<g.length+1\/16<hs.length+1
 ·rw[jL t];exact .uO Mv
 rw[j3 t];have l:=(j.AK d xL).with (f:=c) h (by show(hs.map (Fm.up 0 1)).length+1<=16;simp;omega);rcases C c G h.ty l (wp _ LA)with⟨e,he,n⟩|⟨o,n',n,I,t2⟩
 ·exact(congrArg (λr=>B_ (vA (pbind r _)) _) n).mpr (.uO he)
 refine(congrArg (λr=>B_ (vA (pbind r _)) _) n).mpr ?_
 have key:∀w:PR,((xW o).2=0->w=.inl ((xW o).1,k|||n'/2))->B_ (vA (kc (xW o).2 w)) y:=by
  intro w hw;rcases acN t2 xL d B I with e|⟨e,J⟩
  ·rw[iZ (HE e)];exact .uO e
  ·rw[gr e,hw e];exact .gh J
 exact key _ λ_=>rfl
end
end Go.fN
namespace Go.fN
open Go
def afj{L:List Fm}{q:Sq}{P:Pf}(h:Ev L q)(a:P.wt<=1000000000)(he:P.err≠0):kr L q P=some (⟨jF,[]⟩,P.err):=by
 have e:RX L q P=.inr P.err:=by unfold RX;rw[gr h.zero,iZ he]
 rcases CK h.b a with⟨d,_,q1,c⟩|⟨f,m,l,q1,_⟩
 ·rw[e] at q1;rw[c,Sum.inr.inj q1]
 ·rw[e] at q1;cases q1
def ale{L:List Fm}{q:Sq}{P:Pf}(h:Ev L q)(a:P.wt<=1000000000)(he:P.err=0){e:Int}(hi:P.inf L q.an_ q.aob=.inr e):kr L q P=some (⟨jF,[]⟩,e):=by
 rcases CK h.b a with⟨d,_,q1,c⟩|⟨f,m,l,q1,_⟩
 ·rw[Hs h he,hi] at q1;rw[c,Sum.inr.inj q1]
 ·rw[Hs h he,hi] at q1;cases q1
def ahA{L:List Fm}{q:Sq}{P:Pf}(h:Ev L q)(c:P.wt<=1000000000)(he:P.err=0){f:Fm}{m:Nat}(hi:P.inf L q.an_ q.aob=.inl (f,m)):∃l,kr L q P=some (⟨f,l⟩,0)/\Us l m/\Hg q.an_ f:=by
 rcases CK h.b c with⟨i,_,q1,a⟩|⟨j,k,l,q1,a,hu,d,_⟩
 ·rw[Hs h he,hi] at q1;cases q1
 ·rw[Hs h he,hi] at q1;obtain⟨rfl,rfl⟩:=g_ (xk q1);exact⟨l,a,hu,d⟩
def Fm.ace{f:Fm}(h:f.ok=true):f.err=0\/f.err=4:=by
 unfold Fm.err;rw[dO h]
 split
 ·exact .inr rfl
 ·exact .inl rfl
def Tk.acc{L:List Fm}{q:Sq}(c:Ev L q){P:Pf}(hw:P.wt<=1000000000)(r:P.ok=true){b:Fm}(j:ic q.an_ b)(d:b.wt<=1000000000)(h:Tk L q.an_ q.aob P b):∃e,nA L q P b=some e/\(e=0\/mX e):=by
 have no:∀e,mX e->kr L q P=some (⟨jF,[]⟩,e)->∃e,nA L q P b=some e/\(e=0\/mX e):=by
  intro e he u;refine⟨e,?_,.inr he⟩;unfold nA;rw[u,dN,dO (by rw[er];exact HE he)]
 by_cases he:P.err=0
 ·obtain⟨_,v,_⟩:=la he;rcases h c ⟨r,v⟩with⟨e,k,n⟩|⟨s,D,k,n,F⟩
  ·exact no e k (ale c hw he n)
  ·obtain⟨l,w,_,g1⟩:=ahA c hw he k;have f:=c.nv;have x:=g1.wt;unfold nA;rw[w,dN,dI nz,rO d xL (λt y=>by have:=e8 (c.ctx t y);omega),dF];rcases Fm.ace j.ok with hbe|hbe
   ·have i:Hg q.an_ b:=⟨hbe,j⟩
    have A:Hi b q.an_=0:=by
     unfold Hi;rw[AT c.ctx f,dI Df,dI (λh=>h hbe)];exact om j c.ctx (by have:=i.an8;omega)
    rw[A,dI nz];show∃e,(dE (jW s b) λo=>some o)=some e/\_;rw[Nn (a:=s) (b:=b) xL d,Jx g1 i xL xL];exact⟨_,rfl,n.Eu⟩
   ·have B:Hi b q.an_=4:=by
     unfold Hi;rw[AT c.ctx f,dI Df,dO (by rw[hbe];decide),hbe]
    rw[B,dO Df];exact⟨4,rfl,.inr Az⟩
 ·have C:P.err=4:=by
   unfold Pf.err at he|-;rw[dO r] at he|-
   split
   ·rename_i h;rw[dO h] at he;exact absurd rfl he
   ·rfl
  exact no 4 Az (by rw[<-C];exact afj c hw he)
end Go.fN
set_option maxRecDepth 20000
namespace Go.fN
open Go
section
variable{a:Fm} {g:List Ty}
section
variable{L:List Fm} {g:List Ty} {hs:List Fm} {F G K:Fm}
end
end
end Go.fN
set_option maxRecDepth 20000
namespace Go.fN
open Go
def mv(t:Tm):∀f,t.up f 0=t:=by
 induction t using Tm.ind with
 |h k i s l ih=>
  intro f
  have:l.map (Tm.up (f+eP k) 0)=l:=by
   refine(uy (g:=id) λx a=>?_).trans LA;exact ih x a _
  rw[Tm.fh,this]
  congr 1
  split<;>omega
def TC{g:List Ty}{t:Tm}{s:Ty}(h:dQ g t s)(x:Tm):Tm.fQ 0 (t.up 0 1) x=t:=by
 have:=SO x t 0 0 0 h.ok xL xL xL
 rwa [show(0:Int)+1=1 from rfl,mv] at this
end Go.fN
set_option maxRecDepth 20000
namespace Go.fN
open Go
section
variable{L:List Fm} {g:List Ty} {hs:List Fm}
def Tk.ind{F:Fm}{t:Tm}{a b:Pf}(hF:ic (g++[.nat]) F)(j:dQ g t .nat)(l:Tk L g hs a (Fm.fQ 0 F iO))(n:Tk L (g++[.nat]) (hs.map (Fm.up 0 1)++[F]) b (Fm.fQ 0 (F.up 1 1) (gJ v0))):Tk L g hs (.mk 16 0 .z [t] [F] [a,b]) (Fm.fQ 0 F t):=.of λd hw=>by
 obtain⟨wt,wf,wp⟩:=hw.parts;have o:g.length<=16:=d.nv;have c:Hg (g++[.nat]) F:=⟨wf _ LA,hF⟩;have s:=c.an8;rw[Pf.jE,Ny,gr (om c.ty d.ctx.nat (by simp only[qf,oZ,DD];omega)),gr (show nU _ _ 1=0 from Bj j d.ctx (by have:=(mj (wt t LA)).2;omega))];rcases l d (wp _ LA)with⟨e,he,q⟩|⟨w,m',q,u,t1⟩
 ·rw[q];exact .uO he
 rw[q];rcases xm (m:=m') hF (t:=iO) .zero t1 xL u.symm with⟨e,he,q2⟩|q2
 ·rw[q2];exact .uO he
 rw[q2,fS]
 by_cases k:16<g.length+1\/16<hs.length+1
 ·rw[jL k];exact .uO Mv
 rw[j3 k];have h:=(d.AK Ty.fi xL).with (f:=F) c (by show(hs.map (Fm.up 0 1)).length+1<=16;simp;omega);rcases n h (wp _ LA)with⟨e,he,i⟩|⟨x,n',i,v,t2⟩
 ·refine(congrArg (λr=>B_ (vA (pbind (BS r _ _) _)) _) i).mpr (.uO he)
 refine(congrArg (λr=>B_ (vA (pbind (BS r _ _) _)) _) i).mpr ?_;rcases xm (m:=n') c.adv.ty (t:=gJ v0) (.succ gz) t2 (by simp only[qf,oZ,DD];omega) v.symm with⟨e,he,q4⟩|q4
 ·rw[q4];exact .uO he
 rw[q4,fS];rcases T3 F t ((rp t|||m')|||n'/2)with e|e
 ·rw[e];exact .uO Az
 rw[e];exact .gh (.refl (hF.put j))
def Tk.lists{F:Fm}{t:Tm}{a b:Pf}(hF:ic (g++[.iB]) F)(j:dQ g t .iB)(l:Tk L g hs a (Fm.fQ 0 F (.mk 7 0 .z [])))(n:Tk L (g++[.nat]++[.iB]) (hs.map (Fm.up 0 2)++[F.up 1 1]) b (Fm.fQ 0 (F.up 1 2) (.mk 8 0 .z [v1,v0]))):Tk L g hs (.mk 17 0 .z [t] [F] [a,b]) (Fm.fQ 0 F t):=.of λd hw=>by
 obtain⟨wt,wf,wp⟩:=hw.parts;have o:g.length<=16:=d.nv;have c:Hg (g++[.iB]) F:=⟨wf _ LA,hF⟩;have s:=c.an8;rw[Pf.jE,MG,gr (om c.ty d.ctx.iB (by simp only[qf,oZ,DD];omega)),gr (show nU _ _ 2=0 from Bj j d.ctx (by have:=(mj (wt t LA)).2;omega))];rcases l d (wp _ LA)with⟨e,he,q⟩|⟨w,m',q,u,t1⟩
 ·rw[q];exact .uO he
 rw[q];rcases xm (m:=m') hF (t:=.mk 7 0 .z []) .nil t1 xL u.symm with⟨e,he,q2⟩|q2
 ·rw[q2];exact .uO he
 rw[q2,fS]
 by_cases k:16<g.length+2\/16<hs.length+1
 ·rw[jL k];exact .uO Mv
 rw[j3 k];have h:=(d.YC xL).with (f:=F.up 1 1) (Hg.upl c) (by show(hs.map (Fm.up 0 2)).length+1<=16;simp;omega);rcases n h (wp _ LA)with⟨e,he,i⟩|⟨x,n',i,v,t2⟩
 ·refine(congrArg (λr=>B_ (vA (pbind (BS r _ _) _)) _) i).mpr (.uO he)
 refine(congrArg (λr=>B_ (vA (pbind (BS r _ _) _)) _) i).mpr ?_;rcases xm (m:=n') c.abt.ty (t:=.mk 8 0 .z [v1,v0]) (.cons kW gz) t2 (by simp only[qf,oZ,DD];omega) v.symm with⟨e,he,q4⟩|q4
 ·rw[q4];exact .uO he
 rw[q4,fS];rcases T3 F t ((rp t|||m')|||n'/4)with e|e
 ·rw[e];exact .uO Az
 rw[e];exact .gh (.refl (hF.put j))
end
structure Cl (t:Tm):Prop where
 up:∀n c:Int,0<=n->t.up n c=t
 fQ:∀(n:Int) (a:Tm),0<=n->Tm.fQ n t a=t
def dQ.cl{t:Tm}{s:Ty}(h:dQ [] t s):Cl t:=⟨λn c hn=>(h.fix n (by simpa using hn)).1 c,λn a hn=>(h.fix n (by simpa using hn)).2 a⟩
def dQ.cls{t:Tm}{s:Ty}(h:dQ [] t s)(g:List Ty):dQ g t s:=by
 have:=h.lift g
 rwa [h.cl.up 0 _ xL,p5] at this
def v2:Tm:=.mk 1 2 (.mk 0 []) []
def v3:Tm:=.mk 1 3 (.mk 0 []) []
def uc{g:List Ty}{t a b:Ty}:dQ (g++[t]++[a]++[b]) v2 t:=dQ.var 2 LA LA
def XU{g:List Ty}{t a b c:Ty}:dQ (g++[t]++[a]++[b]++[c]) v3 t:=dQ.var 3 LA LA
abbrev qa(a b:Tm):Fm:=.mk 1 .z [a,b] []
abbrev oU(s:Tm):Fm:=.mk 5 .nat [] [qa v0 (s.up 0 1)]
abbrev uq(g x y:Tm):Tm:=eH (eH g x) y
abbrev HL(g x y z:Tm):Tm:=eH (uq g x y) z
abbrev AY(b g n:Tm):Tm:=.mk 6 0 .nat [b,g,n]
abbrev zu(b g n:Tm):Tm:=.mk 9 0 .nat [b,g,n]
abbrev mE(t:Tm):Pf:=.mk 18 0 .z [t] [] []
abbrev N7(i:Int):Pf:=.mk 1 i .z [] [] []
abbrev qg(s t:Tm)(p:Pf):Pf:=.mk 10 0 .z [t] [oU s] [p]
abbrev FY(f:Fm)(p q:Pf):Pf:=.mk 19 0 .z [] [f] [p,q]
abbrev R5(p q:Pf):Pf:=.mk 11 0 .z [] [] [p,q]
def Ys{g:List Ty}{s t:Tm}(hs:dQ g s .nat):Fm.fQ 0 (qa v0 (s.up 0 1)) t=qa t s:=by
 rw[Fm.eI];simp only[lN,mq,TC hs]
 have a:Tm.fQ 0 v0 t=t:=by
  unfold v0;rw[Tm.eI,dO rfl];unfold Tm.iQ;rw[dO rfl,mv]
 rw[a]
def ZL{g:List Ty}{s:Tm}(hs:dQ g s .nat):ic (g++[.nat]) (qa v0 (s.up 0 1)):=.eq gz (hs.lift [.nat])
def mL{g:List Ty}{s:Tm}(hs:dQ g s .nat):ic g (oU s):=.q (.inr (.inl rfl)) Ty.fi (ZL hs)
def Tk.shown{L:List Fm}{g:List Ty}{hs:List Fm}{s t:Tm}{P:Pf}(a:dQ g s .nat)(b:dQ g t .nat)(h:Tk L g hs P (qa t s)):Tk L g hs (qg s t P) (oU s):=Tk.exI b (mL a) (ZL a) (by rw[Ys a];exact h)
abbrev CI(f:Tm):Fm:=.mk 4 .nat [] [oU (eH f v0)]
abbrev we(f:Tm):Pf:=.mk 8 0 .nat [] [] [qg (eH f v0) (eH f v0) (mE (eH f v0))]
def abn{f:Tm}(a:dQ [] f (.fn .nat .nat))(L:List Fm)(g:List Ty)(hs:List Fm):Tk L g hs (we f) (CI f):=by
 have h:dQ (g++[.nat]) (eH f v0) .nat:=.app (a.cls _) gz;exact Tk.allI Ty.fi (Tk.shown h h (Tk.refl h))
end Go.fN
set_option maxRecDepth 20000
set_option maxHeartbeats 1000000
namespace Go.fN
open Go
def ajk{g:List Ty}{b c:Tm}{s:Ty}(a:dQ g b s)(d:(Tm.mk 6 0 s [b,c,iO]).ok=true):ze (.mk 6 0 s [b,c,iO]) b:=.star d (.step (.IE 0 s 0 .z _ (kq.refl b a.ok)) (.refl b))
def akP{b c n:Tm}{s:Ty}(a:b.ok=true)(d:c.ok=true)(hn:n.ok=true)(f:(Tm.mk 6 0 s [b,c,gJ n]).ok=true):ze (.mk 6 0 s [b,c,gJ n]) (uq c n (.mk 6 0 s [b,c,n])):=.star f (.step (.I8 0 s 0 .z (kq.refl b a) (kq.refl c d) (kq.refl n hn)) (.refl _))
def agF{g:List Ty}{b c:Tm}{s:Ty}(a:dQ g b s)(d:(Tm.mk 9 0 s [b,c,.mk 7 0 .z []]).ok=true):ze (.mk 9 0 s [b,c,.mk 7 0 .z []]) b:=.star d (.step (.BZ 0 s 0 .z _ (kq.refl b a.ok)) (.refl b))
def afQ{b c n t:Tm}{s:Ty}(a:b.ok=true)(d:c.ok=true)(hn:n.ok=true)(f:t.ok=true)(h:(Tm.mk 9 0 s [b,c,.mk 8 0 .z [n,t]]).ok=true):ze (.mk 9 0 s [b,c,.mk 8 0 .z [n,t]]) (HL c n t (.mk 9 0 s [b,c,t])):=.star h (.step (.BV 0 s 0 .z (kq.refl b a) (kq.refl c d) (kq.refl n hn) (kq.refl t f)) (.refl _))
abbrev ZZ(b f:Tm):Fm:=.mk 4 .nat [] [oU (AY b f v0)]
abbrev Zz(b f:Tm):Pf:=.mk 8 0 .nat [] [] [.mk 16 0 .z [v0] [oU (AY b f v0)] [qg (AY b f iO) b (mE b),R5 (N7 0) (qg (AY b f (gJ v1)) (uq f v1 v0) (FY (qa (uq f v2 v1) (uq f v2 v0)) (N7 0) (mE (uq f v1 v0))))]]
def amW{b f:Tm}(c:dQ [] b .nat)(q:dQ [] f (.fn .nat (.fn .nat .nat)))(L:List Fm)(g:List Ty)(hs:List Fm):Tk L g hs (Zz b f) (ZZ b f):=by
 have B:=c.cl;have F:=q.cl;have R:∀{g:List Ty} {n:Tm},dQ g n .nat->dQ g (AY b f n) .nat:=λh=>.rB Ty.fi (c.cls _) (q.cls _) h;have A:∀{g:List Ty} {x y:Tm},dQ g x .nat->dQ g y .nat->dQ g (uq f x y) .nat:=λh w=>.app (.app (q.cls _) h) w;have C:dQ (g++[.nat]) v0 .nat:=gz;have d:dQ (g++[.nat]++[.nat]) v0 .nat:=gz;have l:dQ (g++[.nat]++[.nat]++[.nat]) v1 .nat:=kW;have j:dQ (g++[.nat]++[.nat]++[.nat]) v0 .nat:=gz;refine Tk.allI Ty.fi ?_
 have D:Fm.fQ 0 (oU (AY b f v0)) v0=oU (AY b f v0):=by
  simp[Fm.eI,Tm.fh,Tm.eI,v0,Tm.iQ,eP,qB,h9,B.up,B.fQ,F.up,F.fQ]
 refine Eq.mp (congrArg (Tk L (g++[.nat]) (hs.map (Fm.up 0 1)) _) D) (Tk.ind (F:=oU (AY b f v0)) (mL (R d)) C ?_ ?_)
 ·have G:Fm.fQ 0 (oU (AY b f v0)) iO=oU (AY b f iO):=by
   simp[Fm.eI,Tm.fh,Tm.eI,v0,Tm.iQ,eP,qB,h9,B.up,B.fQ,F.up,F.fQ,iO]
  rw[G];have r:dQ (g++[.nat]) (AY b f iO) .nat:=R .zero;exact Tk.shown r (c.cls _) (Tk.cv (Tk.refl (c.cls _)) (.eq (.refl c.ok) (ajk c r.ok).symm))
 ·have H:Fm.fQ 0 ((oU (AY b f v0)).up 1 1) (gJ v0)=oU (AY b f (gJ v0)):=by
   simp[Fm.eI,Fm.fh,Tm.fh,Tm.eI,v0,Tm.iQ,eP,qB,h9,B.up,B.fQ,F.up,F.fQ,gJ]
  rw[H];refine Tk.exE (s:=.nat) Ty.fi (x:=qa v0 ((AY b f v0).up 0 1)) (Tk.hyp (i:=0) LA (.refl (mL (R d)))) (mL (R (.succ d))) λI v P=>?_
  have J:(oU (AY b f (gJ v0))).up 0 1=oU (AY b f (gJ v1)):=by
   simp[Fm.fh,Tm.fh,v0,v1,eP,qB,h9,B.up,F.up,gJ]
  have K:qa v0 ((AY b f v0).up 0 1)=qa v0 (AY b f v1):=by
   simp[Tm.fh,v0,v1,eP,B.up,F.up]
  rw[K] at v;rw[J];have o:dQ (g++[.nat]++[.nat]++[.nat]) (AY b f (gJ v1)) .nat:=R (.succ l);refine Tk.shown o (A l j) ?_;have M:ic (g++[.nat]++[.nat]++[.nat]++[.nat]) (qa (uq f v2 v1) (uq f v2 v0)):=.eq (A uc kW) (A uc gz)
  have N:Fm.fQ 0 (qa (uq f v2 v1) (uq f v2 v0)) v0=qa (uq f v1 v0) (uq f v1 v0):=by
   simp[Fm.eI,Tm.eI,v0,v1,v2,Tm.iQ,eP,B.fQ,F.fQ,eH,mv]
  have O:Fm.fQ 0 (qa (uq f v2 v1) (uq f v2 v0)) (AY b f v1)=qa (uq f v1 v0) (uq f v1 (AY b f v1)):=by
   simp[Fm.eI,Tm.eI,v0,v1,v2,Tm.iQ,eP,B.fQ,F.fQ,eH,mv]
  have k:=Tk.subst (L:=L) (hs:=List.map (Fm.up 0 1) (List.map (Fm.up 0 1) (List.map (Fm.up 0 1) hs)++[oU (AY b f v0)])++[I]) M (a:=N7 0) (b:=mE (uq f v1 v0)) (t:=v0) (u:=AY b f v1) (Tk.hyp (i:=0) LA v) (by rw[N];exact Tk.refl (A l j));rw[O] at k;exact k.cv (.eq (.refl (A l j).ok) (akP c.ok q.ok l.ok o.ok).symm)
abbrev ZD(b f:Tm):Fm:=.mk 4 .iB [] [oU (zu b f v0)]
abbrev Yn(b f:Tm):Pf:=.mk 8 0 .iB [] [] [.mk 17 0 .z [v0] [oU (zu b f v0)] [qg (zu b f (.mk 7 0 .z [])) b (mE b),R5 (N7 0) (qg (zu b f (.mk 8 0 .z [v2,v1])) (HL f v2 v1 v0) (FY (qa (HL f v3 v2 v1) (HL f v3 v2 v0)) (N7 0) (mE (HL f v2 v1 v0))))]]
def amk{b f:Tm}(d:dQ [] b .nat)(q:dQ [] f (.fn .nat (.fn .iB (.fn .nat .nat))))(L:List Fm)(g:List Ty)(hs:List Fm):Tk L g hs (Yn b f) (ZD b f):=by
 have B:=d.cl;have F:=q.cl;have R:∀{g:List Ty} {n:Tm},dQ g n .iB->dQ g (zu b f n) .nat:=λh=>.fold Ty.fi (d.cls _) (q.cls _) h;have A:∀{g:List Ty} {x y z:Tm},dQ g x .nat->dQ g y .iB->dQ g z .nat->dQ g (HL f x y z) .nat:=λh G H=>.app (.app (.app (q.cls _) h) G) H;have I:dQ (g++[.iB]) v0 .iB:=gz;have c:dQ (g++[.iB]++[.iB]) v0 .iB:=gz;have j:dQ (g++[.iB]++[.nat]++[.iB]) v0 .iB:=gz;have r:dQ (g++[.iB]++[.nat]++[.iB]) v1 .nat:=kW;have v:dQ (g++[.iB]++[.nat]++[.iB]++[.nat]) v0 .nat:=gz;have l:dQ (g++[.iB]++[.nat]++[.iB]++[.nat]) v1 .iB:=kW;have k2:dQ (g++[.iB]++[.nat]++[.iB]++[.nat]) v2 .nat:=uc;refine Tk.allI Ty.mD ?_
 have J:Fm.fQ 0 (oU (zu b f v0)) v0=oU (zu b f v0):=by
  simp[Fm.eI,Tm.fh,Tm.eI,v0,Tm.iQ,eP,qB,h9,B.up,B.fQ,F.up,F.fQ]
 refine Eq.mp (congrArg (Tk L (g++[.iB]) (hs.map (Fm.up 0 1)) _) J) (Tk.lists (F:=oU (zu b f v0)) (mL (R c)) I ?_ ?_)
 ·have K:Fm.fQ 0 (oU (zu b f v0)) (.mk 7 0 .z [])=oU (zu b f (.mk 7 0 .z [])):=by
   simp[Fm.eI,Tm.fh,Tm.eI,v0,Tm.iQ,eP,qB,h9,B.up,B.fQ,F.up,F.fQ]
  rw[K];have C:dQ (g++[.iB]) (zu b f (.mk 7 0 .z [])) .nat:=R .nil;exact Tk.shown C (d.cls _) (Tk.cv (Tk.refl (d.cls _)) (.eq (.refl d.ok) (agF d C.ok).symm))
 ·have M:Fm.fQ 0 ((oU (zu b f v0)).up 1 2) (.mk 8 0 .z [v1,v0])=oU (zu b f (.mk 8 0 .z [v1,v0])):=by
   simp[Fm.eI,Fm.fh,Tm.fh,Tm.eI,v0,v1,Tm.iQ,eP,qB,h9,B.up,B.fQ,F.up,F.fQ]
  have w:(oU (zu b f v0)).up 1 1=oU (zu b f v0):=by
   simp[Fm.fh,Tm.fh,v0,eP,qB,h9,B.up,F.up]
  rw[M,w];refine Tk.exE (s:=.nat) Ty.fi (x:=qa v0 ((zu b f v0).up 0 1)) (Tk.hyp (i:=0) LA (.refl (mL (R j)))) (mL (R (.cons r j))) λN D U=>?_
  have O:(oU (zu b f (.mk 8 0 .z [v1,v0]))).up 0 1=oU (zu b f (.mk 8 0 .z [v2,v1])):=by
   simp[Fm.fh,Tm.fh,v0,v1,v2,eP,qB,h9,B.up,F.up]
  have P:qa v0 ((zu b f v0).up 0 1)=qa v0 (zu b f v1):=by
   simp[Tm.fh,v0,v1,eP,B.up,F.up]
  rw[P] at D;rw[O];have o:dQ (g++[.iB]++[.nat]++[.iB]++[.nat]) (zu b f (.mk 8 0 .z [v2,v1])) .nat:=R (.cons k2 l);refine Tk.shown o (A k2 l v) ?_;have Q:ic (g++[.iB]++[.nat]++[.iB]++[.nat]++[.nat]) (qa (HL f v3 v2 v1) (HL f v3 v2 v0)):=.eq (A XU uc kW) (A XU uc gz)
  have S:Fm.fQ 0 (qa (HL f v3 v2 v1) (HL f v3 v2 v0)) v0=qa (HL f v2 v1 v0) (HL f v2 v1 v0):=by
   simp[Fm.eI,Tm.eI,v0,v1,v2,v3,Tm.iQ,eP,B.fQ,F.fQ,eH,mv]
  have T:Fm.fQ 0 (qa (HL f v3 v2 v1) (HL f v3 v2 v0)) (zu b f v1)=qa (HL f v2 v1 v0) (HL f v2 v1 (zu b f v1)):=by
   simp[Fm.eI,Tm.eI,v0,v1,v2,v3,Tm.iQ,eP,B.fQ,F.fQ,eH,mv]
  have k:=Tk.subst (L:=L) (hs:=List.map (Fm.up 0 1) (List.map (Fm.up 0 2) (List.map (Fm.up 0 1) hs)++[oU (zu b f v0)])++[N]) Q (a:=N7 0) (b:=mE (HL f v2 v1 v0)) (t:=v0) (u:=zu b f v1) (Tk.hyp (i:=0) LA D) (by rw[S];exact Tk.refl (A k2 l v));rw[T] at k;exact k.cv (.eq (.refl (A k2 l v).ok) (afQ d.ok q.ok k2.ok l.ok o.ok).symm)
abbrev ZA(f h:Tm):Fm:=.mk 4 .nat [] [oU (eH h (eH f v0))]
abbrev ZI(f:Tm)(x:Pf)(h:Tm)(y:Pf):Pf:=.mk 8 0 .nat [] [] [R5 (.mk 9 0 .z [v0] [] [x]) (R5 (.mk 9 0 .z [v0] [] [y])
 (qg (eH h (eH f v2)) v0 (FY (qa v1 (eH h v0)) (N7 1) (N7 0))))]
def amZ{f h:Tm}(l:dQ [] f (.fn .nat .nat))(n:dQ [] h (.fn .nat .nat)){x y:Pf}(L:List Fm)(g:List Ty)(hs:List Fm)(v:∀g hs,Tk L g hs x (CI f))(w:∀g hs,Tk L g hs y (CI h)):Tk L g hs (ZI f x h y) (ZA f h):=by
 have F:=l.cl;have G:=n.cl;have A:∀{g:List Ty} {x:Tm},dQ g x .nat->dQ g (eH f x) .nat:=λh=>.app (l.cls _) h;have C:∀{g:List Ty} {x:Tm},dQ g x .nat->dQ g (eH h x) .nat:=λh=>.app (n.cls _) h;have o:dQ (g++[.nat]) v0 .nat:=gz;have B:dQ (g++[.nat]++[.nat]) v0 .nat:=gz;have D:dQ (g++[.nat]++[.nat]) v1 .nat:=kW;have H:dQ (g++[.nat]++[.nat]++[.nat]) v0 .nat:=gz;have T:dQ (g++[.nat]++[.nat]++[.nat]) v1 .nat:=kW;have k2:dQ (g++[.nat]++[.nat]++[.nat]) v2 .nat:=uc
 have q:∀{k:Tm},Cl k->Fm.fQ 0 (oU (eH k v0)) v0=oU (eH k v0):=λ{k} K=>by
  simp[Fm.eI,Tm.fh,Tm.eI,v0,Tm.iQ,eP,qB,h9,K.up,K.fQ,eH]
 have r:∀{k:Tm},Cl k->(eH k v0).up 0 1=eH k v1:=λ{k} K=>by
  simp[Tm.fh,v0,v1,eP,K.up,eH]
 refine Tk.allI Ty.fi (Tk.exE (s:=.nat) Ty.fi (x:=qa v0 (eH f v1)) ?_ (mL (C (A o))) λd I U=>?_)
 ·have:=Tk.ajI o (v (g++[.nat]) (hs.map (Fm.up 0 1)));rw[q F,oU,r F] at this;exact this
 have J:(oU (eH h (eH f v0))).up 0 1=oU (eH h (eH f v1)):=by
  simp[Fm.fh,Tm.fh,v0,v1,eP,qB,h9,F.up,G.up,eH]
 have M:(oU (eH h (eH f v1))).up 0 1=oU (eH h (eH f v2)):=by
  simp[Fm.fh,Tm.fh,v0,v1,v2,eP,qB,h9,F.up,G.up,eH]
 rw[J];refine Tk.exE (s:=.nat) Ty.fi (x:=qa v0 (eH h v1)) ?_ (mL (C (A D))) λN O ty=>?_
 ·have:=Tk.ajI B (w (g++[.nat]++[.nat]) ((hs.map (Fm.up 0 1)).map (Fm.up 0 1)++[d]));rw[q G,oU,r G] at this;exact this
 rw[M];refine Tk.shown (C (A k2)) H ?_;have P:ic (g++[.nat]++[.nat]++[.nat]++[.nat]) (qa v1 (eH h v0)):=.eq kW (C gz)
 have Q:Fm.fQ 0 (qa v1 (eH h v0)) v1=qa v0 (eH h v1):=by
  simp[Fm.eI,Tm.eI,v0,v1,Tm.iQ,eP,G.fQ,eH,mv]
 have R:Fm.fQ 0 (qa v1 (eH h v0)) (eH f v2)=qa v0 (eH h (eH f v2)):=by
  simp[Fm.eI,Tm.eI,v0,v1,v2,Tm.iQ,eP,G.fQ,eH,mv]
 have j:ry (d.up 0 1) (qa v1 (eH f v2)):=by
  have:=I.up (f:=0) (c:=1) xL xL
  have S:(qa v0 (eH f v1)).up 0 1=qa v1 (eH f v2):=by
   simp[Fm.fh,Tm.fh,v0,v1,v2,eP,F.up,eH]
  rwa [S] at this
 have k:=Tk.subst (L:=L) (hs:=List.map (Fm.up 0 1) (List.map (Fm.up 0 1) (List.map (Fm.up 0 1) hs)++[d])++[N]) P (a:=N7 1) (b:=N7 0) (t:=v1) (u:=eH f v2) (Tk.hyp (i:=1) LA j) (by rw[Q];exact Tk.hyp (i:=0) LA O);rw[R] at k;exact k
end Go.fN
set_option maxRecDepth 20000
set_option maxHeartbeats 1000000
namespace Go.fN
open Go
abbrev rj:Ty:=.pr .nat .nat
abbrev vG(t:Tm):Tm:=.mk 11 0 .z [t]
abbrev wV(t:Tm):Tm:=.mk 12 0 .z [t]
abbrev prT(a b:Tm):Tm:=.mk 10 0 .z [a,b]
abbrev W3(f x:Tm):Tm:=prT (wV x) (uq f (vG x) (wV x))
abbrev stT(f:Tm):Tm:=.mk 2 0 .nat [.mk 2 0 rj [W3 f v0]]
abbrev oL(b c f n:Tm):Tm:=.mk 6 0 rj [prT b c,stT f,n]
abbrev isB(s:Tm):Fm:=.mk 2 .z [] [qa (vG v0) (vG (s.up 0 1)),qa (wV v0) (wV (s.up 0 1))]
abbrev NT(s:Tm):Fm:=.mk 5 rj [] [isB s]
abbrev ago(x y:Pf):Pf:=.mk 3 0 .z [] [] [x,y]
abbrev ah1(x:Pf):Pf:=.mk 4 0 .z [] [] [x]
abbrev afs(x:Pf):Pf:=.mk 5 0 .z [] [] [x]
abbrev Zy(b c f:Tm):Fm:=.mk 4 .nat [] [oU (vG (oL b c f v0))]
abbrev Xs(b c f:Tm):Pf:=
 .mk 8 0 .nat [] [] [R5
  (.mk 16 0 .z [v0] [NT (oL b c f v0)] [.mk 10 0 .z [prT b c] [NT (oL b c f iO)] [ago (mE b) (mE c)],R5 (N7 0) (.mk 10 0 .z [W3 f v0] [NT (oL b c f (gJ v1))] [ago
    (FY (qa (wV v1) v0) (afs (N7 0)) (mE (wV v0)))
    (FY (qa (uq f (vG v1) (wV v1)) (uq f (vG (oL b c f v2)) v0)) (afs (N7 0)) (FY (qa (uq f (vG v1) (wV v1)) (uq f v0 (wV v1))) (ah1 (N7 0)) (mE (uq f (vG v0) (wV v0)))))])])
  (qg (vG (oL b c f v1)) (vG v0) (ah1 (N7 0)))]
def mK.acp{k i:Int}{s:Ty}{a b:Tm}(h:mK a b):mK (.mk k i s [a]) (.mk k i s [b]):=by
 induction h with
 |refl t=>exact .refl _|step h _ ih=>exact .step (.n1 k i s h) ih
def wJ:rj.err=0:=Df
def YY:(Ty.fn rj rj).err=0:=Df
def agi:(Ty.fn .nat (.fn rj rj)).err=0:=Df
section
variable{b c f:Tm}
def Hx(b:dQ [] f (.fn .nat (.fn .nat .nat))){g:List Ty}{x:Tm}(a:dQ g x rj):dQ g (W3 f x) rj:=.pair wJ (.snd a) (.app (.app (b.cls _) (.fst a)) (.snd a))
def adB(a:dQ [] f (.fn .nat (.fn .nat .nat))):dQ [] (stT f) (.fn .nat (.fn rj rj)):=.lam agi (.lam YY (Hx a (gz (g:=[]++[.nat]))))
def OD(a:dQ [] b .nat)(d:dQ [] c .nat):dQ [] (prT b c) rj:=.pair wJ a d
def BR(a:dQ [] b .nat)(d:dQ [] c .nat)(h:dQ [] f (.fn .nat (.fn .nat .nat))){g:List Ty}{n:Tm}(hn:dQ g n .nat):dQ g (oL b c f n) rj:=.rB wJ ((OD a d).cls _) ((adB h).cls _) hn
def Rx{g:List Ty}{s:Tm}(hs:dQ g s rj):ic (g++[rj]) (isB s):=.two (.inl rfl) (.eq (.fst gz) (.fst (hs.lift [rj]))) (.eq (.snd gz) (.snd (hs.lift [rj])))
def Fq{g:List Ty}{s:Tm}(hs:dQ g s rj):ic g (NT s):=.q (.inr (.inl rfl)) wJ (Rx hs)
def Mi(t:Tm):Tm.fQ 0 v0 t=t:=by
 unfold v0;rw[Tm.eI,dO rfl];unfold Tm.iQ;rw[dO rfl,mv]
def TQ{g:List Ty}{s:Tm}(hs:dQ g s rj)(t:Tm):Fm.fQ 0 (isB s) t=.mk 2 .z [] [qa (vG t) (vG s),qa (wV t) (wV s)]:=by
 simp[Fm.eI,Tm.eI,eP,qB,h9,TC hs,Mi]
def Ub(d:dQ [] b .nat)(h:dQ [] c .nat)(a:dQ [] f (.fn .nat (.fn .nat .nat))){g:List Ty}{n:Tm}(hn:dQ g n .nat):mK (oL b c f (gJ n)) (W3 f (oL b c f n)):=by
 have F:=a.cl;have i:=BR d h a hn;have j:=(adB a).cls g;have k:(Tm.mk 2 0 rj [W3 f v0]).ok=true:=(dQ.lam (g:=[]) YY (Hx a (gz (g:=[])))).ok;have l:(W3 f v0).ok=true:=(Hx a (gz (g:=[]))).ok;refine .step (.I8 0 _ 0 .z (kq.refl _ (OD d h).ok) (kq.refl _ j.ok) (kq.refl _ hn.ok)) ?_;refine .step (.n2 3 0 _ (.beta 0 _ 0 _ (kq.refl _ k) (kq.refl _ hn.ok)) (kq.refl _ i.ok)) ?_
 have o:Tm.fQ 0 (.mk 2 0 rj [W3 f v0]) n=.mk 2 0 rj [W3 f v0]:=by
  simp[Tm.eI,v0,Tm.iQ,eP,F.fQ,eH]
 rw[o];refine .step (.beta 0 _ 0 _ (kq.refl _ l) (kq.refl _ i.ok)) ?_
 have q:Tm.fQ 0 (W3 f v0) (oL b c f n)=W3 f (oL b c f n):=by
  rw[Tm.eI,dI Df];simp only[lN,mq,show eP 10=0 from rfl,sx,eH];simp[Tm.eI,eP,F.fQ,Mi];rfl
 rw[q];exact .refl _
def agm(d:dQ [] b .nat)(h:dQ [] c .nat)(a:dQ [] f (.fn .nat (.fn .nat .nat))){g:List Ty}{n:Tm}(hn:dQ g n .nat):ze (vG (oL b c f (gJ n))) (wV (oL b c f n)):=by
 have i:=BR d h a hn;have hw:=Hx a i;refine .star (dQ.fst (BR d h a (.succ hn))).ok (((Ub d h a hn).acp).trans (.step (.fst 0 _ 0 _ _ (kq.refl _ (dQ.snd i).ok)) (.refl _)))
def agx(d:dQ [] b .nat)(h:dQ [] c .nat)(a:dQ [] f (.fn .nat (.fn .nat .nat))){g:List Ty}{n:Tm}(hn:dQ g n .nat):ze (wV (oL b c f (gJ n))) (uq f (vG (oL b c f n)) (wV (oL b c f n))):=by
 have i:=BR d h a hn;have hw:=Hx a i;refine .star (dQ.snd (BR d h a (.succ hn))).ok (((Ub d h a hn).acp).trans (.step (.snd 0 _ 0 _ _ (kq.refl _ (dQ.app (.app (a.cls g) (.fst i)) (.snd i)).ok)) (.refl _)))
def ael{g:List Ty}{x y:Tm}(a:dQ g x .nat)(b:dQ g y .nat):ze (vG (prT x y)) x:=.star (dQ.fst (dQ.pair wJ a b)).ok (.step (.fst 0 _ 0 _ _ (kq.refl _ a.ok)) (.refl _))
def adS{g:List Ty}{x y:Tm}(b:dQ g x .nat)(a:dQ g y .nat):ze (wV (prT x y)) y:=.star (dQ.snd (dQ.pair wJ b a)).ok (.step (.snd 0 _ 0 _ _ (kq.refl _ a.ok)) (.refl _))
def acZ(a:dQ [] b .nat)(d:dQ [] c .nat)(j:dQ [] f (.fn .nat (.fn .nat .nat)))(g:List Ty):ze (vG (oL b c f iO)) b/\ze (wV (oL b c f iO)) c:=by
 have h:mK (oL b c f iO) (prT b c):=.step (.IE 0 _ 0 .z _ (kq.refl _ (OD a d).ok)) (.refl _);have i:=BR a d j (g:=g) .zero;exact⟨.star (dQ.fst i).ok (h.acp.trans (.step (.fst 0 _ 0 _ _ (kq.refl _ a.ok)) (.refl _))),.star (dQ.snd i).ok (h.acp.trans (.step (.snd 0 _ 0 _ _ (kq.refl _ d.ok)) (.refl _)))⟩
end
def aml{b c f:Tm}(j:dQ [] b .nat)(k:dQ [] c .nat)(l:dQ [] f (.fn .nat (.fn .nat .nat)))(L:List Fm)(g:List Ty)(hs:List Fm):Tk L g hs (Xs b c f) (Zy b c f):=by
 have B:=j.cl;have C:=k.cl;have F:=l.cl;have R:∀{g:List Ty} {n:Tm},dQ g n .nat->dQ g (oL b c f n) rj:=λh=>BR j k l h;have A:∀{g:List Ty} {x y:Tm},dQ g x .nat->dQ g y .nat->dQ g (uq f x y) .nat:=λh T=>.app (.app (l.cls _) h) T;have K:dQ (g++[.nat]) v0 .nat:=gz;have w:dQ (g++[.nat]++[.nat]) v0 .nat:=gz;have q:dQ (g++[.nat]++[.nat]++[rj]) v0 rj:=gz;have t:dQ (g++[.nat]++[.nat]++[rj]) v1 .nat:=kW;have U:dQ (g++[.nat]++[rj]) v0 rj:=gz;have V:dQ (g++[.nat]++[rj]) v1 .nat:=kW
 have r:∀(n n':Tm),n.up 0 1=n'->(oL b c f n).up 0 1=oL b c f n':=λn n' h=>by
  simp[Tm.fh,eP,B.up,C.up,F.up,h,v0,eH]
 have d:v0.up 0 1=v1:=by simp[Tm.fh,v0,v1]
 have us:∀{n n':Tm},n.up 0 1=n'->(gJ n).up 0 1=gJ n':=λh=>by simp[Tm.fh,eP,h,gJ]
 have D:∀(a:Tm),Fm.fQ 0 (NT (oL b c f v0)) a=NT (oL b c f a):=λa=>by
  rw[Fm.eI];simp only[lN,mq,show qB 5=1 by decide];rw[Fm.eI];simp only[lN,mq,show qB 2=0 by decide,sx,show(0:Int)+1=1 from rfl];rw[Fm.eI,Fm.eI,r v0 v1 d];simp only[lN,mq];simp[Tm.fh,Tm.eI,v0,v1,Tm.iQ,eP,B.up,C.up,F.up,B.fQ,C.fQ,F.fQ,eH]
 refine Tk.allI Ty.fi (Tk.exE (s:=rj) wJ (x:=isB (oL b c f v0)) ?_ (mL (.fst (R K))) λz W tz=>?_)
 ·show Tk L _ _ _ (NT (oL b c f v0));refine Eq.mp (congrArg (Tk L (g++[.nat]) (hs.map (Fm.up 0 1)) _) (D v0)) (Tk.ind (F:=NT (oL b c f v0)) (Fq (R w)) K ?_ ?_)
  ·rw[D];refine Tk.exI ((OD j k).cls _) (Fq (R (n:=iO) .zero)) (Rx (R (n:=iO) .zero)) ?_;rw[TQ (R (g:=g++[.nat]) (n:=iO) .zero)];have M:=acZ j k l [];exact(Tk.Qs (Tk.refl (j.cls _)) (Tk.refl (k.cls _))).cv (.two (.eq (ael j k).symm M.1.symm) (.eq (adS j k).symm M.2.symm))
  ·have X:Fm.fQ 0 ((NT (oL b c f v0)).up 1 1) (gJ v0)=NT (oL b c f (gJ v0)):=by
    rw[<-D (gJ v0)]
    congr 1
    rw[Fm.fh];simp only[lN,mq,show qB 5=1 by decide];rw[Fm.fh];simp only[lN,mq,show qB 2=0 by decide,sx];rw[Fm.fh,Fm.fh,r v0 v1 d];simp only[lN,mq];simp[Tm.fh,v0,v1,eP,B.up,C.up,F.up,eH]
   rw[X];refine Tk.exE (s:=rj) wJ (x:=isB (oL b c f v0)) (Tk.hyp (i:=0) LA (.refl (Fq (R w)))) (Fq (R (.succ w))) λN Y hx=>?_
   have Z:(NT (oL b c f (gJ v0))).up 0 1=NT (oL b c f (gJ v1)):=by
    have v12:v1.up 0 1=v2:=by simp[Tm.fh,v1,v2]
    show(Fm.mk 5 rj [] [.mk 2 .z [] [qa (vG v0) (vG ((oL b c f (gJ v0)).up 0 1)),qa (wV v0) (wV ((oL b c f (gJ v0)).up 0 1))]]).up 0 1=.mk 5 rj [] [.mk 2 .z [] [qa (vG v0) (vG ((oL b c f (gJ v1)).up 0 1)),qa (wV v0) (wV ((oL b c f (gJ v1)).up 0 1))]];rw[r _ _ (us d),r _ _ (us v12)];simp[Fm.fh,qB,h9,Tm.fh,v0,v1,v2,eP,B.up,C.up,F.up,eH,gJ]
   rw[Z];have ad:dQ (g++[.nat]++[.nat]++[rj]) (oL b c f v1) rj:=R t;have o:dQ (g++[.nat]++[.nat]++[rj]) (oL b c f (gJ v1)) rj:=R (.succ t);refine Tk.exI (Hx l q) (Fq o) (Rx o) ?_;rw[TQ o]
   have G:ry N (.mk 2 .z [] [qa (vG v0) (vG (oL b c f v1)),qa (wV v0) (wV (oL b c f v1))]):=by
    have e:isB (oL b c f v0)=.mk 2 .z [] [qa (vG v0) (vG (oL b c f v1)),qa (wV v0) (wV (oL b c f v1))]:=by rw[isB,r v0 v1 d]
    rw[<-e];exact Y
   generalize hH:(List.map (Fm.up 0 1) (List.map (Fm.up 0 1) (List.map (Fm.up 0 1) hs)++[NT (oL b c f v0)])++[N])=H;have hyp:Tk L (g++[.nat]++[.nat]++[rj]) H (N7 0) _:=Tk.hyp (i:=0) (by rw[<-hH];simp) G;have hl:=Tk.ak6 hyp;have O:=Tk.amn hyp;have I:dQ (g++[.nat]++[.nat]++[rj]) (uq f (vG v0) (wV v0)) .nat:=A (.fst q) (.snd q);have u:dQ (g++[.nat]++[.nat]++[rj]++[.nat]) v1 rj:=kW;have w0:dQ (g++[.nat]++[.nat]++[rj]++[.nat]) v0 .nat:=gz;have w2:dQ (g++[.nat]++[.nat]++[rj]++[.nat]) v2 .nat:=uc;have P:dQ (g++[.nat]++[.nat]++[rj]++[.nat]) (uq f (vG v1) (wV v1)) .nat:=A (.fst u) (.snd u)
   have q1:∀a,Tm.fQ 0 (wV v1) a=wV v0:=λa=>by simp[Tm.eI,v0,v1,Tm.iQ,eP]
   have v:∀a,Tm.fQ 0 (uq f (vG v1) (wV v1)) a=uq f (vG v0) (wV v0):=λa=>by simp[Tm.eI,v0,v1,Tm.iQ,eP,F.fQ,eH]
   have left:=Tk.subst (.eq (.snd u) w0) O (b:=mE (wV v0)) (by
    rw[Fm.eI];simp only[lN,mq,q1,Mi]
    exact Tk.refl (.snd q))
   rw[Fm.eI] at left;simp only[lN,mq,q1,Mi] at left
   have Q:∀a,Tm.fQ 0 (uq f v0 (wV v1)) a=uq f a (wV v0):=λa=>by
    simp[Tm.eI,v0,v1,Tm.iQ,eP,F.fQ,eH,mv]
   have inner:=Tk.subst (.eq P (A w0 (.snd u))) hl (b:=mE (uq f (vG v0) (wV v0))) (by
    rw[Fm.eI];simp only[lN,mq,v,Q]
    exact Tk.refl I)
   rw[Fm.eI] at inner;simp only[lN,mq,v,Q] at inner
   have S:∀a,Tm.fQ 0 (uq f (vG (oL b c f v2)) v0) a=uq f (vG (oL b c f v1)) a:=λa=>by
    simp[Tm.eI,v0,v1,v2,Tm.iQ,eP,F.fQ,B.fQ,C.fQ,eH,mv]
   have right:=Tk.subst (.eq P (A (.fst (R w2)) w0)) O (by
    rw[Fm.eI];simp only[lN,mq,v,S]
    exact inner)
   rw[Fm.eI] at right;simp only[lN,mq,v,S] at right;refine(Tk.Qs left right).cv (.two (.eq ?_ ?_) (.eq ?_ ?_))
   ·exact(ael (.snd q) I).symm
   ·exact(agm j k l t).symm
   ·exact(adS (.snd q) I).symm
   ·exact(agx j k l t).symm
 ·have e1:(oU (vG (oL b c f v0))).up 0 1=oU (vG (oL b c f v1)):=by
   have v12:v1.up 0 1=v2:=by simp[Tm.fh,v1,v2]
   rw[Fm.fh];simp only[lN,mq,show qB 5=1 by decide,show(0:Int)+1=1 from rfl];rw[Fm.fh];simp only[lN,mq];simp[Tm.fh,v0,v1,v2,eP,B.up,C.up,F.up,eH]
  rw[e1];refine Tk.shown (.fst (R V)) (.fst U) ?_
  have J:ry z (.mk 2 .z [] [qa (vG v0) (vG (oL b c f v1)),qa (wV v0) (wV (oL b c f v1))]):=by
   have e:isB (oL b c f v0)=.mk 2 .z [] [qa (vG v0) (vG (oL b c f v1)),qa (wV v0) (wV (oL b c f v1))]:=by rw[isB,r v0 v1 d]
   rw[<-e];exact W
  exact Tk.ak6 (Tk.hyp (i:=0) LA J)
end Go.fN
set_option maxRecDepth 20000
set_option maxHeartbeats 1000000
namespace Go.fN
open Go
def BW:∀(n:Nat) (t:Tm) (f:Int),t.an8<=n->t.ok=true->t.an8<=1000000000->0<=f->f+t.an8<=10000000000->t.aoa 1000000000000=true->kO n t f 1=some (t.up f 1):=by
 intro n
 induction n with
 |zero=>intro t f h;have:=t.eE;omega
 |succ n ih=>
  intro t f h y o C q hi;cases t with
  |mk k i s l=>
   rw[Tm.dJ] at h o q;rw[Tm.fD] at hi;simp only[gE,oz,kE] at hi;have D:=Tm.fF l;have F:=iY k;have b:=y;rw[Tm.gR] at b;simp only[gE,kE] at b
   have A:0<=i:=by
    have:=b.1;simp only[Tm.node,gE,oz] at this;exact this.1.1.2
   rw[kO,dI Df,Tm.fh];simp only[Tm.ez,Tm.hB,Tm.eF,Tm.fw,gQ]
   by_cases r:k=1
   ·subst r
    have d:l=[]:=by
     have:=b.1;simp only[Tm.node,gI,gE,oz] at this;cases l with
     |nil=>rfl|cons a l=>simp at this;omega
    subst d;rw[dO rfl]
    by_cases c:f<=i
    ·rw[fW xL xL,dO ⟨rfl,c⟩,show qn i f=true by rw[jj];exact c];rfl
    ·rw[dI (λh=>c h.2),show qn i f=false by
      cases u:qn i f with
      |false=>rfl|true=>exact absurd ((jj _ _).1 u) c];rfl
   ·rw[dI r,dI (λh=>r h.1)];simp only[d_,ef (l:=l) xL,dY];rw[jX (Tm.up (f+eP k) 1) l 0 [] Xw]
    ·simp only[dF,eo,p5]
    ·intro j x v w B;have:=ew Tm.an8 w
     have e:e_ (ee k 2) (eL .i64 f 1) f=f+eP k:=by
      unfold eP
      by_cases c:k=2
      ·rw[dO c,show ee k 2=true by rw[gQ];exact c,fW xL xL];rfl
      ·rw[dI c,show ee k 2=false by
        cases u:ee k 2 with
        |false=>rfl|true=>exact absurd ((gQ _ _).1 u) c,sx];rfl
     rw[e,ih x (f+eP k) xL (b.2 x w) xL xL xL (hi.2 x w)];simp[fR (l:=v) (m:=[x.up (f+eP k) 1]) (by simpa using B)]
def exists_eq{g:List Ty}{s:Tm}(h:dQ g s .nat)(hg:g.length<=1000)(hn:s.an8<=1000000):eX s=some (oU s):=by
 unfold eX;have e:kO FU s 0 1=some (s.up 0 1):=BW FU s 0 (by rw[fI];omega) h.ok xL xL xL (h.aoa _ xL);rw[e];rfl
def Ih{g:List Ty}{s:Tm}{t:Ty}(h:dQ g s t)(hg:g.length<=1000)(hn:s.an8<=1000000):kO FU s 0 1=some (s.up 0 1):=
 BW FU s 0 (by rw[fI];omega) h.ok xL xL xL (h.aoa _ xL)
def GO{t:Tm}{s:Ty}(h:dQ [] t s)(hn:t.an8<=4096)(hs:s.an8<=64):rS [] t=some (s,0):=by
 have he:t.err=0:=Tm.ng h.ok hn;have hw:=t.iD h.ok
 have a:iz []:=λs hs=>by simp at hs
 unfold rS;rw[EW [] LA LA,dF,show wY []=0 from rfl,dI nz,zC xL,dF,he,dI nz,Hz a LA,dF,sV h.ok a Xw,ru h a Xw,qV,dN,dI nz];show dE (jJ FU s) _=_;rw[sZ xL,dF]
def rn{t:Tm}{s:Ty}(h:dQ [] t s)(hn:t.an8<=4096)(hs:s.an8<=64):iG t s=some 0:=by
 unfold iG;rw[GO h hn hs,dN,d_,dO Df];unfold yi;rw[pf xL,CH];rfl
def CE:gm=some .nat:=rfl
def af4:sQ=some .iB:=rfl
def YS:pJ=some (.fn .nat .nat):=by kernel_rfl
def UR:pb .nat [.nat,.nat]=some (.fn .nat (.fn .nat .nat)):=by kernel_rfl
def ab5:pb .nat [.nat,.iB,.nat]=some (.fn .nat (.fn .iB (.fn .nat .nat))):=by kernel_rfl
def Lr:e9 0=some v0:=rfl
def Ul:e9 1=some v1:=rfl
def Uc:e9 2=some v2:=rfl
def ake:e9 3=some v3:=rfl
def aey:j9 4 []=some iO:=rfl
def aeO(x:Tm):j9 5 [x]=some (gJ x):=rfl
def H8(f x:Tm):gO f [x]=some (eH f x):=by
 cases f with|mk k i s l=>cases s;rfl
def PS(f x y:Tm):gO f [x,y]=some (uq f x y):=by
 cases f with|mk k i s l=>cases s;rfl
def Xi(f x y z:Tm):gO f [x,y,z]=some (HL f x y z):=by
 cases f with|mk k i s l=>cases s;rfl
def UH(a b:Tm):mS a b=some (qa a b):=rfl
def VB(k:Int)(s:Ty)(f:Fm):pj k s f=some (.mk k s [] [f]):=rfl
def He(t:Tm):kA t=some (mE t):=rfl
def Ay(f:Fm)(t:Tm)(p:Pf):jH f t p=some (.mk 10 0 .z [t] [f] [p]):=rfl
def Jt(s:Ty)(p:Pf):pL s p=some (.mk 8 0 s [] [] [p]):=rfl
def NI(i:Int):j_ i=some (N7 i):=rfl
def Hc(f:Fm)(p q:Pf):jI f p q=some (FY f p q):=rfl
def ahw(t:Tm)(p:Pf):u_ t p=some (.mk 9 0 .z [t] [] [p]):=rfl
def acE(k:Int)(l:List Pf):mo k l=some (.mk k 0 .z [] [] l):=rfl
def S6(k:Int)(f:Fm)(t:Tm)(p q:Pf):mi k f t p q=some (.mk k 0 .z [t] [f] [p,q]):=rfl
def aky(n b f:Tm):mz n b f=some (AY b f n):=rfl
def ajG(n b f:Tm):jN n b f=some (zu b f n):=rfl
abbrev afe:Pf:=.mk 0 0 .z [] [] []
def acy{f:Fm}{P:Pf}(c:f.wt<=1000000000)(d:P.wt<=1000000000):gW f P=some (if f.err=0/\P.err=0 then(f,P,0)else(.mk 0 .z [] [],afe,4)):=by
 unfold gW;rw[pZ c,dF,d_]
 by_cases a:f.err=0
 ·rw[a,dO Df,Aa d,dF];dsimp only
  by_cases b:P.err=0
  ·rw[b,dI nz,dO ⟨rfl,rfl⟩]
  ·rw[dO (by rw[er];exact b),dI (λh=>b h.2)];rfl
 ·rw[dI (by rw[gQ];exact a)];dsimp only;rw[dO (by rw[er];exact a),dI (λh=>a h.1)];rfl
section
variable{b c f h:Tm}
def FF(a:dQ [] f (.fn .nat .nat))(hn:f.an8<=4096):lH f=gW (CI f) (we f):=by
 have b:eX (eH f v0)=some (oU (eH f v0)):=exists_eq (g:=[.nat]) (.app (a.cls _) (gz (g:=[]))) LA (by rw[eH,Tm.dJ];simp only[eb];rw[show v0.an8=1 from rfl];omega);unfold lH;simp only[YS,dF,rn a hn Df,dI nz,Lr,H8,CE,b,VB,He,Ay,Jt];cases hm:gW (.mk 4 .nat [] [oU (eH f v0)]) (.mk 8 0 .nat [] [] [.mk 10 0 .z [eH f v0] [oU (eH f v0)] [mE (eH f v0)]])with
 |none=>rfl|some r=>rfl
def Yl(d:dQ [] b .nat)(a:dQ [] f (.fn .nat (.fn .nat .nat)))(c:b.an8<=4096)(hn:f.an8<=4096):pO b f=gW (ZZ b f) (Zz b f):=by
 have R:∀{g:List Ty} {n:Tm},dQ g n .nat->dQ g (AY b f n) .nat:=λh=>.rB Ty.fi (d.cls _) (a.cls _) h;have F:=a.cl
 have n1:∀{n:Tm},n.an8<=10->(AY b f n).an8<=1000000:=λ{n} h=>by rw[Tm.dJ];simp only[eb];omega
 have i:eX (AY b f (gJ v1))=some (oU (AY b f (gJ v1))):=exists_eq (g:=[.nat,.nat]) (R (.succ (kW (g:=[])))) LA (n1 Df);have j:eX (AY b f iO)=some (oU (AY b f iO)):=exists_eq (g:=[]) (R .zero) LA (n1 Df);have k:eX (AY b f v0)=some (oU (AY b f v0)):=exists_eq (g:=[.nat]) (R (gz (g:=[]))) LA (n1 Df)
 have l:kO FU (uq f v1 v0) 0 1=some (uq f v2 v1):=by
  rw[Ih (s:=uq f v1 v0) (g:=[.nat,.nat]) (t:=.nat) (.app (.app (a.cls _) (kW (g:=[]))) (gz (g:=[.nat]))) LA (by simp only[eH,Tm.dJ,eb];rw[show v0.an8=1 from rfl,show v1.an8=1 from rfl];omega)];simp[Tm.fh,v0,v1,v2,eP,F.up,eH]
 unfold pO;simp only[CE,dF,rn d c Df,dI nz,UR,rn a hn Df,Lr,Ul,Uc,PS,aeO,aey,aky,i,j,k,l,UH,NI,He,Hc,Ay,acE,S6,VB,Jt];cases hm:gW (ZZ b f) (Zz b f)with
 |none=>rfl|some r=>rfl
def My(d:dQ [] b .nat)(a:dQ [] f (.fn .nat (.fn .iB (.fn .nat .nat))))(c:b.an8<=4096)(hn:f.an8<=4096):mg b f=gW (ZD b f) (Yn b f):=by
 have R:∀{g:List Ty} {n:Tm},dQ g n .iB->dQ g (zu b f n) .nat:=λh=>.fold Ty.fi (d.cls _) (a.cls _) h;have F:=a.cl
 have n1:∀{n:Tm},n.an8<=10->(zu b f n).an8<=1000000:=λ{n} h=>by rw[Tm.dJ];simp only[eb];omega
 have i:eX (zu b f (.mk 8 0 .z [v2,v1]))=some (oU (zu b f (.mk 8 0 .z [v2,v1]))):=exists_eq (g:=[.nat,.iB,.nat]) (R (.cons (uc (g:=[])) (kW (g:=[.nat])))) LA (n1 Df);have j:eX (zu b f (.mk 7 0 .z []))=some (oU (zu b f (.mk 7 0 .z []))):=exists_eq (g:=[]) (R .nil) LA (n1 Df);have k:eX (zu b f v0)=some (oU (zu b f v0)):=exists_eq (g:=[.iB]) (R (gz (g:=[]))) LA (n1 Df)
 have l:kO FU (HL f v2 v1 v0) 0 1=some (HL f v3 v2 v1):=by
  rw[Ih (s:=HL f v2 v1 v0) (g:=[.nat,.iB,.nat]) (t:=.nat) (.app (.app (.app (a.cls _) (uc (g:=[]))) (kW (g:=[.nat]))) (gz (g:=[.nat,.iB]))) LA (by simp only[eH,Tm.dJ,eb];rw[show v0.an8=1 from rfl,show v1.an8=1 from rfl,show v2.an8=1 from rfl];omega)];simp[Tm.fh,v0,v1,v2,v3,eP,F.up,eH]
 unfold mg;simp only[CE,af4,dF,rn d c Df,dI nz,ab5,rn a hn Df,Lr,Ul,Uc,ake,Xi,show∀x y,j9 8 [x,y]=some (.mk 8 0 .z [x,y])fromλ_ _=>rfl,show j9 7 []=some (.mk 7 0 .z [])from rfl,ajG,i,j,k,l,UH,NI,He,Hc,Ay,acE,S6,VB,Jt];cases hm:gW (ZD b f) (Yn b f)with
 |none=>rfl|some r=>rfl
def QN{s:Ty}(q:dQ [] f s)(r:dQ [] h s)(j:f.an8<=4096)(l:h.an8<=4096)(hs:s.an8<=64){n:Option Ty}(hn:n=some s)(k:Unit⊕(Fm×Pf×Int)->Option (Fm×Pf×Int)):dE (eV (λ(t:Int) (o:Tm) (_:Unit)=>dE n λb=>dE (iG o b) λa=>if(eD a 0) then fB (iE a) λc d i=>some (fV.ret (c,d,i))else some (.next ())) [f,h] 0 ()) k=k (.inl ()):=by
 subst hn;rw[fm,dF,rn q j hs,dF,dI nz,dF,fy,fm,dF,rn r l hs,dF,dI nz,dF,fy,oH,dF]
end
end Go.fN
set_option maxRecDepth 20000
set_option maxHeartbeats 2000000
namespace Go.fN
open Go
def ajS(x:Tm):ij x=some (vG x):=rfl
def ali(x:Tm):ig x=some (wV x):=rfl
def akv(n b c f:Tm):jK n rj b c (W3 f v0)=some (oL b c f n):=rfl
def XS{g:List Ty}{s:Tm}(h:dQ g s rj)(hg:g.length<=1000)(hn:s.an8<=1000000):je s rj=some (NT s):=by
 unfold je;rw[Ih h hg hn];rfl
def Vs{b c f:Tm}(i:dQ [] b .nat)(j:dQ [] c .nat)(k:dQ [] f (.fn .nat (.fn .nat .nat)))(a:b.an8<=4096)(d:c.an8<=4096)(hn:f.an8<=4096):oK b c f=gW (Zy b c f) (Xs b c f):=by
 have R:∀{g:List Ty} {n:Tm},dQ g n .nat->dQ g (oL b c f n) rj:=λh=>BR i j k h
 have n1:∀{n:Tm},n.an8<=10->(oL b c f n).an8<=100000:=λ{n} h=>by
  simp only[eH,Tm.dJ,eb];rw[show v0.an8=1 from rfl];omega
 have l:∀{n:Tm},n.an8<=10->(vG (oL b c f n)).an8<=1000000:=λ{n} h=>by
  have:=n1 h;rw[Tm.dJ];simp only[eb];omega
 have o:je (oL b c f iO) rj=some (NT (oL b c f iO)):=XS (g:=[]) (R .zero) LA (by have:=n1 (n:=iO) Df;omega);have q:je (oL b c f (gJ v1)) rj=some (NT (oL b c f (gJ v1))):=XS (g:=[.nat,.nat]) (R (.succ (kW (g:=[])))) LA (by have:=n1 (n:=gJ v1) Df;omega);have c3:je (oL b c f v0) rj=some (NT (oL b c f v0)):=XS (g:=[.nat]) (R (gz (g:=[]))) LA (by have:=n1 (n:=v0) Df;omega);have s:eX (vG (oL b c f v1))=some (oU (vG (oL b c f v1))):=exists_eq (g:=[.nat,.nat]) (.fst (R (kW (g:=[])))) LA (l Df);have t:eX (vG (oL b c f v0))=some (oU (vG (oL b c f v0))):=exists_eq (g:=[.nat]) (.fst (R (gz (g:=[])))) LA (l Df);unfold oK;rw[d_,ef LA,dY,d_,QN i j a d Df CE,eo];simp-implicitDefEqProofs only[CE,dF,UR,rn k hn Df,dI nz,Lr,Ul,Uc,ajS,ali,PS,show Ty.mk 3 [Ty.nat,Ty.nat]=rj from rfl,show∀x y,j9 10 [x,y]=some (prT x y)fromλ_ _=>rfl,aey,aeO,akv,o,q,c3,s,t,He,acE,Ay,UH,NI,Hc,S6,Jt,VB];cases hm:gW (Zy b c f) (Xs b c f)with
 |none=>rfl|some r=>rfl
end Go.fN
namespace Go.fN
open Go
structure PfP (k j:Int) (u:Ty) (us:List Tm) (gs:List Fm) (ps:List Pf):Prop where
 s:u.an8<=64
 n:ps.length<=2
 i:0<=j
 ts:∀t∈us,t.ok=true
 fs:∀f∈gs,f.ok=true
 l:∀p∈ps,p.ok=true
 hyp:k=1->u=.z/\us=[]/\gs=[]/\ps=[]
def Pf.okP{k i:Int}{s:Ty}{ts:List Tm}{fs:List Fm}{l:List Pf}(h:(Pf.mk k i s ts fs l).ok=true):PfP k i s ts fs l:=by
 rw[Pf.gR] at h;simp only[gE,kE] at h;obtain⟨⟨⟨f,o⟩,q⟩,t⟩:=h;cases d:Pf.sig k with
 |none=>unfold Pf.node at f;rw[d] at f;cases f
 |some r=>
  obtain⟨A,ty,a,b,c⟩:=r;obtain⟨q1,u,v,w,B,x,j⟩:=jz f d
  have y:c<=2/\(k=1->a=0/\b=0/\c=0/\ty=false):=by
   unfold Pf.sig at d
   repeat' split at d
   all_goals first
    |(cases d;done)
    |(simp only[wc,G7] at d
      obtain⟨rfl,rfl,rfl,rfl,rfl⟩:=d;refine⟨xL,λn=>?_⟩
      first|(refine⟨rfl,rfl,rfl,rfl⟩;done)|omega)
  refine⟨?_,xL,w,o,q,t,λn=>?_⟩
  ·cases ty with
   |true=>exact e8 (x rfl)|false=>rw[j rfl];decide
  ·obtain⟨rfl,rfl,rfl,rfl⟩:=y.2 n;exact⟨j rfl,gj.1 q1,gj.1 u,gj.1 v⟩
def Pf.iD(P:Pf):P.ok=true->P.wt<=65*P.an8:=by
 induction P using Pf.ind with
 |h k i s ts fs l ih=>
  intro d;have b:=Pf.okP d;rw[Pf.jg,Pf.dJ];have j:=xE (f:=Tm.wt) (g:=Tm.an8) (c:=65) (l:=ts) λx a=>x.iD (b.ts x a);have n:=xE (f:=Fm.wt) (g:=Fm.an8) (c:=65) (l:=fs) λx a=>x.iD (b.fs x a);have o:=xE (f:=Pf.wt) (g:=Pf.an8) (c:=65) (l:=l) λx a=>ih x a (b.l x a);have:=b.s;omega
end Go.fN
set_option maxRecDepth 20000
set_option maxHeartbeats 2000000
namespace Go.fN
open Go
def vC{k i:Int}{s:Ty}{ts:List Tm}{fs:List Fm}{l:List Pf}(hn:Pf.node k i s ts.length fs.length l.length=true)(a:∀t∈ts,t.ok=true/\t.an8<=4096)(b:∀f∈fs,f.ok=true/\f.an8<=4096)(c:∀p∈l,p.ok=true/\p.small=true):(Pf.mk k i s ts fs l).ok=true/\(Pf.mk k i s ts fs l).small=true:=by
 rw[Pf.gR,Pf.zW];simp only[gE,kE,Ww,VP,oz];exact⟨⟨⟨⟨hn,λt h=>(a t h).1⟩,λf h=>(b f h).1⟩,λp h=>(c p h).1⟩,⟨λt h=>(a t h).2,λf h=>(b f h).2⟩,λp h=>(c p h).2⟩
def L1{P:Pf}(h:P.ok=true/\P.small=true)(hn:P.an8<=16384):P.err=0:=by
 unfold Pf.err;rw[dO h.1,dO ⟨h.2,hn⟩]
def zA{α:Type}{p:α->Prop}:∀x∈([]:List α),p x:=λx h=>by simp at h
def Gj{α:Type}{p:α->Prop}{a:α}(h:p a):∀x∈[a],p x:=λx b=>by rw[EU] at b;subst b;exact h
def rz{α:Type}{p:α->Prop}{a b:α}(h:p a)(d:p b):∀x∈[a,b],p x:=λx c=>by
 simp only[lX,ve,r8] at c;rcases c with rfl|rfl
 ·exact h
 ·exact d
def Bu(P:Pf):Prop:=P.ok=true/\P.small=true
def TZ(f:Fm):Prop:=f.ok=true/\f.an8<=4096
def Okt(t:Tm):Prop:=t.ok=true/\t.an8<=4096
def rN{t:Tm}(h:Okt t):Bu (mE t):=vC rfl (Gj h) zA zA
def rT{i:Nat}:Bu (N7 i):=vC (by simp[Pf.node,Pf.sig,Ty.pW]) zA zA zA
def yG{s:Fm}{t:Tm}{p:Pf}(h:TZ s)(a:Okt t)(b:Bu p):Bu (.mk 10 0 .z [t] [s] [p]):=vC rfl (Gj a) (Gj h) (Gj b)
def xB{f:Fm}{p q:Pf}(h:TZ f)(a:Bu p)(b:Bu q):Bu (FY f p q):=vC rfl zA (Gj h) (rz a b)
def A4{p q:Pf}(a:Bu p)(b:Bu q):Bu (R5 p q):=vC rfl zA zA (rz a b)
def T0{p q:Pf}(a:Bu p)(b:Bu q):Bu (ago p q):=vC rfl zA zA (rz a b)
def UB{p:Pf}(a:Bu p):Bu (ah1 p):=vC rfl zA zA (Gj a)
def TP{p:Pf}(a:Bu p):Bu (afs p):=vC rfl zA zA (Gj a)
def Uz{t:Tm}{p:Pf}(h:Okt t)(a:Bu p):Bu (.mk 9 0 .z [t] [] [p]):=vC rfl (Gj h) zA (Gj a)
def N6{k:Int}(a:k=16\/k=17){f:Fm}{t:Tm}{p q:Pf}(h:TZ f)(b:Okt t)(c:Bu p)(d:Bu q):Bu (.mk k 0 .z [t] [f] [p,q]):=by
 rcases a with rfl|rfl<;>exact vC rfl (Gj b) (Gj h) (rz c d)
def DA{s:Ty}(hs:s.err=0){p:Pf}(h:Bu p):Bu (.mk 8 0 s [] [] [p]):=vC (by simp[Pf.node,Pf.sig,hs]) zA zA (Gj h)
def I1{g:List Ty}{t:Tm}{s:Ty}(h:dQ g t s)(hn:t.an8<=4000):Okt t:=⟨h.ok,xL⟩
def w4{g:List Ty}{t:Tm}(h:dQ g t .nat)(hn:t.an8<=4000):TZ (oU t):=⟨(mL h).ok,by
 have:=Tm.kH t 0 1
 simp only[Fm.dJ,eb,this];rw[show v0.an8=1 from rfl];omega⟩
def Fi{g:List Ty}{a b:Tm}(h:dQ g a .nat)(c:dQ g b .nat)(hn:a.an8+b.an8<=4000):TZ (qa a b):=⟨(ic.eq h c).ok,by simp only[Fm.dJ,eb];omega⟩
def Es{g:List Ty}{s:Ty}(hs:s.err=0){t:Tm}(h:dQ (g++[s]) t .nat)(hn:t.an8<=4000):TZ (.mk 4 s [] [oU t]):=⟨(ic.q (g:=g) (.inl rfl) hs (mL h)).ok,by
 have:=Tm.kH t 0 1
 simp only[Fm.dJ,eb,this];rw[show v0.an8=1 from rfl];omega⟩
def SX:v0.an8=1:=rfl
def nv1:v1.an8=1:=rfl
def nv2:v2.an8=1:=rfl
def nv3:v3.an8=1:=rfl
def A6{f:Fm}{P:Pf}(h:TZ f)(a:Bu P)(hn:P.an8<=16000):gW f P=some (f,P,0):=by
 have w:=f.iD h.1;have b:=P.iD a.1;have e:=h.2;rw[acy xL xL,dO ⟨Fm.ng h.1 h.2,L1 a xL⟩]
section
variable{b c f h:Tm}
def Mg(a:dQ [] f (.fn .nat .nat))(hn:f.an8<=1000):TZ (CI f)/\Bu (we f)/\(we f).an8<=16000:=by
 have t1:dQ [.nat] (eH f v0) .nat:=.app (a.cls _) (gz (g:=[]))
 have n1:(eH f v0).an8<=4000:=by simp only[eH,Tm.dJ,eb,SX];omega
 exact⟨Es (g:=[]) Ty.fi t1 n1,DA Ty.fi (yG (w4 t1 n1) (I1 t1 n1) (rN (I1 t1 n1))),by simp only[Pf.dJ,Fm.dJ,Tm.dJ,Tm.kH,eH,eb,SX];omega⟩
def afB(d:dQ [] b .nat)(l:dQ [] f (.fn .nat (.fn .nat .nat)))(q:b.an8<=1000)(hn:f.an8<=1000):TZ (ZZ b f)/\Bu (Zz b f)/\(Zz b f).an8<=16000:=by
 have R:∀{g:List Ty} {n:Tm},dQ g n .nat->dQ g (AY b f n) .nat:=λh=>.rB Ty.fi (d.cls _) (l.cls _) h;have A:∀{g:List Ty} {x y:Tm},dQ g x .nat->dQ g y .nat->dQ g (uq f x y) .nat:=λh o=>.app (.app (l.cls _) h) o
 have n1:∀{n:Tm},n.an8<=10->(AY b f n).an8<=4000:=λ{n} h=>by rw[Tm.dJ];simp only[eb];omega
 have n2:∀{x y:Tm},x.an8<=10->y.an8<=10->(uq f x y).an8<=1500:=λ{x y} h o=>by simp only[eH,Tm.dJ,eb];omega
 have a0:dQ [.nat] v0 .nat:=gz (g:=[]);have j:dQ [.nat,.nat] v1 .nat:=kW (g:=[]);have a:dQ [.nat,.nat] v0 .nat:=gz (g:=[.nat]);have a2:dQ [.nat,.nat,.nat] v2 .nat:=uc (g:=[]);have k:dQ [.nat,.nat,.nat] v1 .nat:=kW (g:=[.nat]);have c:dQ [.nat,.nat,.nat] v0 .nat:=gz (g:=[.nat,.nat])
 refine⟨Es (g:=[]) Ty.fi (R a0) (n1 Df),DA Ty.fi (N6 (.inl rfl) (w4 (R a0) (n1 Df)) (I1 a0 Df) (yG (w4 (R (g:=[]) .zero) (n1 Df)) (I1 d xL) (rN (I1 d xL)))
  (A4 (rT (i:=0)) (yG (w4 (R (.succ j)) (n1 Df)) (I1 (A j a) (by have:=n2 (x:=v1) (y:=v0) Df Df;omega)) (xB (Fi (A a2 k) (A a2 c) ?_) (rT (i:=0)) (rN (I1 (A j a) ?_)))))),?_⟩
 ·have:=n2 (x:=v2) (y:=v1) Df Df;have:=n2 (x:=v2) (y:=v0) Df Df;omega
 ·have:=n2 (x:=v1) (y:=v0) Df Df;omega
 ·simp only[Pf.dJ,Fm.dJ,Tm.dJ,Tm.kH,eH,gJ,iO,eb,SX,nv1,nv2,nv3];omega
def afp(a:dQ [] b .nat)(j:dQ [] f (.fn .nat (.fn .iB (.fn .nat .nat))))(r:b.an8<=1000)(hn:f.an8<=1000):TZ (ZD b f)/\Bu (Yn b f)/\(Yn b f).an8<=16000:=by
 have R:∀{g:List Ty} {n:Tm},dQ g n .iB->dQ g (zu b f n) .nat:=λh=>.fold Ty.fi (a.cls _) (j.cls _) h;have A:∀{g:List Ty} {x y z:Tm},dQ g x .nat->dQ g y .iB->dQ g z .nat->dQ g (HL f x y z) .nat:=λh k l=>.app (.app (.app (j.cls _) h) k) l
 have n1:∀{n:Tm},n.an8<=10->(zu b f n).an8<=4000:=λ{n} h=>by rw[Tm.dJ];simp only[eb];omega
 have n2:∀{x y z:Tm},x.an8<=10->y.an8<=10->z.an8<=10->(HL f x y z).an8<=1500:=λ{x y z} h k l=>by simp only[eH,Tm.dJ,eb];omega
 have a0:dQ [.iB] v0 .iB:=gz (g:=[]);have c:dQ [.nat,.iB,.nat] v2 .nat:=uc (g:=[]);have d:dQ [.nat,.iB,.nat] v1 .iB:=kW (g:=[.nat]);have o:dQ [.nat,.iB,.nat] v0 .nat:=gz (g:=[.nat,.iB]);have c3:dQ [.nat,.iB,.nat,.nat] v3 .nat:=XU (g:=[]);have q:dQ [.nat,.iB,.nat,.nat] v2 .iB:=uc (g:=[.nat]);have s:dQ [.nat,.iB,.nat,.nat] v1 .nat:=kW (g:=[.nat,.iB]);have t:dQ [.nat,.iB,.nat,.nat] v0 .nat:=gz (g:=[.nat,.iB,.nat])
 refine⟨Es (g:=[]) Ty.mD (R a0) (n1 Df),DA Ty.mD (N6 (.inr rfl) (w4 (R a0) (n1 Df)) (I1 a0 Df) (yG (w4 (R (g:=[]) .nil) (n1 Df)) (I1 a xL) (rN (I1 a xL)))
  (A4 (rT (i:=0)) (yG (w4 (R (.cons c d)) (n1 Df)) (I1 (A c d o) ?_) (xB (Fi (A c3 q s) (A c3 q t) ?_) (rT (i:=0)) (rN (I1 (A c d o) ?_)))))),?_⟩
 ·have:=n2 (x:=v2) (y:=v1) (z:=v0) Df Df Df;omega
 ·have:=n2 (x:=v3) (y:=v2) (z:=v1) Df Df Df;have:=n2 (x:=v3) (y:=v2) (z:=v0) Df Df Df;omega
 ·have:=n2 (x:=v2) (y:=v1) (z:=v0) Df Df Df;omega
 ·simp only[Pf.dJ,Fm.dJ,Tm.dJ,Tm.kH,eH,gJ,iO,eb,SX,nv1,nv2,nv3];omega
def agd(c:dQ [] f (.fn .nat .nat))(b:dQ [] h (.fn .nat .nat))(hn:f.an8<=900)(d:h.an8<=900){x y:Pf}(j:Bu x)(l:Bu y)(o:x.an8<=3000)(q:y.an8<=3000):TZ (ZA f h)/\Bu (ZI f x h y)/\(ZI f x h y).an8<=16000:=by
 have A:∀{g:List Ty} {x:Tm},dQ g x .nat->dQ g (eH h (eH f x)) .nat:=λk=>.app (b.cls _) (.app (c.cls _) k)
 have n1:∀{n:Tm},n.an8<=10->(eH h (eH f n)).an8<=4000:=λ{n} h=>by simp only[eH,Tm.dJ,eb];omega
 have n2:∀{n:Tm},n.an8<=10->(eH h n).an8<=2000:=λ{n} h=>by simp only[eH,Tm.dJ,eb];omega
 have a0:dQ [.nat] v0 .nat:=gz (g:=[]);have a2:dQ [.nat,.nat,.nat] v2 .nat:=uc (g:=[]);have r:dQ [.nat,.nat] v1 .nat:=kW (g:=[]);have a:dQ [.nat,.nat] v0 .nat:=gz (g:=[.nat]);refine⟨Es (g:=[]) Ty.fi (A a0) (n1 Df),DA Ty.fi (A4 (Uz (I1 a0 Df) j) (A4 (Uz (I1 a0 Df) l) (yG (w4 (A a2) (n1 Df)) (I1 a0 Df) (xB (Fi r (.app (b.cls _) a) ?_) (rT (i:=1)) (rT (i:=0)))))),?_⟩
 ·have:=n2 (n:=v0) Df;rw[nv1];omega
 ·simp only[Pf.dJ,Fm.dJ,Tm.dJ,Tm.kH,eH,gJ,iO,eb,SX,nv1,nv2,nv3];omega
def ahZ(j:dQ [] b .nat)(k:dQ [] c .nat)(l:dQ [] f (.fn .nat (.fn .nat .nat)))(q:b.an8<=400)(r:c.an8<=400)(hn:f.an8<=400):TZ (Zy b c f)/\Bu (Xs b c f)/\(Xs b c f).an8<=16000:=by
 have R:∀{g:List Ty} {n:Tm},dQ g n .nat->dQ g (oL b c f n) rj:=λh=>BR j k l h;have A:∀{g:List Ty} {x y:Tm},dQ g x .nat->dQ g y .nat->dQ g (uq f x y) .nat:=λh s=>.app (.app (l.cls _) h) s
 have n1:∀{n:Tm},n.an8<=10->(oL b c f n).an8<=1600:=λ{n} h=>by simp only[eH,Tm.dJ,eb,SX];omega
 have t:∀{n:Tm},n.an8<=10->(NT (oL b c f n)).an8<=4000:=λ{n} h=>by
  have:=n1 h;have e:=Tm.kH (oL b c f n) 0 1;generalize oL b c f n=z at*;simp only[Fm.dJ,Tm.dJ,eb,SX,e];omega
 have a:∀{g:List Ty} {n:Tm},dQ g n .nat->n.an8<=10->TZ (NT (oL b c f n)):=λh hn=>⟨(Fq (R h)).ok,by have:=t hn;omega⟩
 have o:∀{n:Tm},n.an8<=10->(vG (oL b c f n)).an8<=4000:=λ{n} h=>by
  have:=n1 h;rw[Tm.dJ];simp only[eb];omega
 have a0:dQ [.nat] v0 .nat:=gz (g:=[]);have u:dQ [.nat,.nat] v1 .nat:=kW (g:=[]);have d:dQ [.nat,rj] v0 rj:=gz (g:=[.nat]);have v:dQ [.nat,rj] v1 .nat:=kW (g:=[]);have w:dQ [.nat,rj,.nat] v2 .nat:=uc (g:=[]);have q1:dQ [.nat,rj,.nat] v1 rj:=kW (g:=[.nat]);have q0:dQ [.nat,rj,.nat] v0 .nat:=gz (g:=[.nat,rj])
 have B:(uq f (vG v1) (wV v1)).an8<=600:=by simp only[eH,Tm.dJ,eb,nv1];omega
 have w0:(uq f (vG v0) (wV v0)).an8<=600:=by simp only[eH,Tm.dJ,eb,SX];omega
 have C:(uq f v0 (wV v1)).an8<=600:=by simp only[eH,Tm.dJ,eb,SX,nv1];omega
 have D:(uq f (vG (oL b c f v2)) v0).an8<=2400:=by
  have:=n1 (n:=v2) Df;generalize oL b c f v2=z at*;simp only[eH,Tm.dJ,eb,SX];omega
 have F:(W3 f v0).an8<=1000:=by simp only[eH,Tm.dJ,eb,SX];omega
 have G:(prT b c).an8<=2000:=by simp only[Tm.dJ,eb];omega
 refine⟨Es (g:=[]) Ty.fi (.fst (R a0)) (o Df),DA Ty.fi (A4 (N6 (.inl rfl) (a a0 Df) (I1 a0 Df) (yG (a (g:=[]) (n:=iO) .zero Df) (I1 (OD j k) xL) (T0 (rN (I1 j xL)) (rN (I1 k xL))))
  (A4 (rT (i:=0)) (yG (a (n:=gJ v1) (.succ u) Df) (I1 (Hx l d) xL) (T0
   (xB (Fi (.snd q1) q0 (by simp only[Tm.dJ,eb,SX,nv1];omega)) (TP (rT (i:=0))) (rN (I1 (dQ.snd d) Df)))
   (xB (Fi (A (.fst q1) (.snd q1)) (A (.fst (R w)) q0) xL) (TP (rT (i:=0))) (xB (Fi (A (.fst q1) (.snd q1)) (A q0 (.snd q1)) xL) (UB (rT (i:=0))) (rN (I1 (A (.fst d) (.snd d)) xL))))))))
  (yG (w4 (.fst (R v)) (o Df)) (I1 (dQ.fst d) Df) (UB (rT (i:=0))))),?_⟩
 simp only[Pf.dJ,Fm.dJ,Tm.dJ,Tm.kH,eH,gJ,iO,eb,SX,nv1,nv2,nv3];omega
end
end Go.fN
set_option maxRecDepth 20000
set_option maxHeartbeats 2000000
namespace Go.fN
open Go
def abU{x:Tm}(h:x.err=0):pY x x 1000=some 0:=by
 have w:=x.iD (Tm.hD h).1;have n:=(Tm.hD h).2;unfold pY;obtain⟨r,c,d⟩:=BL (a:=x) (b:=x) xL;rw[zC xL,h,dF,dI nz,dF,dI nz,c,dF,dO (d.2 rfl)]
def EF{α:Type}{E:α->α->Option Int}{M:List α}:∀(l:List α) (i:Nat),M.drop i=l->(∀x∈l,E x x=some 0)->eV (λ(c:Int) (d:α)=>(λ(_:Unit)=>dE (dX M c) λb=>dE (E d b) λa=>if(eD a 0) then(some (.ret a))else(some ((.next ()):fV Unit Int)))) l i ()=some (.inl ())
 |[],i,_,_=>by simp|x::l,i,h,f=>by
  have hi:M[i]?=some x:=by
   have:=Vz (xs:=M) (i:=i) (j:=0);rw[h] at this;simpa using this.symm
  have k:M.drop (i+1)=l:=by rw[<-List.drop_drop,h];rfl
  rw[fm,jR,hi];simp only[dF,f x LA,dI nz,fy];exact EF l (i+1) k (λy n=>f y (by simp[n]))
def P8:∀(n:Nat) (a:Fm),a.an8<=n->a.an8<=100000->a.ok=true->Xe a->l' n a a=some 0:=by
 intro n
 induction n with
 |zero=>intro a h;have:=a.eE;omega
 |succ n ih=>
  intro a hn f i j;cases a with
  |mk k s ts l=>
   cases j with
   |mk c d=>
   rw[Fm.dJ] at hn f;obtain⟨o,a2,a3⟩:=Fm.qt i;have q:=Tm.fF ts;have r:=Fm.fF l
   have z:¬eD k k=true:=by rw[er];simp
   have t1:=EF (E:=λx y=>pY x y 1000) (M:=ts) ts 0 rfl (λx b=>abU (c x b).err)
   have t2:=EF (E:=λx y=>l' n x y) (M:=l) l 0 rfl (λx b=>by
    have t:=ew Fm.an8 b
    exact ih x xL xL (a3 x b) (d x b))
   rw[l'];simp only[d_,Fm.eF,Fm.fw,Fm.ez,Fm.h8,dI z];rw[pf xL,dF,(Ty.kV s s).2 rfl,dI Df,ef xL,dY];rw[t1,dF,eo,ef xL,dY,t2,dF,eo]
def FM{g:List Ty}{a:Fm}(b:Hg g a)(c:g.length<=1000000):l9 a a=some 0:=by
 have d:=b.wt;have n1:=b.an8;unfold l9;rw[pZ xL,b.err,dF,dI nz,dF,dI nz,P8 FU a (by rw[fI];omega) xL b.ok (b.nmF c)];rfl
def IQ{L:List Fm}{P:Pf}{p:dP}{n:Nat}{f:Fm}{u:Int}{g:List Ty}(b:(if ee P.an6 8 then kp n L P p else(if ee P.an6 10 then jO n L P p else(if ee P.an6 18 then kn L P p else none)))=some (⟨f,u⟩,0))(a:Hg g f)(hg:g.length<=16):
  fj (n+1) L P p=some (⟨f,if f.has then u else 0⟩,0):=by
 have w:=a.wt;rw[fj,b,dN,dI nz,pZ (by show f.wt<=_;omega),dF,a.err,dI nz,d_,E1 (by show f.wt<=_;omega) (a.aoa hg xL),a.err,dI Df,dN];cases f.has<;>rfl
def aez{g:List Ty}{t:Tm}(a:dQ g t .nat)(hn:t.an8<=2000):Hg g (qa t t):=by
 have h:ic g (qa t t):=.eq a a;exact⟨Fm.ng h.ok (by rw[Fm.dJ];simp only[eb];omega),h⟩
def ajQ{g:List Ty}{t:Tm}(a:dQ g t .nat)(hn:t.an8<=2000)(b:iz g)(hg:g.length<=16){p:dP}(c:p.an_=g.map tf){L:List Fm}{n:Nat}:fj (n+1) L (mE t) p=some (⟨qa t t,0⟩,0):=by
 have h:=IQ (L:=L) (P:=mE t) (p:=p) (n:=n) (f:=qa t t) (u:=0) (g:=g) (by
  show kn L (mE t) p=_;unfold kn;have d:nU t g 1=0:=Bj a b xL;rw[show dX (mE t).ea 0=some t from rfl,dF,c,xU a.ok b xL,d,dF,dI nz]
  rfl) (aez a hn) hg
 rw[h,show(qa t t).has=false from Fm.has_eq _ _ _];rfl
def Z5{g:List Ty}{t:Tm}(a:dQ g t .nat)(hn:t.an8<=2000)(d:iz g)(hg:g.length<=16){p:dP}(f:p.an_=g.map tf){L:List Fm}{n:Nat}:gv (n+2) L (mE t) p (qa v0 (t.up 0 1)) t=some (⟨qa t t,0⟩,0):=by
 have c:Hg (g++[.nat]) (qa v0 (t.up 0 1)):=by
  have h:=ZL a;have e:=Tm.kH t 0 1;exact⟨Fm.ng h.ok (by rw[Fm.dJ];simp only[eb,e];rw[show v0.an8=1 from rfl];omega),h⟩
 have i:=Ys (t:=t) a;have b:=aez a hn
 have j:ll (qa v0 (t.up 0 1)) t=(qa t t,0):=by
  unfold ll;rw[i,dI (by have:=b.an8;omega)]
 rw[gv,ajQ a hn d hg f,dN,dI nz,Ka c.err (Tm.ng a.ok xL) (c.ty.aoa _ (by have:=c.an8;simp;omega)) (a.aoa _ xL),j,dN,dI nz];show dE (l9 (qa t t) (qa t t)) _=_;rw[FM b xL,dF]
def kex{g:List Ty}{t:Tm}(c:dQ g t .nat)(hn:t.an8<=2000)(k:iz g)(hg:g.length<=16){p:dP}(q:p.an_=g.map tf){L:List Fm}{n:Nat}:∃m:Nat,fj (n+4) L (qg t t (mE t)) p=some (⟨oU t,(m:Int)⟩,0)/\m<4294967296/\∀j:Nat,m.testBit j=true↔0<t.aoc j:=by
 have i:Hg g (oU t):=by
  have o:=w4 c xL;exact⟨Fm.ng o.1 o.2,mL c⟩
 have hw:=t.iD c.ok;have l:∀j:Int,32<=j->t.aoc j=0:=λj r=>c.C_ j xL;obtain⟨m,f1,f2,f3⟩:=I4 FU t 0 0 (by rw[fI];omega) xL c.ok (c.aoa _ xL) xL xL Df (λj r=>by rw[sx];exact l j r)
 have d:pt t=some (m:Int):=by
  unfold pt sU;rw[show(0:Int)=((0:Nat):Int)from rfl] at*;rw[f1];rfl
 refine⟨m,?_,f2,λj=>by rw[f3];simp⟩
 have h:=IQ (L:=L) (P:=qg t t (mE t)) (p:=p) (n:=n+3) (f:=oU t) (u:=(m:Int)) (g:=g) (by
  show jO (n+2+1) L (qg t t (mE t)) p=_;rw[jO];have s:fc FU (g.map tf) (oU t)=some ((oU t).uQ g):=Ei _ i.ok FU (by rw[fI];have:=i.an8;omega) g k (by have:=i.an8;omega) i.an8;have v:(oU t).uQ g=0:=om (mL c) k (by have:=i.an8;omega)
  have w:eN FU (g.map tf) t=some (tf .nat,0):=by
   rw[sV c.ok k xL,ru c k xL,qV]
  rw[show dX (qg t t (mE t)).fM 0=some (oU t)from rfl,dF,show dX (qg t t (mE t)).ea 0=some t from rfl,dF,dI (show¬ee (qg t t (mE t)).an6 14=true fromλh=>by cases h),q,s,dF,v,dI nz,dI (show¬eD (oU t).an6 5=true fromλh=>by cases h),w,dN,dI nz,show lx (tf .nat) (oU t).dL=some true by kernel_rfl,dF,dO rfl,
   show dX (qg t t (mE t)).an7 0=some (mE t)from rfl,dF,show dX (oU t).an7 0=some (qa v0 (t.up 0 1))from rfl,dF,Z5 c hn k hg q,dN,dI nz,d,dF]
  show some (dH.mk (oU t) (Fl .u32 0 (m:Int)),(0:Int))=_;have:=NS (a:=0) (b:=m) xL f2
  rw[show(0:Int)=((0:Nat):Int)from rfl,this,Nat.zero_or]) i hg
 rw[h,show(oU t).has=true by rw[Fm.Mm];rfl,dO rfl]
def WE{a k:Nat}(b:k<=32):Zt .u32 (a:Int) (k:Int)=((a/2^k:Nat):Int):=by
 unfold Zt;rw[show IntKind.u32.bits=32 from rfl,Cm,Xr b];rw[show((2:Int)^k)=((2^k:Nat):Int) by push_cast;rfl];rw[Int.fdiv_eq_ediv_of_nonneg _ (aj' _)];rfl
def acf:lu 0=some []:=by decide+kernel
def aka{f:Tm}(l:dQ [] f (.fn .nat .nat))(hn:f.an8<=1000):rL [] ⟨[],[]⟩ (we f)=some (⟨CI f,[]⟩,0):=by
 obtain⟨o1,o2,A⟩:=Mg l hn;have o:=L1 o2 xL;have r:=(we f).iD o2.1;have b:dQ ([]++[.nat]) (eH f v0) .nat:=.app (l.cls _) gz
 have c:(eH f v0).an8<=2000:=by simp only[eH,Tm.dJ,eb];rw[show v0.an8=1 from rfl];omega
 have hF:Hg [] (CI f):=⟨Fm.ng o1.1 o1.2,.q (.inl rfl) Ty.fi (mL b)⟩
 have t:iz ([]++[Ty.nat]):=λs hs=>by
  obtain rfl:s=Ty.nat:=by simpa using hs
  exact Ty.fi
 obtain⟨k,v⟩:∃k,FU=(k+4)+1+1:=⟨FU-6,by rw[fI]⟩;obtain⟨m,w,B,x⟩:=kex (p:=dP.mk (eC.mk 1 0) [tf .nat] []) b c t LA rfl (L:=[]) (n:=k)
 have hm:m/2^1=0:=by
  refine Nat.eq_of_testBit_eq λi=>?_;rw[ai8,Nat.zero_testBit,<-ahh,x];have:(eH f v0).aoc ((i+1:Nat):Int)=0:=b.C_ _ Xw;omega
 have hi:fj FU [] (we f) (dP.mk (eC.mk 0 0) [] [])=some (⟨CI f,0⟩,0):=by
  rw[v]
  have h:=IQ (L:=[]) (P:=we f) (p:=dP.mk (eC.mk 0 0) [] []) (n:=k+4+1) (f:=CI f) (u:=0) (g:=[]) (by
   rw[dO (show ee (we f).an6 8=true from rfl),kp]
   have hw:jP (dP.mk (eC.mk 0 0) [] []) [(we f).dL]=some (dP.mk (eC.mk 1 0) [tf .nat] []):=by
    unfold jP;have:=AP (g:=[]) (s:=.nat) Ty.fi LA;rw[show(we f).dL=Ty.nat from rfl];simp only[mq] at this;rw[this];rfl
   rw[show jT (dP.mk (eC.mk 0 0) [] []).k_ 1 0=some 0 from rfl,dF,dI nz,show dX (we f).an7 0=some (qg (eH f v0) (eH f v0) (mE (eH f v0)))from rfl,dF,hw,dF,w,dN,dI nz,d_,dI (show¬ee (we f).an6 12=true fromλh=>by cases h)]
   have y:iy (m:Int) 1=some 0:=by
    unfold iy;have:=WE (a:=m) (k:=1) xL;rw[show Ml 1=true by rfl,dY,show(1:Int)=((1:Nat):Int)from rfl,this,hm];rfl
   show dE (lE 4 (we f).dL (oU (eH f v0))) (λd=>dE (iy (m:Int) 1) λj=>some (dH.mk d j,(0:Int)))=_
   rw[show lE 4 (we f).dL (oU (eH f v0))=some (CI f)from rfl,dF,y,dF]) hF LA
  rw[h];cases (CI f).has<;>rfl
 unfold rL;rw[show rP [] ⟨[],[]⟩=some 0 by kernel_rfl,dF,dI nz,Aa xL,o,dF,dI nz,show yd=some ()from rfl,dF,show ur ⟨[],[]⟩=some (dP.mk (eC.mk 0 0) [] []) by kernel_rfl,dF,hi,dN,dI nz,B9 hF.err (hF.aoa LA xL),dF,acf,dF]
def tmT{g:List Ty}(hg:g.length<=10)(h:∀s∈g,s=.nat\/s=.iB)(k:Nat)(n:k<=2){d:eu}(i:d.wf):∃x b,gH FU d g .nat (k:Int)=some (x,b)/\b.wf/\dQ g x .nat/\x.an8<=200:=by
 have a:BN 1 g:=⟨λs hs=>by
  rcases h s hs with rfl|rfl
  ·exact⟨Ty.fi,Df⟩
  ·exact⟨Ty.mD,Df⟩⟩
 have e:(k:Int).toNat=k:=LA
 obtain⟨x,b,j,l,f⟩:=RP 1 xL xL FU (k:Int) g .nat d (by rw[fI,e,Ty.hZ];omega) xL (by rw[Ty.hZ];omega) (by rw[e,Ty.hZ];omega) a Ty.fi (by rw[Ty.hZ];omega) i;refine⟨x,b,j,l,f.ty,?_⟩;have:=f.an8;rw[e,Ty.hZ] at this
 have c:k=0\/k=1\/k=2:=xL
 rcases c with rfl|rfl|rfl<;>simp[tb] at this<;>omega
def Ey{d:eu}(b:d.wf):∃x a,py d=some (x,a)/\a.wf/\dQ [] x .nat/\x.an8<=200:=by
 obtain⟨x,a,c,f,h,i⟩:=tmT (g:=[]) LA LA 2 xL b;refine⟨x,a,?_,f,h,i⟩;unfold py;rw[show oE=some .nat from rfl,dF];rw[show gH FU d [] .nat 2=_ from c,dN]
def Uk{d:eu}(b:d.wf):∃x a,uG d=some (x,a)/\a.wf/\dQ [] x (.fn .nat .nat)/\x.an8<=201:=by
 obtain⟨x,a,c,f,h,i⟩:=tmT (g:=[.nat]) LA LA 2 xL b;refine⟨.mk 2 0 .nat [x],a,?_,f,.lam vi h,by simp only[Tm.dJ,eb];omega⟩;unfold uG;rw[show oE=some .nat from rfl,dF,dF,dF];rw[show gH FU d [.nat] .nat 2=_ from c,dN];rfl
def R9:Tm:=wx .nat (wx .nat (uq NV (uq QF (zc 1) (zc 0)) (uq QF (zc 0) (zc 1))))
def wK:o5=some R9:=by kernel_rfl
def LH(g:List Ty):dQ g R9 (.fn .nat (.fn .nat .nat)):=
 .lam yF (.lam vi (.app (.app (Bb _) (.app (.app (Eb _) kW) gz)) (.app (.app (Eb _) gz) kW)))
def NY:R9.an8=53:=Df
def A8{x:Tm}(h:dQ [.nat,.nat] x .nat):dQ [] (.mk 2 0 .nat [.mk 2 0 .nat [x]]) (.fn .nat (.fn .nat .nat)):=.lam yF (.lam (g:=[.nat]) vi h)
def Jh{x:Tm}(h:x.an8<=300):(Tm.mk 2 0 .nat [.mk 2 0 .nat [x]]).an8<=400:=by simp only[Tm.dJ,eb];omega
def Qw{d:eu}(h:d.wf):∃x b,so d=some (x,b)/\b.wf/\dQ [] x (.fn .nat (.fn .nat .nat))/\x.an8<=400:=by
 have w0:dQ [.nat,.nat] (zc 0) .nat:=gz (g:=[.nat]);have c:dQ [.nat,.nat] (zc 1) .nat:=kW (g:=[]);have q0:fE 0=some (zc 0):=rfl;have q1:fE 1=some (zc 1):=rfl;have i:∀x,gU .nat x=some (.mk 2 0 .nat [x]):=λ_=>rfl;have j:∀x,uJ x=some (.mk 5 0 .z [x]):=λ_=>rfl;obtain⟨k,d1,l,t,u,a⟩:=qF d h 6 xL xL;unfold so;rw[show oE=some .nat from rfl,dF,l,dN];simp only[gQ,q0,q1,dF,i,j]
 split
 ·exact⟨_,_,rfl,a,A8 (.succ w0),Df⟩
 split
 ·rw[Eh,dF,yw Df Df Df,dF];exact⟨_,_,rfl,a,A8 (.app (.app (Eb _) c) w0),Df⟩
 split
 ·obtain⟨m,d2,n,o,v,q⟩:=qF d1 a 3 xL xL;obtain⟨y,r,f⟩:=A3 m o xL;have w:=(f []).2;have A:=y.iD (f []).1.ok;rw[wK,dF,n,dN,r,dF,yw Df Df xL,dF];refine⟨_,_,rfl,q,A8 (.app (.app (LH _) w0) (f _).1),Jh ?_⟩;simp only[Tm.dJ,eb,NY,show(zc 0).an8=1 from rfl];omega
 split
 ·exact⟨_,_,rfl,a,A8 (.succ (.succ c)),Df⟩
 split
 ·obtain⟨x,b,s,a2,a3,a4⟩:=tmT (g:=[.nat,.nat]) LA LA 1 xL a;rw[show gH FU d1 [.nat,.nat] .nat 1=_ from s,dN];exact⟨_,_,rfl,a2,A8 a3,Jh xL⟩
 ·rw[wZ,dF,yw Df Df Df,dF];exact⟨_,_,rfl,a,A8 (.app (.app (Bb _) w0) c),Df⟩
def Yc:(Ty.fn .nat (.fn .iB (.fn .nat .nat))).err=0:=Df
def ab7:(Ty.fn .iB (.fn .nat .nat)).err=0:=Df
def Hr{x:Tm}(h:dQ [.nat,.iB,.nat] x .nat):dQ [] (.mk 2 0 .nat [.mk 2 0 .iB [.mk 2 0 .nat [x]]]) (.fn .nat (.fn .iB (.fn .nat .nat))):=.lam Yc (.lam (g:=[.nat]) ab7 (.lam (g:=[.nat,.iB]) vi h))
def RM{x:Tm}(h:x.an8<=300):(Tm.mk 2 0 .nat [.mk 2 0 .iB [.mk 2 0 .nat [x]]]).an8<=400:=by simp only[Tm.dJ,eb];omega
def Nd{d:eu}(f:d.wf):∃x b,pk d=some (x,b)/\b.wf/\dQ [] x (.fn .nat (.fn .iB (.fn .nat .nat)))/\x.an8<=400:=by
 have w0:dQ [.nat,.iB,.nat] (zc 0) .nat:=gz (g:=[.nat,.iB]);have c:dQ [.nat,.iB,.nat] (zc 2) .nat:=uc (g:=[]);have q0:fE 0=some (zc 0):=rfl;have h:fE 2=some (zc 2):=rfl;have i:∀s x,gU s x=some (.mk 2 0 s [x]):=λ_ _=>rfl;have j:∀x,jb 5 [x]=some (.mk 5 0 .z [x]):=λ_=>rfl;obtain⟨k,d1,l,o,q,a⟩:=qF d f 4 xL xL;unfold pk;rw[show oE=some .nat from rfl,dF,q0,dF,j,dF,d_,l,dN];simp only[gQ,q0,h,dF,i,Ty.jQ,Tm.jQ,show pA=some .iB from rfl]
 split
 ·rw[wZ,dF,yw Df Df Df,dF];exact⟨_,_,rfl,a,Hr (.app (.app (Bb _) w0) c),Df⟩
 split
 ·rw[wK,dF,yw Df Df Df,dF];exact⟨_,_,rfl,a,Hr (.app (.app (LH _) w0) c),Df⟩
 split
 ·obtain⟨x,b,n,a2,a3,a4⟩:=tmT (g:=[.nat,.iB,.nat]) LA LA 1 xL a;rw[show gH FU d1 [.nat,.iB,.nat] .nat 1=_ from n,dN];exact⟨_,_,rfl,a2,Hr a3,RM xL⟩
 ·exact⟨_,_,rfl,a,Hr (.succ w0),Df⟩
def XX:tL=some true:=by decide+kernel
def ad'{e:Int}(h:mX e):hV e=some true:=by rcases h with rfl|rfl|rfl<;>decide
def aci:hV 0=some false:=Df
def Lz{f:Fm}{P:Pf}(b:TZ f)(a:ic [] f)(c:Bu P)(hn:P.an8<=16000)(h:Tk [] [] [] P f):jB f P=some true:=by
 have w:=f.iD b.1;have i:=P.iD c.1;have e:=b.2;obtain⟨k,d,h2⟩:=Tk.acc (q:=⟨[],[]⟩) al_ xL c.1 a xL h;unfold jB;rw[d,dF,d_];rcases h2 with rfl|h2
 ·rfl
 ·rw[dI (by rw[gQ];exact HE h2),ad' h2];rfl
def HZ{f:Tm}(a:dQ [] f (.fn .nat .nat))(hn:f.an8<=1000):j7 f (we f)=some 0:=by
 have b:dQ ([]++[.nat]) (eH f v0) .nat:=.app (a.cls _) gz;have c:eX (eH f v0)=some (oU (eH f v0)):=exists_eq (g:=[.nat]) b LA (by rw[eH,Tm.dJ];simp only[eb];rw[show v0.an8=1 from rfl];omega);have o1:=(Mg a hn).1;have hF:Hg [] (CI f):=⟨Fm.ng o1.1 o1.2,.q (.inl rfl) Ty.fi (mL b)⟩;unfold j7;simp only[aka a hn,dN,dI nz,CE,dF,Lr,H8,c,VB];rw[show(Fm.mk 4 .nat [] [oU (eH f v0)])=CI f from rfl,FM hF LA,dF]
def Zu{f h:Tm}{x y:Pf}(i:dQ [] f (.fn .nat .nat))(j:dQ [] h (.fn .nat .nat))(l:f.an8<=4000)(o:h.an8<=4000){c d:Int}(q:j7 f x=some c)(s:j7 h y=some d):pS f x h y=if c=0 then(if d=0 then gW (ZA f h) (ZI f x h y)else some (.mk 0 .z [] [],afe,d))else some (.mk 0 .z [] [],afe,c):=by
 have A:∀{g:List Ty} {x:Tm},dQ g x .nat->dQ g (eH h (eH f x)) .nat:=λk=>.app (j.cls _) (.app (i.cls _) k)
 have n1:∀{n:Tm},n.an8<=10->(eH h (eH f n)).an8<=1000000:=λ{n} k=>by
  simp only[eH,Tm.dJ,eb];omega
 have q1:eX (eH h (eH f v2))=some (oU (eH h (eH f v2))):=exists_eq (g:=[.nat,.nat,.nat]) (A (uc (g:=[]))) LA (n1 Df);have t:eX (eH h (eH f v0))=some (oU (eH h (eH f v0))):=exists_eq (g:=[.nat]) (A (gz (g:=[]))) LA (n1 Df);unfold pS;rw[d_,ef LA,dY,d_,QN i j xL xL Df YS,eo,q,dF]
 by_cases a:c=0
 ·subst a;rw[dI nz,s,dF,dO rfl]
  by_cases b:d=0
  ·subst b;rw[dI nz,dO rfl];simp only[CE,dF,Lr,Ul,Uc,H8,q1,t,UH,NI,Hc,Ay,ahw,acE,Jt,VB];cases hm:gW (ZA f h) (ZI f x h y)with
   |none=>rfl|some r=>rfl
  ·rw[dO (by rw[er];exact b),dI b];rfl
 ·rw[dO (by rw[er];exact a),dI a];rfl
def Cb(l:List Int):ni l=some true:=by
 unfold ni;rw[d_,XX,dF,dO rfl,VZ,dF]
 by_cases ad:500<l.length
 ·rw[Le xL];rfl
 have hl:l.length<=500:=xL
 rw[xe hl];dsimp only;rw[dI Df,show Tq l=some ⟨l,0⟩from rfl,dF];have hd:eu.wf ⟨l,0⟩:=⟨by show l.length<=1000;omega,LA,LA⟩;obtain⟨a,d1,a1,a2,a3,a4⟩:=Uk hd;obtain⟨b,d2,b1,b2,i,b4⟩:=Uk a2;obtain⟨y,j,A⟩:=Mg a3 xL;obtain⟨B,k,C⟩:=Mg i xL
 have J:(we a).an8<=3000:=by simp only[Pf.dJ,Fm.dJ,Tm.dJ,Tm.kH,eH,eb,SX];omega
 have K:(we b).an8<=3000:=by simp only[Pf.dJ,Fm.dJ,Tm.dJ,Tm.kH,eH,eb,SX];omega
 have wa:=(we a).iD j.1;have wb:=(we b).iD k.1;obtain⟨Y,p1,p2⟩:∃e,j7 a (we a)=some e/\(e=0\/mX e):=⟨0,HZ a3 xL,.inl rfl⟩;obtain⟨Z,q1,q2⟩:∃e,j7 b (we b)=some e/\(e=0\/mX e):=⟨0,HZ i xL,.inl rfl⟩;rw[a1,dN,b1,dN,FF a3 xL,A6 y j A,lS,FF i xL,A6 B k C,lS,Zu a3 i xL xL p1 q1]
 have no:∀e:Int,mX e->(if(e_ (eD 0 0) true (e_ (eD 0 0) true (eD e 0))) then ec (λ(v107:Bool)=>some v107) λc=>dE (hV 0) λd=>if d then c true else dE (hV 0) λf=>if f then c true else dE (hV e) λh=>c h else none)=some true:=λe he=>by
  rw[dO (by rw[lJ,lJ];simp[eD,HE he]),d_,aci,dF,dI Df,dF,dI Df,ad' he];rfl
 have D:∀(e:Int) (X:Option Bool),mX e->(if(e_ (eD 0 0) true (e_ (eD 0 0) true (eD e 0))) then ec (λ(v107:Bool)=>some v107) λc=>dE (hV 0) λd=>if d then c true else dE (hV 0) λf=>if f then c true else dE (hV e) λh=>c h else X)=some true:=λe X he=>by
  have hc:(e_ (eD 0 0) true (e_ (eD 0 0) true (eD e 0)))=true:=by rw[lJ,lJ];simp[eD,HE he]
  have:=no e he;rw[dO hc] at this|-;exact this
 by_cases n:Y=0
 case neg=>
  rw[dI n,lS];exact D Y _ (p2.resolve_left n)
 by_cases x:Z=0
 case neg=>
  rw[dO n,dI x,lS];exact D Z _ (q2.resolve_left x)
 obtain⟨F,G,H⟩:=agd a3 i xL xL j k J K;rw[dO n,dO x,A6 F G H,lS,dI Df,d_];have FA:ic [] (CI a):=.q (.inl rfl) Ty.fi (mL (.app (a3.cls _) (gz (g:=[]))));have FB:ic [] (CI b):=.q (.inl rfl) Ty.fi (mL (.app (i.cls _) (gz (g:=[]))));have FC:ic [] (ZA a b):=.q (.inl rfl) Ty.fi (mL (.app (i.cls _) (.app (a3.cls _) (gz (g:=[])))));rw[Lz y FA j A (abn a3 _ _ _),dF,dO rfl,Lz B FB k C (abn i _ _ _),dF,dO rfl,Lz F FC G H (amZ a3 i _ _ _ (λ_ _=>abn a3 _ _ _) (λ_ _=>abn i _ _ _)),dF];dsimp only;rw[dI Df];obtain⟨n1,d3,L,M,o,ae⟩:=Ey b2;obtain⟨r1,d4,N,O,r,af⟩:=Qw M;obtain⟨n2,d5,P,Q,s,ah⟩:=Ey O;obtain⟨r2,d6,R,S,t,ai⟩:=Nd Q;obtain⟨m,d7,m1,m2,m3,m4⟩:=qF d6 S 4 xL xL;obtain⟨n3,T,I⟩:=A3 m m2 xL;obtain⟨n4,d8,U,V,u,ak⟩:=Ey m4;obtain⟨r3,d9,W,an,v,ao⟩:=Qw V;have w:=(I []).1;have aq:=(I []).2;obtain⟨g1,g2,g3⟩:=afB o r xL xL;obtain⟨h1,h2,h3⟩:=afp s t xL xL;obtain⟨i1,i2,i3⟩:=ahZ w u v xL xL xL
 rw[L,dN,N,dN,Yl o r xL xL,A6 g1 g2 g3,lS,P,dN,R,dN,My s t xL xL,A6 h1 h2 h3,lS,m1,dN,T,dF,U,dN,W,dN,Vs w u v xL xL xL,A6 i1 i2 i3,lS,dI Df,d_]
 have GA:ic [] (ZZ n1 r1):=.q (.inl rfl) Ty.fi (mL (.rB Ty.fi (o.cls _) (r.cls _) (gz (g:=[]))));have GB:ic [] (ZD n2 r2):=.q (.inl rfl) Ty.mD (mL (.fold Ty.fi (s.cls _) (t.cls _) (gz (g:=[]))));have GC:ic [] (Zy n3 n4 r3):=.q (.inl rfl) Ty.fi (mL (.fst (BR w u v (gz (g:=[])))));rw[Lz g1 GA g2 g3 (amW o r _ _ _),dF,dO rfl,Lz h1 GB h2 h3 (amk s t _ _ _),dF,dO rfl,Lz i1 GC i2 i3 (aml w u v _ _ _),dF]
end Go.fN
