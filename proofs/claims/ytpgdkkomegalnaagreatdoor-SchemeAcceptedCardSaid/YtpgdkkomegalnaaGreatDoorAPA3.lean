/- Part of the proof of SchemeAccepted: plain facts. -/
import Derived.KernelRfl
import Derived.Test.YtpgdkkomegalnaaGreatDoorAPA2
set_option linter.all false
namespace Go.fH
open Go
section
variable{L:List Fm} {g:List Ty} {hs:List Fm}
def CC(r:PR)(f:Fm):Prop:=(∃e,mW e/\r=.inr e)\/∃a b,r=.inl (a,b)/\rO a f
def Tk(L:List Fm)(g:List Ty)(hs:List Fm)(P:Pf)(f:Fm):Prop:=EL L ⟨g,hs⟩->P.Ws->(∃e,mW e/\P.inf L g hs=.inr e)\/∃a b,P.inf L g hs=.inl (a,b)/\rO a f/\Hg g a
def CC.ve{e:Int}{f:Fm}(h:mW e):CC (wD (.inr e)) f:=.inl ⟨e,h,rfl⟩
def CC.gu{a f:Fm}{m:Nat}(h:rO a f):CC (wD (.inl (a,m))) f:=by
 by_cases he:a.err=0
 ·rw[Lx he];exact .inr ⟨_,_,rfl,h⟩
 ·rw[QB he];exact .inl ⟨4,AN,rfl⟩
def Tk.of{P:Pf}{f:Fm}(h:EL L ⟨g,hs⟩->P.Ws->CC (P.inf L g hs) f):Tk L g hs P f:=λa hw=>by
 rcases h a hw with h|⟨b,c,d,i⟩
 ·exact .inl h
 ·exact .inr ⟨b,c,d,i,(Dv.of (P.w hw.1 hw.2) g hs b c a d).2⟩
def Tk.cv{P:Pf}{f a:Fm}(h:Tk L g hs P f)(b:rO f a):Tk L g hs P a:=λc hw=>by
 rcases h c hw with h|⟨x,m,d,i,j⟩
 ·exact .inl h
 ·exact .inr ⟨x,m,d,i.trans b,j⟩
def Iw{e:Int}(h:mW e):e≠0:=by rcases h with h|h|h<;>rw[h]<;>decide
def x9{g:List Ty}{s:Ty}{F f:Fm}{t:Tm}{m:Nat}(hF:ia (g++[s]) F)(a:dQ g t s)(b:Hg g f)(hg:g.length<=1000000)(c:rO (Fm.fK 0 F t) f):(∃e,mW e/\B1 (.inl (f,m)) F t=.inr e)\/B1 (.inl (f,m)) F t=.inl (f,m):=X3 hF a b hg c
def Tk.hyp{i:Nat}{a f:Fm}(h:hs.reverse[i]?=some a)(b:rO a f):Tk L g hs (.mk 1 (i:Int) .z [] [] []) f:=
 .of λc _=>.inr ⟨a,0,XP c h,b⟩
def Tk.NV{a b:Pf}{x y:Fm}(f:Tk L g hs a x)(h:Tk L g hs b y):Tk L g hs (.mk 3 0 .z [] [] [a,b]) (.mk 2 .z [] [x,y]):=.of λd hw=>by
 obtain⟨_,_,wp⟩:=hw.parts;rw[Pf.jw,O1];rcases f d (wp _ aaF)with⟨e,he,q⟩|⟨k,l,q,i,t1⟩
 ·rw[q];exact .ve he
 rcases h d (wp _ aaF)with⟨e,he,c⟩|⟨n,n',c,j,t2⟩
 ·rw[q,c];exact .ve he
 rw[q,c];exact .gu (.two i j)
def Tk.aed{a:Pf}{x y:Fm}(c:Tk L g hs a (.mk 2 .z [] [x,y])):Tk L g hs (.mk 4 0 .z [] [] [a]) x:=.of λd hw=>by
 obtain⟨_,_,wp⟩:=hw.parts;rw[Pf.jw,O0];rcases c d (wp _ aaF)with⟨e,he,q⟩|⟨f,h,q,b,t1⟩
 ·rw[q];exact .ve he
 obtain⟨i,j,rfl,b,k⟩:=b.Rx;rw[q,E6 (Fm.eD 2 .z [] _),fN];exact .gu b
def Tk.ahf{a:Pf}{x y:Fm}(c:Tk L g hs a (.mk 2 .z [] [x,y])):Tk L g hs (.mk 5 0 .z [] [] [a]) y:=.of λd hw=>by
 obtain⟨_,_,wp⟩:=hw.parts;rw[Pf.jw,Qc];rcases c d (wp _ aaF)with⟨e,he,q⟩|⟨h,i,q,b,t1⟩
 ·rw[q];exact .ve he
 obtain⟨j,k,rfl,b,f⟩:=b.Rx;rw[q,E6 (Fm.eD 2 .z [] _),fN];exact .gu f
def Tk.allI{s:Ty}{a:Pf}{f:Fm}(b:s.err=0)(d:Tk L (g++[s]) (hs.map (Fm.up 0 1)) a f):Tk L g hs (.mk 8 0 s [] [] [a]) (.mk 4 s [] [f]):=.of λh hw=>by
 obtain⟨_,_,wp⟩:=hw.parts;rw[Pf.jw]
 by_cases c:16<g.length+1
 ·rw[I0,jD c];exact .ve L1
 rcases d (h.An b VW) (wp _ aaF)with⟨e,he,q⟩|⟨j,k,q,i,t1⟩
 ·rw[I0,jY c,q];exact .ve he
 rw[I0,jY c,q,fN];exact .gu (.q i)
def Tk.aeD{t:Tm}{s:Ty}{a:Pf}{x:Fm}(h:dQ g t s)(i:Tk L g hs a (.mk 4 s [] [x])):Tk L g hs (.mk 9 0 .z [t] [] [a]) (Fm.fK 0 x t):=.of λb hw=>by
 obtain⟨wt,_,wp⟩:=hw.parts;have j:g.length<=16:=b.nv;have c:t.err=0:=wt _ aaF;obtain⟨k,l⟩:=l7 c;rw[Pf.jw,V5,rm h b.ctx VW,gp rfl];rcases i b (wp _ aaF)with⟨e,he,q⟩|⟨v,o,q,r,t1⟩
 ·rw[q];exact .ve he
 obtain⟨d,rfl,u⟩:=r.ZT;rw[q,E6 (Fm.eD 4 s [] _),fN,jY (by show¬s.kV s=false;rw[CT];decide)];show CC (wD (kc (ld d t).2 (.inl ((ld d t).1,o|||rB t)))) _;rcases lC d t with f|⟨_,f⟩
 ·rw[f];exact .ve AN
 rw[f,gp rfl];exact .gu (u.fK (n:=0) (.refl k) (Y5 0))
theorem Tk.refl{t:Tm}(f:dQ g t .nat):Tk L g hs (.mk 18 0 .z [t] [] []) (.mk 1 .z [t,t] []):=.of λb hw=>by
 obtain⟨wt,_,wp⟩:=hw.parts;have h:g.length<=16:=b.nv;have a:t.err=0:=wt _ aaF;obtain⟨c,i⟩:=l7 a;have d:=By f b.ctx VW;rw[show Ty.nat.aiI=1 from rfl] at d;rw[Pf.jw,P5,gp d];exact .gu (.eq (.refl c) (.refl c))
def Tk.exI{t:Tm}{s:Ty}{a:Pf}{x:Fm}(f:dQ g t s)(hF:ia g (.mk 5 s [] [x]))(h:ia (g++[s]) x)(i:Tk L g hs a (Fm.fK 0 x t)):Tk L g hs (.mk 10 0 .z [t] [.mk 5 s [] [x]] [a]) (.mk 5 s [] [x]):=.of λc hw=>by
 obtain⟨wt,wf,wp⟩:=hw.parts;have j:g.length<=16:=c.nv;have d:t.err=0:=wt _ aaF;obtain⟨r,k⟩:=l7 d;have b:Hg g (.mk 5 s [] [x]):=⟨wf _ aaF,hF⟩;have:=b.aiK;rw[Pf.jw,Ql,gp (om b.ty c.ctx VW),jY aaF,rm f c.ctx VW,gp rfl,jY (by show¬s.kV s=false;rw[CT];decide)];rcases i c (wp _ aaF)with⟨e,he,q⟩|⟨l,n,q,o,t1⟩
 ·rw[q];exact .ve he
 rw[q];show CC (wD (pbind (B1 (.inl (l,n)) x t) λ_ m=>.inl (.mk 5 s [] [x],m|||rB t))) _;rcases x9 h f t1 VW o.symm with⟨e,he,q2⟩|q2
 ·rw[q2];exact .ve he
 ·rw[q2,fN];exact .gu (.refl hF)
def Tk.subst{F:Fm}{a b:Pf}{t u:Tm}(hF:ia (g++[.nat]) F)(l:Tk L g hs a (.mk 1 .z [t,u] []))(o:Tk L g hs b (Fm.fK 0 F t)):Tk L g hs (.mk 19 0 .z [] [F] [a,b]) (Fm.fK 0 F u):=.of λd hw=>by
 obtain⟨_,wf,wp⟩:=hw.parts;have r:g.length<=16:=d.nv;have c:Hg (g++[.nat]) F:=⟨wf _ aaF,hF⟩;have s:=c.aiK;rw[Pf.jw,LZ,gp (om c.ty d.ctx.nat (by simp only[qt,pM,EG];omega))];rcases l d (wp _ aaF)with⟨e,he,q⟩|⟨I,J,q,v,t1⟩
 ·rw[q];exact .ve he
 obtain⟨h,f,rfl,ct,w⟩:=v.eq_inv
 obtain⟨i,A⟩:dQ g h .nat/\dQ g f .nat:=by
  obtain⟨x,y,e,B,C⟩:=t1.ty.Ul (Fm.eD _ _ _ _);simp at e;obtain⟨rfl,rfl⟩:=e;exact⟨B,C⟩
 rw[q,E6 (Fm.eD 1 .z _ _),fN];show CC (wD (pbind (B1 (b.inf L g hs) F h) λ_ n=>kc (ld F f).2 (.inl ((ld F f).1,n)))) _;rcases o d (wp _ aaF)with⟨e,he,j⟩|⟨D,n',j,G,t2⟩
 ·rw[j];exact .ve he
 have H:rO (Fm.fK 0 F h) D:=((rO.refl hF).fK ct VW).trans G.symm;rw[j];rcases x9 hF i t2 VW H with⟨e,he,q3⟩|q3
 ·rw[q3];exact .ve he
 rw[q3,fN];rcases lC F f with k|⟨_,k⟩
 ·rw[k];exact .ve AN
 rw[k,gp rfl];exact .gu ((rO.refl hF).fK w VW)
def Tk.exE{s:Ty}{a b:Pf}{x y:Fm}(d:s.err=0)(A:Tk L g hs a (.mk 5 s [] [x]))(B:ia g y)(C:∀c,rO c x->ia (g++[s]) c->Tk L (g++[s]) (hs.map (Fm.up 0 1)++[c]) b (y.up 0 1)):Tk L g hs (.mk 11 0 .z [] [] [a,b]) y:=.of λj hw=>by
 obtain⟨_,_,wp⟩:=hw.parts;have D:g.length<=16:=j.nv;rw[Pf.jw,I7];rcases A j (wp _ aaF)with⟨e,he,q⟩|⟨K,k,q,F,t1⟩
 ·rw[q];exact .ve he
 obtain⟨c,rfl,G⟩:=F.ZT
 have h:Hg (g++[s]) c:=by
  obtain⟨u,v,e,M,H⟩:=t1.ty.vV (Fm.eD _ _ _ _) (.inr (.inl rfl));simp at e;obtain⟨rfl,rfl⟩:=e;exact t1.sub aaF H
 have i:E0 (.inl (Fm.mk 5 s [] [c],k)) 5=.inl (Fm.mk 5 s [] [c],k):=E6 (Fm.eD _ _ _ _);rw[q,i,fN]
 by_cases t:16<g.length+1\/16<hs.length+1
 ·rw[jD t];exact .ve L1
 rw[jY t];have l:=(j.An d VW).with (f:=c) h (by show(hs.map (Fm.up 0 1)).length+1<=16;simp;omega);rcases C c G h.ty l (wp _ aaF)with⟨e,he,n⟩|⟨o,n',n,I,t2⟩
 ·exact(congrArg (λr=>CC (wD (pbind r _)) _) n).mpr (.ve he)
 refine(congrArg (λr=>CC (wD (pbind r _)) _) n).mpr ?_
 have key:∀w:PR,((yh o).2=0->w=.inl ((yh o).1,k|||n'/2))->CC (wD (kc (yh o).2 w)) y:=by
  intro w hw;rcases Zr t2 VW d B I with e|⟨e,J⟩
  ·rw[iP (Iw e)];exact .ve e
  ·rw[gp e,hw e];exact .gu J
 exact key _ λ_=>rfl
end
end Go.fH
namespace Go.fH
open Go
def acw{L:List Fm}{q:Sq}{P:Pf}(h:EL L q)(a:P.wt<=1000000000)(he:P.err≠0):kz L q P=some (⟨jB,[]⟩,P.err):=by
 have e:Pk L q P=.inr P.err:=by unfold Pk;rw[gp h.zero,iP he]
 rcases Da h.b a with⟨d,_,q1,c⟩|⟨f,m,l,q1,_⟩
 ·rw[e] at q1;rw[c,Sum.inr.inj q1]
 ·rw[e] at q1;cases q1
def agf{L:List Fm}{q:Sq}{P:Pf}(h:EL L q)(a:P.wt<=1000000000)(he:P.err=0){e:Int}(hi:P.inf L q.aiM q.aiP=.inr e):kz L q P=some (⟨jB,[]⟩,e):=by
 rcases Da h.b a with⟨d,_,q1,c⟩|⟨f,m,l,q1,_⟩
 ·rw[Ho h he,hi] at q1;rw[c,Sum.inr.inj q1]
 ·rw[Ho h he,hi] at q1;cases q1
def acp{L:List Fm}{q:Sq}{P:Pf}(h:EL L q)(c:P.wt<=1000000000)(he:P.err=0){f:Fm}{m:Nat}(hi:P.inf L q.aiM q.aiP=.inl (f,m)):∃l,kz L q P=some (⟨f,l⟩,0)/\Us l m/\Hg q.aiM f:=by
 rcases Da h.b c with⟨i,_,q1,a⟩|⟨j,k,l,q1,a,hu,d,_⟩
 ·rw[Ho h he,hi] at q1;cases q1
 ·rw[Ho h he,hi] at q1;obtain⟨rfl,rfl⟩:=iE (xN q1);exact⟨l,a,hu,d⟩
def Fm.YP{f:Fm}(h:f.ok=true):f.err=0\/f.err=4:=by
 unfold Fm.err;rw[dO h]
 split
 ·exact .inr rfl
 ·exact .inl rfl
def Tk.acc{L:List Fm}{q:Sq}(c:EL L q){P:Pf}(hw:P.wt<=1000000000)(r:P.ok=true){b:Fm}(j:ia q.aiM b)(d:b.wt<=1000000000)(h:Tk L q.aiM q.aiP P b):∃e,nk L q P b=some e/\(e=0\/mW e):=by
 have no:∀e,mW e->kz L q P=some (⟨jB,[]⟩,e)->∃e,nk L q P b=some e/\(e=0\/mW e):=by
  intro e he u;refine⟨e,?_,.inr he⟩;unfold nk;rw[u,dN,dO (by rw[eo];exact Iw he)]
 by_cases he:P.err=0
 ·obtain⟨_,v,_⟩:=k1 he;rcases h c ⟨r,v⟩with⟨e,k,n⟩|⟨s,D,k,n,F⟩
  ·exact no e k (agf c hw he n)
  ·obtain⟨l,w,_,g1⟩:=acp c hw he k;have f:=c.nv;have x:=g1.wt;unfold nk;rw[w,dN,dI nz,rS d VW (λt y=>by have:=eV (c.ctx t y);omega),dF];rcases Fm.YP j.ok with hbe|hbe
   ·have i:Hg q.aiM b:=⟨hbe,j⟩
    have A:Hi b q.aiM=0:=by
     unfold Hi;rw[A7 c.ctx f,dI aak,dI (λh=>h hbe)];exact om j c.ctx (by have:=i.aiK;omega)
    rw[A,dI nz];show∃e,(dE (jQ s b) λo=>some o)=some e/\_;rw[LX (a:=s) (b:=b) VW d,HI g1 i VW VW];exact⟨_,rfl,n.EM⟩
   ·have B:Hi b q.aiM=4:=by
     unfold Hi;rw[A7 c.ctx f,dI aak,dO (by rw[hbe];decide),hbe]
    rw[B,dO aak];exact⟨4,rfl,.inr AN⟩
 ·have C:P.err=4:=by
   unfold Pf.err at he|-;rw[dO r] at he|-
   split
   ·rename_i h;rw[dO h] at he;exact absurd rfl he
   ·rfl
  exact no 4 AN (by rw[<-C];exact acw c hw he)
end Go.fH
set_option maxRecDepth 20000
namespace Go.fH
open Go
section
variable{a:Fm} {g:List Ty}
section
variable{L:List Fm} {g:List Ty} {hs:List Fm} {F G K:Fm}
end
end
end Go.fH
set_option maxRecDepth 20000
namespace Go.fH
open Go
def ma(t:Tm):∀f,t.up f 0=t:=by
 induction t using Tm.ind with
 |h k i s l ih=>
  intro f
  have:l.map (Tm.up (f+eL k) 0)=l:=by
   refine(uU (g:=id) λx a=>?_).trans aaF;exact ih x a _
  rw[Tm.e9,this]
  congr 1
  split<;>omega
def QT{g:List Ty}{t:Tm}{s:Ty}(h:dQ g t s)(x:Tm):Tm.fK 0 (t.up 0 1) x=t:=by
 have:=Qk x t 0 0 0 h.ok VW VW VW
 rwa [show(0:Int)+1=1 from rfl,ma] at this
end Go.fH
set_option maxRecDepth 20000
namespace Go.fH
open Go
section
variable{L:List Fm} {g:List Ty} {hs:List Fm}
def Tk.ind{F:Fm}{t:Tm}{a b:Pf}(hF:ia (g++[.nat]) F)(j:dQ g t .nat)(l:Tk L g hs a (Fm.fK 0 F iF))(n:Tk L (g++[.nat]) (hs.map (Fm.up 0 1)++[F]) b (Fm.fK 0 (F.up 1 1) (gK v0))):Tk L g hs (.mk 16 0 .z [t] [F] [a,b]) (Fm.fK 0 F t):=.of λd hw=>by
 obtain⟨wt,wf,wp⟩:=hw.parts;have o:g.length<=16:=d.nv;have c:Hg (g++[.nat]) F:=⟨wf _ aaF,hF⟩;have s:=c.aiK;rw[Pf.jw,Lm,gp (om c.ty d.ctx.nat (by simp only[qt,pM,EG];omega)),gp (show nM _ _ 1=0 from By j d.ctx (by have:=(l7 (wt t aaF)).2;omega))];rcases l d (wp _ aaF)with⟨e,he,q⟩|⟨w,m',q,u,t1⟩
 ·rw[q];exact .ve he
 rw[q];rcases x9 (m:=m') hF (t:=iF) .zero t1 VW u.symm with⟨e,he,q2⟩|q2
 ·rw[q2];exact .ve he
 rw[q2,fN]
 by_cases k:16<g.length+1\/16<hs.length+1
 ·rw[jD k];exact .ve L1
 rw[jY k];have h:=(d.An Ty.fb VW).with (f:=F) c (by show(hs.map (Fm.up 0 1)).length+1<=16;simp;omega);rcases n h (wp _ aaF)with⟨e,he,i⟩|⟨x,n',i,v,t2⟩
 ·refine(congrArg (λr=>CC (wD (pbind (B1 r _ _) _)) _) i).mpr (.ve he)
 refine(congrArg (λr=>CC (wD (pbind (B1 r _ _) _)) _) i).mpr ?_;rcases x9 (m:=n') c.XK.ty (t:=gK v0) (.succ gy) t2 (by simp only[qt,pM,EG];omega) v.symm with⟨e,he,q4⟩|q4
 ·rw[q4];exact .ve he
 rw[q4,fN];rcases Q4 F t ((rB t|||m')|||n'/2)with e|e
 ·rw[e];exact .ve AN
 rw[e];exact .gu (.refl (hF.put j))
def Tk.lists{F:Fm}{t:Tm}{a b:Pf}(hF:ia (g++[.ir]) F)(j:dQ g t .ir)(l:Tk L g hs a (Fm.fK 0 F (.mk 7 0 .z [])))(n:Tk L (g++[.nat]++[.ir]) (hs.map (Fm.up 0 2)++[F.up 1 1]) b (Fm.fK 0 (F.up 1 2) (.mk 8 0 .z [v1,v0]))):Tk L g hs (.mk 17 0 .z [t] [F] [a,b]) (Fm.fK 0 F t):=.of λd hw=>by
 obtain⟨wt,wf,wp⟩:=hw.parts;have o:g.length<=16:=d.nv;have c:Hg (g++[.ir]) F:=⟨wf _ aaF,hF⟩;have s:=c.aiK;rw[Pf.jw,LI,gp (om c.ty d.ctx.ir (by simp only[qt,pM,EG];omega)),gp (show nM _ _ 2=0 from By j d.ctx (by have:=(l7 (wt t aaF)).2;omega))];rcases l d (wp _ aaF)with⟨e,he,q⟩|⟨w,m',q,u,t1⟩
 ·rw[q];exact .ve he
 rw[q];rcases x9 (m:=m') hF (t:=.mk 7 0 .z []) .nil t1 VW u.symm with⟨e,he,q2⟩|q2
 ·rw[q2];exact .ve he
 rw[q2,fN]
 by_cases k:16<g.length+2\/16<hs.length+1
 ·rw[jD k];exact .ve L1
 rw[jY k];have h:=(d.VG VW).with (f:=F.up 1 1) (Hg.upl c) (by show(hs.map (Fm.up 0 2)).length+1<=16;simp;omega);rcases n h (wp _ aaF)with⟨e,he,i⟩|⟨x,n',i,v,t2⟩
 ·refine(congrArg (λr=>CC (wD (pbind (B1 r _ _) _)) _) i).mpr (.ve he)
 refine(congrArg (λr=>CC (wD (pbind (B1 r _ _) _)) _) i).mpr ?_;rcases x9 (m:=n') c.Zp.ty (t:=.mk 8 0 .z [v1,v0]) (.cons kW gy) t2 (by simp only[qt,pM,EG];omega) v.symm with⟨e,he,q4⟩|q4
 ·rw[q4];exact .ve he
 rw[q4,fN];rcases Q4 F t ((rB t|||m')|||n'/4)with e|e
 ·rw[e];exact .ve AN
 rw[e];exact .gu (.refl (hF.put j))
end
structure Cl (t:Tm):Prop where
 up:∀n c:Int,0<=n->t.up n c=t
 fK:∀(n:Int) (a:Tm),0<=n->Tm.fK n t a=t
def dQ.cl{t:Tm}{s:Ty}(h:dQ [] t s):Cl t:=⟨λn c hn=>(h.fix n (by simpa using hn)).1 c,λn a hn=>(h.fix n (by simpa using hn)).2 a⟩
def dQ.cls{t:Tm}{s:Ty}(h:dQ [] t s)(g:List Ty):dQ g t s:=by
 have:=h.lift g
 rwa [h.cl.up 0 _ VW,qc] at this
def v2:Tm:=.mk 1 2 (.mk 0 []) []
def v3:Tm:=.mk 1 3 (.mk 0 []) []
def uJ{g:List Ty}{t a b:Ty}:dQ (g++[t]++[a]++[b]) v2 t:=dQ.var 2 aaF aaF
def Wo{g:List Ty}{t a b c:Ty}:dQ (g++[t]++[a]++[b]++[c]) v3 t:=dQ.var 3 aaF aaF
abbrev qk(a b:Tm):Fm:=.mk 1 .z [a,b] []
abbrev oS(s:Tm):Fm:=.mk 5 .nat [] [qk v0 (s.up 0 1)]
abbrev uW(g x y:Tm):Tm:=eF (eF g x) y
abbrev HJ(g x y z:Tm):Tm:=eF (uW g x y) z
abbrev A'(b g n:Tm):Tm:=.mk 6 0 .nat [b,g,n]
abbrev zK(b g n:Tm):Tm:=.mk 9 0 .nat [b,g,n]
abbrev mq(t:Tm):Pf:=.mk 18 0 .z [t] [] []
abbrev Mp(i:Int):Pf:=.mk 1 i .z [] [] []
abbrev qu(s t:Tm)(p:Pf):Pf:=.mk 10 0 .z [t] [oS s] [p]
abbrev Gl(f:Fm)(p q:Pf):Pf:=.mk 19 0 .z [] [f] [p,q]
abbrev O9(p q:Pf):Pf:=.mk 11 0 .z [] [] [p,q]
def Uo{g:List Ty}{s t:Tm}(hs:dQ g s .nat):Fm.fK 0 (qk v0 (s.up 0 1)) t=qk t s:=by
 rw[Fm.eG];simp only[lF,l',QT hs]
 have a:Tm.fK 0 v0 t=t:=by
  unfold v0;rw[Tm.eG,dO rfl];unfold Tm.iG;rw[dO rfl,ma]
 rw[a]
def VH{g:List Ty}{s:Tm}(hs:dQ g s .nat):ia (g++[.nat]) (qk v0 (s.up 0 1)):=.eq gy (hs.lift [.nat])
def mz{g:List Ty}{s:Tm}(hs:dQ g s .nat):ia g (oS s):=.q (.inr (.inl rfl)) Ty.fb (VH hs)
def Tk.shown{L:List Fm}{g:List Ty}{hs:List Fm}{s t:Tm}{P:Pf}(a:dQ g s .nat)(b:dQ g t .nat)(h:Tk L g hs P (qk t s)):Tk L g hs (qu s t P) (oS s):=Tk.exI b (mz a) (VH a) (by rw[Uo a];exact h)
abbrev CW(f:Tm):Fm:=.mk 4 .nat [] [oS (eF f v0)]
abbrev wE(f:Tm):Pf:=.mk 8 0 .nat [] [] [qu (eF f v0) (eF f v0) (mq (eF f v0))]
def Yl{f:Tm}(a:dQ [] f (.fn .nat .nat))(L:List Fm)(g:List Ty)(hs:List Fm):Tk L g hs (wE f) (CW f):=by
 have h:dQ (g++[.nat]) (eF f v0) .nat:=.app (a.cls _) gy;exact Tk.allI Ty.fb (Tk.shown h h (Tk.refl h))
end Go.fH
set_option maxRecDepth 20000
set_option maxHeartbeats 1000000
namespace Go.fH
open Go
def aej{g:List Ty}{b c:Tm}{s:Ty}(a:dQ g b s)(d:(Tm.mk 6 0 s [b,c,iF]).ok=true):zF (.mk 6 0 s [b,c,iF]) b:=.star d (.step (.IF 0 s 0 .z _ (kr.refl b a.ok)) (.refl b))
def afO{b c n:Tm}{s:Ty}(a:b.ok=true)(d:c.ok=true)(hn:n.ok=true)(f:(Tm.mk 6 0 s [b,c,gK n]).ok=true):zF (.mk 6 0 s [b,c,gK n]) (uW c n (.mk 6 0 s [b,c,n])):=.star f (.step (.Jn 0 s 0 .z (kr.refl b a) (kr.refl c d) (kr.refl n hn)) (.refl _))
def aco{g:List Ty}{b c:Tm}{s:Ty}(a:dQ g b s)(d:(Tm.mk 9 0 s [b,c,.mk 7 0 .z []]).ok=true):zF (.mk 9 0 s [b,c,.mk 7 0 .z []]) b:=.star d (.step (.Cn 0 s 0 .z _ (kr.refl b a.ok)) (.refl b))
def abp{b c n t:Tm}{s:Ty}(a:b.ok=true)(d:c.ok=true)(hn:n.ok=true)(f:t.ok=true)(h:(Tm.mk 9 0 s [b,c,.mk 8 0 .z [n,t]]).ok=true):zF (.mk 9 0 s [b,c,.mk 8 0 .z [n,t]]) (HJ c n t (.mk 9 0 s [b,c,t])):=.star h (.step (.Ch 0 s 0 .z (kr.refl b a) (kr.refl c d) (kr.refl n hn) (kr.refl t f)) (.refl _))
abbrev T4(b f:Tm):Fm:=.mk 4 .nat [] [oS (A' b f v0)]
abbrev Uw(b f:Tm):Pf:=.mk 8 0 .nat [] [] [.mk 16 0 .z [v0] [oS (A' b f v0)] [qu (A' b f iF) b (mq b),O9 (Mp 0) (qu (A' b f (gK v1)) (uW f v1 v0) (Gl (qk (uW f v2 v1) (uW f v2 v0)) (Mp 0) (mq (uW f v1 v0))))]]
def ag6{b f:Tm}(c:dQ [] b .nat)(q:dQ [] f (.fn .nat (.fn .nat .nat)))(L:List Fm)(g:List Ty)(hs:List Fm):Tk L g hs (Uw b f) (T4 b f):=by
 have B:=c.cl;have F:=q.cl;have R:∀{g:List Ty} {n:Tm},dQ g n .nat->dQ g (A' b f n) .nat:=λh=>.rQ Ty.fb (c.cls _) (q.cls _) h;have A:∀{g:List Ty} {x y:Tm},dQ g x .nat->dQ g y .nat->dQ g (uW f x y) .nat:=λh w=>.app (.app (q.cls _) h) w;have C:dQ (g++[.nat]) v0 .nat:=gy;have d:dQ (g++[.nat]++[.nat]) v0 .nat:=gy;have l:dQ (g++[.nat]++[.nat]++[.nat]) v1 .nat:=kW;have j:dQ (g++[.nat]++[.nat]++[.nat]) v0 .nat:=gy;refine Tk.allI Ty.fb ?_
 have D:Fm.fK 0 (oS (A' b f v0)) v0=oS (A' b f v0):=by
  simp[Fm.eG,Tm.e9,Tm.eG,v0,Tm.iG,eL,qB,h7,B.up,B.fK,F.up,F.fK]
 refine Eq.mp (congrArg (Tk L (g++[.nat]) (hs.map (Fm.up 0 1)) _) D) (Tk.ind (F:=oS (A' b f v0)) (mz (R d)) C ?_ ?_)
 ·have G:Fm.fK 0 (oS (A' b f v0)) iF=oS (A' b f iF):=by
   simp[Fm.eG,Tm.e9,Tm.eG,v0,Tm.iG,eL,qB,h7,B.up,B.fK,F.up,F.fK,iF]
  rw[G];have r:dQ (g++[.nat]) (A' b f iF) .nat:=R .zero;exact Tk.shown r (c.cls _) (Tk.cv (Tk.refl (c.cls _)) (.eq (.refl c.ok) (aej c r.ok).symm))
 ·have H:Fm.fK 0 ((oS (A' b f v0)).up 1 1) (gK v0)=oS (A' b f (gK v0)):=by
   simp[Fm.eG,Fm.e9,Tm.e9,Tm.eG,v0,Tm.iG,eL,qB,h7,B.up,B.fK,F.up,F.fK,gK]
  rw[H];refine Tk.exE (s:=.nat) Ty.fb (x:=qk v0 ((A' b f v0).up 0 1)) (Tk.hyp (i:=0) aaF (.refl (mz (R d)))) (mz (R (.succ d))) λI v P=>?_
  have J:(oS (A' b f (gK v0))).up 0 1=oS (A' b f (gK v1)):=by
   simp[Fm.e9,Tm.e9,v0,v1,eL,qB,h7,B.up,F.up,gK]
  have K:qk v0 ((A' b f v0).up 0 1)=qk v0 (A' b f v1):=by
   simp[Tm.e9,v0,v1,eL,B.up,F.up]
  rw[K] at v;rw[J];have o:dQ (g++[.nat]++[.nat]++[.nat]) (A' b f (gK v1)) .nat:=R (.succ l);refine Tk.shown o (A l j) ?_;have M:ia (g++[.nat]++[.nat]++[.nat]++[.nat]) (qk (uW f v2 v1) (uW f v2 v0)):=.eq (A uJ kW) (A uJ gy)
  have N:Fm.fK 0 (qk (uW f v2 v1) (uW f v2 v0)) v0=qk (uW f v1 v0) (uW f v1 v0):=by
   simp[Fm.eG,Tm.eG,v0,v1,v2,Tm.iG,eL,B.fK,F.fK,eF,ma]
  have O:Fm.fK 0 (qk (uW f v2 v1) (uW f v2 v0)) (A' b f v1)=qk (uW f v1 v0) (uW f v1 (A' b f v1)):=by
   simp[Fm.eG,Tm.eG,v0,v1,v2,Tm.iG,eL,B.fK,F.fK,eF,ma]
  have k:=Tk.subst (L:=L) (hs:=List.map (Fm.up 0 1) (List.map (Fm.up 0 1) (List.map (Fm.up 0 1) hs)++[oS (A' b f v0)])++[I]) M (a:=Mp 0) (b:=mq (uW f v1 v0)) (t:=v0) (u:=A' b f v1) (Tk.hyp (i:=0) aaF v) (by rw[N];exact Tk.refl (A l j));rw[O] at k;exact k.cv (.eq (.refl (A l j).ok) (afO c.ok q.ok l.ok o.ok).symm)
abbrev TO(b f:Tm):Fm:=.mk 4 .ir [] [oS (zK b f v0)]
abbrev TN(b f:Tm):Pf:=.mk 8 0 .ir [] [] [.mk 17 0 .z [v0] [oS (zK b f v0)] [qu (zK b f (.mk 7 0 .z [])) b (mq b),O9 (Mp 0) (qu (zK b f (.mk 8 0 .z [v2,v1])) (HJ f v2 v1 v0) (Gl (qk (HJ f v3 v2 v1) (HJ f v3 v2 v0)) (Mp 0) (mq (HJ f v2 v1 v0))))]]
def ag'{b f:Tm}(d:dQ [] b .nat)(q:dQ [] f (.fn .nat (.fn .ir (.fn .nat .nat))))(L:List Fm)(g:List Ty)(hs:List Fm):Tk L g hs (TN b f) (TO b f):=by
 have B:=d.cl;have F:=q.cl;have R:∀{g:List Ty} {n:Tm},dQ g n .ir->dQ g (zK b f n) .nat:=λh=>.fold Ty.fb (d.cls _) (q.cls _) h;have A:∀{g:List Ty} {x y z:Tm},dQ g x .nat->dQ g y .ir->dQ g z .nat->dQ g (HJ f x y z) .nat:=λh G H=>.app (.app (.app (q.cls _) h) G) H;have I:dQ (g++[.ir]) v0 .ir:=gy;have c:dQ (g++[.ir]++[.ir]) v0 .ir:=gy;have j:dQ (g++[.ir]++[.nat]++[.ir]) v0 .ir:=gy;have r:dQ (g++[.ir]++[.nat]++[.ir]) v1 .nat:=kW;have v:dQ (g++[.ir]++[.nat]++[.ir]++[.nat]) v0 .nat:=gy;have l:dQ (g++[.ir]++[.nat]++[.ir]++[.nat]) v1 .ir:=kW;have k2:dQ (g++[.ir]++[.nat]++[.ir]++[.nat]) v2 .nat:=uJ;refine Tk.allI Ty.mo ?_
 have J:Fm.fK 0 (oS (zK b f v0)) v0=oS (zK b f v0):=by
  simp[Fm.eG,Tm.e9,Tm.eG,v0,Tm.iG,eL,qB,h7,B.up,B.fK,F.up,F.fK]
 refine Eq.mp (congrArg (Tk L (g++[.ir]) (hs.map (Fm.up 0 1)) _) J) (Tk.lists (F:=oS (zK b f v0)) (mz (R c)) I ?_ ?_)
 ·have K:Fm.fK 0 (oS (zK b f v0)) (.mk 7 0 .z [])=oS (zK b f (.mk 7 0 .z [])):=by
   simp[Fm.eG,Tm.e9,Tm.eG,v0,Tm.iG,eL,qB,h7,B.up,B.fK,F.up,F.fK]
  rw[K];have C:dQ (g++[.ir]) (zK b f (.mk 7 0 .z [])) .nat:=R .nil;exact Tk.shown C (d.cls _) (Tk.cv (Tk.refl (d.cls _)) (.eq (.refl d.ok) (aco d C.ok).symm))
 ·have M:Fm.fK 0 ((oS (zK b f v0)).up 1 2) (.mk 8 0 .z [v1,v0])=oS (zK b f (.mk 8 0 .z [v1,v0])):=by
   simp[Fm.eG,Fm.e9,Tm.e9,Tm.eG,v0,v1,Tm.iG,eL,qB,h7,B.up,B.fK,F.up,F.fK]
  have w:(oS (zK b f v0)).up 1 1=oS (zK b f v0):=by
   simp[Fm.e9,Tm.e9,v0,eL,qB,h7,B.up,F.up]
  rw[M,w];refine Tk.exE (s:=.nat) Ty.fb (x:=qk v0 ((zK b f v0).up 0 1)) (Tk.hyp (i:=0) aaF (.refl (mz (R j)))) (mz (R (.cons r j))) λN D U=>?_
  have O:(oS (zK b f (.mk 8 0 .z [v1,v0]))).up 0 1=oS (zK b f (.mk 8 0 .z [v2,v1])):=by
   simp[Fm.e9,Tm.e9,v0,v1,v2,eL,qB,h7,B.up,F.up]
  have P:qk v0 ((zK b f v0).up 0 1)=qk v0 (zK b f v1):=by
   simp[Tm.e9,v0,v1,eL,B.up,F.up]
  rw[P] at D;rw[O];have o:dQ (g++[.ir]++[.nat]++[.ir]++[.nat]) (zK b f (.mk 8 0 .z [v2,v1])) .nat:=R (.cons k2 l);refine Tk.shown o (A k2 l v) ?_;have Q:ia (g++[.ir]++[.nat]++[.ir]++[.nat]++[.nat]) (qk (HJ f v3 v2 v1) (HJ f v3 v2 v0)):=.eq (A Wo uJ kW) (A Wo uJ gy)
  have S:Fm.fK 0 (qk (HJ f v3 v2 v1) (HJ f v3 v2 v0)) v0=qk (HJ f v2 v1 v0) (HJ f v2 v1 v0):=by
   simp[Fm.eG,Tm.eG,v0,v1,v2,v3,Tm.iG,eL,B.fK,F.fK,eF,ma]
  have T:Fm.fK 0 (qk (HJ f v3 v2 v1) (HJ f v3 v2 v0)) (zK b f v1)=qk (HJ f v2 v1 v0) (HJ f v2 v1 (zK b f v1)):=by
   simp[Fm.eG,Tm.eG,v0,v1,v2,v3,Tm.iG,eL,B.fK,F.fK,eF,ma]
  have k:=Tk.subst (L:=L) (hs:=List.map (Fm.up 0 1) (List.map (Fm.up 0 2) (List.map (Fm.up 0 1) hs)++[oS (zK b f v0)])++[N]) Q (a:=Mp 0) (b:=mq (HJ f v2 v1 v0)) (t:=v0) (u:=zK b f v1) (Tk.hyp (i:=0) aaF D) (by rw[S];exact Tk.refl (A k2 l v));rw[T] at k;exact k.cv (.eq (.refl (A k2 l v).ok) (abp d.ok q.ok k2.ok l.ok o.ok).symm)
abbrev Wt(f h:Tm):Fm:=.mk 4 .nat [] [oS (eF h (eF f v0))]
abbrev Vd(f:Tm)(x:Pf)(h:Tm)(y:Pf):Pf:=.mk 8 0 .nat [] [] [O9 (.mk 9 0 .z [v0] [] [x]) (O9 (.mk 9 0 .z [v0] [] [y])
 (qu (eF h (eF f v2)) v0 (Gl (qk v1 (eF h v0)) (Mp 1) (Mp 0))))]
def aha{f h:Tm}(l:dQ [] f (.fn .nat .nat))(n:dQ [] h (.fn .nat .nat)){x y:Pf}(L:List Fm)(g:List Ty)(hs:List Fm)(v:∀g hs,Tk L g hs x (CW f))(w:∀g hs,Tk L g hs y (CW h)):Tk L g hs (Vd f x h y) (Wt f h):=by
 have F:=l.cl;have G:=n.cl;have A:∀{g:List Ty} {x:Tm},dQ g x .nat->dQ g (eF f x) .nat:=λh=>.app (l.cls _) h;have C:∀{g:List Ty} {x:Tm},dQ g x .nat->dQ g (eF h x) .nat:=λh=>.app (n.cls _) h;have o:dQ (g++[.nat]) v0 .nat:=gy;have B:dQ (g++[.nat]++[.nat]) v0 .nat:=gy;have D:dQ (g++[.nat]++[.nat]) v1 .nat:=kW;have H:dQ (g++[.nat]++[.nat]++[.nat]) v0 .nat:=gy;have T:dQ (g++[.nat]++[.nat]++[.nat]) v1 .nat:=kW;have k2:dQ (g++[.nat]++[.nat]++[.nat]) v2 .nat:=uJ
 have q:∀{k:Tm},Cl k->Fm.fK 0 (oS (eF k v0)) v0=oS (eF k v0):=λ{k} K=>by
  simp[Fm.eG,Tm.e9,Tm.eG,v0,Tm.iG,eL,qB,h7,K.up,K.fK,eF]
 have r:∀{k:Tm},Cl k->(eF k v0).up 0 1=eF k v1:=λ{k} K=>by
  simp[Tm.e9,v0,v1,eL,K.up,eF]
 refine Tk.allI Ty.fb (Tk.exE (s:=.nat) Ty.fb (x:=qk v0 (eF f v1)) ?_ (mz (C (A o))) λd I U=>?_)
 ·have:=Tk.aeD o (v (g++[.nat]) (hs.map (Fm.up 0 1)));rw[q F,oS,r F] at this;exact this
 have J:(oS (eF h (eF f v0))).up 0 1=oS (eF h (eF f v1)):=by
  simp[Fm.e9,Tm.e9,v0,v1,eL,qB,h7,F.up,G.up,eF]
 have M:(oS (eF h (eF f v1))).up 0 1=oS (eF h (eF f v2)):=by
  simp[Fm.e9,Tm.e9,v0,v1,v2,eL,qB,h7,F.up,G.up,eF]
 rw[J];refine Tk.exE (s:=.nat) Ty.fb (x:=qk v0 (eF h v1)) ?_ (mz (C (A D))) λN O ty=>?_
 ·have:=Tk.aeD B (w (g++[.nat]++[.nat]) ((hs.map (Fm.up 0 1)).map (Fm.up 0 1)++[d]));rw[q G,oS,r G] at this;exact this
 rw[M];refine Tk.shown (C (A k2)) H ?_;have P:ia (g++[.nat]++[.nat]++[.nat]++[.nat]) (qk v1 (eF h v0)):=.eq kW (C gy)
 have Q:Fm.fK 0 (qk v1 (eF h v0)) v1=qk v0 (eF h v1):=by
  simp[Fm.eG,Tm.eG,v0,v1,Tm.iG,eL,G.fK,eF,ma]
 have R:Fm.fK 0 (qk v1 (eF h v0)) (eF f v2)=qk v0 (eF h (eF f v2)):=by
  simp[Fm.eG,Tm.eG,v0,v1,v2,Tm.iG,eL,G.fK,eF,ma]
 have j:rO (d.up 0 1) (qk v1 (eF f v2)):=by
  have:=I.up (f:=0) (c:=1) VW VW
  have S:(qk v0 (eF f v1)).up 0 1=qk v1 (eF f v2):=by
   simp[Fm.e9,Tm.e9,v0,v1,v2,eL,F.up,eF]
  rwa [S] at this
 have k:=Tk.subst (L:=L) (hs:=List.map (Fm.up 0 1) (List.map (Fm.up 0 1) (List.map (Fm.up 0 1) hs)++[d])++[N]) P (a:=Mp 1) (b:=Mp 0) (t:=v1) (u:=eF f v2) (Tk.hyp (i:=1) aaF j) (by rw[Q];exact Tk.hyp (i:=0) aaF O);rw[R] at k;exact k
end Go.fH
set_option maxRecDepth 20000
set_option maxHeartbeats 1000000
namespace Go.fH
open Go
abbrev rG:Ty:=.pr .nat .nat
abbrev wy(t:Tm):Tm:=.mk 11 0 .z [t]
abbrev xf(t:Tm):Tm:=.mk 12 0 .z [t]
abbrev YV(a b:Tm):Tm:=.mk 10 0 .z [a,b]
abbrev Th(f x:Tm):Tm:=YV (xf x) (uW f (wy x) (xf x))
abbrev stT(f:Tm):Tm:=.mk 2 0 .nat [.mk 2 0 rG [Th f v0]]
abbrev oH(b c f n:Tm):Tm:=.mk 6 0 rG [YV b c,stT f,n]
abbrev YZ(s:Tm):Fm:=.mk 2 .z [] [qk (wy v0) (wy (s.up 0 1)),qk (xf v0) (xf (s.up 0 1))]
abbrev Md(s:Tm):Fm:=.mk 5 rG [] [YZ s]
abbrev acx(x y:Pf):Pf:=.mk 3 0 .z [] [] [x,y]
abbrev acU(x:Pf):Pf:=.mk 4 0 .z [] [] [x]
abbrev abe(x:Pf):Pf:=.mk 5 0 .z [] [] [x]
abbrev Wm(b c f:Tm):Fm:=.mk 4 .nat [] [oS (wy (oH b c f v0))]
abbrev Vg(b c f:Tm):Pf:=
 .mk 8 0 .nat [] [] [O9
  (.mk 16 0 .z [v0] [Md (oH b c f v0)] [.mk 10 0 .z [YV b c] [Md (oH b c f iF)] [acx (mq b) (mq c)],O9 (Mp 0) (.mk 10 0 .z [Th f v0] [Md (oH b c f (gK v1))] [acx
    (Gl (qk (xf v1) v0) (abe (Mp 0)) (mq (xf v0)))
    (Gl (qk (uW f (wy v1) (xf v1)) (uW f (wy (oH b c f v2)) v0)) (abe (Mp 0)) (Gl (qk (uW f (wy v1) (xf v1)) (uW f v0 (xf v1))) (acU (Mp 0)) (mq (uW f (wy v0) (xf v0)))))])])
  (qu (wy (oH b c f v1)) (wy v0) (acU (Mp 0)))]
def mv.XQ{k i:Int}{s:Ty}{a b:Tm}(h:mv a b):mv (.mk k i s [a]) (.mk k i s [b]):=by
 induction h with
 |refl t=>exact .refl _|step h _ ih=>exact .step (.n1 k i s h) ih
def w4:rG.err=0:=aak
def Vs:(Ty.fn rG rG).err=0:=aak
def abJ:(Ty.fn .nat (.fn rG rG)).err=0:=aak
section
variable{b c f:Tm}
def IG(b:dQ [] f (.fn .nat (.fn .nat .nat))){g:List Ty}{x:Tm}(a:dQ g x rG):dQ g (Th f x) rG:=.pair w4 (.snd a) (.app (.app (b.cls _) (.fst a)) (.snd a))
def aaD(a:dQ [] f (.fn .nat (.fn .nat .nat))):dQ [] (stT f) (.fn .nat (.fn rG rG)):=.lam abJ (.lam Vs (IG a (gy (g:=[]++[.nat]))))
def N3(a:dQ [] b .nat)(d:dQ [] c .nat):dQ [] (YV b c) rG:=.pair w4 a d
def B_(a:dQ [] b .nat)(d:dQ [] c .nat)(h:dQ [] f (.fn .nat (.fn .nat .nat))){g:List Ty}{n:Tm}(hn:dQ g n .nat):dQ g (oH b c f n) rG:=.rQ w4 ((N3 a d).cls _) ((aaD h).cls _) hn
def PE{g:List Ty}{s:Tm}(hs:dQ g s rG):ia (g++[rG]) (YZ s):=.two (.inl rfl) (.eq (.fst gy) (.fst (hs.lift [rG]))) (.eq (.snd gy) (.snd (hs.lift [rG])))
def E5{g:List Ty}{s:Tm}(hs:dQ g s rG):ia g (Md s):=.q (.inr (.inl rfl)) w4 (PE hs)
def LS(t:Tm):Tm.fK 0 v0 t=t:=by
 unfold v0;rw[Tm.eG,dO rfl];unfold Tm.iG;rw[dO rfl,ma]
def Qv{g:List Ty}{s:Tm}(hs:dQ g s rG)(t:Tm):Fm.fK 0 (YZ s) t=.mk 2 .z [] [qk (wy t) (wy s),qk (xf t) (xf s)]:=by
 simp[Fm.eG,Tm.eG,eL,qB,h7,QT hs,LS]
def QS(d:dQ [] b .nat)(h:dQ [] c .nat)(a:dQ [] f (.fn .nat (.fn .nat .nat))){g:List Ty}{n:Tm}(hn:dQ g n .nat):mv (oH b c f (gK n)) (Th f (oH b c f n)):=by
 have F:=a.cl;have i:=B_ d h a hn;have j:=(aaD a).cls g;have k:(Tm.mk 2 0 rG [Th f v0]).ok=true:=(dQ.lam (g:=[]) Vs (IG a (gy (g:=[])))).ok;have l:(Th f v0).ok=true:=(IG a (gy (g:=[]))).ok;refine .step (.Jn 0 _ 0 .z (kr.refl _ (N3 d h).ok) (kr.refl _ j.ok) (kr.refl _ hn.ok)) ?_;refine .step (.n2 3 0 _ (.beta 0 _ 0 _ (kr.refl _ k) (kr.refl _ hn.ok)) (kr.refl _ i.ok)) ?_
 have o:Tm.fK 0 (.mk 2 0 rG [Th f v0]) n=.mk 2 0 rG [Th f v0]:=by
  simp[Tm.eG,v0,Tm.iG,eL,F.fK,eF]
 rw[o];refine .step (.beta 0 _ 0 _ (kr.refl _ l) (kr.refl _ i.ok)) ?_
 have q:Tm.fK 0 (Th f v0) (oH b c f n)=Th f (oH b c f n):=by
  rw[Tm.eG,dI aak];simp only[lF,l',show eL 10=0 from rfl,th,eF];simp[Tm.eG,eL,F.fK,LS];rfl
 rw[q];exact .refl _
def acm(d:dQ [] b .nat)(h:dQ [] c .nat)(a:dQ [] f (.fn .nat (.fn .nat .nat))){g:List Ty}{n:Tm}(hn:dQ g n .nat):zF (wy (oH b c f (gK n))) (xf (oH b c f n)):=by
 have i:=B_ d h a hn;have hw:=IG a i;refine .star (dQ.fst (B_ d h a (.succ hn))).ok (((QS d h a hn).XQ).trans (.step (.fst 0 _ 0 _ _ (kr.refl _ (dQ.snd i).ok)) (.refl _)))
def adp(d:dQ [] b .nat)(h:dQ [] c .nat)(a:dQ [] f (.fn .nat (.fn .nat .nat))){g:List Ty}{n:Tm}(hn:dQ g n .nat):zF (xf (oH b c f (gK n))) (uW f (wy (oH b c f n)) (xf (oH b c f n))):=by
 have i:=B_ d h a hn;have hw:=IG a i;refine .star (dQ.snd (B_ d h a (.succ hn))).ok (((QS d h a hn).XQ).trans (.step (.snd 0 _ 0 _ _ (kr.refl _ (dQ.app (.app (a.cls g) (.fst i)) (.snd i)).ok)) (.refl _)))
def aaQ{g:List Ty}{x y:Tm}(a:dQ g x .nat)(b:dQ g y .nat):zF (wy (YV x y)) x:=.star (dQ.fst (dQ.pair w4 a b)).ok (.step (.fst 0 _ 0 _ _ (kr.refl _ a.ok)) (.refl _))
def ZP{g:List Ty}{x y:Tm}(b:dQ g x .nat)(a:dQ g y .nat):zF (xf (YV x y)) y:=.star (dQ.snd (dQ.pair w4 b a)).ok (.step (.snd 0 _ 0 _ _ (kr.refl _ a.ok)) (.refl _))
def Ye(a:dQ [] b .nat)(d:dQ [] c .nat)(j:dQ [] f (.fn .nat (.fn .nat .nat)))(g:List Ty):zF (wy (oH b c f iF)) b/\zF (xf (oH b c f iF)) c:=by
 have h:mv (oH b c f iF) (YV b c):=.step (.IF 0 _ 0 .z _ (kr.refl _ (N3 a d).ok)) (.refl _);have i:=B_ a d j (g:=g) .zero;exact⟨.star (dQ.fst i).ok (h.XQ.trans (.step (.fst 0 _ 0 _ _ (kr.refl _ a.ok)) (.refl _))),.star (dQ.snd i).ok (h.XQ.trans (.step (.snd 0 _ 0 _ _ (kr.refl _ d.ok)) (.refl _)))⟩
end
def ahn{b c f:Tm}(j:dQ [] b .nat)(k:dQ [] c .nat)(l:dQ [] f (.fn .nat (.fn .nat .nat)))(L:List Fm)(g:List Ty)(hs:List Fm):Tk L g hs (Vg b c f) (Wm b c f):=by
 have B:=j.cl;have C:=k.cl;have F:=l.cl;have R:∀{g:List Ty} {n:Tm},dQ g n .nat->dQ g (oH b c f n) rG:=λh=>B_ j k l h;have A:∀{g:List Ty} {x y:Tm},dQ g x .nat->dQ g y .nat->dQ g (uW f x y) .nat:=λh T=>.app (.app (l.cls _) h) T;have K:dQ (g++[.nat]) v0 .nat:=gy;have w:dQ (g++[.nat]++[.nat]) v0 .nat:=gy;have q:dQ (g++[.nat]++[.nat]++[rG]) v0 rG:=gy;have t:dQ (g++[.nat]++[.nat]++[rG]) v1 .nat:=kW;have U:dQ (g++[.nat]++[rG]) v0 rG:=gy;have V:dQ (g++[.nat]++[rG]) v1 .nat:=kW
 have r:∀(n n':Tm),n.up 0 1=n'->(oH b c f n).up 0 1=oH b c f n':=λn n' h=>by
  simp[Tm.e9,eL,B.up,C.up,F.up,h,v0,eF]
 have d:v0.up 0 1=v1:=by simp[Tm.e9,v0,v1]
 have us:∀{n n':Tm},n.up 0 1=n'->(gK n).up 0 1=gK n':=λh=>by simp[Tm.e9,eL,h,gK]
 have D:∀(a:Tm),Fm.fK 0 (Md (oH b c f v0)) a=Md (oH b c f a):=λa=>by
  rw[Fm.eG];simp only[lF,l',show qB 5=1 by decide];rw[Fm.eG];simp only[lF,l',show qB 2=0 by decide,th,show(0:Int)+1=1 from rfl];rw[Fm.eG,Fm.eG,r v0 v1 d];simp only[lF,l'];simp[Tm.e9,Tm.eG,v0,v1,Tm.iG,eL,B.up,C.up,F.up,B.fK,C.fK,F.fK,eF]
 refine Tk.allI Ty.fb (Tk.exE (s:=rG) w4 (x:=YZ (oH b c f v0)) ?_ (mz (.fst (R K))) λz W tz=>?_)
 ·show Tk L _ _ _ (Md (oH b c f v0));refine Eq.mp (congrArg (Tk L (g++[.nat]) (hs.map (Fm.up 0 1)) _) (D v0)) (Tk.ind (F:=Md (oH b c f v0)) (E5 (R w)) K ?_ ?_)
  ·rw[D];refine Tk.exI ((N3 j k).cls _) (E5 (R (n:=iF) .zero)) (PE (R (n:=iF) .zero)) ?_;rw[Qv (R (g:=g++[.nat]) (n:=iF) .zero)];have M:=Ye j k l [];exact(Tk.NV (Tk.refl (j.cls _)) (Tk.refl (k.cls _))).cv (.two (.eq (aaQ j k).symm M.1.symm) (.eq (ZP j k).symm M.2.symm))
  ·have X:Fm.fK 0 ((Md (oH b c f v0)).up 1 1) (gK v0)=Md (oH b c f (gK v0)):=by
    rw[<-D (gK v0)]
    congr 1
    rw[Fm.e9];simp only[lF,l',show qB 5=1 by decide];rw[Fm.e9];simp only[lF,l',show qB 2=0 by decide,th];rw[Fm.e9,Fm.e9,r v0 v1 d];simp only[lF,l'];simp[Tm.e9,v0,v1,eL,B.up,C.up,F.up,eF]
   rw[X];refine Tk.exE (s:=rG) w4 (x:=YZ (oH b c f v0)) (Tk.hyp (i:=0) aaF (.refl (E5 (R w)))) (E5 (R (.succ w))) λN Y hx=>?_
   have Z:(Md (oH b c f (gK v0))).up 0 1=Md (oH b c f (gK v1)):=by
    have v12:v1.up 0 1=v2:=by simp[Tm.e9,v1,v2]
    show(Fm.mk 5 rG [] [.mk 2 .z [] [qk (wy v0) (wy ((oH b c f (gK v0)).up 0 1)),qk (xf v0) (xf ((oH b c f (gK v0)).up 0 1))]]).up 0 1=.mk 5 rG [] [.mk 2 .z [] [qk (wy v0) (wy ((oH b c f (gK v1)).up 0 1)),qk (xf v0) (xf ((oH b c f (gK v1)).up 0 1))]];rw[r _ _ (us d),r _ _ (us v12)];simp[Fm.e9,qB,h7,Tm.e9,v0,v1,v2,eL,B.up,C.up,F.up,eF,gK]
   rw[Z];have ad:dQ (g++[.nat]++[.nat]++[rG]) (oH b c f v1) rG:=R t;have o:dQ (g++[.nat]++[.nat]++[rG]) (oH b c f (gK v1)) rG:=R (.succ t);refine Tk.exI (IG l q) (E5 o) (PE o) ?_;rw[Qv o]
   have G:rO N (.mk 2 .z [] [qk (wy v0) (wy (oH b c f v1)),qk (xf v0) (xf (oH b c f v1))]):=by
    have e:YZ (oH b c f v0)=.mk 2 .z [] [qk (wy v0) (wy (oH b c f v1)),qk (xf v0) (xf (oH b c f v1))]:=by rw[YZ,r v0 v1 d]
    rw[<-e];exact Y
   generalize hH:(List.map (Fm.up 0 1) (List.map (Fm.up 0 1) (List.map (Fm.up 0 1) hs)++[Md (oH b c f v0)])++[N])=H;have hyp:Tk L (g++[.nat]++[.nat]++[rG]) H (Mp 0) _:=Tk.hyp (i:=0) (by rw[<-hH];simp) G;have hl:=Tk.aed hyp;have O:=Tk.ahf hyp;have I:dQ (g++[.nat]++[.nat]++[rG]) (uW f (wy v0) (xf v0)) .nat:=A (.fst q) (.snd q);have u:dQ (g++[.nat]++[.nat]++[rG]++[.nat]) v1 rG:=kW;have w0:dQ (g++[.nat]++[.nat]++[rG]++[.nat]) v0 .nat:=gy;have w2:dQ (g++[.nat]++[.nat]++[rG]++[.nat]) v2 .nat:=uJ;have P:dQ (g++[.nat]++[.nat]++[rG]++[.nat]) (uW f (wy v1) (xf v1)) .nat:=A (.fst u) (.snd u)
   have q1:∀a,Tm.fK 0 (xf v1) a=xf v0:=λa=>by simp[Tm.eG,v0,v1,Tm.iG,eL]
   have v:∀a,Tm.fK 0 (uW f (wy v1) (xf v1)) a=uW f (wy v0) (xf v0):=λa=>by simp[Tm.eG,v0,v1,Tm.iG,eL,F.fK,eF]
   have left:=Tk.subst (.eq (.snd u) w0) O (b:=mq (xf v0)) (by
    rw[Fm.eG];simp only[lF,l',q1,LS]
    exact Tk.refl (.snd q))
   rw[Fm.eG] at left;simp only[lF,l',q1,LS] at left
   have Q:∀a,Tm.fK 0 (uW f v0 (xf v1)) a=uW f a (xf v0):=λa=>by
    simp[Tm.eG,v0,v1,Tm.iG,eL,F.fK,eF,ma]
   have inner:=Tk.subst (.eq P (A w0 (.snd u))) hl (b:=mq (uW f (wy v0) (xf v0))) (by
    rw[Fm.eG];simp only[lF,l',v,Q]
    exact Tk.refl I)
   rw[Fm.eG] at inner;simp only[lF,l',v,Q] at inner
   have S:∀a,Tm.fK 0 (uW f (wy (oH b c f v2)) v0) a=uW f (wy (oH b c f v1)) a:=λa=>by
    simp[Tm.eG,v0,v1,v2,Tm.iG,eL,F.fK,B.fK,C.fK,eF,ma]
   have right:=Tk.subst (.eq P (A (.fst (R w2)) w0)) O (by
    rw[Fm.eG];simp only[lF,l',v,S]
    exact inner)
   rw[Fm.eG] at right;simp only[lF,l',v,S] at right;refine(Tk.NV left right).cv (.two (.eq ?_ ?_) (.eq ?_ ?_))
   ·exact(aaQ (.snd q) I).symm
   ·exact(acm j k l t).symm
   ·exact(ZP (.snd q) I).symm
   ·exact(adp j k l t).symm
 ·have e1:(oS (wy (oH b c f v0))).up 0 1=oS (wy (oH b c f v1)):=by
   have v12:v1.up 0 1=v2:=by simp[Tm.e9,v1,v2]
   rw[Fm.e9];simp only[lF,l',show qB 5=1 by decide,show(0:Int)+1=1 from rfl];rw[Fm.e9];simp only[lF,l'];simp[Tm.e9,v0,v1,v2,eL,B.up,C.up,F.up,eF]
  rw[e1];refine Tk.shown (.fst (R V)) (.fst U) ?_
  have J:rO z (.mk 2 .z [] [qk (wy v0) (wy (oH b c f v1)),qk (xf v0) (xf (oH b c f v1))]):=by
   have e:YZ (oH b c f v0)=.mk 2 .z [] [qk (wy v0) (wy (oH b c f v1)),qk (xf v0) (xf (oH b c f v1))]:=by rw[YZ,r v0 v1 d]
   rw[<-e];exact W
  exact Tk.aed (Tk.hyp (i:=0) aaF J)
end Go.fH
set_option maxRecDepth 20000
set_option maxHeartbeats 1000000
namespace Go.fH
open Go
def BZ:∀(n:Nat) (t:Tm) (f:Int),t.aiK<=n->t.ok=true->t.aiK<=1000000000->0<=f->f+t.aiK<=10000000000->t.aiO 1000000000000=true->kS n t f 1=some (t.up f 1):=by
 intro n
 induction n with
 |zero=>intro t f h;have:=t.eC;omega
 |succ n ih=>
  intro t f h y o C q hi;cases t with
  |mk k i s l=>
   rw[Tm.dJ] at h o q;rw[Tm.fx] at hi;simp only[gG,oy,kE] at hi;have D:=Tm.fC l;have F:=iM k;have b:=y;rw[Tm.gQ] at b;simp only[gG,kE] at b
   have A:0<=i:=by
    have:=b.1;simp only[Tm.node,gG,oy] at this;exact this.1.1.2
   rw[kS,dI aak,Tm.e9];simp only[Tm.er,Tm.gY,Tm.eD,Tm.fu,gP]
   by_cases r:k=1
   ·subst r
    have d:l=[]:=by
     have:=b.1;simp only[Tm.node,gL,gG,oy] at this;cases l with
     |nil=>rfl|cons a l=>simp at this;omega
    subst d;rw[dO rfl]
    by_cases c:f<=i
    ·rw[fR VW VW,dO ⟨rfl,c⟩,show rb i f=true by rw[jc];exact c];rfl
    ·rw[dI (λh=>c h.2),show rb i f=false by
      cases u:rb i f with
      |false=>rfl|true=>exact absurd ((jc _ _).1 u) c];rfl
   ·rw[dI r,dI (λh=>r h.1)];simp only[dZ,ed (l:=l) VW,dX];rw[jU (Tm.up (f+eL k) 1) l 0 [] aby]
    ·simp only[dF,ew,qc]
    ·intro j x v w B;have:=ep Tm.aiK w
     have e:e_ (ei k 2) (fl .i64 f 1) f=f+eL k:=by
      unfold eL
      by_cases c:k=2
      ·rw[dO c,show ei k 2=true by rw[gP];exact c,fR VW VW];rfl
      ·rw[dI c,show ei k 2=false by
        cases u:ei k 2 with
        |false=>rfl|true=>exact absurd ((gP _ _).1 u) c,th];rfl
     rw[e,ih x (f+eL k) VW (b.2 x w) VW VW VW (hi.2 x w)];simp[fM (l:=v) (m:=[x.up (f+eL k) 1]) (by simpa using B)]
def exists_eq{g:List Ty}{s:Tm}(h:dQ g s .nat)(hg:g.length<=1000)(hn:s.aiK<=1000000):eR s=some (oS s):=by
 unfold eR;have e:kS FU s 0 1=some (s.up 0 1):=BZ FU s 0 (by rw[fD];omega) h.ok VW VW VW (h.aiO _ VW);rw[e];rfl
def IP{g:List Ty}{s:Tm}{t:Ty}(h:dQ g s t)(hg:g.length<=1000)(hn:s.aiK<=1000000):kS FU s 0 1=some (s.up 0 1):=
 BZ FU s 0 (by rw[fD];omega) h.ok VW VW VW (h.aiO _ VW)
def GP{t:Tm}{s:Ty}(h:dQ [] t s)(hn:t.aiK<=4096)(hs:s.aiK<=64):sm [] t=some (s,0):=by
 have he:t.err=0:=Tm.na h.ok hn;have hw:=t.iv h.ok
 have a:im []:=λs hs=>by simp at hs
 unfold sm;rw[Fq [] aaF aaF,dF,show xm []=0 from rfl,dI nz,Al VW,dF,he,dI nz,IJ a aaF,dF,sO h.ok a aby,rm h a aby,q9,dN,dI nz];show dE (j8 FU s) _=_;rw[tA VW,dF]
def rL{t:Tm}{s:Ty}(h:dQ [] t s)(hn:t.aiK<=4096)(hs:s.aiK<=64):iB t s=some 0:=by
 unfold iB;rw[GP h hn hs,dN,dZ,dO aak];unfold yB;rw[pD VW,CT];rfl
def Dg:gj=some .nat:=rfl
def ac8:s5=some .ir:=rfl
def VP:px=some (.fn .nat .nat):=by kernel_rfl
def RC:pA .nat [.nat,.nat]=some (.fn .nat (.fn .nat .nat)):=by kernel_rfl
def Zj:pA .nat [.nat,.ir,.nat]=some (.fn .nat (.fn .ir (.fn .nat .nat))):=by kernel_rfl
def KW:eX 0=some v0:=rfl
def QL:eX 1=some v1:=rfl
def Rr:eX 2=some v2:=rfl
def afb:eX 3=some v3:=rfl
def ZJ:kl 4 []=some iF:=rfl
def aad(x:Tm):kl 5 [x]=some (gK x):=rfl
def HD(f x:Tm):gN f [x]=some (eF f x):=by
 cases f with|mk k i s l=>cases s;rfl
def MY(f x y:Tm):gN f [x,y]=some (uW f x y):=by
 cases f with|mk k i s l=>cases s;rfl
def UK(f x y z:Tm):gN f [x,y,z]=some (HJ f x y z):=by
 cases f with|mk k i s l=>cases s;rfl
def QX(a b:Tm):mD a b=some (qk a b):=rfl
def S4(k:Int)(s:Ty)(f:Fm):pG k s f=some (.mk k s [] [f]):=rfl
def Hf(t:Tm):kv t=some (mq t):=rfl
def AX(f:Fm)(t:Tm)(p:Pf):jH f t p=some (.mk 10 0 .z [t] [f] [p]):=rfl
def HT(s:Ty)(p:Pf):o5 s p=some (.mk 8 0 s [] [] [p]):=rfl
def LB(i:Int):km i=some (Mp i):=rfl
def Hj(f:Fm)(p q:Pf):jE f p q=some (Gl f p q):=rfl
def acd(t:Tm)(p:Pf):vM t p=some (.mk 9 0 .z [t] [] [p]):=rfl
def X5(k:Int)(l:List Pf):l_ k l=some (.mk k 0 .z [] [] l):=rfl
def PV(k:Int)(f:Fm)(t:Tm)(p q:Pf):l8 k f t p q=some (.mk k 0 .z [t] [f] [p,q]):=rfl
def aex(n b f:Tm):mg n b f=some (A' b f n):=rfl
def afj(n b f:Tm):jM n b f=some (zK b f n):=rfl
abbrev ads:Pf:=.mk 0 0 .z [] [] []
def Y9{f:Fm}{P:Pf}(c:f.wt<=1000000000)(d:P.wt<=1000000000):gT f P=some (if f.err=0/\P.err=0 then(f,P,0)else(.mk 0 .z [] [],ads,4)):=by
 unfold gT;rw[qb c,dF,dZ]
 by_cases a:f.err=0
 ·rw[a,dO aak,zP d,dF];dsimp only
  by_cases b:P.err=0
  ·rw[b,dI nz,dO ⟨rfl,rfl⟩]
  ·rw[dO (by rw[eo];exact b),dI (λh=>b h.2)];rfl
 ·rw[dI (by rw[gP];exact a)];dsimp only;rw[dO (by rw[eo];exact a),dI (λh=>a h.1)];rfl
section
variable{b c f h:Tm}
def Gx(a:dQ [] f (.fn .nat .nat))(hn:f.aiK<=4096):lu f=gT (CW f) (wE f):=by
 have b:eR (eF f v0)=some (oS (eF f v0)):=exists_eq (g:=[.nat]) (.app (a.cls _) (gy (g:=[]))) aaF (by rw[eF,Tm.dJ];simp only[ea];rw[show v0.aiK=1 from rfl];omega);unfold lu;simp only[VP,dF,rL a hn aak,dI nz,KW,HD,Dg,b,S4,Hf,AX,HT];cases hm:gT (.mk 4 .nat [] [oS (eF f v0)]) (.mk 8 0 .nat [] [] [.mk 10 0 .z [eF f v0] [oS (eF f v0)] [mq (eF f v0)]])with
 |none=>rfl|some r=>rfl
def Wv(d:dQ [] b .nat)(a:dQ [] f (.fn .nat (.fn .nat .nat)))(c:b.aiK<=4096)(hn:f.aiK<=4096):p4 b f=gT (T4 b f) (Uw b f):=by
 have R:∀{g:List Ty} {n:Tm},dQ g n .nat->dQ g (A' b f n) .nat:=λh=>.rQ Ty.fb (d.cls _) (a.cls _) h;have F:=a.cl
 have n1:∀{n:Tm},n.aiK<=10->(A' b f n).aiK<=1000000:=λ{n} h=>by rw[Tm.dJ];simp only[ea];omega
 have i:eR (A' b f (gK v1))=some (oS (A' b f (gK v1))):=exists_eq (g:=[.nat,.nat]) (R (.succ (kW (g:=[])))) aaF (n1 aak);have j:eR (A' b f iF)=some (oS (A' b f iF)):=exists_eq (g:=[]) (R .zero) aaF (n1 aak);have k:eR (A' b f v0)=some (oS (A' b f v0)):=exists_eq (g:=[.nat]) (R (gy (g:=[]))) aaF (n1 aak)
 have l:kS FU (uW f v1 v0) 0 1=some (uW f v2 v1):=by
  rw[IP (s:=uW f v1 v0) (g:=[.nat,.nat]) (t:=.nat) (.app (.app (a.cls _) (kW (g:=[]))) (gy (g:=[.nat]))) aaF (by simp only[eF,Tm.dJ,ea];rw[show v0.aiK=1 from rfl,show v1.aiK=1 from rfl];omega)];simp[Tm.e9,v0,v1,v2,eL,F.up,eF]
 unfold p4;simp only[Dg,dF,rL d c aak,dI nz,RC,rL a hn aak,KW,QL,Rr,MY,aad,ZJ,aex,i,j,k,l,QX,LB,Hf,Hj,AX,X5,PV,S4,HT];cases hm:gT (T4 b f) (Uw b f)with
 |none=>rfl|some r=>rfl
def Lp(d:dQ [] b .nat)(a:dQ [] f (.fn .nat (.fn .ir (.fn .nat .nat))))(c:b.aiK<=4096)(hn:f.aiK<=4096):l9 b f=gT (TO b f) (TN b f):=by
 have R:∀{g:List Ty} {n:Tm},dQ g n .ir->dQ g (zK b f n) .nat:=λh=>.fold Ty.fb (d.cls _) (a.cls _) h;have F:=a.cl
 have n1:∀{n:Tm},n.aiK<=10->(zK b f n).aiK<=1000000:=λ{n} h=>by rw[Tm.dJ];simp only[ea];omega
 have i:eR (zK b f (.mk 8 0 .z [v2,v1]))=some (oS (zK b f (.mk 8 0 .z [v2,v1]))):=exists_eq (g:=[.nat,.ir,.nat]) (R (.cons (uJ (g:=[])) (kW (g:=[.nat])))) aaF (n1 aak);have j:eR (zK b f (.mk 7 0 .z []))=some (oS (zK b f (.mk 7 0 .z []))):=exists_eq (g:=[]) (R .nil) aaF (n1 aak);have k:eR (zK b f v0)=some (oS (zK b f v0)):=exists_eq (g:=[.ir]) (R (gy (g:=[]))) aaF (n1 aak)
 have l:kS FU (HJ f v2 v1 v0) 0 1=some (HJ f v3 v2 v1):=by
  rw[IP (s:=HJ f v2 v1 v0) (g:=[.nat,.ir,.nat]) (t:=.nat) (.app (.app (.app (a.cls _) (uJ (g:=[]))) (kW (g:=[.nat]))) (gy (g:=[.nat,.ir]))) aaF (by simp only[eF,Tm.dJ,ea];rw[show v0.aiK=1 from rfl,show v1.aiK=1 from rfl,show v2.aiK=1 from rfl];omega)];simp[Tm.e9,v0,v1,v2,v3,eL,F.up,eF]
 unfold l9;simp only[Dg,ac8,dF,rL d c aak,dI nz,Zj,rL a hn aak,KW,QL,Rr,afb,UK,show∀x y,kl 8 [x,y]=some (.mk 8 0 .z [x,y])fromλ_ _=>rfl,show kl 7 []=some (.mk 7 0 .z [])from rfl,afj,i,j,k,l,QX,LB,Hf,Hj,AX,X5,PV,S4,HT];cases hm:gT (TO b f) (TN b f)with
 |none=>rfl|some r=>rfl
def NL{s:Ty}(q:dQ [] f s)(r:dQ [] h s)(j:f.aiK<=4096)(l:h.aiK<=4096)(hs:s.aiK<=64){n:Option Ty}(hn:n=some s)(k:Unit⊕(Fm×Pf×Int)->Option (Fm×Pf×Int)):dE (eY (λ(t:Int) (o:Tm) (_:Unit)=>dE n λb=>dE (iB o b) λa=>if(eE a 0) then fE (iy a) λc d i=>some (fZ.ret (c,d,i))else some (.next ())) [f,h] 0 ()) k=k (.inl ()):=by
 subst hn;rw[fp,dF,rL q j hs,dF,dI nz,dF,fw,fp,dF,rL r l hs,dF,dI nz,dF,fw,pj,dF]
end
end Go.fH
set_option maxRecDepth 20000
set_option maxHeartbeats 2000000
namespace Go.fH
open Go
def afh(x:Tm):ig x=some (wy x):=rfl
def agc(x:Tm):ij x=some (xf x):=rfl
def afx(n b c f:Tm):jI n rG b c (Th f v0)=some (oH b c f n):=rfl
def VV{g:List Ty}{s:Tm}(h:dQ g s rG)(hg:g.length<=1000)(hn:s.aiK<=1000000):iY s rG=some (Md s):=by
 unfold iY;rw[IP h hg hn];rfl
def RT{b c f:Tm}(i:dQ [] b .nat)(j:dQ [] c .nat)(k:dQ [] f (.fn .nat (.fn .nat .nat)))(a:b.aiK<=4096)(d:c.aiK<=4096)(hn:f.aiK<=4096):oJ b c f=gT (Wm b c f) (Vg b c f):=by
 have R:∀{g:List Ty} {n:Tm},dQ g n .nat->dQ g (oH b c f n) rG:=λh=>B_ i j k h
 have n1:∀{n:Tm},n.aiK<=10->(oH b c f n).aiK<=100000:=λ{n} h=>by
  simp only[eF,Tm.dJ,ea];rw[show v0.aiK=1 from rfl];omega
 have l:∀{n:Tm},n.aiK<=10->(wy (oH b c f n)).aiK<=1000000:=λ{n} h=>by
  have:=n1 h;rw[Tm.dJ];simp only[ea];omega
 have o:iY (oH b c f iF) rG=some (Md (oH b c f iF)):=VV (g:=[]) (R .zero) aaF (by have:=n1 (n:=iF) aak;omega);have q:iY (oH b c f (gK v1)) rG=some (Md (oH b c f (gK v1))):=VV (g:=[.nat,.nat]) (R (.succ (kW (g:=[])))) aaF (by have:=n1 (n:=gK v1) aak;omega);have c3:iY (oH b c f v0) rG=some (Md (oH b c f v0)):=VV (g:=[.nat]) (R (gy (g:=[]))) aaF (by have:=n1 (n:=v0) aak;omega);have s:eR (wy (oH b c f v1))=some (oS (wy (oH b c f v1))):=exists_eq (g:=[.nat,.nat]) (.fst (R (kW (g:=[])))) aaF (l aak);have t:eR (wy (oH b c f v0))=some (oS (wy (oH b c f v0))):=exists_eq (g:=[.nat]) (.fst (R (gy (g:=[])))) aaF (l aak);unfold oJ;rw[dZ,ed aaF,dX,dZ,NL i j a d aak Dg,ew];simp-implicitDefEqProofs only[Dg,dF,RC,rL k hn aak,dI nz,KW,QL,Rr,afh,agc,MY,show Ty.mk 3 [Ty.nat,Ty.nat]=rG from rfl,show∀x y,kl 10 [x,y]=some (YV x y)fromλ_ _=>rfl,ZJ,aad,afx,o,q,c3,s,t,Hf,X5,AX,QX,LB,Hj,PV,HT,S4];cases hm:gT (Wm b c f) (Vg b c f)with
 |none=>rfl|some r=>rfl
end Go.fH
namespace Go.fH
open Go
structure PfP (k j:Int) (u:Ty) (us:List Tm) (gs:List Fm) (ps:List Pf):Prop where
 s:u.aiK<=64
 n:ps.length<=2
 i:0<=j
 ts:∀t∈us,t.ok=true
 fs:∀f∈gs,f.ok=true
 l:∀p∈ps,p.ok=true
 hyp:k=1->u=.z/\us=[]/\gs=[]/\ps=[]
def Pf.okP{k i:Int}{s:Ty}{ts:List Tm}{fs:List Fm}{l:List Pf}(h:(Pf.mk k i s ts fs l).ok=true):PfP k i s ts fs l:=by
 rw[Pf.gQ] at h;simp only[gG,kE] at h;obtain⟨⟨⟨f,o⟩,q⟩,t⟩:=h;cases d:Pf.sig k with
 |none=>unfold Pf.node at f;rw[d] at f;cases f
 |some r=>
  obtain⟨A,ty,a,b,c⟩:=r;obtain⟨q1,u,v,w,B,x,j⟩:=ju f d
  have y:c<=2/\(k=1->a=0/\b=0/\c=0/\ty=false):=by
   unfold Pf.sig at d
   repeat' split at d
   all_goals first
    |(cases d;done)
    |(simp only[BI,R3] at d
      obtain⟨rfl,rfl,rfl,rfl,rfl⟩:=d;refine⟨VW,λn=>?_⟩
      first|(refine⟨rfl,rfl,rfl,rfl⟩;done)|omega)
  refine⟨?_,VW,w,o,q,t,λn=>?_⟩
  ·cases ty with
   |true=>exact eV (x rfl)|false=>rw[j rfl];decide
  ·obtain⟨rfl,rfl,rfl,rfl⟩:=y.2 n;exact⟨j rfl,gh.1 q1,gh.1 u,gh.1 v⟩
def Pf.iv(P:Pf):P.ok=true->P.wt<=65*P.aiK:=by
 induction P using Pf.ind with
 |h k i s ts fs l ih=>
  intro d;have b:=Pf.okP d;rw[Pf.i_,Pf.dJ];have j:=xz (f:=Tm.wt) (g:=Tm.aiK) (c:=65) (l:=ts) λx a=>x.iv (b.ts x a);have n:=xz (f:=Fm.wt) (g:=Fm.aiK) (c:=65) (l:=fs) λx a=>x.iv (b.fs x a);have o:=xz (f:=Pf.wt) (g:=Pf.aiK) (c:=65) (l:=l) λx a=>ih x a (b.l x a);have:=b.s;omega
end Go.fH
set_option maxRecDepth 20000
set_option maxHeartbeats 2000000
namespace Go.fH
open Go
def vr{k i:Int}{s:Ty}{ts:List Tm}{fs:List Fm}{l:List Pf}(hn:Pf.node k i s ts.length fs.length l.length=true)(a:∀t∈ts,t.ok=true/\t.aiK<=4096)(b:∀f∈fs,f.ok=true/\f.aiK<=4096)(c:∀p∈l,p.ok=true/\p.small=true):(Pf.mk k i s ts fs l).ok=true/\(Pf.mk k i s ts fs l).small=true:=by
 rw[Pf.gQ,Pf.zX];simp only[gG,kE,S2,S3,oy];exact⟨⟨⟨⟨hn,λt h=>(a t h).1⟩,λf h=>(b f h).1⟩,λp h=>(c p h).1⟩,⟨λt h=>(a t h).2,λf h=>(b f h).2⟩,λp h=>(c p h).2⟩
def Kv{P:Pf}(h:P.ok=true/\P.small=true)(hn:P.aiK<=16384):P.err=0:=by
 unfold Pf.err;rw[dO h.1,dO ⟨h.2,hn⟩]
def AZ{α:Type}{p:α->Prop}:∀x∈([]:List α),p x:=λx h=>by simp at h
def GR{α:Type}{p:α->Prop}{a:α}(h:p a):∀x∈[a],p x:=λx b=>by rw[E'] at b;subst b;exact h
def rP{α:Type}{p:α->Prop}{a b:α}(h:p a)(d:p b):∀x∈[a,b],p x:=λx c=>by
 simp only[lS,vG,ss] at c;rcases c with rfl|rfl
 ·exact h
 ·exact d
def BH(P:Pf):Prop:=P.ok=true/\P.small=true
def Q7(f:Fm):Prop:=f.ok=true/\f.aiK<=4096
def Okt(t:Tm):Prop:=t.ok=true/\t.aiK<=4096
def r9{t:Tm}(h:Okt t):BH (mq t):=vr rfl (GR h) AZ AZ
def r_{i:Nat}:BH (Mp i):=vr (by simp[Pf.node,Pf.sig,Ty.qf]) AZ AZ AZ
def yN{s:Fm}{t:Tm}{p:Pf}(h:Q7 s)(a:Okt t)(b:BH p):BH (.mk 10 0 .z [t] [s] [p]):=vr rfl (GR a) (GR h) (GR b)
def x0{f:Fm}{p q:Pf}(h:Q7 f)(a:BH p)(b:BH q):BH (Gl f p q):=vr rfl AZ (GR h) (rP a b)
def A8{p q:Pf}(a:BH p)(b:BH q):BH (O9 p q):=vr rfl AZ AZ (rP a b)
def QE{p q:Pf}(a:BH p)(b:BH q):BH (acx p q):=vr rfl AZ AZ (rP a b)
def Qw{p:Pf}(a:BH p):BH (acU p):=vr rfl AZ AZ (GR a)
def QD{p:Pf}(a:BH p):BH (abe p):=vr rfl AZ AZ (GR a)
def Rz{t:Tm}{p:Pf}(h:Okt t)(a:BH p):BH (.mk 9 0 .z [t] [] [p]):=vr rfl (GR h) AZ (GR a)
def Ly{k:Int}(a:k=16\/k=17){f:Fm}{t:Tm}{p q:Pf}(h:Q7 f)(b:Okt t)(c:BH p)(d:BH q):BH (.mk k 0 .z [t] [f] [p,q]):=by
 rcases a with rfl|rfl<;>exact vr rfl (GR b) (GR h) (rP c d)
def Ef{s:Ty}(hs:s.err=0){p:Pf}(h:BH p):BH (.mk 8 0 s [] [] [p]):=vr (by simp[Pf.node,Pf.sig,hs]) AZ AZ (GR h)
def IS{g:List Ty}{t:Tm}{s:Ty}(h:dQ g t s)(hn:t.aiK<=4000):Okt t:=⟨h.ok,VW⟩
def xo{g:List Ty}{t:Tm}(h:dQ g t .nat)(hn:t.aiK<=4000):Q7 (oS t):=⟨(mz h).ok,by
 have:=Tm.kK t 0 1
 simp only[Fm.dJ,ea,this];rw[show v0.aiK=1 from rfl];omega⟩
def Fl{g:List Ty}{a b:Tm}(h:dQ g a .nat)(c:dQ g b .nat)(hn:a.aiK+b.aiK<=4000):Q7 (qk a b):=⟨(ia.eq h c).ok,by simp only[Fm.dJ,ea];omega⟩
def DN{g:List Ty}{s:Ty}(hs:s.err=0){t:Tm}(h:dQ (g++[s]) t .nat)(hn:t.aiK<=4000):Q7 (.mk 4 s [] [oS t]):=⟨(ia.q (g:=g) (.inl rfl) hs (mz h)).ok,by
 have:=Tm.kK t 0 1
 simp only[Fm.dJ,ea,this];rw[show v0.aiK=1 from rfl];omega⟩
def Qp:v0.aiK=1:=rfl
def nv1:v1.aiK=1:=rfl
def nv2:v2.aiK=1:=rfl
def nv3:v3.aiK=1:=rfl
def Bl{f:Fm}{P:Pf}(h:Q7 f)(a:BH P)(hn:P.aiK<=16000):gT f P=some (f,P,0):=by
 have w:=f.iv h.1;have b:=P.iv a.1;have e:=h.2;rw[Y9 VW VW,dO ⟨Fm.na h.1 h.2,Kv a VW⟩]
section
variable{b c f h:Tm}
def La(a:dQ [] f (.fn .nat .nat))(hn:f.aiK<=1000):Q7 (CW f)/\BH (wE f)/\(wE f).aiK<=16000:=by
 have t1:dQ [.nat] (eF f v0) .nat:=.app (a.cls _) (gy (g:=[]))
 have n1:(eF f v0).aiK<=4000:=by simp only[eF,Tm.dJ,ea,Qp];omega
 exact⟨DN (g:=[]) Ty.fb t1 n1,Ef Ty.fb (yN (xo t1 n1) (IS t1 n1) (r9 (IS t1 n1))),by simp only[Pf.dJ,Fm.dJ,Tm.dJ,Tm.kK,eF,ea,Qp];omega⟩
def ac7(d:dQ [] b .nat)(l:dQ [] f (.fn .nat (.fn .nat .nat)))(q:b.aiK<=1000)(hn:f.aiK<=1000):Q7 (T4 b f)/\BH (Uw b f)/\(Uw b f).aiK<=16000:=by
 have R:∀{g:List Ty} {n:Tm},dQ g n .nat->dQ g (A' b f n) .nat:=λh=>.rQ Ty.fb (d.cls _) (l.cls _) h;have A:∀{g:List Ty} {x y:Tm},dQ g x .nat->dQ g y .nat->dQ g (uW f x y) .nat:=λh o=>.app (.app (l.cls _) h) o
 have n1:∀{n:Tm},n.aiK<=10->(A' b f n).aiK<=4000:=λ{n} h=>by rw[Tm.dJ];simp only[ea];omega
 have n2:∀{x y:Tm},x.aiK<=10->y.aiK<=10->(uW f x y).aiK<=1500:=λ{x y} h o=>by simp only[eF,Tm.dJ,ea];omega
 have a0:dQ [.nat] v0 .nat:=gy (g:=[]);have j:dQ [.nat,.nat] v1 .nat:=kW (g:=[]);have a:dQ [.nat,.nat] v0 .nat:=gy (g:=[.nat]);have a2:dQ [.nat,.nat,.nat] v2 .nat:=uJ (g:=[]);have k:dQ [.nat,.nat,.nat] v1 .nat:=kW (g:=[.nat]);have c:dQ [.nat,.nat,.nat] v0 .nat:=gy (g:=[.nat,.nat])
 refine⟨DN (g:=[]) Ty.fb (R a0) (n1 aak),Ef Ty.fb (Ly (.inl rfl) (xo (R a0) (n1 aak)) (IS a0 aak) (yN (xo (R (g:=[]) .zero) (n1 aak)) (IS d VW) (r9 (IS d VW)))
  (A8 (r_ (i:=0)) (yN (xo (R (.succ j)) (n1 aak)) (IS (A j a) (by have:=n2 (x:=v1) (y:=v0) aak aak;omega)) (x0 (Fl (A a2 k) (A a2 c) ?_) (r_ (i:=0)) (r9 (IS (A j a) ?_)))))),?_⟩
 ·have:=n2 (x:=v2) (y:=v1) aak aak;have:=n2 (x:=v2) (y:=v0) aak aak;omega
 ·have:=n2 (x:=v1) (y:=v0) aak aak;omega
 ·simp only[Pf.dJ,Fm.dJ,Tm.dJ,Tm.kK,eF,gK,iF,ea,Qp,nv1,nv2,nv3];omega
def ac0(a:dQ [] b .nat)(j:dQ [] f (.fn .nat (.fn .ir (.fn .nat .nat))))(r:b.aiK<=1000)(hn:f.aiK<=1000):Q7 (TO b f)/\BH (TN b f)/\(TN b f).aiK<=16000:=by
 have R:∀{g:List Ty} {n:Tm},dQ g n .ir->dQ g (zK b f n) .nat:=λh=>.fold Ty.fb (a.cls _) (j.cls _) h;have A:∀{g:List Ty} {x y z:Tm},dQ g x .nat->dQ g y .ir->dQ g z .nat->dQ g (HJ f x y z) .nat:=λh k l=>.app (.app (.app (j.cls _) h) k) l
 have n1:∀{n:Tm},n.aiK<=10->(zK b f n).aiK<=4000:=λ{n} h=>by rw[Tm.dJ];simp only[ea];omega
 have n2:∀{x y z:Tm},x.aiK<=10->y.aiK<=10->z.aiK<=10->(HJ f x y z).aiK<=1500:=λ{x y z} h k l=>by simp only[eF,Tm.dJ,ea];omega
 have a0:dQ [.ir] v0 .ir:=gy (g:=[]);have c:dQ [.nat,.ir,.nat] v2 .nat:=uJ (g:=[]);have d:dQ [.nat,.ir,.nat] v1 .ir:=kW (g:=[.nat]);have o:dQ [.nat,.ir,.nat] v0 .nat:=gy (g:=[.nat,.ir]);have c3:dQ [.nat,.ir,.nat,.nat] v3 .nat:=Wo (g:=[]);have q:dQ [.nat,.ir,.nat,.nat] v2 .ir:=uJ (g:=[.nat]);have s:dQ [.nat,.ir,.nat,.nat] v1 .nat:=kW (g:=[.nat,.ir]);have t:dQ [.nat,.ir,.nat,.nat] v0 .nat:=gy (g:=[.nat,.ir,.nat])
 refine⟨DN (g:=[]) Ty.mo (R a0) (n1 aak),Ef Ty.mo (Ly (.inr rfl) (xo (R a0) (n1 aak)) (IS a0 aak) (yN (xo (R (g:=[]) .nil) (n1 aak)) (IS a VW) (r9 (IS a VW)))
  (A8 (r_ (i:=0)) (yN (xo (R (.cons c d)) (n1 aak)) (IS (A c d o) ?_) (x0 (Fl (A c3 q s) (A c3 q t) ?_) (r_ (i:=0)) (r9 (IS (A c d o) ?_)))))),?_⟩
 ·have:=n2 (x:=v2) (y:=v1) (z:=v0) aak aak aak;omega
 ·have:=n2 (x:=v3) (y:=v2) (z:=v1) aak aak aak;have:=n2 (x:=v3) (y:=v2) (z:=v0) aak aak aak;omega
 ·have:=n2 (x:=v2) (y:=v1) (z:=v0) aak aak aak;omega
 ·simp only[Pf.dJ,Fm.dJ,Tm.dJ,Tm.kK,eF,gK,iF,ea,Qp,nv1,nv2,nv3];omega
def acX(c:dQ [] f (.fn .nat .nat))(b:dQ [] h (.fn .nat .nat))(hn:f.aiK<=900)(d:h.aiK<=900){x y:Pf}(j:BH x)(l:BH y)(o:x.aiK<=3000)(q:y.aiK<=3000):Q7 (Wt f h)/\BH (Vd f x h y)/\(Vd f x h y).aiK<=16000:=by
 have A:∀{g:List Ty} {x:Tm},dQ g x .nat->dQ g (eF h (eF f x)) .nat:=λk=>.app (b.cls _) (.app (c.cls _) k)
 have n1:∀{n:Tm},n.aiK<=10->(eF h (eF f n)).aiK<=4000:=λ{n} h=>by simp only[eF,Tm.dJ,ea];omega
 have n2:∀{n:Tm},n.aiK<=10->(eF h n).aiK<=2000:=λ{n} h=>by simp only[eF,Tm.dJ,ea];omega
 have a0:dQ [.nat] v0 .nat:=gy (g:=[]);have a2:dQ [.nat,.nat,.nat] v2 .nat:=uJ (g:=[]);have r:dQ [.nat,.nat] v1 .nat:=kW (g:=[]);have a:dQ [.nat,.nat] v0 .nat:=gy (g:=[.nat]);refine⟨DN (g:=[]) Ty.fb (A a0) (n1 aak),Ef Ty.fb (A8 (Rz (IS a0 aak) j) (A8 (Rz (IS a0 aak) l) (yN (xo (A a2) (n1 aak)) (IS a0 aak) (x0 (Fl r (.app (b.cls _) a) ?_) (r_ (i:=1)) (r_ (i:=0)))))),?_⟩
 ·have:=n2 (n:=v0) aak;rw[nv1];omega
 ·simp only[Pf.dJ,Fm.dJ,Tm.dJ,Tm.kK,eF,gK,iF,ea,Qp,nv1,nv2,nv3];omega
def abq(j:dQ [] b .nat)(k:dQ [] c .nat)(l:dQ [] f (.fn .nat (.fn .nat .nat)))(q:b.aiK<=400)(r:c.aiK<=400)(hn:f.aiK<=400):Q7 (Wm b c f)/\BH (Vg b c f)/\(Vg b c f).aiK<=16000:=by
 have R:∀{g:List Ty} {n:Tm},dQ g n .nat->dQ g (oH b c f n) rG:=λh=>B_ j k l h;have A:∀{g:List Ty} {x y:Tm},dQ g x .nat->dQ g y .nat->dQ g (uW f x y) .nat:=λh s=>.app (.app (l.cls _) h) s
 have n1:∀{n:Tm},n.aiK<=10->(oH b c f n).aiK<=1600:=λ{n} h=>by simp only[eF,Tm.dJ,ea,Qp];omega
 have t:∀{n:Tm},n.aiK<=10->(Md (oH b c f n)).aiK<=4000:=λ{n} h=>by
  have:=n1 h;have e:=Tm.kK (oH b c f n) 0 1;generalize oH b c f n=z at*;simp only[Fm.dJ,Tm.dJ,ea,Qp,e];omega
 have a:∀{g:List Ty} {n:Tm},dQ g n .nat->n.aiK<=10->Q7 (Md (oH b c f n)):=λh hn=>⟨(E5 (R h)).ok,by have:=t hn;omega⟩
 have o:∀{n:Tm},n.aiK<=10->(wy (oH b c f n)).aiK<=4000:=λ{n} h=>by
  have:=n1 h;rw[Tm.dJ];simp only[ea];omega
 have a0:dQ [.nat] v0 .nat:=gy (g:=[]);have u:dQ [.nat,.nat] v1 .nat:=kW (g:=[]);have d:dQ [.nat,rG] v0 rG:=gy (g:=[.nat]);have v:dQ [.nat,rG] v1 .nat:=kW (g:=[]);have w:dQ [.nat,rG,.nat] v2 .nat:=uJ (g:=[]);have q1:dQ [.nat,rG,.nat] v1 rG:=kW (g:=[.nat]);have q0:dQ [.nat,rG,.nat] v0 .nat:=gy (g:=[.nat,rG])
 have B:(uW f (wy v1) (xf v1)).aiK<=600:=by simp only[eF,Tm.dJ,ea,nv1];omega
 have w0:(uW f (wy v0) (xf v0)).aiK<=600:=by simp only[eF,Tm.dJ,ea,Qp];omega
 have C:(uW f v0 (xf v1)).aiK<=600:=by simp only[eF,Tm.dJ,ea,Qp,nv1];omega
 have D:(uW f (wy (oH b c f v2)) v0).aiK<=2400:=by
  have:=n1 (n:=v2) aak;generalize oH b c f v2=z at*;simp only[eF,Tm.dJ,ea,Qp];omega
 have F:(Th f v0).aiK<=1000:=by simp only[eF,Tm.dJ,ea,Qp];omega
 have G:(YV b c).aiK<=2000:=by simp only[Tm.dJ,ea];omega
 refine⟨DN (g:=[]) Ty.fb (.fst (R a0)) (o aak),Ef Ty.fb (A8 (Ly (.inl rfl) (a a0 aak) (IS a0 aak) (yN (a (g:=[]) (n:=iF) .zero aak) (IS (N3 j k) VW) (QE (r9 (IS j VW)) (r9 (IS k VW))))
  (A8 (r_ (i:=0)) (yN (a (n:=gK v1) (.succ u) aak) (IS (IG l d) VW) (QE
   (x0 (Fl (.snd q1) q0 (by simp only[Tm.dJ,ea,Qp,nv1];omega)) (QD (r_ (i:=0))) (r9 (IS (dQ.snd d) aak)))
   (x0 (Fl (A (.fst q1) (.snd q1)) (A (.fst (R w)) q0) VW) (QD (r_ (i:=0))) (x0 (Fl (A (.fst q1) (.snd q1)) (A q0 (.snd q1)) VW) (Qw (r_ (i:=0))) (r9 (IS (A (.fst d) (.snd d)) VW))))))))
  (yN (xo (.fst (R v)) (o aak)) (IS (dQ.fst d) aak) (Qw (r_ (i:=0))))),?_⟩
 simp only[Pf.dJ,Fm.dJ,Tm.dJ,Tm.kK,eF,gK,iF,ea,Qp,nv1,nv2,nv3];omega
end
end Go.fH
set_option maxRecDepth 20000
set_option maxHeartbeats 2000000
namespace Go.fH
open Go
def X0{x:Tm}(h:x.err=0):pV x x 1000=some 0:=by
 have w:=x.iv (Tm.gZ h).1;have n:=(Tm.gZ h).2;unfold pV;obtain⟨r,c,d⟩:=BS (a:=x) (b:=x) VW;rw[Al VW,h,dF,dI nz,dF,dI nz,c,dF,dO (d.2 rfl)]
def Fa{α:Type}{E:α->α->Option Int}{M:List α}:∀(l:List α) (i:Nat),M.drop i=l->(∀x∈l,E x x=some 0)->eY (λ(c:Int) (d:α)=>(λ(_:Unit)=>dE (eb M c) λb=>dE (E d b) λa=>if(eE a 0) then(some (.ret a))else(some ((.next ()):fZ Unit Int)))) l i ()=some (.inl ())
 |[],i,_,_=>by simp|x::l,i,h,f=>by
  have hi:M[i]?=some x:=by
   have:=R2 (xs:=M) (i:=i) (j:=0);rw[h] at this;simpa using this.symm
  have k:M.drop (i+1)=l:=by rw[<-List.drop_drop,h];rfl
  rw[fp,jN,hi];simp only[dF,f x aaF,dI nz,fw];exact Fa l (i+1) k (λy n=>f y (by simp[n]))
def NU:∀(n:Nat) (a:Fm),a.aiK<=n->a.aiK<=100000->a.ok=true->TM a->l6 n a a=some 0:=by
 intro n
 induction n with
 |zero=>intro a h;have:=a.eC;omega
 |succ n ih=>
  intro a hn f i j;cases a with
  |mk k s ts l=>
   cases j with
   |mk c d=>
   rw[Fm.dJ] at hn f;obtain⟨o,a2,a3⟩:=Fm.qG i;have q:=Tm.fC ts;have r:=Fm.fC l
   have z:¬eE k k=true:=by rw[eo];simp
   have t1:=Fa (E:=λx y=>pV x y 1000) (M:=ts) ts 0 rfl (λx b=>X0 (c x b).err)
   have t2:=Fa (E:=λx y=>l6 n x y) (M:=l) l 0 rfl (λx b=>by
    have t:=ep Fm.aiK b
    exact ih x VW VW (a3 x b) (d x b))
   rw[l6];simp only[dZ,Fm.eD,Fm.fu,Fm.er,Fm.hZ,dI z];rw[pD VW,dF,(Ty.kO s s).2 rfl,dI aak,ed VW,dX];rw[t1,dF,ew,ed VW,dX,t2,dF,ew]
def FQ{g:List Ty}{a:Fm}(b:Hg g a)(c:g.length<=1000000):np a a=some 0:=by
 have d:=b.wt;have n1:=b.aiK;unfold np;rw[qb VW,b.err,dF,dI nz,dF,dI nz,NU FU a (by rw[fD];omega) VW b.ok (b.nmF c)];rfl
def Jh{L:List Fm}{P:Pf}{p:d_}{n:Nat}{f:Fm}{u:Int}{g:List Ty}(b:(if ei P.aiI 8 then lL n L P p else(if ei P.aiI 10 then kN n L P p else(if ei P.aiI 18 then kq L P p else none)))=some (⟨f,u⟩,0))(a:Hg g f)(hg:g.length<=16):
  gv (n+1) L P p=some (⟨f,if f.has then u else 0⟩,0):=by
 have w:=a.wt;rw[gv,b,dN,dI nz,qb (by show f.wt<=_;omega),dF,a.err,dI nz,dZ,FM (by show f.wt<=_;omega) (a.aiO hg VW),a.err,dI aak,dN];cases f.has<;>rfl
def aaB{g:List Ty}{t:Tm}(a:dQ g t .nat)(hn:t.aiK<=2000):Hg g (qk t t):=by
 have h:ia g (qk t t):=.eq a a;exact⟨Fm.na h.ok (by rw[Fm.dJ];simp only[ea];omega),h⟩
def ae0{g:List Ty}{t:Tm}(a:dQ g t .nat)(hn:t.aiK<=2000)(b:im g)(hg:g.length<=16){p:d_}(c:p.aiM=g.map tp){L:List Fm}{n:Nat}:gv (n+1) L (mq t) p=some (⟨qk t t,0⟩,0):=by
 have h:=Jh (L:=L) (P:=mq t) (p:=p) (n:=n) (f:=qk t t) (u:=0) (g:=g) (by
  show kq L (mq t) p=_;unfold kq;have d:nM t g 1=0:=By a b VW;rw[show eb (mq t).ef 0=some t from rfl,dF,c,xA a.ok b VW,d,dF,dI nz]
  rfl) (aaB a hn) hg
 rw[h,show(qk t t).has=false from Fm.has_eq _ _ _];rfl
def V'{g:List Ty}{t:Tm}(a:dQ g t .nat)(hn:t.aiK<=2000)(d:im g)(hg:g.length<=16){p:d_}(f:p.aiM=g.map tp){L:List Fm}{n:Nat}:je (n+2) L (mq t) p (qk v0 (t.up 0 1)) t=some (⟨qk t t,0⟩,0):=by
 have c:Hg (g++[.nat]) (qk v0 (t.up 0 1)):=by
  have h:=VH a;have e:=Tm.kK t 0 1;exact⟨Fm.na h.ok (by rw[Fm.dJ];simp only[ea,e];rw[show v0.aiK=1 from rfl];omega),h⟩
 have i:=Uo (t:=t) a;have b:=aaB a hn
 have j:ld (qk v0 (t.up 0 1)) t=(qk t t,0):=by
  unfold ld;rw[i,dI (by have:=b.aiK;omega)]
 rw[je,ae0 a hn d hg f,dN,dI nz,JT c.err (Tm.na a.ok VW) (c.ty.aiO _ (by have:=c.aiK;simp;omega)) (a.aiO _ VW),j,dN,dI nz];show dE (np (qk t t) (qk t t)) _=_;rw[FQ b VW,dF]
def kex{g:List Ty}{t:Tm}(c:dQ g t .nat)(hn:t.aiK<=2000)(k:im g)(hg:g.length<=16){p:d_}(q:p.aiM=g.map tp){L:List Fm}{n:Nat}:∃m:Nat,gv (n+4) L (qu t t (mq t)) p=some (⟨oS t,(m:Int)⟩,0)/\m<4294967296/\∀j:Nat,m.testBit j=true↔0<t.aiQ j:=by
 have i:Hg g (oS t):=by
  have o:=xo c VW;exact⟨Fm.na o.1 o.2,mz c⟩
 have hw:=t.iv c.ok;have l:∀j:Int,32<=j->t.aiQ j=0:=λj r=>c.Cw j VW;obtain⟨m,f1,f2,f3⟩:=HY FU t 0 0 (by rw[fD];omega) VW c.ok (c.aiO _ VW) VW VW aak (λj r=>by rw[th];exact l j r)
 have d:tO t=some (m:Int):=by
  unfold tO vl;rw[show(0:Int)=((0:Nat):Int)from rfl] at*;rw[f1];rfl
 refine⟨m,?_,f2,λj=>by rw[f3];simp⟩
 have h:=Jh (L:=L) (P:=qu t t (mq t)) (p:=p) (n:=n+3) (f:=oS t) (u:=(m:Int)) (g:=g) (by
  show kN (n+2+1) L (qu t t (mq t)) p=_;rw[kN];have s:fB FU (g.map tp) (oS t)=some ((oS t).va g):=Et _ i.ok FU (by rw[fD];have:=i.aiK;omega) g k (by have:=i.aiK;omega) i.aiK;have v:(oS t).va g=0:=om (mz c) k (by have:=i.aiK;omega)
  have w:eM FU (g.map tp) t=some (tp .nat,0):=by
   rw[sO c.ok k VW,rm c k VW,q9]
  rw[show eb (qu t t (mq t)).fI 0=some (oS t)from rfl,dF,show eb (qu t t (mq t)).ef 0=some t from rfl,dF,dI (show¬ei (qu t t (mq t)).aiI 14=true fromλh=>by cases h),q,s,dF,v,dI nz,dI (show¬eE (oS t).aiI 5=true fromλh=>by cases h),w,dN,dI nz,show mX (tp .nat) (oS t).dM=some true by kernel_rfl,dF,dO rfl,
   show eb (qu t t (mq t)).aiJ 0=some (mq t)from rfl,dF,show eb (oS t).aiJ 0=some (qk v0 (t.up 0 1))from rfl,dF,V' c hn k hg q,dN,dI nz,d,dF]
  show some (dV.mk (oS t) (JU .u32 0 (m:Int)),(0:Int))=_;have:=LH (a:=0) (b:=m) VW f2
  rw[show(0:Int)=((0:Nat):Int)from rfl,this,Nat.zero_or]) i hg
 rw[h,show(oS t).has=true by rw[Fm.LG];rfl,dO rfl]
def S1{a k:Nat}(b:k<=32):Vr .u32 (a:Int) (k:Int)=((a/2^k:Nat):Int):=by
 unfold Vr;rw[show IntKind.u32.bits=32 from rfl,CB,U3 b];rw[show((2:Int)^k)=((2^k:Nat):Int) by push_cast;rfl];rw[Int.fdiv_eq_ediv_of_nonneg _ (afe _)];rfl
def XR:lp 0=some []:=by decide+kernel
def afv{f:Tm}(l:dQ [] f (.fn .nat .nat))(hn:f.aiK<=1000):rY [] ⟨[],[]⟩ (wE f)=some (⟨CW f,[]⟩,0):=by
 obtain⟨o1,o2,A⟩:=La l hn;have o:=Kv o2 VW;have r:=(wE f).iv o2.1;have b:dQ ([]++[.nat]) (eF f v0) .nat:=.app (l.cls _) gy
 have c:(eF f v0).aiK<=2000:=by simp only[eF,Tm.dJ,ea];rw[show v0.aiK=1 from rfl];omega
 have hF:Hg [] (CW f):=⟨Fm.na o1.1 o1.2,.q (.inl rfl) Ty.fb (mz b)⟩
 have t:im ([]++[Ty.nat]):=λs hs=>by
  obtain rfl:s=Ty.nat:=by simpa using hs
  exact Ty.fb
 obtain⟨k,v⟩:∃k,FU=(k+4)+1+1:=⟨FU-6,by rw[fD]⟩;obtain⟨m,w,B,x⟩:=kex (p:=d_.mk (eA.mk 1 0) [tp .nat] []) b c t aaF rfl (L:=[]) (n:=k)
 have hm:m/2^1=0:=by
  refine Nat.eq_of_testBit_eq λi=>?_;rw[aeF,Nat.zero_testBit,<-abb,x];have:(eF f v0).aiQ ((i+1:Nat):Int)=0:=b.Cw _ aby;omega
 have hi:gv FU [] (wE f) (d_.mk (eA.mk 0 0) [] [])=some (⟨CW f,0⟩,0):=by
  rw[v]
  have h:=Jh (L:=[]) (P:=wE f) (p:=d_.mk (eA.mk 0 0) [] []) (n:=k+4+1) (f:=CW f) (u:=0) (g:=[]) (by
   rw[dO (show ei (wE f).aiI 8=true from rfl),lL]
   have hw:mf (d_.mk (eA.mk 0 0) [] []) [(wE f).dM]=some (d_.mk (eA.mk 1 0) [tp .nat] []):=by
    unfold mf;have:=AB (g:=[]) (s:=.nat) Ty.fb aaF;rw[show(wE f).dM=Ty.nat from rfl];simp only[l'] at this;rw[this];rfl
   rw[show ou (d_.mk (eA.mk 0 0) [] []).my 1 0=some 0 from rfl,dF,dI nz,show eb (wE f).aiJ 0=some (qu (eF f v0) (eF f v0) (mq (eF f v0)))from rfl,dF,hw,dF,w,dN,dI nz,dZ,dI (show¬ei (wE f).aiI 12=true fromλh=>by cases h)]
   have y:jR (m:Int) 1=some 0:=by
    unfold jR;have:=S1 (a:=m) (k:=1) VW;rw[show Li 1=true by rfl,dX,show(1:Int)=((1:Nat):Int)from rfl,this,hm];rfl
   show dE (oD 4 (wE f).dM (oS (eF f v0))) (λd=>dE (jR (m:Int) 1) λj=>some (dV.mk d j,(0:Int)))=_
   rw[show oD 4 (wE f).dM (oS (eF f v0))=some (CW f)from rfl,dF,y,dF]) hF aaF
  rw[h];cases (CW f).has<;>rfl
 unfold rY;rw[show si [] ⟨[],[]⟩=some 0 by kernel_rfl,dF,dI nz,zP VW,o,dF,dI nz,show yl=some ()from rfl,dF,show uT ⟨[],[]⟩=some (d_.mk (eA.mk 0 0) [] []) by kernel_rfl,dF,hi,dN,dI nz,CR hF.err (hF.aiO aaF VW),dF,XR,dF]
def tmT{g:List Ty}(hg:g.length<=10)(h:∀s∈g,s=.nat\/s=.ir)(k:Nat)(n:k<=2){d:ey}(i:d.wf):∃x b,gJ FU d g .nat (k:Int)=some (x,b)/\b.wf/\dQ g x .nat/\x.aiK<=200:=by
 have a:BX 1 g:=⟨λs hs=>by
  rcases h s hs with rfl|rfl
  ·exact⟨Ty.fb,aak⟩
  ·exact⟨Ty.mo,aak⟩⟩
 have e:(k:Int).toNat=k:=aaF
 obtain⟨x,b,j,l,f⟩:=OP 1 VW VW FU (k:Int) g .nat d (by rw[fD,e,Ty.hX];omega) VW (by rw[Ty.hX];omega) (by rw[e,Ty.hX];omega) a Ty.fb (by rw[Ty.hX];omega) i;refine⟨x,b,j,l,f.ty,?_⟩;have:=f.aiK;rw[e,Ty.hX] at this
 have c:k=0\/k=1\/k=2:=VW
 rcases c with rfl|rfl|rfl<;>simp[tb] at this<;>omega
def E3{d:ey}(b:d.wf):∃x a,pN d=some (x,a)/\a.wf/\dQ [] x .nat/\x.aiK<=200:=by
 obtain⟨x,a,c,f,h,i⟩:=tmT (g:=[]) aaF aaF 2 VW b;refine⟨x,a,?_,f,h,i⟩;unfold pN;rw[show oF=some .nat from rfl,dF];rw[show gJ FU d [] .nat 2=_ from c,dN]
def Q0{d:ey}(b:d.wf):∃x a,u9 d=some (x,a)/\a.wf/\dQ [] x (.fn .nat .nat)/\x.aiK<=201:=by
 obtain⟨x,a,c,f,h,i⟩:=tmT (g:=[.nat]) aaF aaF 2 VW b;refine⟨.mk 2 0 .nat [x],a,?_,f,.lam v8 h,by simp only[Tm.dJ,ea];omega⟩;unfold u9;rw[show oF=some .nat from rfl,dF,dF,dF];rw[show gJ FU d [.nat] .nat 2=_ from c,dN];rfl
def O':Tm:=wV .nat (wV .nat (uW Ld (uW M1 (zH 1) (zH 0)) (uW M1 (zH 0) (zH 1))))
def wO:pH=some O':=by kernel_rfl
def KL(g:List Ty):dQ g O' (.fn .nat (.fn .nat .nat)):=
 .lam y8 (.lam v8 (.app (.app (Bc _) (.app (.app (Ek _) kW) gy)) (.app (.app (Ek _) gy) kW)))
def Ml:O'.aiK=53:=aak
def Bx{x:Tm}(h:dQ [.nat,.nat] x .nat):dQ [] (.mk 2 0 .nat [.mk 2 0 .nat [x]]) (.fn .nat (.fn .nat .nat)):=.lam y8 (.lam (g:=[.nat]) v8 h)
def IK{x:Tm}(h:x.aiK<=300):(Tm.mk 2 0 .nat [.mk 2 0 .nat [x]]).aiK<=400:=by simp only[Tm.dJ,ea];omega
def Nx{d:ey}(h:d.wf):∃x b,s0 d=some (x,b)/\b.wf/\dQ [] x (.fn .nat (.fn .nat .nat))/\x.aiK<=400:=by
 have w0:dQ [.nat,.nat] (zH 0) .nat:=gy (g:=[.nat]);have c:dQ [.nat,.nat] (zH 1) .nat:=kW (g:=[]);have q0:fA 0=some (zH 0):=rfl;have q1:fA 1=some (zH 1):=rfl;have i:∀x,gU .nat x=some (.mk 2 0 .nat [x]):=λ_=>rfl;have j:∀x,vj x=some (.mk 5 0 .z [x]):=λ_=>rfl;obtain⟨k,d1,l,t,u,a⟩:=qU d h 6 VW VW;unfold s0;rw[show oF=some .nat from rfl,dF,l,dN];simp only[gP,q0,q1,dF,i,j]
 split
 ·exact⟨_,_,rfl,a,Bx (.succ w0),aak⟩
 split
 ·rw[DQ,dF,yW aak aak aak,dF];exact⟨_,_,rfl,a,Bx (.app (.app (Ek _) c) w0),aak⟩
 split
 ·obtain⟨m,d2,n,o,v,q⟩:=qU d1 a 3 VW VW;obtain⟨y,r,f⟩:=Bm m o VW;have w:=(f []).2;have A:=y.iv (f []).1.ok;rw[wO,dF,n,dN,r,dF,yW aak aak VW,dF];refine⟨_,_,rfl,q,Bx (.app (.app (KL _) w0) (f _).1),IK ?_⟩;simp only[Tm.dJ,ea,Ml,show(zH 0).aiK=1 from rfl];omega
 split
 ·exact⟨_,_,rfl,a,Bx (.succ (.succ c)),aak⟩
 split
 ·obtain⟨x,b,s,a2,a3,a4⟩:=tmT (g:=[.nat,.nat]) aaF aaF 1 VW a;rw[show gJ FU d1 [.nat,.nat] .nat 1=_ from s,dN];exact⟨_,_,rfl,a2,Bx a3,IK VW⟩
 ·rw[xl,dF,yW aak aak aak,dF];exact⟨_,_,rfl,a,Bx (.app (.app (Bc _) w0) c),aak⟩
def VY:(Ty.fn .nat (.fn .ir (.fn .nat .nat))).err=0:=aak
def X8:(Ty.fn .ir (.fn .nat .nat)).err=0:=aak
def Hp{x:Tm}(h:dQ [.nat,.ir,.nat] x .nat):dQ [] (.mk 2 0 .nat [.mk 2 0 .ir [.mk 2 0 .nat [x]]]) (.fn .nat (.fn .ir (.fn .nat .nat))):=.lam VY (.lam (g:=[.nat]) X8 (.lam (g:=[.nat,.ir]) v8 h))
def PA{x:Tm}(h:x.aiK<=300):(Tm.mk 2 0 .nat [.mk 2 0 .ir [.mk 2 0 .nat [x]]]).aiK<=400:=by simp only[Tm.dJ,ea];omega
def LW{d:ey}(f:d.wf):∃x b,pQ d=some (x,b)/\b.wf/\dQ [] x (.fn .nat (.fn .ir (.fn .nat .nat)))/\x.aiK<=400:=by
 have w0:dQ [.nat,.ir,.nat] (zH 0) .nat:=gy (g:=[.nat,.ir]);have c:dQ [.nat,.ir,.nat] (zH 2) .nat:=uJ (g:=[]);have q0:fA 0=some (zH 0):=rfl;have h:fA 2=some (zH 2):=rfl;have i:∀s x,gU s x=some (.mk 2 0 s [x]):=λ_ _=>rfl;have j:∀x,iS 5 [x]=some (.mk 5 0 .z [x]):=λ_=>rfl;obtain⟨k,d1,l,o,q,a⟩:=qU d f 4 VW VW;unfold pQ;rw[show oF=some .nat from rfl,dF,q0,dF,j,dF,dZ,l,dN];simp only[gP,q0,h,dF,i,Ty.jL,Tm.jL,show pE=some .ir from rfl]
 split
 ·rw[xl,dF,yW aak aak aak,dF];exact⟨_,_,rfl,a,Hp (.app (.app (Bc _) w0) c),aak⟩
 split
 ·rw[wO,dF,yW aak aak aak,dF];exact⟨_,_,rfl,a,Hp (.app (.app (KL _) w0) c),aak⟩
 split
 ·obtain⟨x,b,n,a2,a3,a4⟩:=tmT (g:=[.nat,.ir,.nat]) aaF aaF 1 VW a;rw[show gJ FU d1 [.nat,.ir,.nat] .nat 1=_ from n,dN];exact⟨_,_,rfl,a2,Hp a3,PA VW⟩
 ·exact⟨_,_,rfl,a,Hp (.succ w0),aak⟩
def Wd:ui=some true:=by decide+kernel
def aai{e:Int}(h:mW e):hI e=some true:=by rcases h with rfl|rfl|rfl<;>decide
def XX:hI 0=some false:=aak
def Kj{f:Fm}{P:Pf}(b:Q7 f)(a:ia [] f)(c:BH P)(hn:P.aiK<=16000)(h:Tk [] [] [] P f):jv f P=some true:=by
 have w:=f.iv b.1;have i:=P.iv c.1;have e:=b.2;obtain⟨k,d,h2⟩:=Tk.acc (q:=⟨[],[]⟩) ahF VW c.1 a VW h;unfold jv;rw[d,dF,dZ];rcases h2 with rfl|h2
 ·rfl
 ·rw[dI (by rw[gP];exact Iw h2),aai h2];rfl
def IL{f:Tm}(a:dQ [] f (.fn .nat .nat))(hn:f.aiK<=1000):j3 f (wE f)=some 0:=by
 have b:dQ ([]++[.nat]) (eF f v0) .nat:=.app (a.cls _) gy;have c:eR (eF f v0)=some (oS (eF f v0)):=exists_eq (g:=[.nat]) b aaF (by rw[eF,Tm.dJ];simp only[ea];rw[show v0.aiK=1 from rfl];omega);have o1:=(La a hn).1;have hF:Hg [] (CW f):=⟨Fm.na o1.1 o1.2,.q (.inl rfl) Ty.fb (mz b)⟩;unfold j3;simp only[afv a hn,dN,dI nz,Dg,dF,KW,HD,c,S4];rw[show(Fm.mk 4 .nat [] [oS (eF f v0)])=CW f from rfl,FQ hF aaF,dF]
def UC{f h:Tm}{x y:Pf}(i:dQ [] f (.fn .nat .nat))(j:dQ [] h (.fn .nat .nat))(l:f.aiK<=4000)(o:h.aiK<=4000){c d:Int}(q:j3 f x=some c)(s:j3 h y=some d):qd f x h y=if c=0 then(if d=0 then gT (Wt f h) (Vd f x h y)else some (.mk 0 .z [] [],ads,d))else some (.mk 0 .z [] [],ads,c):=by
 have A:∀{g:List Ty} {x:Tm},dQ g x .nat->dQ g (eF h (eF f x)) .nat:=λk=>.app (j.cls _) (.app (i.cls _) k)
 have n1:∀{n:Tm},n.aiK<=10->(eF h (eF f n)).aiK<=1000000:=λ{n} k=>by
  simp only[eF,Tm.dJ,ea];omega
 have q1:eR (eF h (eF f v2))=some (oS (eF h (eF f v2))):=exists_eq (g:=[.nat,.nat,.nat]) (A (uJ (g:=[]))) aaF (n1 aak);have t:eR (eF h (eF f v0))=some (oS (eF h (eF f v0))):=exists_eq (g:=[.nat]) (A (gy (g:=[]))) aaF (n1 aak);unfold qd;rw[dZ,ed aaF,dX,dZ,NL i j VW VW aak VP,ew,q,dF]
 by_cases a:c=0
 ·subst a;rw[dI nz,s,dF,dO rfl]
  by_cases b:d=0
  ·subst b;rw[dI nz,dO rfl];simp only[Dg,dF,KW,QL,Rr,HD,q1,t,QX,LB,Hj,AX,acd,X5,HT,S4];cases hm:gT (Wt f h) (Vd f x h y)with
   |none=>rfl|some r=>rfl
  ·rw[dO (by rw[eo];exact b),dI b];rfl
 ·rw[dO (by rw[eo];exact a),dI a];rfl
def CI(l:List Int):m0 l=some true:=by
 unfold m0;rw[dZ,Wd,dF,dO rfl,S',dF]
 by_cases ad:500<l.length
 ·rw[Ju VW];rfl
 have hl:l.length<=500:=VW
 rw[xY hl];dsimp only;rw[dI aak,show Qq l=some ⟨l,0⟩from rfl,dF];have hd:ey.wf ⟨l,0⟩:=⟨by show l.length<=1000;omega,aaF,aaF⟩;obtain⟨a,d1,a1,a2,a3,a4⟩:=Q0 hd;obtain⟨b,d2,b1,b2,i,b4⟩:=Q0 a2;obtain⟨y,j,A⟩:=La a3 VW;obtain⟨B,k,C⟩:=La i VW
 have J:(wE a).aiK<=3000:=by simp only[Pf.dJ,Fm.dJ,Tm.dJ,Tm.kK,eF,ea,Qp];omega
 have K:(wE b).aiK<=3000:=by simp only[Pf.dJ,Fm.dJ,Tm.dJ,Tm.kK,eF,ea,Qp];omega
 have wa:=(wE a).iv j.1;have wb:=(wE b).iv k.1;obtain⟨Y,p1,p2⟩:∃e,j3 a (wE a)=some e/\(e=0\/mW e):=⟨0,IL a3 VW,.inl rfl⟩;obtain⟨Z,q1,q2⟩:∃e,j3 b (wE b)=some e/\(e=0\/mW e):=⟨0,IL i VW,.inl rfl⟩;rw[a1,dN,b1,dN,Gx a3 VW,Bl y j A,lI,Gx i VW,Bl B k C,lI,UC a3 i VW VW p1 q1]
 have no:∀e:Int,mW e->(if(e_ (eE 0 0) true (e_ (eE 0 0) true (eE e 0))) then eh (λ(v107:Bool)=>some v107) λc=>dE (hI 0) λd=>if d then c true else dE (hI 0) λf=>if f then c true else dE (hI e) λh=>c h else none)=some true:=λe he=>by
  rw[dO (by rw[lx,lx];simp[eE,Iw he]),dZ,XX,dF,dI aak,dF,dI aak,aai he];rfl
 have D:∀(e:Int) (X:Option Bool),mW e->(if(e_ (eE 0 0) true (e_ (eE 0 0) true (eE e 0))) then eh (λ(v107:Bool)=>some v107) λc=>dE (hI 0) λd=>if d then c true else dE (hI 0) λf=>if f then c true else dE (hI e) λh=>c h else X)=some true:=λe X he=>by
  have hc:(e_ (eE 0 0) true (e_ (eE 0 0) true (eE e 0)))=true:=by rw[lx,lx];simp[eE,Iw he]
  have:=no e he;rw[dO hc] at this|-;exact this
 by_cases n:Y=0
 case neg=>
  rw[dI n,lI];exact D Y _ (p2.resolve_left n)
 by_cases x:Z=0
 case neg=>
  rw[dO n,dI x,lI];exact D Z _ (q2.resolve_left x)
 obtain⟨F,G,H⟩:=acX a3 i VW VW j k J K;rw[dO n,dO x,Bl F G H,lI,dI aak,dZ];have FA:ia [] (CW a):=.q (.inl rfl) Ty.fb (mz (.app (a3.cls _) (gy (g:=[]))));have FB:ia [] (CW b):=.q (.inl rfl) Ty.fb (mz (.app (i.cls _) (gy (g:=[]))));have FC:ia [] (Wt a b):=.q (.inl rfl) Ty.fb (mz (.app (i.cls _) (.app (a3.cls _) (gy (g:=[])))));rw[Kj y FA j A (Yl a3 _ _ _),dF,dO rfl,Kj B FB k C (Yl i _ _ _),dF,dO rfl,Kj F FC G H (aha a3 i _ _ _ (λ_ _=>Yl a3 _ _ _) (λ_ _=>Yl i _ _ _)),dF];dsimp only;rw[dI aak];obtain⟨n1,d3,L,M,o,ae⟩:=E3 b2;obtain⟨r1,d4,N,O,r,af⟩:=Nx M;obtain⟨n2,d5,P,Q,s,ah⟩:=E3 O;obtain⟨r2,d6,R,S,t,ai⟩:=LW Q;obtain⟨m,d7,m1,m2,m3,m4⟩:=qU d6 S 4 VW VW;obtain⟨n3,T,I⟩:=Bm m m2 VW;obtain⟨n4,d8,U,V,u,ak⟩:=E3 m4;obtain⟨r3,d9,W,an,v,ao⟩:=Nx V;have w:=(I []).1;have aq:=(I []).2;obtain⟨g1,g2,g3⟩:=ac7 o r VW VW;obtain⟨h1,h2,h3⟩:=ac0 s t VW VW;obtain⟨i1,i2,i3⟩:=abq w u v VW VW VW
 rw[L,dN,N,dN,Wv o r VW VW,Bl g1 g2 g3,lI,P,dN,R,dN,Lp s t VW VW,Bl h1 h2 h3,lI,m1,dN,T,dF,U,dN,W,dN,RT w u v VW VW VW,Bl i1 i2 i3,lI,dI aak,dZ]
 have GA:ia [] (T4 n1 r1):=.q (.inl rfl) Ty.fb (mz (.rQ Ty.fb (o.cls _) (r.cls _) (gy (g:=[]))));have GB:ia [] (TO n2 r2):=.q (.inl rfl) Ty.mo (mz (.fold Ty.fb (s.cls _) (t.cls _) (gy (g:=[]))));have GC:ia [] (Wm n3 n4 r3):=.q (.inl rfl) Ty.fb (mz (.fst (B_ w u v (gy (g:=[])))));rw[Kj g1 GA g2 g3 (ag6 o r _ _ _),dF,dO rfl,Kj h1 GB h2 h3 (ag' s t _ _ _),dF,dO rfl,Kj i1 GC i2 i3 (ahn w u v _ _ _),dF]
end Go.fH
