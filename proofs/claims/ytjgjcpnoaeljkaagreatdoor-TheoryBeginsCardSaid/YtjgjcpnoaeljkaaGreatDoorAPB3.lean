/- Part of the proof of TheoryBegins: plain facts. -/
import Derived.Test.YtjgjcpnoaeljkaaGreatDoorAPB2
set_option linter.all false
namespace Go.eZ
open Go
def UT{k q m:Nat}(hm:m=2^(k+1)*q+2^k)(j:Nat):(m&&&(m-1)).testBit j=(m.testBit j&&!decide (j=k)):=by
 have c:2^k<2^(k+1):=Zv ab9 VW;have d:0<2^k:=Nat.two_pow_pos k
 have e:m-1=2^(k+1)*q+(2^k-1):=VW
 rw[Nat.testBit_and,e,hm,aca _ c,aca _ VW]
 by_cases a:j<k+1
 .rw[cS a,cS a,Zc,Nat.testBit_two_pow_sub_one]
  by_cases b:j=k
  .simp[b]
  .rw[Fa (show¬k=j by omega)];simp
 .rw[cO a,cO a,Fa (show¬j=k by omega)];simp
def Yh{a:Int}{l:List Int}{m:Nat}(h:Us (a::l) m):m≠0/\((Lib.ctz 32 m:Nat):Int)=a/\Us l (m&&&(m-1)):=by
 have u:=h.pos a acZ;obtain⟨k,rfl⟩:∃k:Nat,a=k:=⟨a.toNat,VW⟩;have d:m.testBit k=true:=(h.mem k).1 acZ
 have f:m≠0:=by rintro rfl;simp at d
 cases h.srt with
 |cons s1 s2=>
  have n:∀i,i<k->m.testBit i=false:=λi hi=>by
   rw[L5];intro v;rcases j8.1 ((h.mem i).2 v)with e|e
   .omega
   .have:=s1 _ e;omega
  have o:Lib.ctz 32 m=Lib.ctzFrom 32 m:=by unfold Lib.ctz;rw[cO f]
  obtain⟨q,s,_⟩:=Lib.ctzFrom_spec 32 m VW (by have:=h.lt;omega);rw[<-o] at s
  have c:m=2^(Lib.ctz 32 m+1)*q+2^Lib.ctz 32 m:=by
   rw[Nat.pow_succ,Nat.mul_assoc,<-Nat.mul_succ];exact s
  have t:Lib.ctz 32 m=k:=by
   have b:∀j,j<=Lib.ctz 32 m->m.testBit j=decide (Lib.ctz 32 m=j):=λj B=>by
    have w:2^Lib.ctz 32 m<2^(Lib.ctz 32 m+1):=Zv ab9 VW
    conv=>lhs;rw[c]
    rw[aca _ w,cS VW,Zc]
   rcases ae_ (Lib.ctz 32 m) k with r|heq|hgt
   .have:=b _ (gV _);rw[n _ r] at this;simp at this
   .exact heq
   .have:=b k VW;rw[d,Fa VW] at this;cases this
  rw[t] at c;refine⟨f,by rw[t],⟨ae6 Nat.and_le_left h.lt,λx y=>h.pos x (by simp[y]),s2,λi=>?_⟩⟩;rw[UT c,fK,<-h.mem i];simp only[Yy,aby];constructor
  .intro hi;refine⟨by simp[hi],?_⟩;rintro rfl;have:=s1 _ hi;omega
  .rintro⟨hi,A⟩;rcases j8.1 hi with e|e
   .omega
   .exact e
def Us.zero{m:Nat}(h:Us [] m):m=0:=by
 refine afA λi=>?_;rw[Nat.zero_testBit,L5];intro a;have:=(h.mem i).2 a;simp at this
def D4:∀(l:List Int) (m:Nat) (v:List Int) (n:Nat),Us l m->l.length<n->v.length+l.length<=1000000->nt (rM λ(v37:Int) (b:List Int)=>
   if(dw v37 0) then(
   cM (gN v37) λc=>
   fa (eO b [c])<|some ((.next ((qi .u32 v37 (ed .u32 v37 1)),(fu b [c]))):dV (Int×List Int) (List Int)))
   else(some (.brk (v37,b)))) n ((m:Int),v)=some (.inl (0,v++l))
 |l,m,v,0,_,hn,_=>by omega|[],m,v,n+1,h,_,_=>by
  rw[h.zero,nt];simp only[rM];rw[cO (show¬dw ((0:Nat):Int) 0=true by decide)];simp
 |a::l,m,v,n+1,h,hn,f=>by
  simp only[kL] at hn f;obtain⟨k,i,hu⟩:=Yh h;have d:=h.lt
  have j:dw (m:Int) 0=true:=by rw[c9];omega
  rw[nt];simp only[rM];rw[cS j];rw[show gN (m:Int)=some a by unfold gN;rw[cS VW,z_,i],cv,dS ado,cY,cv,dQ,fj];rw[show ed .u32 (m:Int) 1=((m-1:Nat):Int) by unfold ed;rw[Fo VW VW];omega,LX d VW];rw[D4 l _ (v++[a]) n hu VW ado];simp
def R5{l:List Int}{m:Nat}(h:Us l m):je (m:Int)=some l:=by
 have a:=h.len;unfold je;rw[c6,D4 l m [] FU h (by rw[dY];omega) ado,cv];simp[rM]
def MC:∀(n:Nat) (t:Tm),t.aiw<=n->t.aiw<=50000000->t.ok=true->vY n t=some t:=by
 intro n
 induction n with
 |zero=>intro t h;have:=t.dr;omega
 |succ n ih=>
  intro t hn c a;cases t with
  |mk k i s l=>
   rw[Tm.cQ] at hn c;have o:=Tm.ek l;have hi:=Tm.kU a;rw[Tm.fX,fK] at a;have d:=Ty.vI a.1;rw[vY];simp only[Tm.dn,Tm.eW,Tm.dU,Tm.dh,c6]
   rw[og VW,cv,c8 VW,cY,gE id l 0 [] ado (λj x v b f=>by
    have:=di Tm.aiw b
    rw[ih x VW VW (hi.2.2.2.1 x b),cv,dS (by simpa using f),cY,fj];rfl)]
   simp
def Fm.abJ:∀(f:Fm) (b:Int),f.FC (λt _=>t) b=f:=by
 intro f
 induction f using Fm.ind with
 |h k s ts l ih=>
  intro b;rw[Fm.zo,ui (g:=id) (λx a=>ih x a _)];simp
def tZ{f:Fm}(h:f.err=0)(c:f.aiA 1000000000000=true):lZ f=some f:=by
 obtain⟨d,hn⟩:=Fm.fQ h;unfold lZ;rw[nK (h:=λi j=>mu i j) (ψ:=λt _=>t) (λt b a _ _=>?_) FU f 0 (by rw[dY];omega) VW d c VW VW]
 .rw[cN,Fm.abJ]
 .have:=a.aiw;unfold mu;rw[MC FU t (by rw[dY];omega) a.aiw a.ok];rfl
noncomputable def HT (L:List Fm) (q:Sq):Int:=if 32<L.length then 3 else if eD (L.map λf=>Fh f [])≠0 then eD (L.map λf=>Fh f [])else if vQ q.aiy≠0 then vQ q.aiy else if 16<q.aiB.length then 3 else eD (q.aiB.map λf=>Fh f q.aiy)
structure SqB (L:List Fm) (q:Sq):Prop where
 Ev:∀f∈L,f.wt<=1000000000
 Vx:∀t∈q.aiy,t.aiw<=1000000000
 tyl:q.aiy.length<=1000000
 aiB:∀f∈q.aiB,f.wt<=1000000000
def w_{e:Int}:(cM (some e) λa=>if(dw a 0) then some (.ret a)else some ((.next ()):dV Unit Int))=if e≠0 then some (.ret e)else some (.next ()):=by
 rw[cv]
 by_cases h:e=0
 .subst h;rfl
 .rw[cS (by rw[c9];exact h),cS h]
def Ri{C:List Ty->Option Int}{T:List Ty->Fm->Option Int}{L:List Fm}{q:Sq}(u:C q.aiy=some (vQ q.aiy))(v:∀f∈L,T [] f=some (Fh f []))(w:∀f∈q.aiB,T q.aiy f=some (Fh f q.aiy)):(if(lQ (dq L) 32) then some 3 else fa (dE L)<|de (λ(y:Int) (i:Fm)=>(λ(_:Unit)=>cM (T [] i) λa=>if(dw a 0) then some (.ret a)else some ((.next ()):dV Unit Int))) λk=>
   cM (dH k L 0 ()) (eE (λ(_:Unit)=>cM (C q.aiy) λb=>if(dw b 0) then some b else if(lQ (dq q.aiB) 16) then some 3 else fa (dE q.aiB)<|de (λ(A:Int) (l:Fm)=>(λ(_:Unit)=>cM (T q.aiy l) λc=>if(dw c 0) then some (.ret c)else some ((.next ()):dV Unit Int))) λn=>
    cM (dH n q.aiB 0 ()) (eE (λ(_:Unit)=>some 0) (λr=>some r))) (λr=>some r)))=some (HT L q):=by
 unfold HT;rw[eo]
 by_cases s:32<L.length
 .rw[cS (by rw[fy];omega),cS s]
 .have B:¬lQ (L.length:Int) 32=true:=by rw[fy];omega
  rw[cO B,cO s,c8 VW,cY,c6];rw[kh (λf=>Fh f []) L 0 (λj x o=>by rw[v x o];exact w_)]
  by_cases d:eD (L.map λf=>Fh f [])=0
  .rw[cS d,cO (show¬(eD (L.map λf=>Fh f [])≠0)fromλh=>h d),cv,dk,u,cv]
   by_cases c3:vQ q.aiy=0
   .have z2:¬dw (vQ q.aiy) 0=true:=by rw[c9];simpa using c3
    rw[cO z2,cO (show¬(vQ q.aiy≠0)fromλh=>h c3),eo]
    by_cases t:16<q.aiB.length
    .rw[cS (by rw[fy];omega),cS t]
    .have z3:¬lQ (q.aiB.length:Int) 16=true:=by rw[fy];omega
     rw[cO z3,cO t,c8 VW,cY,c6];rw[kh (λf=>Fh f q.aiy) q.aiB 0 (λj x o=>by rw[w x o];exact w_)]
     by_cases c5:eD (q.aiB.map λf=>Fh f q.aiy)=0
     .rw[cS c5,c5];rfl
     .rw[cO c5];rfl
   .have z2:dw (vQ q.aiy) 0=true:=by rw[c9];exact c3
    rw[cS z2,cS c3]
  .rw[cO d,cS d];rfl
def Cn{L:List Fm}{q:Sq}(h:SqB L q):rB L q=some (HT L q)/\sk L q=some (HT L q):=by
 have a:∀t∈([]:List Ty),t.aiw<=1000000000:=λt c=>by simp at c
 exact⟨Ri (C:=mK) (T:=kx) (wz q.aiy h.tyl h.Vx) (λx b=>pC (h.Ev x b) acZ a) (λx b=>pC (h.aiB x b) h.tyl h.Vx),Ri (C:=lr) (T:=jk) (r6 q.aiy h.tyl h.Vx) (λx b=>tX (h.Ev x b) acZ a) (λx b=>tX (h.aiB x b) h.tyl h.Vx)⟩
def yn:∀{l:List Int},(∀e∈l,e=0)->eD l=0
 |[],_=>rfl|a::l,h=>by
  rw[eD,cS (h a acZ)];exact yn λe he=>h e (by simp[he])
def yI:∀{l:List Int},eD l=0->∀e∈l,e=0
 |[],_,e,he=>by simp at he
 |a::l,h,e,he=>by
  rw[eD] at h
  by_cases b:a=0
  .rw[cS b] at h;rcases j8.1 he with rfl|he
   .exact b
   .exact yI h e he
  .rw[cO b] at h;exact absurd h b
def Ui{f:Fm}{g:List Ty}(h:Fh f g=0):Hg g f:=by
 unfold Fh at h
 by_cases b:vQ g=0
 .rw[cO (λh=>h b)] at h
  by_cases a:f.err=0
  .rw[cO (λh=>h a)] at h;exact⟨a,qR f (Fm.fQ a).1 g (gR.of b).1 h⟩
  .rw[cS a] at h;exact absurd h a
 .rw[cS b] at h;exact absurd h b
structure Ai (L:List Fm) (q:Sq):Prop where
 ln:L.length<=32
 Ev:∀f∈L,Hg [] f
 ctx:gR q.aiy
 nv:q.aiy.length<=16
 nh:q.aiB.length<=16
 aiB:∀f∈q.aiB,Hg q.aiy f
def RJ{L:List Fm}{q:Sq}(h:HT L q=0):Ai L q:=by
 unfold HT at h
 by_cases d:32<L.length
 .rw[cS d] at h;cases h
 .rw[cO d] at h
  by_cases a:eD (L.map λf=>Fh f [])=0
  .rw[cO (λh=>h a)] at h
   by_cases b:vQ q.aiy=0
   .rw[cO (λh=>h b)] at h
    by_cases i:16<q.aiB.length
    .rw[cS i] at h;cases h
    .rw[cO i] at h;obtain⟨j,k⟩:=gR.of b;exact⟨VW,λf c=>Ui (yI a _ (nj.2 ⟨f,c,rfl⟩)),j,k,VW,λf c=>Ui (yI h _ (nj.2 ⟨f,c,rfl⟩))⟩
   .rw[cS b] at h;exact absurd h b
  .rw[cS a] at h;exact absurd h a
def Ai.zero{L:List Fm}{q:Sq}(h:Ai L q):HT L q=0:=by
 have c:∀{g:List Ty} {f:Fm},gR g->g.length<=16->Hg g f->Fh f g=0:=λhg b a=>by
  unfold Fh;rw[B_ hg b,cO ab9,cO (λh=>h a.err)];exact l_ a.ty hg (by have:=a.aiw;omega)
 have d:eD (L.map λf=>Fh f [])=0:=yn λe he=>by
  obtain⟨f,a,rfl⟩:=nj.1 he;exact c (λ_ h=>by simp at h) acZ (h.Ev f a)
 have i:eD (q.aiB.map λf=>Fh f q.aiy)=0:=yn λe he=>by
  obtain⟨f,a,rfl⟩:=nj.1 he;exact c h.ctx h.nv (h.aiB f a)
 unfold HT;have:=h.ln;have:=h.nh;rw[cO VW,d,cO ab9,B_ h.ctx h.nv,cO ab9,cO VW,i]
def F5{T:List cR}{N:Nat}(n:N<=1000000):∀(l:List Fm) (j:Nat) (k:List c7),k.length+l.length<=1000000->dH (λ(o:Int) (b:Fm)=>(un4 λ(c:Int) (v46:Int) (d:List cR) (i:List c7)=>
   cM (eM (cV.mk (dW.mk c v46) d i) b) λa=>
   some ((.next (a.eV.vars,a.eV.aiB,a.aiy,a.known)):dV (Int×Int×(List cR)×(List c7)) (cV)))) l j ((N:Int),(k.length:Int),T,k)=some (.inl ((N:Int),((k.length+l.length:Nat):Int),T,k++l.map λf=>c7.mk f N))
 |[],j,k,_=>by simp|f::l,j,k,h=>by
  simp only[kL] at h;rw[dJ];simp only[un4];unfold eM;rw[dS ado,cY,cv];simp only[cv,dQ,fj];rw[dP VW VW];have:=F5 (T:=T) n l (j+1) (k++[c7.mk f N]) ado;rw[show(k.length:Int)+1=((k++[c7.mk f N]).length:Int) by simp];unfold eM at this;simp only[fj] at this;rw[this];simp;omega
def start_eq{L:List Fm}{q:Sq}(h:Ai L q):∃p,rA q=some p/\PG L p (cX.mk L q.aiy q.aiB):=by
 have d:=h.nh;have a:=h.nv;refine⟨cV.mk (dW.mk (q.aiy.length:Int) (q.aiB.length:Int)) (q.aiy.map rT) (q.aiB.map λf=>c7.mk f q.aiy.length),?_,⟨⟨rfl,rfl,rfl,h.ctx,a,d,acZ,?_⟩,rfl,h.Ev,h.aiB⟩⟩
 .unfold rA;rw[uq h.ctx VW,cv,c8 VW,cY,c6,eo];have:=F5 (T:=q.aiy.map rT) (N:=q.aiy.length) VW q.aiB 0 [] ado;rw[show(([]:List c7).length:Int)=0 from rfl] at this;rw[this,cv];simp[un4]
 .intro i x g b c;have b:(q.aiB.map λf=>c7.mk f q.aiy.length)[i]?=some x:=b;have c:q.aiB[i]?=some g:=c;rw[yA,c] at b;obtain rfl:=fU b;have hg:=h.aiB g (Gt c);refine⟨hg.hy a,by show(0:Int)<=(q.aiy.length:Int);omega,by show((q.aiy.length:Nat):Int)<=(q.aiy.length:Int);omega,?_⟩;show g=g.up 0 ((q.aiy.length:Int)-(q.aiy.length:Int));rw[Int.sub_self,Fm.xE]
def Pf.Q4:∀(l:List Pf),(∀x∈l,x.yh<=x.aiw)->Pf.uZ l<=db Pf.aiw l
 |[],_=>by simp[Pf.uZ]|a::l,ih=>by
  have c:=ih a acZ;have d:=Pf.Q4 l (λx b=>ih x (by simp[b]));simp only[Pf.uZ,db];omega
def Pf.RG(p:Pf):p.yh<=p.aiw:=by
 induction p using Pf.ind with
 |h k i s ts a l ih=>
  rw[Pf.cQ,Pf.yh];have:=Pf.Q4 l ih;omega
noncomputable def Vr (L:List Fm) (q:Sq) (P:Pf):PR:=jd (HT L q) (jd P.err (P.inf L q.aiy q.aiB))
def xd{L:List Fm}{q:Sq}{P:Pf}(h:SqB L q)(i:P.wt<=1000000000):(∃e,e≠0/\Vr L q P=.inr e/\mw L q P=some (⟨fS,[]⟩,e)/\iI L q P=some (⟨fS,[]⟩,e))\/∃(f:Fm) (m:Nat) (l:List Int),Vr L q P=.inl (f,m)/\mw L q P=some (⟨f,l⟩,0)/\iI L q P=some (⟨f,l⟩,0)/\Us l m/\Hg q.aiy f/\Ai L q/\P.err=0:=by
 unfold mw iI Vr;rw[(Cn h).1,(Cn h).2,cv,cv]
 by_cases b:HT L q=0
 .have d:=RJ b;rw[b,cO nz,cO nz,fi rfl,zs i,uv i,cv,cv]
  by_cases c:P.err=0
  .obtain⟨hw,hn⟩:=Pf.aah c;obtain⟨p,j,k⟩:=start_eq d;have n:=P.RG;rw[c,cO nz,cO nz,fi rfl,show xg=some ()from rfl,cv,j,cv];rcases Uo hw FU FU (by rw[dY];omega) (by rw[dY];omega) p _ k with⟨e,he,q1,q2,q3⟩|⟨f,m,l,q1,q2,q3,hu,a⟩
   .rw[q2,q3,cN,cN,cS (by rw[c9];exact he),cS (by rw[c9];exact he)];exact .inl ⟨e,he,q1,rfl,rfl⟩
   .have a:Hg q.aiy f:=a;have o:=hu.len;have r:=f.hI a.ok;have s:=a.aiw;rw[q2,q3,cN,cN,cO nz,cO nz];simp only[];rw[tZ a.err (a.aiA d.nv VW),cv,R5 hu,cv,jl VW,cv,dS ado,cY,fj,oE];exact .inr ⟨f,m,l,q1,rfl,rfl,hu,a,d,by trivial⟩
  .rw[cS (by rw[c9];exact c),cS (by rw[c9];exact c),iV c];exact .inl ⟨_,c,rfl,rfl,rfl⟩
 .rw[cS (by rw[c9];exact b),cS (by rw[c9];exact b),iV b];exact .inl ⟨_,b,rfl,rfl,rfl⟩
def Pf.mY(l:List Pf):l.length<=db Pf.wt l:=fR Pf.wt l λt _=>t.gJ
def vP:∀(n:Nat) (P:Pf),P.wt<=n->P.wt<=1000000000->qo n P=some P:=by
 intro n
 induction n with
 |zero=>intro P h;have:=P.gJ;omega
 |succ n ih=>
  intro P hn d;cases P with
  |mk k i s ts c l=>
   rw[Pf.ee] at hn d;have f:=fR Tm.wt ts λt _=>t.gJ;have o:=fR Fm.wt c λt _=>t.gJ;have q:=Pf.mY l;rw[qo];simp only[Pf.dn,Pf.eW,Pf.dU,Pf.gf,Pf.Hn,Pf.dh,c6]
   rw[gX VW,cv,c8 VW,cY,gE id ts 0 [] ado (λj x v a b=>by
    have:=di Tm.wt a
    rw[mq VW,cv,dS (by simpa using b),cY,fj];rfl),cv,dk,c8 VW,cY,gE id c 0 [] ado (λj x v a b=>by
    have:=di Fm.wt a
    rw[jl VW,cv,dS (by simpa using b),cY,fj];rfl),cv,dk,c8 VW,cY,gE id l 0 [] ado (λj x v a b=>by
    have:=di Pf.wt a
    rw[ih x VW VW,cv,dS (by simpa using b),cY,fj];rfl),cv,dk]
   simp
def ae2{k:Int}{l:List Pf}(h:db Pf.wt l<=1000000000):jY k l=some (.mk k 0 .z [] [] l):=by
 have c:=Pf.mY l;unfold jY
 rw[c8 VW,cY,c6,gE id l 0 [] ado (λj x v a b=>by
  have:=di Pf.wt a
  rw[vP FU x (by rw[dY];omega) VW,cv,dS (by simpa using b),cY,fj];rfl),cv,dk]
 simp[Ty.z]
def No{k:Int}{a:Pf}(h:a.wt<=500000000):jY k [a]=some (.mk k 0 .z [] [] [a]):=ae2 (by simp[db];omega)
def JZ{k:Int}{a b:Pf}(h:a.wt<=400000000)(c:b.wt<=400000000):jY k [a,b]=some (.mk k 0 .z [] [] [a,b]):=ae2 (by simp[db];omega)
def VX{F:Fm}{a:Pf}(hF:F.wt<=1000000000)(h:a.wt<=500000000):tW F a=some (.mk 6 0 .z [] [F] [a]):=by
 unfold tW;rw[No h,cv,jl hF];rfl
def FH{k:Int}{s:Ty}{a:Pf}(hs:s.aiw<=1000000000)(h:a.wt<=500000000):pB k s a=some (.mk k 0 s [] [] [a]):=by
 unfold pB;rw[No h,cv,gX hs];rfl
def QY{k:Int}{t:Tm}{a:Pf}(b:t.wt<=1000000000)(h:a.wt<=500000000):sD k t a=some (.mk k 0 .z [t] [] [a]):=by
 unfold sD;rw[No h,cv,mq b];rfl
def RC{k:Int}{F:Fm}{t:Tm}{a:Pf}(hF:F.wt<=1000000000)(b:t.wt<=1000000000)(h:a.wt<=500000000):sJ k F t a=some (.mk k 0 .z [t] [F] [a]):=by
 unfold sJ;rw[QY b h,cv,jl hF];rfl
def S2{k:Int}{F:Fm}{t:Tm}{a:Pf}(hF:F.wt<=1000000000)(b:t.wt<=1000000000)(h:a.wt<=500000000):rj k F t a=some (.mk k 0 .z [t] [F] [a],F):=by
 unfold rj;rw[QY b h,cv,jl hF];rfl
def PC{k:Int}{F:Fm}{t:Tm}{a b:Pf}(hF:F.wt<=1000000000)(c:t.wt<=1000000000)(h:a.wt<=400000000)(d:b.wt<=400000000):rU k F t a b=some (.mk k 0 .z [t] [F] [a,b]):=by
 unfold rU;rw[JZ h d,cv,mq c,cv,jl hF];rfl
def NA{F:Fm}{a b:Pf}(hF:F.wt<=1000000000)(h:a.wt<=400000000)(c:b.wt<=400000000):qS F a b=some (.mk 19 0 .z [] [F] [a,b]):=by
 unfold qS;rw[JZ h c,cv,jl hF];rfl
def tu{t:Tm}(a:t.wt<=1000000000):jF t=some (.mk 18 0 .z [t] [] []):=by
 unfold jF;rw[mq a];rfl
def ze{t:Tm}{g:List Ty}{s:Ty}(h:dG g t s)(hg:g.length<=1000)(hn:t.aiw<=4096):iO t=some (t.up 0 1):=by
 have hw:=t.hI h.ok;have a:t.aiA 1000000000000=true:=h.aiA _ VW;unfold iO;rw[Gx VW VW,cv,sR FU _ 0 1 (by rw[dY,Fm.cQ];simp only[db];omega) (by rw[Fm.cQ];simp only[db];omega) VW (by rw[Fm.cQ];simp only[db];omega) VW VW (by rw[Fm.ez];simp[a]),cv,Fm.kO];rfl
def AT{q:Sq}{f:Fm}(h:q.aiB.length<=1000):xy q f=some ⟨q.aiy,q.aiB++[f]⟩:=by
 unfold xy;rw[dS ado,cY,dS (by simp[fj];omega),cY];simp[fj]
def Ns{L:List Fm}{q:Sq}(h:Ai L q){l:List Ty}(f:l.length<=1000):oL q l=some ⟨q.aiy++l,q.aiB.map (Fm.up 0 l.length)⟩:=by
 have b:=h.nh;have a:=h.nv;unfold oL
 rw[nG _ _ VW,cv,c8 VW,cY,c6,gE (Fm.up 0 l.length) q.aiB 0 [] ado (λj x v c d=>by
  have hg:=h.aiB x c;have hn:=hg.aiw
  rw[eo,sR FU x 0 l.length (by rw[dY];omega) VW VW VW VW VW (hg.aiA a VW),cv,dS (by simpa using d),cY,fj]),cv,dk,oE]
def Ai.below{L:List Fm}{q:Sq}(h:Ai L q){l:List Ty}(b:gR l)(hn:q.aiy.length+l.length<=16):Ai L ⟨q.aiy++l,q.aiB.map (Fm.up 0 l.length)⟩:=by
 refine⟨h.ln,h.Ev,h.ctx.append b,by simpa using hn,by simpa using h.nh,λf c=>?_⟩;obtain⟨f0,a,rfl⟩:=nj.1 c;exact(h.aiB f0 a).up l
def Ai.with{L:List Fm}{q:Sq}(h:Ai L q){f:Fm}(a:Hg q.aiy f)(hn:q.aiB.length+1<=16):Ai L ⟨q.aiy,q.aiB++[f]⟩:=by
 refine⟨h.ln,h.Ev,h.ctx,h.nv,by simpa using hn,λx hx=>?_⟩;rcases rl.1 hx with hx|hx
 .exact h.aiB x hx
 .rw[yy.1 hx];exact a
def Hg.wt{g:List Ty}{f:Fm}(h:Hg g f):f.wt<=266240:=by
 have:=f.hI h.ok;have:=h.aiw;omega
def Ai.b{L:List Fm}{q:Sq}(h:Ai L q):SqB L q:=by
 refine⟨λf a=>by have:=(h.Ev f a).wt;omega,λt c=>by have:=ec (h.ctx t c);omega,by have:=h.nv;omega,λf a=>by have:=(h.aiB f a).wt;omega⟩
def pb:Nat->Nat
 |0=>10000|k+1=>3*pb k+1000000
def Rl:∀k,k<=4->10000<=pb k/\pb k<=50000000
 |0,_=>by decide|1,_=>by decide|2,_=>by decide|3,_=>by decide|4,_=>by decide|k+5,h=>by omega
def hD(b:Nat)(o:Option (Pf×dd)):Prop:=∃x a,o=some (x,a)/\a.wf/\x.wt<=b
def hD.of{b:Nat}{x:Pf}{d:dd}(a:d.wf)(h:x.wt<=b):hD b (some (x,d)):=⟨x,d,rfl,a,h⟩
def hZ{β:Type}{G:Option β->Prop}{c:Bool}{a b:Option β}(d:c=true->G a)(f:c=false->G b):G (if c then a else b):=by
 cases c with
 |true=>exact d rfl|false=>exact f rfl
def nZ{g:List Ty}{t:Ty}{d:dd}(f:g.length<=600)(hg:rP 3 g)(h:t.err=0)(c:t.aiw<=3)(i:d.wf):∃x a,fo FU d g t 1=some (x,a)/\a.wf/\dG g x t/\x.aiw<=57/\x.wt<=3705/\x.err=0:=by
 obtain⟨x,a,j,k,b⟩:=Gk 3 VW VW 1 VW g t d f hg h c i;have hn:x.aiw<=57:=b.aiw;have hw:=x.hI b.ty.ok;exact⟨x,a,j,k,b.ty,hn,VW,Tm.py b.ty.ok VW⟩
def yt{d:dd}(b:d.wf):∃t a,iy FU d 1=some (t,a)/\t.err=0/\t.aiw<=3/\a.wf:=by
 obtain⟨t,a,c,f,i,h⟩:=yG d b 1 VW;exact⟨t,a,c,f,VW,h⟩
def Uy{d:dd}(b:d.wf):∃t a,iy FU d 0=some (t,a)/\t.err=0/\t.aiw<=3/\a.wf:=by
 obtain⟨t,a,c,f,i,h⟩:=yG d b 0 VW;exact⟨t,a,c,f,VW,h⟩
theorem Ty.eX:Ty.z.aiw=1:=ab9
def Fl:eL 0=some v0:=rfl
def UC{P:Pf}{e:Int}(h:P.wt<=1000000000):∃b c,sX P e=some (b,c)/\b.wt<=P.wt+1:=by
 have a:(Pf.mk 0 0 (Ty.mk 0 []) [] [] []).wt<=P.wt+1:=by have:=P.gJ;rw[Pf.ee];simp[db,Ty.cQ];omega
 unfold sX
 by_cases he:e=0
 .subst he;rw[cO nz];unfold r_;rw[c6,yj FU P (by rw[dY];omega) h,cv,zh FU P (by rw[dY];omega) h];cases P.small with
  |false=>exact⟨_,_,rfl,a⟩|true=>
   rw[cS rfl,cv,cv];cases HB (P.aiw:Int) 16384 with
   |false=>exact⟨_,_,rfl,a⟩|true=>
    rw[cS rfl,vP FU P (by rw[dY];omega) h];exact⟨_,_,rfl,VW⟩
 .rw[cS (by rw[c9];exact he)];exact⟨_,_,rfl,a⟩
def S4{ts:List Tm}{ps:List Pf}(d:∀t∈ts,t.wt<=1000000000)(f:∀p∈ps,p.wt<=1000000000)(h:ts.length<=1000)(i:ps.length<=1000):∃e,rv ts [] ps=some e:=by
 unfold rv;rw[c8 VW,cY,c6,kh Tm.err ts 0 (λj x a=>by rw[lK (d x a)];exact w_)]
 by_cases b:eD (ts.map Tm.err)=0
 .rw[cS b,cv,dk,c8 acZ,cY,c6,nY,cv,dk,c8 VW,cY,c6,kh Pf.err ps 0 (λj x a=>by rw[uv (f x a)];exact w_)]
  by_cases c:eD (ps.map Pf.err)=0
  .rw[cS c];exact⟨_,rfl⟩
  .rw[cO c];exact⟨_,rfl⟩
 .rw[cO b];exact⟨_,rfl⟩
def Es{t:Tm}{g:List Ty}{s:Ty}(h:dG g t s)(hg:g.length<=1000)(hn:t.aiw<=4096):uy t 1=some (t.up 0 1):=by
 unfold uy;rw[zk FU t 0 1 (by rw[dY];omega) VW VW VW VW VW (h.aiA _ VW)];rfl
def MM{t:Tm}(a:t.wt<=3705):∃P,yJ t=some P/\P.wt<=20000:=by
 obtain⟨z,h,z2⟩:=zO 0 VW VW;have c:=(z2 [.nat]).1;have r:=(z2 [.nat]).2;have b:=Bt;have i:dG [.nat] v0 .nat:=tn (g:=[]);have d:dG [.nat] (gL (gL mM z) v0) .nat:=.app (.app (Dd _) c) i;have f:dG [] (lP .nat (i_ v0)) (.fn .nat .nat):=.lam yV (.succ tn)
 have s:(gL (gL mM z) v0).aiw<=20:=by
  unfold gL v0;rw[Tm.cQ,db,db,Tm.cQ,db,db,Tm.cQ];simp only[db];omega
 have nL:(lP .nat (i_ v0)).aiw=3:=ab9
 have wA:=Tm.hI _ d.ok;have u:=Tm.hI _ f.ok;have v:=Tm.hI _ c.ok
 have w:v0.wt<=10:=ab9
 have wp:mM.wt<=585:=by have:=Tm.hI _ (Dd []).ok;omega
 unfold yJ;rw[AB,cv,h,cv,Fl,cv,La VW VW VW,cv,show Tm.mk 3 0 .z [.mk 3 0 .z [mM,z],v0]=gL (gL mM z) v0 from rfl,cv,Gx VW VW,cv,eG,cv,cv,JA VW,cv,show Tm.mk 5 0 .z [v0]=i_ v0 from rfl,AI ab9 ab9,cv,show Tm.mk 2 0 .nat [i_ v0]=lP .nat (i_ v0)from rfl,cv,show l7 0=some (Pf.mk 1 0 .z [] [] [])from rfl,cv]
 have x:(Pf.mk 1 0 .z [] [] []).wt<=10:=ab9
 have j:∃P e,uG (lP .nat (i_ v0)) (gL (gL mM z) v0) v0 (Pf.mk 1 0 .z [] [] [])=some (P,e)/\P.wt<=12000:=by
  have y:=Tm.Gu (gL (gL mM z) v0) 0 1;have A:=Tm.Gu (lP .nat (i_ v0)) 0 1
  have B:(Tm.mk 3 0 .z [lP .nat (i_ v0),gL (gL mM z) v0]).wt<=1600:=by rw[Tm.ee];simp only[db,Ty.eX];omega
  have C:(Tm.mk 3 0 .z [(lP .nat (i_ v0)).up 0 1,(gL (gL mM z) v0).up 0 1]).wt<=1600:=by rw[Tm.ee];simp only[db,Ty.eX];omega
  have D:(Tm.mk 3 0 .z [(lP .nat (i_ v0)).up 0 1,v0]).wt<=1600:=by rw[Tm.ee];simp only[db,Ty.eX];omega
  have wf:(Fm.mk 1 .z [Tm.mk 3 0 .z [(lP .nat (i_ v0)).up 0 1,(gL (gL mM z) v0).up 0 1],Tm.mk 3 0 .z [(lP .nat (i_ v0)).up 0 1,v0]] []).wt<=4000:=by rw[Fm.ee];simp only[db,Ty.eX];omega
  have wr:(Pf.mk 18 0 .z [Tm.mk 3 0 .z [lP .nat (i_ v0),gL (gL mM z) v0]] [] []).wt<=2000:=by rw[Pf.ee];simp only[db,Ty.eX];omega
  have hg:uK (lP .nat (i_ v0)) (gL (gL mM z) v0) (Pf.mk 1 0 .z [] [] [])=some (.mk 19 0 .z [] [Fm.mk 1 .z [Tm.mk 3 0 .z [(lP .nat (i_ v0)).up 0 1,(gL (gL mM z) v0).up 0 1],Tm.mk 3 0 .z [(lP .nat (i_ v0)).up 0 1,v0]] []] [.mk 1 0 .z [] [] [],.mk 18 0 .z [Tm.mk 3 0 .z [lP .nat (i_ v0),gL (gL mM z) v0]] [] []]):=by
   unfold uK;rw[Es f acZ VW,cv,Es d acZ VW,cv,sG VW VW,cv,cv,Fl,cv,sG VW VW,cv,Gx VW VW,cv,sG VW VW,cv,tu VW,cv,NA VW VW VW];rfl
  unfold uG
  obtain⟨e,he⟩:=S4 (ts:=[lP .nat (i_ v0),gL (gL mM z) v0,v0]) (ps:=[Pf.mk 1 0 .z [] [] []]) (by
   intro t a;simp only[j8,v_,s9] at a
   rcases a with rfl|rfl|rfl<;>omega) (by
   intro t a
   rw[yy.1 a];omega) acZ acZ
  have k:(Pf.mk 19 0 .z [] [Fm.mk 1 .z [Tm.mk 3 0 .z [(lP .nat (i_ v0)).up 0 1,(gL (gL mM z) v0).up 0 1],Tm.mk 3 0 .z [(lP .nat (i_ v0)).up 0 1,v0]] []] [.mk 1 0 .z [] [] [],.mk 18 0 .z [Tm.mk 3 0 .z [lP .nat (i_ v0),gL (gL mM z) v0]] [] []]).wt<=11000:=by rw[Pf.ee];simp only[db,Ty.eX] at*;omega
  rw[hg,cv,he,cv];obtain⟨l,n,o,F⟩:=UC (e:=e) (show _<=1000000000 from AK k VW);rw[o,cN];exact⟨l,n,rfl,VW⟩
 obtain⟨P,e,q,G⟩:=j
 have H:(Fm.mk 1 .z [gL (gL mM z) v0,v0] []).wt<=2000:=by rw[Fm.ee];simp only[db,Ty.eX];omega
 have I:(Pf.mk 18 0 .z [z] [] []).wt<=200:=by rw[Pf.ee];simp only[db,Ty.eX];omega
 rw[q,cN,cv,tu VW,cv,PC VW VW VW VW];refine⟨_,rfl,?_⟩;rw[Pf.ee];simp only[db,Ty.eX] at*;omega
def dG.lift{g:List Ty}{x:Tm}{t:Ty}(h:dG g x t)(e:List Ty):dG (g++e) (x.up 0 e.length) t:=by
 have:=h.up g [] e acZ
 grind
def eqv(t:Tm):Fm:=.mk 1 .z [t.up 0 1,v0] []
def Kd{g:List Ty}{t:Tm}(h:dG g t .nat)(hn:t.aiw<=57):Hg (g++[.nat]) (eqv t)/\(eqv t).aiw<=59/\(eqv t).wt<=3900:=by
 have hu:dG (g++[.nat]) (t.up 0 1) .nat:=by
  exact h.lift [.nat]
 have a:jS (g++[.nat]) (eqv t):=.eq hu tn
 have hm:(eqv t).aiw<=59:=by
  unfold eqv;rw[Fm.cQ];simp only[db];rw[Tm.pX]
  have:v0.aiw=1:=ab9
  omega
 have hw:=Fm.hI _ a.ok;refine⟨⟨?_,a⟩,hm,VW⟩;unfold Fm.err;rw[cS a.ok,cO VW]
def Gp{g:List Ty}{t:Tm}(h:dG g t .nat)(hg:g.length<=600)(hn:t.aiw<=57){β:Type}(k:Fm->Option β):(cM (iO t) λa=>cM (eL 0) λb=>cM (k1 a b) λc=>k c)=k (eqv t):=by
 have hw:=t.hI h.ok;have hu:=Tm.Gu t 0 1
 have d:v0.wt<=10:=ab9
 rw[ze h VW VW,cv,Fl,cv,Gx VW VW];rfl
def abS{g:List Ty}{f:Fm}{k:Int}(b:k=5\/k=7)(h:Hg (g++[.nat]) f)(hn:f.aiw<=4000):Hg g (.mk k .nat [] [f]):=by
 have a:jS g (.mk k .nat [] [f]):=.q VW Ty.fJ h.ty;refine⟨?_,a⟩;unfold Fm.err;rw[cS a.ok,cO (by rw[Fm.cQ];simp only[db];omega)]
def Qw{q:Sq}{d:dd}(a:q.aiy.length<=600)(hg:rP 3 q.aiy)(b:d.wf):hD 12000 (Bs d q):=by
 obtain⟨t,d1,t1,t2,t3,t4,t5,t6⟩:=nZ a hg Ty.fJ ab9 b;obtain⟨c,f,h⟩:=Kd t3 t4
 have i:(Pf.mk 18 0 .z [t] [] []).wt<=3800:=by grind[Pf.ee,db,Ty.eX]
 have j:(Fm.mk 5 .nat [] [eqv t]).wt<=4000:=by rw[Fm.ee];simp only[db,Ty.gi];omega
 unfold Bs;rw[eG,cv,t1,cN,Gp t3 a t4,ET ab9 VW,cv,tu VW,cv,RC VW VW VW,cv];refine hD.of t2 ?_;rw[Pf.ee];simp only[db,Ty.eX];omega
def M4{q:Sq}{d:dd}(a:q.aiy.length<=600)(hg:rP 3 q.aiy)(c:d.wf):∃t b,s6 d q=some (.mk 10 0 .z [t] [.mk 5 .nat [] [eqv t]] [.mk 18 0 .z [t] [] []],.mk 5 .nat [] [eqv t],b)/\b.wf/\dG q.aiy t .nat/\t.aiw<=57/\t.wt<=3705:=by
 obtain⟨t,d1,t1,t2,t3,t4,t5,t6⟩:=nZ a hg Ty.fJ ab9 c;obtain⟨f,h,i⟩:=Kd t3 t4
 have j:(Pf.mk 18 0 .z [t] [] []).wt<=3800:=by grind[Pf.ee,db,Ty.eX]
 have k:(Fm.mk 5 .nat [] [eqv t]).wt<=4000:=by rw[Fm.ee];simp only[db,Ty.gi];omega
 unfold s6;rw[eG,cv,t1,cN,Gp t3 a t4,ET ab9 VW,cv,tu VW,cv,S2 VW VW VW,cN];exact⟨t,d1,rfl,t2,t3,t4,t5⟩
def xC{L:List Fm}{q:Sq}(h:Ai L q){P:Pf}(a:P.wt<=1000000000):(∃e,e≠0/\iI L q P=some (⟨fS,[]⟩,e))\/∃f l,iI L q P=some (⟨f,l⟩,0)/\Hg q.aiy f:=by
 rcases xd h.b a with⟨e,he,_,_,c⟩|⟨f,m,l,_,_,c,_,d,_⟩
 all_goals grind
def CA{g:List Ty}{f:Fm}(h:Hg g f)(hg:g.length<=16):fN FU f 0 1=some (f.up 0 1)/\(f.up 0 1).wt<=266240:=by
 have hn:=h.aiw;refine⟨sR FU f 0 1 (by rw[dY];omega) VW VW VW VW VW (h.aiA hg VW),?_⟩;have a:=h.wt
 grind[Fm.Gu]
def Rs{a b x:Int}(c:0<=x)(d:x<2):∃y,dg [a,b] x=some y/\(x=0/\y=a\/x=1/\y=b):=by
 have:x=0\/x=1:=VW
 rcases this with rfl|rfl
 .exact⟨a,rfl,.inl ⟨rfl,rfl⟩⟩
 .exact⟨b,rfl,.inr ⟨rfl,rfl⟩⟩
structure Mq (L:List Fm) (q:Sq):Prop where
 v:Ai L q
 c:rP 3 q.aiy
def Mq.below{L:List Fm}{q:Sq}(h:Mq L q){s:Ty}(hs:s.err=0)(a:s.aiw<=3)(hn:q.aiy.length+1<=16):Mq L ⟨q.aiy++[s],q.aiB.map (Fm.up 0 1)⟩:=
 ⟨h.v.below (l:=[s]) (λx b=>by rw[yy.1 b];exact hs) hn,h.c.app λx b=>by rw[yy.1 b];exact⟨hs,a⟩⟩
def Mq.with{L:List Fm}{q:Sq}(h:Mq L q){f:Fm}(a:Hg q.aiy f)(hn:q.aiB.length+1<=16):Mq L ⟨q.aiy,q.aiB++[f]⟩:=⟨h.v.with a hn,h.c⟩
def Mq.mkb{L:List Fm}{q:Sq}(h:Mq L q)(s:Ty):oL q [s]=some ⟨q.aiy++[s],q.aiB.map (Fm.up 0 1)⟩:=Ns h.v (l:=[s]) acZ
def Gq{κ β:Type}{G:Option β->Prop}(Q:κ->Prop){k:κ}{b:κ->Option β}(a:Q k)(c:∀j,Q j->G (b j)):G (de k b):=c k a
def Tq{n k:Nat}(S:k<=3){L:List Fm}(ih:∀(d:dd) (q:Sq),d.wf->Mq L q->hD (pb k) (hW n d L q (k:Int))){d:dd}(D:d.wf){q:Sq}(h:Mq L q)(F:q.aiy.length<10)(B:q.aiB.length<10):hD (pb (k+1)) (wZ (n+1) d L q ((k+1:Nat):Int)):=by
 have H:=Rl k VW;have I:pb (k+1)=3*pb k+1000000:=rfl;obtain⟨t,d1,s1,s2,K,M,T⟩:=M4 VW h.c D;obtain⟨g1,g2,g3⟩:=Kd K M
 have U:(Pf.mk 18 0 .z [t] [] []).wt<=3800:=by rw[Pf.ee];simp only[db,Ty.eX];omega
 have u:∀i:Int,(Fm.mk i .nat [] [eqv t]).wt<=4000:=λi=>by rw[Fm.ee];simp only[db,Ty.gi];omega
 have v:∀i j:Int,(Pf.mk j 0 .z [t] [Fm.mk i .nat [] [eqv t]] [Pf.mk 18 0 .z [t] [] []]).wt<=20000:=λi j=>by have:=u i;rw[Pf.ee];simp only[db,Ty.eX];omega
 rw[wZ,s1,mh];refine Gq (G:=hD (pb (k+1))) (λJ=>∀(v24 v25:Int) (v26:dd) (v27:Int),v26.wf->(v27=5\/v27=7)->hD (pb (k+1)) (J v24 v25 v26 v27)) ?_ ?_
 .intro v24 v25 v26 v27 w N;have O:Hg q.aiy (.mk v27 .nat [] [eqv t]):=abS N g1 VW;have hm:Mq L ⟨q.aiy++[.nat],q.aiB.map (Fm.up 0 1)++[eqv t]⟩:=(h.below Ty.fJ ab9 VW).with g1 (by show(q.aiB.map (Fm.up 0 1)).length+1<=16;simp;omega);obtain⟨Q,d3,q1,q2,q3⟩:=ih v26 _ w hm;show hD _ (cM (dg [eqv t] 0) λP=>_);rw[show dg [eqv t] 0=some (eqv t)from rfl,cv,eG,cv,h.mkb .nat,cv,AT (by show(q.aiB.map (Fm.up 0 1)).length<=1000;simp;omega),cv,et VW VW,show((k+1:Nat):Int)-1=(k:Int) by omega,q1,cN];refine Gq (G:=hD (pb (k+1))) (λJ=>∀(a v145 v146:Int) (b:List Ty) (v148:List Tm) (f:List Fm) (l:List Pf) (o:dd),o.wf->(Pf.mk a v145 (.mk v146 b) v148 f l).wt<=pb k+300000->hD (pb (k+1)) (J a v145 v146 b v148 f l o)) ?_ ?_
  .intro a v145 v146 b v148 f l o x hw;have:=v v27 v25;show hD _ (cM (jY v24 [Pf.mk v25 0 .z [t] [Fm.mk v27 .nat [] [eqv t]] [Pf.mk 18 0 .z [t] [] []],Pf.mk a v145 (.mk v146 b) v148 f l]) λr=>some (r,o));rw[JZ VW VW,cv];refine hD.of x ?_;rw[Pf.ee];simp only[db,Ty.eX];omega
  .intro J s;obtain⟨y,d4,A,R,y3,y4⟩:=jK d3 q2 2 VW VW;rw[A,cN];refine hZ (λ_=>?_) (λ_=>?_)
   .obtain⟨u1,u2⟩:=CA O VW;show hD _ (cM (fN FU (.mk v27 .nat [] [eqv t]) 0 1) λC=>_)
    have V:v0.wt<=10:=ab9
    rw[u1,cv,Fl,cv,show l7 0=some (Pf.mk 1 0 .z [] [] [])from rfl,cv,RC VW VW ab9,cv];refine s _ _ _ _ _ _ _ _ y4 ?_;show(Pf.mk v25 0 .z [v0] [(Fm.mk v27 .nat [] [eqv t]).up 0 1] [Pf.mk 1 0 .z [] [] []]).wt<=_;rw[Pf.ee];simp only[db,Ty.eX];rw[Pf.ee];simp only[db,Ty.eX];omega
   .refine s _ _ _ _ _ _ _ _ y4 ?_;rw[Ty.h8,Pf.h8];omega
 .intro J s;obtain⟨y,d4,A,R,y3,y4⟩:=jK d1 s2 3 VW VW;rw[A,cN];exact hZ (λ_=>s _ _ _ _ y4 (.inr rfl)) (λ_=>s _ _ _ _ y4 (.inl rfl))
def N0:∀(n k:Nat) (L:List Fm) (d:dd) (q:Sq),2*k<n->k<=4->d.wf->Mq L q->hD (pb k) (hW n d L q (k:Int)):=by
 intro n
 induction n using Nat.strongRecOn with
 |_ n ih=>
 intro k L d q hn X I h;cases n with
 |zero=>omega|succ n=>
 have N:=h.v.nv;have Y:=h.v.nh;have Z:=h.v.ln;have ad:=Rl k X;rw[hW,eG,cv];refine pD (G:=hD (pb k)) (λd=>d.wf) (λd I=>?_) (λj J=>?_)
 .--a leaf
  refine pD (G:=hD (pb k)) (λd=>d.wf) (λd I=>?_) (λj J=>?_)
  .obtain⟨t,d1,t1,t2,t3,t4,t5,t6⟩:=nZ VW h.c Ty.fJ ab9 I;rw[t1,cN,tu VW,cv];refine hD.of t2 ?_;rw[Pf.ee];simp only[db,Ty.eX];omega
  .obtain⟨x,d1,R,x2,x3,w⟩:=jK d I 4 VW VW;rw[R,cN];refine hZ (λ_=>hZ (λO=>?_) (λ_=>J _ w)) (λ_=>hZ (λ_=>hZ (λO=>?_) (λ_=>J _ w)) (λ_=>J _ w))
   .rw[fy,eo] at O;obtain⟨y,d2,K,M,y3,y4⟩:=jK d1 w q.aiB.length VW VW;rw[eo,K,cN,show l7 y=some (Pf.mk 1 y .z [] [] [])from rfl,cv];refine hD.of y4 ?_;rw[Pf.ee];simp only[db,Ty.eX];omega
   .rw[fy,eo] at O;obtain⟨y,d2,K,M,y3,y4⟩:=jK d1 w L.length VW VW;rw[eo,K,cN];refine hD.of y4 ?_;show(Pf.mk 2 y .z [] [] []).wt<=_;rw[Pf.ee];simp only[db,Ty.eX];omega
 .refine hZ (λO=>?_) (λ_=>J _ I);rw[qc,qc,fK,fK,fy,kv,kv,eo,eo] at O;obtain⟨ae,U,V⟩:=O;obtain⟨m,rfl⟩:∃m,k=m+1:=⟨k-1,VW⟩;rw[et VW VW,show((m+1:Nat):Int)-1=(m:Int) by omega];have af:=Rl m VW;have ah:pb (m+1)=3*pb m+1000000:=rfl;have i:∀(d:dd) (q:Sq),d.wf->Mq L q->hD (pb m) (hW n d L q (m:Int)):=λd q I h=>ih n VW m L d q VW VW I h;obtain⟨x,d1,R,x2,x3,w⟩:=jK d I 17 VW VW;rw[R,cN];refine hZ (λ_=>?_) (λ_=>?_)
  .--and
   obtain⟨P,d2,r,o,B⟩:=i d1 q w h;obtain⟨Q,d3,q1,q2,q3⟩:=i d2 q o h;rw[r,cN,q1,cN,JZ VW VW,cv];refine hD.of q2 ?_;rw[Pf.ee];simp only[db,Ty.eX];omega
  refine hZ (λ_=>?_) (λ_=>?_)
  .obtain⟨y,d2,K,M,y3,y4⟩:=jK d1 w 2 VW VW;obtain⟨P,d3,r,o,B⟩:=i d2 q y4 h;obtain⟨Q,d4,q1,q2,q3⟩:=i d3 q o h
   have hw:(Pf.mk 3 0 .z [] [] [P,Q]).wt<=200000000:=by rw[Pf.ee];simp only[db,Ty.eX];omega
   rw[K,cN,r,cN,q1,cN,JZ VW VW,cv,No VW,cv];refine hD.of q2 ?_;rw[Pf.ee];simp only[db,Ty.eX];rw[Pf.ee];simp only[db,Ty.eX];omega
  refine hZ (λ_=>?_) (λ_=>?_)
  .obtain⟨F,d2,f1,f2,f3⟩:=MS 1 VW q.aiy d1 VW h.c w;have D:Hg q.aiy F:=⟨f3.err ab9,f3.ty⟩;have S:=D.wt;obtain⟨P,d3,r,o,B⟩:=i d2 _ f2 (h.with D VW);rw[show(1:Int)=((1:Nat):Int)from rfl,f1,cN,AT VW,cv,r,cN,VX VW VW,cv];refine hD.of o ?_;rw[Pf.ee];simp only[db,Ty.eX];omega
  refine hZ (λ_=>?_) (λ_=>?_)
  .obtain⟨P,d2,r,o,B⟩:=i d1 q w h;rw[r,cN];rcases xC h.v (P:=P) VW with⟨e,he,A⟩|⟨f,l,A,D⟩
   .rw[A,cN,cO (by rw[eT];exact he)];exact J _ o
   .have S:=D.wt;obtain⟨Q,d3,q1,q2,q3⟩:=i d2 _ o (h.with D VW)
    have hw:(Pf.mk 6 0 .z [] [f] [Q]).wt<=200000000:=by rw[Pf.ee];simp only[db,Ty.eX];omega
    rw[A,cN,cS adL];simp only[];rw[AT VW,cv,q1,cN,VX VW VW,cv,JZ VW VW,cv];refine hD.of q2 ?_;rw[Pf.ee];simp only[db,Ty.eX];rw[Pf.ee];simp only[db,Ty.eX];omega
  refine hZ (λ_=>?_) (λ_=>?_)
  .obtain⟨s,d2,s1,s2,C,H⟩:=yt w;obtain⟨P,d3,r,o,B⟩:=i d2 _ H (h.below s2 C VW);rw[s1,cN,h.mkb s,cv,r,cN,FH VW VW,cv];refine hD.of o ?_;rw[Pf.ee];simp only[db];omega
  refine hZ (λ_=>?_) (λ_=>?_)
  .obtain⟨s,d2,s1,s2,C,H⟩:=yt w;obtain⟨t,d3,t1,t2,t3,t4,t5,t6⟩:=nZ VW h.c s2 C H;obtain⟨P,d4,r,o,B⟩:=i d3 _ t2 (h.below s2 C VW)
   have hw:(Pf.mk 8 0 s [] [] [P]).wt<=200000000:=by rw[Pf.ee];simp only[db];omega
   rw[s1,cN,t1,cN,h.mkb s,cv,r,cN,FH VW VW,cv,QY VW VW,cv];refine hD.of o ?_;rw[Pf.ee];simp only[db,Ty.eX];rw[Pf.ee];simp only[db];omega
  refine hZ (λ_=>?_) (λ_=>?_)
  .--there is a number W is equal to a term
   obtain⟨t,d2,t1,t2,t3,t4,t5,t6⟩:=nZ VW h.c Ty.fJ ab9 w;obtain⟨y,d3,K,M,y3,y4⟩:=jK d2 t2 2 VW VW;obtain⟨a,a1,_⟩:=Rs (a:=5) (b:=7) M y3;obtain⟨b,T,_⟩:=Rs (a:=10) (b:=14) M y3;obtain⟨g1,g2,g3⟩:=Kd t3 t4
   have hr:(Pf.mk 18 0 .z [t] [] []).wt<=3800:=by rw[Pf.ee];simp only[db,Ty.eX];omega
   have D:(Fm.mk a .nat [] [eqv t]).wt<=4000:=by rw[Fm.ee];simp only[db,Ty.gi];omega
   rw[t1,cN,K,cN,c6,a1,cv,Gp t3 VW t4,ET ab9 VW,cv,c6,T,cv,tu VW,cv,RC VW VW VW,cv];refine hD.of y4 ?_;rw[Pf.ee];simp only[db,Ty.eX];omega
  refine hZ (λ_=>?_) (λ_=>?_)
  .obtain⟨P,d2,r,o,B⟩:=i d1 q w h;rw[r,cN];rcases xC h.v (P:=P) VW with⟨e,he,A⟩|⟨f,l,A,D⟩
   .rw[A,cN,cO (by rw[eT];exact he)];exact J _ o
   .obtain⟨u1,u2⟩:=CA D N;obtain⟨s,d3,s1,s2,C,H⟩:=yt o;obtain⟨y,d4,K,M,y3,y4⟩:=jK d3 H 2 VW VW;obtain⟨a,a1,_⟩:=Rs (a:=5) (b:=7) M y3;obtain⟨b,T,_⟩:=Rs (a:=10) (b:=14) M y3;obtain⟨t,d5,t1,t2,t3,t4,t5,t6⟩:=nZ VW h.c s2 C y4
    have hw:(Fm.mk a s [] [f.up 0 1]).wt<=300000:=by rw[Fm.ee];simp only[db];omega
    rw[A,cN,cS adL,s1,cN,K,cN,c6,a1,cv,u1,cv,ET VW VW,cv,c6,T,cv,t1,cN,RC VW VW VW,cv];refine hD.of t2 ?_;rw[Pf.ee];simp only[db,Ty.eX];omega
  refine hZ (λ_=>?_) (λ_=>?_)
  .obtain⟨n',rfl⟩:∃n',n=n'+1:=⟨n-1,VW⟩;obtain⟨P,d2,r,o,B⟩:=Tq (n:=n') (k:=m) VW (λd q I h=>ih n' VW m L d q VW VW I h) w h VW VW;rw[r,cN];exact hD.of o B
  refine hZ (λ_=>?_) (λ_=>?_)
  .obtain⟨P,d2,r,o,B⟩:=i d1 q w h;rw[r,cN];rcases xC h.v (P:=P) VW with⟨e,he,A⟩|⟨f,l,A,D⟩
   .rw[A,cN,cO (by rw[eT];exact he)];exact J _ o
   .obtain⟨u1,u2⟩:=CA D N;obtain⟨t,d5,t1,t2,t3,t4,t5,t6⟩:=nZ VW h.c Ty.fJ ab9 o
    have hH:(Pf.mk 1 0 .z [] [] []).wt<=10:=ab9
    rw[A,cN,cS adL,u1,cv,t1,cN,show l7 0=some (Pf.mk 1 0 .z [] [] [])from rfl,cv,PC VW VW VW VW,cv];refine hD.of t2 ?_;rw[Pf.ee];simp only[db,Ty.eX];omega
  refine hZ (λ_=>?_) (λ_=>?_)
  .obtain⟨P,d2,r,o,B⟩:=i d1 q w h;rw[r,cN];rcases xC h.v (P:=P) VW with⟨e,he,A⟩|⟨f,l,A,D⟩
   .rw[A,cN,cO (by rw[eT];exact he)];exact J _ o
   .obtain⟨u1,u2⟩:=CA D N;obtain⟨t,d5,t1,t2,t3,t4,t5,t6⟩:=nZ VW h.c Ty.nN ab9 o
    have hH:(Pf.mk 1 0 .z [] [] []).wt<=10:=ab9
    rw[A,cN,cS adL,u1,cv,fE,cv,t1,cN,show l7 0=some (Pf.mk 1 0 .z [] [] [])from rfl,cv,PC VW VW VW VW,cv];refine hD.of t2 ?_;rw[Pf.ee];simp only[db,Ty.eX];omega
  refine hZ (λ_=>?_) (λ_=>?_)
  .obtain⟨t,d2,t1,t2,t3,t4,t5,t6⟩:=nZ VW h.c Ty.fJ ab9 w;obtain⟨P,r,o⟩:=MM t5;rw[t1,cN,r,cv];exact hD.of t2 VW
  refine hZ (λ_=>?_) (λ_=>?_)
  .obtain⟨t,d2,t1,t2,t3,t4,t5,t6⟩:=nZ VW h.c Ty.fJ ab9 w;obtain⟨u,d3,u1,u2,u3,u4,u5,u6⟩:=nZ VW h.c Ty.fJ ab9 t2;have ai:=Tm.Gu u 0 1
   have r1:(Pf.mk 18 0 .z [t] [] []).wt<=3800:=by rw[Pf.ee];simp only[db,Ty.eX];omega
   have r2:(Pf.mk 18 0 .z [u] [] []).wt<=3800:=by rw[Pf.ee];simp only[db,Ty.eX];omega
   have r3:(Fm.mk 1 .z [u.up 0 1,u.up 0 1] []).wt<=8000:=by rw[Fm.ee];simp only[db,Ty.eX];omega
   rw[t1,cN,u1,cN,ze u3 VW VW,cv,cv,Gx VW VW,cv,tu VW,cv,tu VW,cv,NA VW VW VW,cv];refine hD.of u2 ?_;rw[Pf.ee];simp only[db,Ty.eX];omega
  refine hZ (λ_=>?_) (λ_=>?_)
  .obtain⟨s,d2,s1,s2,C,H⟩:=Uy w;have hb:=h.below s2 C VW;obtain⟨P,d3,r,o,B⟩:=Qw (q:=⟨q.aiy++[s],q.aiB.map (Fm.up 0 1)⟩) (by show(q.aiy++[s]).length<=600;simp;omega) hb.c H
   have hw:(Pf.mk 8 0 s [] [] [P]).wt<=13000:=by rw[Pf.ee];simp only[db];omega
   rw[s1,cN,h.mkb s,cv,r,cN,FH VW VW,cv,No VW,cv];refine hD.of o ?_;rw[Pf.ee];simp only[db,Ty.eX];omega
  refine hZ (λ_=>?_) (λ_=>?_)
  .obtain⟨s,d2,s1,s2,C,H⟩:=yt w;obtain⟨P,d3,r,o,B⟩:=i d2 _ H (h.below s2 C VW);rw[s1,cN,h.mkb s,cv,r,cN,FH VW VW,cv];refine hD.of o ?_;rw[Pf.ee];simp only[db];omega
  refine hZ (λ_=>?_) (λ_=>J _ w)
  .obtain⟨s,d2,s1,s2,C,H⟩:=yt w;obtain⟨t,d3,t1,t2,t3,t4,t5,t6⟩:=nZ VW h.c s2 C H;obtain⟨P,d4,r,o,B⟩:=i d3 _ t2 (h.below s2 C VW)
   have hw:(Pf.mk 12 0 s [] [] [P]).wt<=200000000:=by rw[Pf.ee];simp only[db];omega
   rw[s1,cN,t1,cN,h.mkb s,cv,r,cN,FH VW VW,cv,QY VW VW,cv];refine hD.of o ?_;rw[Pf.ee];simp only[db,Ty.eX];rw[Pf.ee];simp only[db];omega
def Fm.py{f:Fm}(h:f.ok=true)(hn:f.aiw<=4096):f.err=0:=by
 unfold Fm.err;rw[cS h,cO VW]
def UA{P:Pf}(hw:P.ok=true)(hs:P.small=true):P.err=if P.aiw<=16384 then 0 else 4:=by
 unfold Pf.err;rw[cS hw]
 by_cases h:P.aiw<=16384
 .rw[cS ⟨hs,h⟩,cS h]
 .rw[cO (λa=>h a.2),cO h]
theorem kI{P:Pf}(h:P.err=0):P.ok=true/\P.small=true/\P.aiw<=16384:=by
 unfold Pf.err at h;cases b:P.ok with
 |false=>rw[b] at h;cases h
 |true=>
  rw[b,cS rfl] at h
  by_cases a:P.small=true/\P.aiw<=16384
  .exact⟨rfl,a.1,a.2⟩
  .rw[cO a] at h;cases h
def acv{t:Tm}(h:t.err=0):t.ok=true/\Rk t=true:=by
 obtain⟨a,b⟩:=Tm.fQ h;exact⟨a,by simpa[Rk] using b⟩
def YI{g:List Ty}{hs L:List Fm}{t:Tm}(h:dG g t .nat)(c:gR g)(hg:g.length<=16)(hn:t.aiw<=1000):(Pf.mk 18 0 .z [t] [] []).inf L g hs=.inl (.mk 1 .z [t,t] [],0)/\(Pf.mk 18 0 .z [t] [] []).err=0:=by
 have he:t.err=0:=Tm.py h.ok VW;have d:(Fm.mk 1 .z [t,t] []).err=0:=Fm.py (jS.eq h h).ok (by rw[Fm.cQ];simp only[db];omega);constructor
 .rw[Pf.gC,KB,fi (LK h c VW)];unfold wH;rw[eI,cS d];cases (Fm.mk 1 .z [t,t] []).has<;>rfl
 .obtain⟨a,b⟩:=acv he;rw[UA (by rw[Pf.fX];simp[a,Pf.node,Pf.sig,Ty.pP]) (by rw[Pf.zx];simp[b]),cS (by rw[Pf.cQ];simp only[db];omega)]
def BB{L:List Fm}{q:Sq}(h:Ai L q){P:Pf}(a:P.err=0):Vr L q P=P.inf L q.aiy q.aiB:=by
 unfold Vr;rw[fi h.zero,fi a]
structure Rt (L:List Fm) (q:Sq) (P:Pf) (f:Fm) (m:Nat):Prop where
 err:P.err=0
 inf:P.inf L q.aiy q.aiB=.inl (f,m)
 hg:Hg q.aiy f
 wt:P.wt<=50000000
def Ml{L:List Fm}{q:Sq}(h:Mq L q){d:dd}(D:d.wf){k:Nat}(A:k<=4):∃P f l j m,uD d L q (k:Int)=some (P,⟨f,l⟩,j)/\j.wf/\Rt L q P f m/\Us l m:=by
 have G:=Rl k A;unfold uD;rw[c6]
 obtain⟨o,H,B⟩:=zE (ρ:=Pf×qZ×dd) (F:=rM λ(v109:Int) (a:dd)=>
   if(pR v109 4) then(
   cW (hW FU a L q (k:Int)) λc d134=>
   cW (iI L q c) λn u=>
   if(dj u 0) then(
   some (.ret (c,n,d134)))
   else(some (.next ((dF .i64 v109 1),d134))))
   else(some (.brk (v109,a))))
  (λs=>0<=s.1/\s.1<=4/\s.2.wf) (λs=>(4-s.1).toNat)
  (λo=>match o with|.inl s=>s.2.wf|.inr r=>∃P f l j m,r=(P,⟨f,l⟩,j)/\j.wf/\Rt L q P f m/\Us l m)
  (by
   rintro⟨i,e⟩ ⟨i1,i2,i3⟩;simp only at i1 i2 i3
   by_cases hi:i<4
   .obtain⟨P,d1,I,C,U⟩:=N0 FU k L e q (by rw[dY];omega) A i3 h;simp only[rM,kv,hi,if_true,I,cN];rcases xd h.v.b (P:=P) VW with⟨e,he,_,_,q3⟩|⟨f,m,l,q1,_,q3,hu,y,_,he⟩
    .left;refine⟨(i+1,d1),?_,⟨?_,?_,C⟩,?_⟩
     .rw[q3,cN,cO (by rw[eT];exact he),dP VW VW]
     .show 0<=i+1;omega
     .show i+1<=4;omega
     .show(4-(i+1)).toNat<(4-i).toNat;omega
    .right;right;refine⟨(P,⟨f,l⟩,d1),?_,P,f,l,d1,m,rfl,C,⟨he,?_,y,VW⟩,hu⟩
     .rw[q3,cN,cS adL]
     .rw[<-BB h.v he];exact q1
   .right;left
    exact⟨(i,e),by simp only[rM,kv,hi,lS],i3⟩)
  FU (0,d) ⟨by show(0:Int)<=0;omega,by show(0:Int)<=4;omega,D⟩ (by show(4-(0:Int)).toNat<FU;rw[dY];omega)
 rw[H];cases o with
 |inr r=>
  obtain⟨P,f,l,j,m,rfl,J,K,M⟩:=B;exact⟨P,f,l,j,m,rfl,J,K,M⟩
 |inl s=>
  obtain⟨i,e⟩:=s;have he:e.wf:=B;obtain⟨x,d1,N,O,V,Q⟩:=jK e he 4 VW VW;obtain⟨t,t1,t2⟩:=zO x O VW;obtain⟨w,hn⟩:=t2 q.aiy;have hw:=t.hI w.ok;obtain⟨R,S⟩:=YI (L:=L) (hs:=q.aiB) w h.v.ctx h.v.nv VW
  have T:(Pf.mk 18 0 .z [t] [] []).wt<=1000:=by rw[Pf.ee];simp only[db,Ty.eX];omega
  rcases xd h.v.b (P:=Pf.mk 18 0 .z [t] [] []) VW with⟨e,he,q1,_,q3⟩|⟨f,m,l,q1,_,q3,hu,y,_,he⟩
  .rw[BB h.v S,R] at q1;cases q1
  .rw[cv,dk];simp only[rM];rw[N,cN,t1,cv,tu VW,cv,q3,cN];exact⟨_,f,l,d1,m,rfl,Q,⟨he,by rw[<-BB h.v he];exact q1,y,VW⟩,hu⟩
def QN{f:Fm}{m:Nat}(h:f.err=0):wH (.inl (f,m))=.inl (f,if f.has then m else 0):=by
 unfold wH;rw[eI,cS h]
theorem Zd{f:Fm}{m:Nat}(h:f.err≠0):wH (.inl (f,m))=.inr 4:=by
 unfold wH;rw[eI,cO h]
def agn:Ai [] ⟨[],[]⟩:=⟨acZ,λf h=>by simp at h,λs h=>by simp at h,acZ,acZ,λf h=>by simp at h⟩
noncomputable def F9 (a b:Tm):Int:=@ite Int (a=b) (Classical.propDecidable _) 0 (if(a.norm 1000 0).2.2≠0 then(a.norm 1000 0).2.2 else if(b.norm 1000 0).2.2≠0 then(b.norm 1000 0).2.2 else@ite Int ((a.norm 1000 0).1=(b.norm 1000 0).1) (Classical.propDecidable _) 0 11)
def JP(a:Tm):F9 a a=0:=cS rfl
def Yk{a b:Tm}(h:a≠b):F9 a b=if(a.norm 1000 0).2.2≠0 then(a.norm 1000 0).2.2 else if(b.norm 1000 0).2.2≠0 then(b.norm 1000 0).2.2 else@ite Int ((a.norm 1000 0).1=(b.norm 1000 0).1) (Classical.propDecidable _) 0 11:=cO h
def Nm.YB{a:Tm}(h:Nm a)(b:(a.norm 1000 0).2.2=0):(a.norm 1000 0).1.ok=true/\(a.norm 1000 0).1.aiw<=4096:=by
 obtain⟨p,n,e,c⟩:∃p n e,a.norm 1000 0=(p,n,e):=⟨_,_,_,rfl⟩;rw[c] at b|-;have b:e=0:=b;subst b;have:=Fz 1000 536870912 0 a p n VW (Sm.start h.err h.aiA) (l5 h.err).2 c;exact⟨this.1.ok,this.2⟩
def E5{a b:Tm}(f:Nm a)(i:Nm b):ky a b 1000=some (F9 a b):=by
 have w:=a.hI (l5 f.err).1;have x:=b.hI (l5 i.err).1;have y:=(l5 f.err).2;have A:=(l5 i.err).2;unfold ky;rw[oP VW,f.err,cv,cO nz,oP VW,i.err,cv,cO nz];obtain⟨r,t,o⟩:=vL (a:=a) (b:=b) VW;rw[t,cv]
 by_cases c:a=b
 .rw[cS (o.2 c),c,JP]
 .rw[cO (λh=>c (o.1 h)),Yk c,f.both.1,i.both.1];obtain⟨p,n,e,u⟩:∃p n e,a.norm 1000 0=(p,n,e):=⟨_,_,_,rfl⟩;obtain⟨s,n',v,l⟩:∃p n e,b.norm 1000 0=(p,n,e):=⟨_,_,_,rfl⟩;have j:=f.YB;rw[u] at j|-;rw[l,mh];simp only[] at j|-
  by_cases he:e=0
  .subst he;rw[cO nz,cO ab9,mh]
   by_cases d:v=0
   .subst d;rw[cO nz,cO ab9];have B:=p.hI (j rfl).1;have C:=(j rfl).2;obtain⟨q,q1,q2⟩:=vL (a:=p) (b:=s) VW;rw[q1,cv]
    by_cases k:p=s
    .rw[cS (q2.2 k),cS k]
    .rw[cO (λh=>k (q2.1 h)),cO k]
   .rw[cS (by rw[c9];exact d),cS d]
  .rw[cS (by rw[c9];exact he),cS he]
mutual
noncomputable def Fm.HD:Fm->Fm->Int
 |.mk k s ts l,b=>if k≠b.aiu\/s.jE b.cT=false then 11 else if eD (List.zipWith F9 ts b.dc)≠0 then eD (List.zipWith F9 ts b.dc)else eD (Fm.SM l b.aiv)
noncomputable def Fm.SM:List Fm->List Fm->List Int
 |a::l,b::m=>a.HD b::Fm.SM l m|_,_=>[]
end
def Fm.QZ:∀(l m:List Fm),Fm.SM l m=List.zipWith Fm.HD l m
 |[],m=>by rw[Fm.SM];rfl;intros;simp_all|a::l,[]=>by rw[Fm.SM];rfl;intros;simp_all|a::l,b::m=>by rw[Fm.SM,Fm.QZ l m];rfl
def Fm.Ug(k k':Int)(s b:Ty)(ts a:List Tm)(l c:List Fm):(Fm.mk k s ts l).HD (.mk k' b a c)=if k≠k'\/s.jE b=false then 11 else if eD (List.zipWith F9 ts a)≠0 then eD (List.zipWith F9 ts a)else eD (List.zipWith Fm.HD l c):=by rw[Fm.HD,Fm.QZ];rfl
def G8{α:Type}{E:α->α->Option Int}{e:α->α->Int}{M:List α}:∀(l:List α) (i:Nat),l.length+i=M.length->(∀x∈l,∀y∈M,E x y=some (e x y))->dH (λ(d:Int) (f:α)=>(λ(_:Unit)=>cM (dg M d) λb=>cM (E f b) λa=>if(dw a 0) then(some (.ret a))else(some ((.next ()):dV Unit Int)))) l i ()=some (if eD (List.zipWith e l (M.drop i))=0 then .inl ()else .inr (eD (List.zipWith e l (M.drop i))))
 |[],i,_,_=>by simp[eD]|x::l,i,n,h=>by
  simp only[kL] at n
  have hi:i<M.length:=VW
  have ih:=G8 (E:=E) (e:=e) (M:=M) l (i+1) VW (λy hy=>h y (by simp[hy]));have o:M.drop i=M[i]::M.drop (i+1):=(KR hi)
  have q:List.zipWith e (x::l) (M.drop i)=e x M[i]::List.zipWith e l (M.drop (i+1)):=by rw[o];rfl
  rw[q,dJ,gP,l9 hi,cv,h x acZ _ (CC hi),cv]
  by_cases c:e x M[i]=0
  .have j:¬dw (e x M[i]) 0=true:=by rw[c9];simpa using c
   have k:eD (e x M[i]::List.zipWith e l (M.drop (i+1)))=eD (List.zipWith e l (M.drop (i+1))):=by rw[eD,cS c]
   rw[cO j,cv,dQ,k];exact ih
  .have j:dw (e x M[i]) 0=true:=by rw[c9];exact c
   have k:eD (e x M[i]::List.zipWith e l (M.drop (i+1)))=e x M[i]:=by rw[eD,cO c]
   rw[cS j,cv,zu,k,cO c]
def DI:∀(n:Nat) (a b:Fm),a.aiw<=n->a.aiw<=4096->b.aiw<=4096->a.ok=true->b.ok=true->RU a->RU b->iP n a b=some (a.HD b):=by
 intro n
 induction n with
 |zero=>intro a b h;have:=a.dr;omega
 |succ n ih=>
  intro a b hn D F S T W X;cases a with
  |mk k s ts l=>
  cases b with
  |mk k' A c H=>
   cases W with
   |mk I J=>
   cases X with
   |mk K L=>
   rw[Fm.cQ] at hn D F;obtain⟨a1,a2,a3⟩:=Fm.oW S;obtain⟨Z,b2,Y⟩:=Fm.oW T;have l1:=Tm.ek ts;have l2:=Fm.ek l;rw[iP,Fm.Ug];refine pD (G:=λo=>o=some (if k≠k'\/s.jE A=false then 11 else if eD (List.zipWith F9 ts c)≠0 then eD (List.zipWith F9 ts c)else eD (List.zipWith Fm.HD l H))) (λv=>v=true↔(k≠k'\/s.jE A=false)) (λv U=>?_) (λj V=>?_)
   .by_cases i:k≠k'\/s.jE A=false
    .rw[cS (U.2 i),cS i]
    .rw[cO (λh=>i (U.1 h)),cO i];have M:k=k':=aeO λh=>i (.inl h);subst M;obtain⟨e1,e2⟩:=Fm.shape S T;show(fa (dE ts) _:Option Int)=_;rw[c8 VW,cY,c6];show cM (dH (λ(N:Int) (O:Tm)=>(λ(_:Unit)=>cM (dg c N) λq=>cM (ky O q 1000) λd=>if(dw d 0) then(some (.ret d))else(some ((.next ()):dV Unit Int)))) ts 0 ()) _=_;rw[G8 (E:=λx y=>ky x y 1000) (e:=F9) ts 0 VW (λx r y hy=>E5 (I x r) (K y hy)),List.drop_zero]
     by_cases B:eD (List.zipWith F9 ts c)=0
     .rw[cS B,cv,dk,cO (λh=>h B)];show(fa (dE l) _:Option Int)=_;rw[c8 VW,cY,c6];show cM (dH (λ(t:Int) (u:Fm)=>(λ(_:Unit)=>cM (dg H t) λw=>cM (iP n u w) λf=>if(dw f 0) then(some (.ret f))else(some ((.next ()):dV Unit Int)))) l 0 ()) _=_
      rw[G8 (E:=λx y=>iP n x y) (e:=Fm.HD) l 0 VW (λx r y hy=>by
       have m1:=di Fm.aiw r;have m2:=di Fm.aiw hy
       exact ih x y VW VW VW (a3 x r) (Y y hy) (J x r) (L y hy)),List.drop_zero]
      by_cases P:eD (List.zipWith Fm.HD l H)=0
      .rw[cS P,P];rfl
      .rw[cO P];rfl
     .rw[cO B,cS B];rfl
   .show(if(dw k k') then j true else cM (fO FU s A) λQ=>j (oF Q))=_
    by_cases C:k=k'
    .have R:¬dw k k'=true:=by rw[c9];simpa using C
     rw[cO R,pt VW,cv];exact V _ (by rw[Q7];simp[C])
    .have R:dw k k'=true:=by rw[c9];exact C
     rw[cS R];exact V _ (by simp[C])
def Hg.nmF{g:List Ty}{f:Fm}(h:Hg g f)(hg:g.length<=1000000):RU f:=RU.of f h.aiw h.ok (h.ty.aiA _ (by have:=h.aiw;omega))
theorem BF{g f:List Ty}{a b:Fm}(c:Hg g a)(d:Hg f b)(h:g.length<=1000000)(i:f.length<=1000000):wG a b=a.HD b:=by
 have j:=c.wt;have k:=d.wt
 have e:ic a b=some (a.HD b):=by
  unfold ic;rw[j9 VW,c.err,cv,cO nz,j9 VW,d.err,cv,cO nz,DI FU a b (by rw[dY];have:=c.aiw;omega) c.aiw d.aiw c.ok d.ok (c.nmF h) (d.nmF i)];rfl
 unfold wG;rw[e];rfl
def tf{α:Type}{e:α->α->Int}:∀(l:List α),(∀x∈l,e x x=0)->eD (List.zipWith e l l)=0
 |[],_=>rfl|x::l,h=>by
  have a:=h x acZ;show eD (e x x::List.zipWith e l l)=0;rw[eD,cS a];exact tf l λy hy=>h y (by simp[hy])
def Fm.VB(f:Fm):f.HD f=0:=by
 induction f using Fm.ind with
 |h k s ts l ih=>
  rw[Fm.Ug,cO (by rintro(h|h);exact h rfl;rw[(Ty.jM s s).2 rfl] at h;cases h),tf ts (λx _=>JP x),cO ab9,tf l ih]
def fin(f:Fm)(m:Nat):Nat:=if f.has then m else 0
def jj{r:PR}{f:Fm}{m:Nat}(h:wH r=.inl (f,m)):∃m0,r=.inl (f,m0)/\f.err=0/\m=fin f m0:=by
 cases r with
 |inr e=>cases h
 |inl p=>
  obtain⟨f0,m0⟩:=p
  by_cases a:f0.err=0
  .rw[QN a] at h;obtain⟨rfl,rfl⟩:=gu (wY h);exact⟨m0,rfl,a,rfl⟩
  .grind[Zd]
def gr{r:PR}{k:Fm->Nat->PR}{p:Fm×Nat}(h:pbind r k=.inl p):∃f m,r=.inl (f,m)/\k f m=.inl p:=by
 cases r with
 |inr e=>cases h
 |inl q=>exact⟨q.1,q.2,rfl,h⟩
theorem j0{e:Int}{r:PR}{p:Fm×Nat}(h:jd e r=.inl p):e=0/\r=.inl p:=by grind[fi,iV]
def mE{c:Prop}[Decidable c]{e:Int}{r:PR}{p:Fm×Nat}(h:tV c e r=.inl p):¬c/\r=.inl p:=by grind[kl,gA]
def vd{r:PR}{k:Int}{f:Fm}{m:Nat}(h:DU r k=.inl (f,m)):r=.inl (f,m)/\f.aiu=k:=by
 obtain⟨f0,m0,rfl,a⟩:=gr h
 grind
theorem wv{F:Fm}{t:Tm}(h:(j4 F t).2=0):j4 F t=(Fm.iu 0 F t,0)/\(Fm.iu 0 F t).aiw<=4096:=by grind[o9]
def zT{r:PR}{F:Fm}{t:Tm}{f:Fm}{m:Nat}(h:prt r F t=.inl (f,m)):r=.inl (f,m)/\(Fm.iu 0 F t).aiw<=4096/\wG (Fm.iu 0 F t) f=0:=by
 obtain⟨f0,m0,rfl,a⟩:=gr h
 grind[j0,wv]
inductive Dv (L:List Fm):List Ty->List Fm->Pf->Fm->Nat->Prop
 |hyp {g hs i f}:0<=i->i<(hs.length:Int)->hs[hs.length-1-i.toNat]?=some f->Hg g f->Dv L g hs (.mk 1 i .z [] [] []) f 0|Ev {g hs i f}:0<=i->L[i.toNat]?=some f->Hg [] f->Dv L g hs (.mk 2 i .z [] [] []) f 0|FZ {g hs a b x y m n}:Dv L g hs a x m->Dv L g hs b y n->Hg g (.mk 2 .z [] [x,y])->Dv L g hs (.mk 3 0 .z [] [] [a,b]) (.mk 2 .z [] [x,y]) (fin (.mk 2 .z [] [x,y]) (m|||n))|SA {g hs a x y m}:Dv L g hs a (.mk 2 .z [] [x,y]) m->Hg g x->Dv L g hs (.mk 4 0 .z [] [] [a]) x (fin x m)|Sx {g hs a x y m}:Dv L g hs a (.mk 2 .z [] [x,y]) m->Hg g y->Dv L g hs (.mk 5 0 .z [] [] [a]) y (fin y m)|IF {g hs F a y m}:Hg g F->hs.length+1<=16->Dv L g (hs++[F]) a y m->Hg g (.mk 3 .z [] [F,y])->Dv L g hs (.mk 6 0 .z [] [F] [a]) (.mk 3 .z [] [F,y]) (fin (.mk 3 .z [] [F,y]) m)|HI {g hs a b x y f m n}:Dv L g hs a (.mk 3 .z [] [x,y]) m->Dv L g hs b f n->Hg g x->Hg g f->x.HD f=0->Hg g y->Dv L g hs (.mk 7 0 .z [] [] [a,b]) y (fin y (m|||n))|all {g hs k k' s a f m}:(k=8/\k'=4\/k=12/\k'=6/\m.testBit 0=false)->s.err=0->g.length+1<=16->Dv L (g++[s]) (hs.map (Fm.up 0 1)) a f m->Hg g (.mk k' s [] [f])->Dv L g hs (.mk k 0 s [] [] [a]) (.mk k' s [] [f]) (fin (.mk k' s [] [f]) (m/2))|TY {g hs k k' t s a x m u}:(k=9/\k'=4/\u=m|||rL t\/k=13/\k'=6/\u=m)->dG g t s->t.err=0->Dv L g hs a (.mk k' s [] [x]) m->Hg (g++[s]) x->(Fm.iu 0 x t).aiw<=4096->Dv L g hs (.mk k 0 .z [t] [] [a]) (Fm.iu 0 x t) (fin (Fm.iu 0 x t) u)|ex {g hs k k' t s a x f m u}:(k=10/\k'=5/\u=m|||rL t\/k=14/\k'=7/\u=m)->Hg g (.mk k' s [] [x])->dG g t s->t.err=0->Hg (g++[s]) x->Dv L g hs a f m->Hg g f->(Fm.iu 0 x t).aiw<=4096->(Fm.iu 0 x t).HD f=0->Dv L g hs (.mk k 0 .z [t] [.mk k' s [] [x]] [a]) (.mk k' s [] [x]) (fin (.mk k' s [] [x]) u)|Tx {g hs k k' s a b x f m n}:(k=11/\k'=5\/k=15/\k'=7/\n.testBit 0=false)->Dv L g hs a (.mk k' s [] [x]) m->s.err=0->g.length+1<=16->hs.length+1<=16->Hg (g++[s]) x->Dv L (g++[s]) (hs.map (Fm.up 0 1)++[x]) b f n->Hg (g++[s]) f->(BZ f).2=0->Hg g (BZ f).1->Dv L g hs (.mk k 0 .z [] [] [a,b]) (BZ f).1 (fin (BZ f).1 (m|||n/2))|ind {g hs t F a b x y m n}:Hg (g++[.nat]) F->dG g t .nat->t.err=0->Dv L g hs a x m->Hg g x->(Fm.iu 0 F vT).aiw<=4096->(Fm.iu 0 F vT).HD x=0->g.length+1<=16->hs.length+1<=16->Dv L (g++[.nat]) (hs.map (Fm.up 0 1)++[F]) b y n->Hg (g++[.nat]) y->(Fm.iu 0 (F.up 1 1) (i_ v0)).aiw<=4096->(Fm.iu 0 (F.up 1 1) (i_ v0)).HD y=0->(Fm.iu 0 F t).aiw<=4096->Dv L g hs (.mk 16 0 .z [t] [F] [a,b]) (Fm.iu 0 F t) (fin (Fm.iu 0 F t) ((rL t|||m)|||n/2))|lists {g hs t F a b x y m n}:Hg (g++[.lW]) F->dG g t .lW->t.err=0->Dv L g hs a x m->Hg g x->(Fm.iu 0 F (.mk 7 0 .z [])).aiw<=4096->(Fm.iu 0 F (.mk 7 0 .z [])).HD x=0->g.length+2<=16->hs.length+1<=16->Dv L (g++[.nat]++[.lW]) (hs.map (Fm.up 0 2)++[F.up 1 1]) b y n->Hg (g++[.nat]++[.lW]) y->(Fm.iu 0 (F.up 1 2) (.mk 8 0 .z [v1,v0])).aiw<=4096->(Fm.iu 0 (F.up 1 2) (.mk 8 0 .z [v1,v0])).HD y=0->(Fm.iu 0 F t).aiw<=4096->Dv L g hs (.mk 17 0 .z [t] [F] [a,b]) (Fm.iu 0 F t) (fin (Fm.iu 0 F t) ((rL t|||m)|||n/4))|refl {g hs t}:dG g t .nat->t.err=0->Hg g (.mk 1 .z [t,t] [])->Dv L g hs (.mk 18 0 .z [t] [] []) (.mk 1 .z [t,t] []) 0|subst {g hs F a b t u f m n}:Hg (g++[.nat]) F->Dv L g hs a (.mk 1 .z [t,u] []) m->dG g t .nat->dG g u .nat->t.err=0->u.err=0->Dv L g hs b f n->Hg g f->(Fm.iu 0 F t).aiw<=4096->(Fm.iu 0 F t).HD f=0->(Fm.iu 0 F u).aiw<=4096->Dv L g hs (.mk 19 0 .z [] [F] [a,b]) (Fm.iu 0 F u) (fin (Fm.iu 0 F u) n)|choice {g hs a s u y m}:Dv L g hs a (.mk 4 s [] [.mk 5 u [] [y]]) m->s.err=0->u.err=0->Hg (g++[s]++[u]) y->(Ty.fn s u).err=0->(Fm.iu 0 (y.up 2 1) (gL v1 v0)).aiw<=4096->Hg g (.mk 5 (.fn s u) [] [.mk 4 s [] [Fm.iu 0 (y.up 2 1) (gL v1 v0)]])->Dv L g hs (.mk 20 0 .z [] [] [a]) (.mk 5 (.fn s u) [] [.mk 4 s [] [Fm.iu 0 (y.up 2 1) (gL v1 v0)]]) (fin (.mk 5 (.fn s u) [] [.mk 4 s [] [Fm.iu 0 (y.up 2 1) (gL v1 v0)]]) m)
def wS(f:Fm):fin f 0=0:=by grind[fin]
def Bn{g c:List Ty}{a b:Fm}(d:Hg g a)(f:Hg c b)(i:g.length<=1000000)(j:c.length<=1000000)(h:wG a b=0):a.HD b=0:=by grind[BF]
def kR{g:List Ty}{s:Ty}{F:Fm}{t:Tm}(hF:jS (g++[s]) F)(a:dG g t s)(hn:(Fm.iu 0 F t).aiw<=4096):Hg g (Fm.iu 0 F t):=⟨Fm.py (hF.put a).ok hn,hF.put a⟩
def Hg.aem{g:List Ty}{F:Fm}(h:Hg (g++[.nat]) F):Hg (g++[.nat]++[.nat]) (F.up 1 1):=⟨A7 h.err VW VW,by have:=h.ty.up g [.nat] [.nat] rfl;simpa using this⟩
def Hg.aep{g:List Ty}{F:Fm}(h:Hg (g++[.lW]) F):Hg (g++[.nat]++[.lW]++[.lW]) (F.up 1 2):=⟨A7 h.err VW VW,by have:=h.ty.up g [.lW] [.nat,.lW] rfl;simpa using this⟩
def Hg.upl{g:List Ty}{F:Fm}(h:Hg (g++[.lW]) F):Hg (g++[.nat]++[.lW]) (F.up 1 1):=⟨A7 h.err VW VW,by have:=h.ty.up g [.lW] [.nat] rfl;simpa using this⟩
def Ai.xo{L:List Fm}{g:List Ty}{hs:List Fm}(h:Ai L ⟨g,hs⟩){s:Ty}(a:s.err=0)(hn:g.length+1<=16):Ai L ⟨g++[s],hs.map (Fm.up 0 1)⟩:=h.below (l:=[s]) (λx b=>by rw[yy.1 b];exact a) hn
def Ai.Wh{L:List Fm}{g:List Ty}{hs:List Fm}(h:Ai L ⟨g,hs⟩)(hn:g.length+2<=16):Ai L ⟨g++[.nat]++[.lW],hs.map (Fm.up 0 2)⟩:=by
 have:=h.below (l:=[.nat,.lW]) (λx hx=>by
  rcases j8.1 hx with rfl|hx
  .exact Ty.fJ
  .rw[yy.1 hx];exact Ty.nN) hn
 grind
def y'{F:Fm}(hF:F.err=0){g:List Ty}(a:gR g)(h:F.uJ g=0):Hg g F:=⟨hF,qR F (Fm.fQ hF).1 g a h⟩
def Dv.of{L:List Fm}{P:Pf}(hP:y5 P):∀(g:List Ty) (hs:List Fm) (f:Fm) (m:Nat),Ai L ⟨g,hs⟩->P.inf L g hs=.inl (f,m)->Dv L g hs P f m/\Hg g f:=by
 induction hP with
 |@hyp i hi=>
  intro g hs f m d h;have G:gR g:=d.ctx;rw[Pf.gC,We] at h;obtain⟨m0,o,he,c⟩:=jj h;rw[c];clear h c;have h:=o;clear o;obtain⟨j,H⟩:=mE h;obtain⟨U,rfl⟩:=gu (wY H)
  have O:hs.length-1-i.toNat<hs.length:=VW
  rw[Qm,l9 O] at U;have U:hs[hs.length-1-i.toNat]=f:=U;have B:Hg g f:=d.aiB f (by rw[<-U];exact CC O);rw[wS];exact⟨.hyp hi VW (by rw[l9 O,U]) B,B⟩
 |@Ev i hi=>
  intro g hs f m d h;have G:gR g:=d.ctx;rw[Pf.gC,V4] at h;obtain⟨m0,o,he,c⟩:=jj h;rw[c];clear h c;have h:=o;clear o;obtain⟨j,H⟩:=mE h;obtain⟨U,rfl⟩:=gu (wY H)
  have O:i.toNat<L.length:=VW
  rw[Qm,l9 O] at U;have U:L[i.toNat]=f:=U;have B:Hg [] f:=d.Ev f (by rw[<-U];exact CC O);rw[wS];exact⟨.Ev hi (by rw[l9 O,U]) B,he,by simpa using B.ty.front g⟩
 |@FZ a b _ _ l I=>
  intro g hs f m d h;have G:gR g:=d.ctx;rw[Pf.gC,Pc] at h;obtain⟨m0,o,he,c⟩:=jj h;rw[c];clear h c;have h:=o;clear o;obtain⟨x,n1,j,h⟩:=gr h;obtain⟨y,n2,H,h⟩:=gr h;obtain⟨rfl,rfl⟩:=gu (wY h);obtain⟨C,w⟩:=l g hs x n1 d j;obtain⟨S,tb⟩:=I g hs y n2 d H;have B:Hg g (.mk 2 .z [] [x,y]):=⟨he,.two (.inl rfl) w.ty tb.ty⟩;exact⟨.FZ C S B,B⟩
 |@and k a A _ l=>
  intro g hs f m d h;have G:gR g:=d.ctx;rcases A with rfl|rfl
  .rw[Pf.gC,QI] at h;obtain⟨m0,o,he,c⟩:=jj h;rw[c];clear h c;have h:=o;clear o;obtain⟨x,n1,j,h⟩:=gr h;obtain⟨j,A⟩:=vd j;obtain⟨rfl,rfl⟩:=gu (wY h);obtain⟨C,w⟩:=l g hs x n1 d j;obtain⟨x,y,rfl,Q,hy⟩:=w.ty.JE A (.inl rfl);exact⟨.SA C ⟨he,Q⟩,he,Q⟩
  .rw[Pf.gC,PL] at h;obtain⟨m0,o,he,c⟩:=jj h;rw[c];clear h c;have h:=o;clear o;obtain⟨x,n1,j,h⟩:=gr h;obtain⟨j,A⟩:=vd j;obtain⟨rfl,rfl⟩:=gu (wY h);obtain⟨C,w⟩:=l g hs x n1 d j;obtain⟨x,y,rfl,Q,hy⟩:=w.ty.JE A (.inl rfl);exact⟨.Sx C ⟨he,hy⟩,he,hy⟩
 |@IF F a hF _ l=>
  intro g hs f m d h;have G:gR g:=d.ctx;rw[Pf.gC,OI] at h;obtain⟨m0,o,he,c⟩:=jj h;rw[c];clear h c;have h:=o;clear o;obtain⟨K,h⟩:=j0 h;obtain⟨hn,h⟩:=mE h;obtain⟨y,n1,j,h⟩:=gr h;obtain⟨rfl,rfl⟩:=gu (wY h);have r:=y' hF G K;obtain⟨C,w⟩:=l g _ y n1 (d.with r (by show hs.length+1<=16;omega)) j;have B:Hg g (.mk 3 .z [] [F,y]):=⟨he,.two (.inr rfl) r.ty w.ty⟩;exact⟨.IF r VW C B,B⟩
 |@HI a b _ _ l I=>
  intro g hs f m d h;have G:gR g:=d.ctx;have T:=d.nv;have T:g.length<=16:=T;rw[Pf.gC,OD] at h;obtain⟨m0,o,he,c⟩:=jj h;rw[c];clear h c;have h:=o;clear o;obtain⟨x,n1,j,h⟩:=gr h;obtain⟨j,A⟩:=vd j;obtain⟨z,n2,H,h⟩:=gr h;obtain⟨hm,h⟩:=j0 h;obtain⟨rfl,rfl⟩:=gu (wY h);obtain⟨C,w⟩:=l g hs x n1 d j;obtain⟨S,tb⟩:=I g hs z n2 d H;obtain⟨x,y,rfl,Q,hy⟩:=w.ty.JE A (.inr rfl);have D:=w.sub (x:=x) acZ Q;exact⟨.HI C S D tb (Bn D tb VW VW hm) ⟨he,hy⟩,he,hy⟩
 |@all k s a A v _ l=>
  intro g hs f m d h;have G:gR g:=d.ctx;rcases A with rfl|rfl
  .rw[Pf.gC,Qe] at h;obtain⟨m0,o,he,c⟩:=jj h;rw[c];clear h c;have h:=o;clear o;obtain⟨hn,h⟩:=mE h;obtain⟨x,n1,j,h⟩:=gr h;obtain⟨rfl,rfl⟩:=gu (wY h);obtain⟨C,w⟩:=l _ _ x n1 (d.xo v VW) j;have B:Hg g (.mk 4 s [] [x]):=⟨he,.q (.inl rfl) v w.ty⟩;exact⟨.all (.inl ⟨rfl,rfl⟩) v VW C B,B⟩
  .rw[Pf.gC,Kh] at h;obtain⟨m0,o,he,c⟩:=jj h;rw[c];clear h c;have h:=o;clear o;obtain⟨hn,h⟩:=mE h;obtain⟨x,n1,j,h⟩:=gr h;obtain⟨hb,h⟩:=mE h;obtain⟨rfl,rfl⟩:=gu (wY h);obtain⟨C,w⟩:=l _ _ x n1 (d.xo v VW) j;have B:Hg g (.mk 6 s [] [x]):=⟨he,.q (.inr (.inr (.inl rfl))) v w.ty⟩;exact⟨.all (.inr ⟨rfl,rfl,by simpa using hb⟩) v VW C B,B⟩
 |@TY k t a A K _ l=>
  intro g hs f m d h;have G:gR g:=d.ctx
  have key:∀(k':Int) (f:Fm) (m:Nat),(k'=4\/k'=6)->∀u:Nat->Nat,(jd (t.ty g).2 (pbind (DU (a.inf L g hs) k') λa m=>tV ((t.ty g).1.jE a.cT=false) 7 (jd (j4 (a.aiv.getD 0 fS) t).2 (.inl ((j4 (a.aiv.getD 0 fS) t).1,u m)))))=.inl (f,m)->∃s x n,dG g t s/\Dv L g hs a (.mk k' s [] [x]) n/\Hg (g++[s]) x/\(Fm.iu 0 x t).aiw<=4096/\f=Fm.iu 0 x t/\m=u n:=by
   intro k' f m ak u h;obtain⟨af,h⟩:=j0 h;obtain⟨x,n1,j,h⟩:=gr h;obtain⟨j,A⟩:=vd j;obtain⟨V,h⟩:=mE h;obtain⟨Y,h⟩:=j0 h;obtain⟨rfl,rfl⟩:=gu (wY h);obtain⟨C,w⟩:=l g hs x n1 d j;obtain⟨s,y,rfl,v,hy⟩:=w.ty.vi A VW;have ah:=w.sub (x:=y) acZ hy;obtain⟨W,M⟩:=wv Y;rcases ud K G with⟨e,he,q1,_⟩|⟨s1,q1,N,an⟩
   .exact absurd (q1.symm.trans af) he
   .have q1:t.ty g=(s1,0):=q1;rw[q1] at V;have:s1=s:=(Ty.jM _ _).1 (by simpa using V);subst this;have W:j4 y t=(Fm.iu 0 y t,0):=W;refine⟨s1,y,n1,N,C,ah,M,?_,rfl⟩;show(j4 y t).1=_;rw[W]
  rcases A with rfl|rfl
  .rw[Pf.gC,Vi] at h;obtain⟨m0,o,he,c⟩:=jj h;rw[c];clear h c;have h:=o;clear o;obtain⟨s,x,n,q1,q2,q3,Z,rfl,rfl⟩:=key 4 _ _ (.inl rfl) (λm=>m|||rL t) h;exact⟨.TY (.inl ⟨rfl,rfl,rfl⟩) q1 K q2 q3 Z,kR q3.ty q1 Z⟩
  .rw[Pf.gC,OY] at h;obtain⟨m0,o,he,c⟩:=jj h;rw[c];obtain⟨s,x,n,q1,q2,q3,Z,rfl,rfl⟩:=key 6 _ _ (.inr rfl) (λm=>m) o;exact⟨.TY (.inr ⟨rfl,rfl,rfl⟩) q1 K q2 q3 Z,kR q3.ty q1 Z⟩
 |@ex k t F a A K hF _ l=>
  intro g hs f m d h;have G:gR g:=d.ctx;have T:g.length<=16:=d.nv
  have key:∀(k':Int) (f:Fm) (m:Nat),(k'=5\/k'=7)->∀u:Nat->Nat,(jd (F.uJ g) (tV (F.aiu≠k') 10 (jd (t.ty g).2 (tV ((t.ty g).1.jE F.cT=false) 7 (pbind (prt (a.inf L g hs) (F.aiv.getD 0 fS) t) λ_ m=>.inl (F,u m))))))=.inl (f,m)->∃s x y n,F=.mk k' s [] [x]/\Hg g F/\dG g t s/\Hg (g++[s]) x/\Dv L g hs a y n/\Hg g y/\(Fm.iu 0 x t).aiw<=4096/\(Fm.iu 0 x t).HD y=0/\f=F/\m=u n:=by
   intro k' f m ak u h;obtain⟨N,h⟩:=j0 h;obtain⟨A,h⟩:=mE h;obtain⟨af,h⟩:=j0 h;obtain⟨V,h⟩:=mE h;obtain⟨y,n,j,h⟩:=gr h;obtain⟨rfl,rfl⟩:=gu (wY h);have r:=y' hF G N;obtain⟨s,x,rfl,v,Q⟩:=r.ty.vi (vS.1 A) VW;have D:=r.sub (x:=x) acZ Q;obtain⟨j,M,hm⟩:=zT j;obtain⟨C,w⟩:=l g hs y n d j;rcases ud K G with⟨e,he,q1,_⟩|⟨s1,q1,ae,an⟩
   .exact absurd (q1.symm.trans af) he
   .rw[q1] at V;have:s1=s:=(Ty.jM _ _).1 (by simpa using V);subst this;exact⟨s1,x,y,n,rfl,r,ae,D,C,w,M,Bn (kR Q ae M) w VW VW hm,rfl,rfl⟩
  rcases A with rfl|rfl
  .rw[Pf.gC,Qn] at h;obtain⟨m0,o,he,c⟩:=jj h;rw[c];obtain⟨s,x,y,n,rfl,q1,q2,q3,Z,q5,q6,q7,rfl,rfl⟩:=key 5 _ _ (.inl rfl) (λm=>m|||rL t) o;exact⟨.ex (.inl ⟨rfl,rfl,rfl⟩) q1 q2 K q3 Z q5 q6 q7,q1⟩
  .rw[Pf.gC,PK] at h;obtain⟨m0,o,he,c⟩:=jj h;rw[c];obtain⟨s,x,y,n,rfl,q1,q2,q3,Z,q5,q6,q7,rfl,rfl⟩:=key 7 _ _ (.inr rfl) (λm=>m) o;exact⟨.ex (.inr ⟨rfl,rfl,rfl⟩) q1 q2 K q3 Z q5 q6 q7,q1⟩
 |@Tx k a b A _ _ l I=>
  intro g hs f m d h;have G:gR g:=d.ctx;have T:g.length<=16:=d.nv;rcases A with rfl|rfl
  .rw[Pf.gC,GB] at h;obtain⟨m0,o,he,c⟩:=jj h;rw[c];clear h c;obtain⟨x,n1,j,h⟩:=gr o;obtain⟨j,A⟩:=vd j;obtain⟨hn,h⟩:=mE h;obtain⟨y,n2,H,h⟩:=gr h;obtain⟨hw,h⟩:=j0 h;obtain⟨rfl,rfl⟩:=gu (wY h);obtain⟨C,w⟩:=l g hs x n1 d j;obtain⟨s,x,rfl,v,Q⟩:=w.ty.vi A (.inr (.inl rfl));have D:=w.sub (x:=x) acZ Q;have R:=(d.xo v VW).with (f:=x) D (by show(hs.map (Fm.up 0 1)).length+1<=16;simp;omega);obtain⟨S,tb⟩:=I _ _ y n2 R H;have B:Hg g (BZ y).1:=⟨he,(KX tb VW v hw).1⟩;exact⟨.Tx (.inl ⟨rfl,rfl⟩) C v VW VW D S tb hw B,B⟩
  .rw[Pf.gC,FJ] at h;obtain⟨m0,o,he,c⟩:=jj h;rw[c];clear h c;obtain⟨x,n1,j,h⟩:=gr o;obtain⟨j,A⟩:=vd j;obtain⟨hn,h⟩:=mE h;obtain⟨y,n2,H,h⟩:=gr h;obtain⟨hw,h⟩:=j0 h;obtain⟨hb,h⟩:=mE h;obtain⟨rfl,rfl⟩:=gu (wY h);obtain⟨C,w⟩:=l g hs x n1 d j;obtain⟨s,x,rfl,v,Q⟩:=w.ty.vi A (.inr (.inr (.inr rfl)));have D:=w.sub (x:=x) acZ Q;have R:=(d.xo v VW).with (f:=x) D (by show(hs.map (Fm.up 0 1)).length+1<=16;simp;omega);obtain⟨S,tb⟩:=I _ _ y n2 R H;have B:Hg g (BZ y).1:=⟨he,(KX tb VW v hw).1⟩;exact⟨.Tx (.inr ⟨rfl,rfl,by simpa using hb⟩) C v VW VW D S tb hw B,B⟩
 |@ind k t F a b A K hF _ _ l I=>
  intro g hs f m d h;have G:gR g:=d.ctx;have T:g.length<=16:=d.nv;rcases A with rfl|rfl
  .rw[Pf.gC,LB] at h;obtain⟨m0,o,he,c⟩:=jj h;rw[c];clear h c;obtain⟨N,h⟩:=j0 o;obtain⟨A,h⟩:=j0 h;obtain⟨x,n1,j,h⟩:=gr h;obtain⟨hn,h⟩:=mE h;obtain⟨y,n2,H,h⟩:=gr h;obtain⟨Y,h⟩:=j0 h;obtain⟨W,M⟩:=wv Y;rw[W] at h;obtain⟨rfl,rfl⟩:=gu (wY h);have r:=y' hF G.nat N;have J:dG g t .nat:=zQ G K (.inl rfl) A;obtain⟨j,a2,a3⟩:=zT j;obtain⟨H,X,b3⟩:=zT H;obtain⟨C,w⟩:=l g hs x n1 d j;have R:=(d.xo Ty.fJ VW).with (f:=F) r (by show(hs.map (Fm.up 0 1)).length+1<=16;simp;omega);obtain⟨S,tb⟩:=I _ _ y n2 R H;have hz:=kR r.ty (t:=vT) .zero a2;have ai:=kR (Hg.aem r).ty (t:=i_ v0) (.succ tn) X;have B:Hg g (Fm.iu 0 F t):=kR r.ty J M;exact⟨.ind r J K C w a2 (Bn hz w VW VW a3) VW VW S tb X (Bn ai tb ado ado b3) M,B⟩
  .rw[Pf.gC,Lv] at h;obtain⟨m0,o,he,c⟩:=jj h;rw[c];clear h c;obtain⟨N,h⟩:=j0 o;obtain⟨A,h⟩:=j0 h;obtain⟨x,n1,j,h⟩:=gr h;obtain⟨hn,h⟩:=mE h;obtain⟨y,n2,H,h⟩:=gr h;obtain⟨Y,h⟩:=j0 h;obtain⟨W,M⟩:=wv Y;rw[W] at h;obtain⟨rfl,rfl⟩:=gu (wY h);have r:=y' hF G.lW N;have J:dG g t .lW:=zQ G K (.inr rfl) A;obtain⟨j,a2,a3⟩:=zT j;obtain⟨H,X,b3⟩:=zT H;obtain⟨C,w⟩:=l g hs x n1 d j;have R:=(d.Wh VW).with (f:=F.up 1 1) (Hg.upl r) (by show(hs.map (Fm.up 0 2)).length+1<=16;simp;omega);obtain⟨S,tb⟩:=I _ _ y n2 R H;have hz:=kR r.ty (t:=.mk 7 0 .z []) .nil a2;have ai:=kR (Hg.aep r).ty (t:=.mk 8 0 .z [v1,v0]) (.cons Ee tn) X;have B:Hg g (Fm.iu 0 F t):=kR r.ty J M;exact⟨.lists r J K C w a2 (Bn hz w VW VW a3) VW VW S tb X (Bn ai tb ado ado b3) M,B⟩
 |@refl t K=>
  intro g hs f m d h;have G:gR g:=d.ctx;rw[Pf.gC,KB] at h;obtain⟨m0,o,he,c⟩:=jj h;rw[c];clear h c;obtain⟨A,h⟩:=j0 o;obtain⟨rfl,rfl⟩:=gu (wY h);have J:dG g t .nat:=zQ G K (.inl rfl) A;rw[wS];exact⟨.refl J K ⟨he,.eq J J⟩,he,.eq J J⟩
 |@subst F a b hF _ _ l I=>
  intro g hs f m d h;have G:gR g:=d.ctx;have T:g.length<=16:=d.nv;rw[Pf.gC,Ki] at h;obtain⟨m0,o,he,c⟩:=jj h;rw[c];clear h c;obtain⟨N,h⟩:=j0 o;obtain⟨x,n1,j,h⟩:=gr h;obtain⟨j,A⟩:=vd j;obtain⟨y,n2,H,h⟩:=gr h;obtain⟨Y,h⟩:=j0 h;obtain⟨W,M⟩:=wv Y;rw[W] at h;obtain⟨rfl,rfl⟩:=gu (wY h);have r:=y' hF G.nat N;obtain⟨C,w⟩:=l g hs x n1 d j;obtain⟨t,u,rfl,K,hu⟩:=w.ty.aaH A;have hn:=w.aiw;rw[Fm.cQ] at hn;simp only[db] at hn;obtain⟨H,X,b3⟩:=zT H;obtain⟨S,tb⟩:=I g hs y n2 d H;have X:(Fm.iu 0 F t).aiw<=4096:=X;have b3:wG (Fm.iu 0 F t) y=0:=b3;have M:(Fm.iu 0 F u).aiw<=4096:=M;have B:Hg g (Fm.iu 0 F u):=kR r.ty hu M;show Dv L g hs _ (Fm.iu 0 F u) (fin (Fm.iu 0 F u) n2)/\Hg g (Fm.iu 0 F u);exact⟨.subst r C K hu (Tm.py K.ok VW) (Tm.py hu.ok VW) S tb X (Bn (kR r.ty K X) tb VW VW b3) M,B⟩
 |@choice a _ l=>
  intro g hs f m d h;have G:gR g:=d.ctx;rw[Pf.gC,G5] at h;obtain⟨m0,o,he,c⟩:=jj h;rw[c];clear h c;obtain⟨x,n1,j,h⟩:=gr o;obtain⟨j,A⟩:=vd j;obtain⟨h5,h⟩:=mE h;obtain⟨ad,h⟩:=mE h;obtain⟨Y,h⟩:=mE h;obtain⟨W,M⟩:=wv (vS.1 Y);rw[W] at h;obtain⟨rfl,rfl⟩:=gu (wY h);obtain⟨C,w⟩:=l g hs x n1 d j;obtain⟨s,x,rfl,v,Q⟩:=w.ty.vi A (.inl rfl);have D:=w.sub (x:=x) acZ Q;obtain⟨u,y,rfl,ao,hy⟩:=Q.vi (vS.1 h5) (.inr (.inl rfl));have ah:=D.sub (x:=y) acZ hy;have M:(Fm.iu 0 (y.up 2 1) (gL v1 v0)).aiw<=4096:=M;have ad:(Ty.fn s u).err=0:=vS.1 ad
  have aq:jS (g++[.fn s u]++[s]++[u]) (y.up 2 1):=by
   have:=hy.up g [s,u] [.fn s u] acZ;simpa using this
  have ar:dG (g++[.fn s u]++[s]) (gL v1 v0) u:=.app Ee tn;have B:Hg g (.mk 5 (.fn s u) [] [.mk 4 s [] [Fm.iu 0 (y.up 2 1) (gL v1 v0)]]):=⟨he,.q (.inr (.inl rfl)) ad (.q (.inl rfl) v (aq.put ar))⟩;exact⟨.choice C v ao ah ad M B,B⟩
def aco{L:List Fm}{q:Sq}{P:Pf}(h:Ai L q)(a:P.wt<=1000000000)(he:P.err=0){f:Fm}{m:Nat}(hi:P.inf L q.aiy q.aiB=.inl (f,m)):∃l,mw L q P=some (⟨f,l⟩,0)/\Us l m/\Hg q.aiy f:=by
 rcases xd h.b a with⟨d,_,q1,q2,_⟩|⟨i,j,l,q1,q2,_,hu,c,_⟩
 .rw[BB h he,hi] at q1;cases q1
 .rw[BB h he,hi] at q1;obtain⟨rfl,rfl⟩:=gu (wY q1);exact⟨l,q2,hu,c⟩
def xQ(s:Ty):s.jE s=true:=(Ty.jM s s).2 rfl
def vrs(k:Int)(i:Nat):Nat:=if k=8\/k=12 then 1 else if k=11\/k=15\/k=16 then i else if k=17 then 2*i else 0
def mot(k:Int):Nat:=if k=16\/k=17\/k=19 then 1 else 0
mutual
def Pf.aiA(m:Int):Pf->Bool
 |.mk _ _ _ ts a l=>ts.all (Tm.aiA m)&&a.all (Fm.aiA m)&&Pf.tj m l
def Pf.tj(m:Int):List Pf->Bool
 |[]=>true|p::l=>p.aiA m&&Pf.tj m l
end
def Oc{g:List Ty}{f:Fm}(b:gR g)(hg:g.length<=16)(a:Hg g f):Fh f g=0:=by
 unfold Fh;rw[B_ b hg,cO ab9,cO (λh=>h a.err)];exact l_ a.ty b (by have:=a.aiw;omega)
def LL{L:List Fm}{q:Sq}(c:Ai L q){P:Pf}{f:Fm}{l:List Int}(h:mw L q P=some (⟨f,l⟩,0))(d:Hg q.aiy f):mZ L q P f=some 0:=by
 have hw:=d.wt;have i:=c.nv;unfold mZ;rw[h,cN,pC VW VW (λt j=>by have:=ec (c.ctx t j);omega),Oc c.ctx c.nv d,cv,cO nz];rw[(K0 (a:=f) (b:=f) VW VW).1,BF d d VW VW,Fm.VB];rfl
end Go.eZ
namespace Go.eZ
open Go
section
variable{G G':List Ty} {ψ:Tm->Int->Tm}
def Ft(k:Int)(i:Nat):Nat:=if k=6 then 1 else if k=11\/k=15\/k=16\/k=17 then i else 0
mutual
def Pf.FC(ψ:Tm->Int->Tm)(η:Nat->Nat->Int->Pf):Nat->Nat->Pf->Pf
 |d,h,.mk k i s ts a l=>if k=1 then η d h i else .mk k i s (ts.map λt=>ψ t d) (a.map λf=>f.FC ψ ((d+mot k:Nat):Int)) (Pf.afS ψ η k 0 d h l)
def Pf.afS(ψ:Tm->Int->Tm)(η:Nat->Nat->Int->Pf)(k:Int):Nat->Nat->Nat->List Pf->List Pf
 |_,_,_,[]=>[]|i,d,h,p::l=>p.FC ψ η (d+vrs k i) (h+Ft k i)::Pf.afS ψ η k (i+1) d h l
end
def Pf.Ws(P:Pf):Prop:=P.ok=true/\P.small=true
def Dv.hg{L:List Fm}{g:List Ty}{hs:List Fm}{P:Pf}{f:Fm}{m:Nat}(h:Dv L g hs P f m):Hg g f:=by
 cases h with
 |hyp _ _ _ h=>exact h|Ev _ _ h=>exact⟨h.err,by simpa using h.ty.front g⟩|FZ _ _ h=>exact h|SA _ h=>exact h|Sx _ h=>exact h|IF _ _ _ h=>exact h|HI _ _ _ _ _ h=>exact h|all _ _ _ _ h=>exact h|TY _ a _ _ b hn=>exact kR b.ty a hn|ex _ h=>exact h|Tx _ _ _ _ _ _ _ _ _ h=>exact h|ind hF a _ _ _ _ _ _ _ _ _ _ _ hn=>exact kR hF.ty a hn|lists hF a _ _ _ _ _ _ _ _ _ _ _ hn=>exact kR hF.ty a hn|refl _ _ h=>exact h|subst hF _ _ hu _ _ _ _ _ _ hn=>exact kR hF.ty hu hn|choice _ _ _ _ _ _ h=>exact h
end
def DD{g:List Ty}{x:Tm}{s:Ty}(h:dG g x s)(hg:gR g)(a:g.length+x.aiw<=1000000):nQ x g s.aiu=0:=by
 unfold nQ;rw[qP h hg a,cO (λh=>h.2 rfl)]
end Go.eZ
namespace Go.eZ
open Go
def Pf.Ws.parts{k i:Int}{s:Ty}{ts:List Tm}{c:List Fm}{l:List Pf}(h:(Pf.mk k i s ts c l).Ws):(∀t∈ts,t.err=0)/\(∀f∈c,f.err=0)/\∀p∈l,p.Ws:=by
 obtain⟨a,b⟩:=h;rw[Pf.fX] at a;rw[Pf.zx] at b;simp only[fK,j3] at a b;refine⟨λt j=>Tm.py (a.1.1.2 t j) ?_,λf n=>Fm.py (a.1.2 f n) ?_,λp d=>⟨a.2 p d,b.2 p d⟩⟩
 .grind[Rk]
 .grind[TP]
end Go.eZ
namespace Go.eZ
open Go
section
variable{L:List Fm} {g:List Ty} {hs:List Fm}
end
end Go.eZ
namespace Go.eZ
open Go
end Go.eZ
set_option maxRecDepth 20000
namespace Go.eZ
open Go
def Dv.more{L:List Fm}(y:List Fm){g:List Ty}{hs:List Fm}{P:Pf}{f:Fm}{m:Nat}(h:Dv L g hs P f m):Dv (L++y) g hs P f m:=by
 induction h with
 |hyp s k l n=>exact .hyp s k l n|@Ev g hs i f s k l=>
  have:=(mH.1 k).1;exact .Ev s (by rw[tJ this];exact k) l
 |FZ _ _ n i1 i2=>exact .FZ i1 i2 n|SA _ h i1=>exact .SA i1 h|Sx _ h i1=>exact .Sx i1 h|IF hF o _ hy i1=>exact .IF hF o i1 hy|HI _ _ b a hm hy i1 i2=>exact .HI i1 i2 b a hm hy|all q c o _ a i1=>exact .all q c o i1 a|TY q d he _ b hn i1=>exact .TY q d he i1 b hn|ex q hF d j b _ a hn hm i1=>exact .ex q hF d j b i1 a hn hm|Tx q _ c o r b _ a t A i1 i2=>exact .Tx q i1 c o r b i2 a t A|ind hF d j _ b k l o r _ hy n u v i1 i2=>exact .ind hF d j i1 b k l o r i2 hy n u v|lists hF d j _ b k l o r _ hy n u v i1 i2=>exact .lists hF d j i1 b k l o r i2 hy n u v|refl d he a=>exact .refl d he a|subst hF _ d hu het w _ a k l n i1 i2=>exact .subst hF i1 d hu het w i2 a k l n|choice _ c hu hy x hn a i1=>exact .choice i1 c hu hy x hn a
mutual
def ov:Pf->List (Int×Bool)->List (Int×Bool)
 |.mk k i _ _ _ l,acc=>qu l (if k=2 then(if 0<=i then tc acc i true else acc)else acc)
def qu:List Pf->List (Int×Bool)->List (Int×Bool)
 |[],acc=>acc|p::l,acc=>qu l (ov p acc)
end
mutual
def DM:∀(p:Pf) (acc:List (Int×Bool)),(ov p acc).length<=acc.length+p.wt
 |.mk k i s ts a l,acc=>by
  rw[ov,Pf.ee];refine AK (Gb l _) ?_
  split
  .split
   .have:=BI i true acc;omega
   .omega
  .omega
def Gb:∀(l:List Pf) (acc:List (Int×Bool)),(qu l acc).length<=acc.length+db Pf.wt l
 |[],acc=>by simp[qu]|p::l,acc=>by
  rw[qu,db];have a:=DM p acc;have b:=Gb l (ov p acc);omega
end
def xf{k i:Int}{s:Ty}{ts:List Tm}{b:List Fm}{a:Pf}{acc:List (Int×Bool)}(c:k≠2):ov (.mk k i s ts b [a]) acc=ov a acc:=by
 rw[ov,cO c,qu,qu]
def zz{k i:Int}{s:Ty}{ts:List Tm}{c:List Fm}{a b:Pf}{acc:List (Int×Bool)}(d:k≠2):ov (.mk k i s ts c [a,b]) acc=ov b (ov a acc):=by
 rw[ov,cO d,qu,qu,qu]
def NQ{k i:Int}{s:Ty}{ts:List Tm}{a:List Fm}{acc:List (Int×Bool)}(b:k≠2):ov (.mk k i s ts a []) acc=acc:=by
 rw[ov,cO b,qu]
def Dv.ag_{L:List Fm}{g:List Ty}{hs:List Fm}{P:Pf}{f:Fm}{m:Nat}(h:Dv L g hs P f m):∀(acc:List (Int×Bool)) (u:Int),u∈iA (ov P acc)->u∈iA acc\/0<=u/\u<(L.length:Int):=by
 have two:∀{a b:Pf} {acc:List (Int×Bool)} {u:Int},(∀(acc:List (Int×Bool)) (u:Int),u∈iA (ov a acc)->u∈iA acc\/0<=u/\u<(L.length:Int))->(∀(acc:List (Int×Bool)) (u:Int),u∈iA (ov b acc)->u∈iA acc\/0<=u/\u<(L.length:Int))->u∈iA (ov b (ov a acc))->u∈iA acc\/0<=u/\u<(L.length:Int):=λi1 i2 hu=>by
  rcases i2 _ _ hu with h|h
  .exact i1 _ _ h
  .exact .inr h
 induction h with
 |hyp _ _ _ _=>intro acc u hu;rw[NQ ab9] at hu;exact .inl hu
 |@Ev g hs i f d j k=>
  intro acc u hu;have:=(mH.1 j).1;rw[ov,cS rfl,cS d,qu] at hu;rcases(yr _ _ _ _).1 hu with h|h
  .exact .inr VW
  .exact .inl h
 |FZ _ _ _ i1 i2=>intro acc u hu;rw[zz ab9] at hu;exact two i1 i2 hu
 |SA _ _ i1=>intro acc u hu;rw[xf ab9] at hu;exact i1 _ _ hu
 |Sx _ _ i1=>intro acc u hu;rw[xf ab9] at hu;exact i1 _ _ hu
 |IF _ _ _ _ i1=>intro acc u hu;rw[xf ab9] at hu;exact i1 _ _ hu
 |HI _ _ _ _ _ _ i1 i2=>intro acc u hu;rw[zz ab9] at hu;exact two i1 i2 hu
 |all c _ _ _ _ i1=>intro acc u hu;rw[xf VW] at hu;exact i1 _ _ hu
 |TY c _ _ _ _ _ i1=>intro acc u hu;rw[xf VW] at hu;exact i1 _ _ hu
 |ex c _ _ _ _ _ _ _ _ i1=>intro acc u hu;rw[xf VW] at hu;exact i1 _ _ hu
 |Tx c _ _ _ _ _ _ _ _ _ i1 i2=>intro acc u hu;rw[zz VW] at hu;exact two i1 i2 hu
 |ind _ _ _ _ _ _ _ _ _ _ _ _ _ _ i1 i2=>intro acc u hu;rw[zz ab9] at hu;exact two i1 i2 hu
 |lists _ _ _ _ _ _ _ _ _ _ _ _ _ _ i1 i2=>intro acc u hu;rw[zz ab9] at hu;exact two i1 i2 hu
 |refl _ _ _=>intro acc u hu;rw[NQ ab9] at hu;exact .inl hu
 |subst _ _ _ _ _ _ _ _ _ _ _ i1 i2=>intro acc u hu;rw[zz ab9] at hu;exact two i1 i2 hu
 |choice _ _ _ _ _ _ _ i1=>intro acc u hu;rw[xf ab9] at hu;exact i1 _ _ hu
def DN{α ρ:Type}:∀(l:List α) (i:Nat),dH (λ(_:Int) (_:α) (_:Unit)=>(some (.next ()):Option (dV Unit ρ))) l i ()=some (.inl ())
 |[],i=>rfl|x::l,i=>by rw[dJ];exact DN l _
def XI:∀(n:Nat) (p:Pf) (o:dK) (s:List (Int×Bool)),p.wt<=n->p.wt<=1000000000->kE n p o vr s=some (ov p s):=by
 intro n
 induction n with
 |zero=>intro p o s h;have:=p.gJ;omega
 |succ n ih=>
  intro p o s hn H;cases p with
  |mk k i y ts C l=>
   rw[Pf.ee] at hn H;have I:=fR Tm.wt ts λt _=>t.gJ;have J:=fR Fm.wt C λt _=>t.gJ;have K:=fR Pf.wt l λt _=>t.gJ
   have loop:∀(x:dT) (r:List Pf) (j:Nat) (s:List (Int×Bool)),(∀q∈r,q∈l)->dH (ρ:=List (Int×Bool)) (λ(u:Int) (w:Pf)=>(λ(A:List (Int×Bool))=>
     cM (ly o x u) λa=>cM (kE n w a vr A) λc=>some (.next c))) r j s=some (.inl (qu r s)):=by
    intro x r
    induction r with
    |nil=>intro j s _;rfl|cons q r L=>
     intro j s f;have:=di Pf.wt (f q acZ);obtain⟨z,M⟩:∃z,ly o x (j:Int)=some z:=⟨_,rfl⟩;rw[dJ,M,cv,ih q _ s VW VW,cv,qu];exact L _ _ λq N=>f q (by simp[N])
   have main:∀(x:dT) (s:List (Int×Bool)),(fa (dE ts)<|de (λ(_:Int) (_:Tm)=>(λ(_:Unit)=>some (.next ())):Int->Tm->Unit->Option (dV Unit (List (Int×Bool)))) λD=>
     cM (dH D ts 0 ()) (eE (λ(_:Unit)=>fa (dE C)<|de (λ(_:Int) (_:Fm)=>(λ(_:Unit)=>some (.next ())):Int->Fm->Unit->Option (dV Unit (List (Int×Bool)))) λF=>
     cM (dH F C 0 ()) (eE (λ(_:Unit)=>fa (dE l)<|de (λ(u:Int) (w:Pf)=>(λ(A:List (Int×Bool))=>
     cM (ly o x u) λa=>cM (kE n w a vr A) λc=>some (.next c)):Int->Pf->List (Int×Bool)->Option (dV (List (Int×Bool)) (List (Int×Bool)))) λG=>
     cM (dH G l 0 s) (eE (λv=>some v) (λr=>some r))) (λr=>some r))) (λr=>some r)))=some (qu l s):=λx s=>by
    rw[c8 VW,cY,c6,DN,cv,dk,c8 VW,cY,c6,DN,cv,dk,c8 VW,cY,c6,loop x l 0 s (λq h=>h),cv,dk]
   obtain⟨x,b,f,O⟩:∃x b,lb k=some (x,b)/\(k=2->x.aix=true):=by
    by_cases d:k=2
    .subst d;exact⟨_,_,rfl,λ_=>rfl⟩
    .rcases JH k with⟨_,r,f⟩|⟨_,_,_,_,_,r,_,f,_⟩
     .exact⟨r,_,f,λh=>absurd h d⟩
     .exact⟨r,_,f,λh=>absurd h d⟩
   rw[kE,ov];show cW (lb k) _=_;rw[f,cN,c6]
   by_cases d:k=2
   .rw[cS (O d),cS d,vr,cS (by rw[eT];exact d),su]
    by_cases B:0<=i
    .rw[cS B,cS (by rw[gI];exact B),cv];exact main x _
    .rw[cO B,cO (by rw[gI];exact B),cv];exact main x _
   .rw[cO d]
    split
    .rw[vr,cO (by rw[eT];exact d),cv];exact main x _
    .exact main x _
def M_{x y:Int}:∀l:List Int,y∈EG x l->y=x\/y∈l
 |[],h=>by simp[EG] at h;exact .inl h
 |z::l,h=>by
  rw[EG] at h
  split at h
  .simpa using h
  .rcases j8.1 h with h|h
   .exact .inr (by simp[h])
   .rcases M_ l h with h|h
    .exact .inl h
    .exact .inr (by simp[h])
def J1{y:Int}:∀l:List Int,y∈sP l->y∈l
 |[],h=>by simp[sP] at h
 |x::l,h=>by
  rcases M_ _ h with h|h
  .simp[h]
  .exact abB _ (J1 l h)
def L2(x:Int):∀l:List Int,(EG x l).length=l.length+1
 |[]=>rfl|y::l=>by rw[EG];split<;>simp[L2 x l]
def JC:∀l:List Int,(sP l).length=l.length
 |[]=>rfl|x::l=>by show(EG x (sP l)).length=_;rw[L2,JC l];rfl
def Dv.YD{L:List Fm}{g:List Ty}{hs:List Fm}{P:Pf}{f:Fm}{m:Nat}(h:Dv L g hs P f m)(hw:P.wt<=1000000000)(he:P.err=0)(c:L.length<=1000):∃us,nF P=some (us,0)/\us.length<=1000000000/\∀u∈us,0<=u/\u<(L.length:Int):=by
 have hm:∀u∈iA (ov P []),0<=u/\u<(L.length:Int):=λu hu=>(h.ag_ [] u hu).resolve_left (by simp[iA])
 have a:Nz (ov P [])=true:=by
  have:=DM P [];unfold Nz;rw[c8 (by simp at this;omega),zj,j3];intro p b;have:=hm p.1 (nj.2 ⟨p,b,rfl⟩);simp;omega
 refine⟨sP (iA (ov P [])),?_,?_,λu hu=>hm u (J1 _ hu)⟩
 .rw[nF,zs hw,he,cv,cO nz,XI FU P _ _ (by rw[dY];omega) hw,cv,a,cY];rfl
 .rw[JC,iA,A1];have:=DM P [];simp at this;omega
def acQ:w7=some true:=by decide+kernel
def ji{f:Fm}{m:Nat}(h:f.err=0):wH (.inl (f,m))=.inl (f,fin f m):=by rw[QN h];rfl
def qx{x:Fm}{t:Tm}(hn:(Fm.iu 0 x t).aiw<=4096):j4 x t=(Fm.iu 0 x t,0):=by unfold j4;rw[cO VW]
def r9{g b:List Ty}{r:PR}{F f:Fm}{t:Tm}{m:Nat}(c:r=.inl (f,m))(hn:(Fm.iu 0 F t).aiw<=4096)(d:Hg g (Fm.iu 0 F t))(h:Hg b f)(hg:g.length<=1000000)(a:b.length<=1000000)(hm:(Fm.iu 0 F t).HD f=0):prt r F t=.inl (f,m):=by
 subst c;show jd (j4 F t).2 (jd (wG (j4 F t).1 f) (.inl (f,m)))=_;rw[qx hn];show jd 0 (jd (wG (Fm.iu 0 F t) f) (.inl (f,m)))=_;rw[fi rfl,BF d h hg a,fi hm]
def D6{L:List Fm}{g:List Ty}{hs:List Fm}(h:Ai L ⟨g,hs⟩):g.length<=16:=h.nv
def Dv.inf{L:List Fm}{g:List Ty}{hs:List Fm}{P:Pf}{f:Fm}{m:Nat}(h:Dv L g hs P f m):Ai L ⟨g,hs⟩->P.inf L g hs=.inl (f,m):=by
 induction h with
 |@hyp g hs i f M q A r=>
  intro c;rw[Pf.gC,We,gA VW,Qm,A,abQ,ji r.err,wS]
 |@Ev g hs i f M q A=>
  intro c;have:=(mH.1 q).1;rw[Pf.gC,V4,gA VW,Qm,q,abQ,ji A.err,wS]
 |FZ _ _ r i1 i2=>intro c;rw[Pf.gC,Pc,i1 c,i2 c];exact ji r.err|SA _ h i1=>intro c;rw[Pf.gC,QI,i1 c,xh (Fm.dn _ _ _ _)];exact ji h.err|Sx _ h i1=>intro c;rw[Pf.gC,PL,i1 c,xh (Fm.dn _ _ _ _)];exact ji h.err|@IF g hs F a y m hF B _ hy i1=>
  intro c;have:=hF.aiw;have:=D6 c;rw[Pf.gC,OI,fi (l_ hF.ty c.ctx VW),gA VW,i1 (c.with hF (by show hs.length+1<=16;omega))];exact ji hy.err
 |@HI g hs a b x y f m n _ _ v l hm hy i1 i2=>
  intro c;have:=D6 c;rw[Pf.gC,OD,i1 c,xh (Fm.dn _ _ _ _),eI,i2 c,eI];show wH (jd (wG x f) _)=_;rw[BF v l VW VW,fi hm];exact ji hy.err
 |@all g hs k k' s a f m j w B _ l i1=>
  intro c;rcases j with⟨rfl,rfl⟩|⟨rfl,rfl,I⟩
  .rw[Pf.gC,Qe,gA VW,i1 (c.xo w B)];exact ji l.err
  .rw[Pf.gC,Kh,gA VW,i1 (c.xo w B),eI,gA (by rw[I];decide)];exact ji l.err
 |@TY g hs k k' t s a x m u j d he _ v hn i1=>
  intro c;have:=D6 c;obtain⟨H,C⟩:=l5 he;have D:=kR v.ty d hn;rcases j with⟨rfl,rfl,rfl⟩|⟨rfl,rfl,rfl⟩
  .rw[Pf.gC,Vi,qP d c.ctx VW,fi rfl,i1 c,xh (Fm.dn _ _ _ _),eI,gA (by show¬s.jE s=false;rw[xQ];decide)];show wH (jd (j4 x t).2 (.inl ((j4 x t).1,_)))=_;rw[qx hn];exact ji D.err
  .rw[Pf.gC,OY,qP d c.ctx VW,fi rfl,i1 c,xh (Fm.dn _ _ _ _),eI,gA (by show¬s.jE s=false;rw[xQ];decide)];show wH (jd (j4 x t).2 (.inl ((j4 x t).1,_)))=_;rw[qx hn];exact ji D.err
 |@ex g hs k k' t s a x f m u j hF d he v _ l hn hm i1=>
  intro c;have:=D6 c;have:=hF.aiw;obtain⟨H,C⟩:=l5 he;have D:=kR v.ty d hn;rcases j with⟨rfl,rfl,rfl⟩|⟨rfl,rfl,rfl⟩
  .rw[Pf.gC,Qn,fi (l_ hF.ty c.ctx VW),gA acZ,qP d c.ctx VW,fi rfl,gA (by show¬s.jE s=false;rw[xQ];decide)];show wH (pbind (prt (a.inf L g hs) x t) _)=_;rw[r9 (i1 c) hn D l VW VW hm];exact ji hF.err
  .rw[Pf.gC,PK,fi (l_ hF.ty c.ctx VW),gA acZ,qP d c.ctx VW,fi rfl,gA (by show¬s.jE s=false;rw[xQ];decide)];show wH (pbind (prt (a.inf L g hs) x t) _)=_;rw[r9 (i1 c) hn D l VW VW hm];exact ji hF.err
 |@Tx g hs k k' s a b x f m n j _ w B K v _ l hw D i1 i2=>
  intro c;have o:Ai L ⟨g++[s],hs.map (Fm.up 0 1)++[x]⟩:=(c.xo w B).with v (by show(hs.map (Fm.up 0 1)).length+1<=16;simp;omega);rcases j with⟨rfl,rfl⟩|⟨rfl,rfl,I⟩
  .rw[Pf.gC,GB,i1 c,xh (Fm.dn _ _ _ _),eI,gA VW];show wH (pbind (b.inf L (g++[s]) (hs.map (Fm.up 0 1)++[x])) _)=_;rw[i2 o,eI,fi hw];exact ji D.err
  .rw[Pf.gC,FJ,i1 c,xh (Fm.dn _ _ _ _),eI,gA VW];show wH (pbind (b.inf L (g++[s]) (hs.map (Fm.up 0 1)++[x])) _)=_;rw[i2 o,eI,fi hw,gA (by rw[I];decide)];exact ji D.err
 |@ind g hs t F a b x y m n hF d he _ v q A B K _ hy r J G i1 i2=>
  intro c;have:=D6 c;have:=hF.aiw;obtain⟨H,C⟩:=l5 he;have j:=DD d c.ctx VW;rw[show Ty.nat.aiu=1 from rfl] at j;have o:Ai L ⟨g++[.nat],hs.map (Fm.up 0 1)++[F]⟩:=(c.xo Ty.fJ B).with hF (by show(hs.map (Fm.up 0 1)).length+1<=16;simp;omega)
  rw[Pf.gC,LB,fi (l_ hF.ty c.ctx.nat (by simp only[qj,kL,uz];omega)),fi j,r9 (i1 c) q (kR hF.ty .zero q) v VW VW A,eI,gA VW,r9 (i2 o) r (kR hF.aem.ty (.succ tn) r) hy ado ado J,eI,qx G]
  exact ji (kR hF.ty d G).err
 |@lists g hs t F a b x y m n hF d he _ v q A B K _ hy r J G i1 i2=>
  intro c;have:=D6 c;have:=hF.aiw;obtain⟨H,C⟩:=l5 he;have j:=DD d c.ctx VW;rw[show Ty.lW.aiu=2 from rfl] at j;have o:Ai L ⟨g++[.nat]++[.lW],hs.map (Fm.up 0 2)++[F.up 1 1]⟩:=(c.Wh B).with hF.upl (by show(hs.map (Fm.up 0 2)).length+1<=16;simp;omega)
  rw[Pf.gC,Lv,fi (l_ hF.ty c.ctx.lW (by simp only[qj,kL,uz];omega)),fi j,r9 (i1 c) q (kR hF.ty .nil q) v VW VW A,eI,gA VW,r9 (i2 o) r (kR hF.aep.ty (.cons Ee tn) r) hy ado ado J,eI,qx G]
  exact ji (kR hF.ty d G).err
 |@refl g hs t d he l=>
  intro c;have:=D6 c;obtain⟨H,C⟩:=l5 he;have j:=DD d c.ctx VW;rw[show Ty.nat.aiu=1 from rfl] at j;rw[Pf.gC,KB,fi j,ji l.err,wS]
 |@subst g hs F a b t u f m n hF _ d hu het N _ l q A r i1 i2=>
  intro c;have:=D6 c;have:=hF.aiw;rw[Pf.gC,Ki,fi (l_ hF.ty c.ctx.nat (by simp only[qj,kL,uz];omega)),i1 c,xh (Fm.dn _ _ _ _),eI];show wH (pbind (prt (b.inf L g hs) F t) λ_ n=>jd (j4 F u).2 (.inl ((j4 F u).1,n)))=_;rw[r9 (i2 c) q (kR hF.ty d q) l VW VW A,eI,qx r];exact ji (kR hF.ty hu r).err
 |@choice g hs a s u y m _ w hu hy he hn l i1=>
  intro c;rw[Pf.gC,G5,i1 c,xh (Fm.dn _ _ _ _),eI,gA (by simp[Fm.dh,Fm.dn])];show wH (tV ((Ty.fn s u).err≠0) 4 (tV ((j4 (y.up 2 1) (gL v1 v0)).2≠0) 4 (.inl (.mk 5 (Ty.fn s u) [] [.mk 4 s [] [(j4 (y.up 2 1) (gL v1 v0)).1]],m))))=_;rw[gA (by rw[he];decide),qx hn,gA (λh=>h rfl)];exact ji l.err
end Go.eZ
set_option maxRecDepth 20000
set_option maxHeartbeats 1000000
namespace Go.eZ
open Go
def D3{l:List gK}(h:l.length<=1000):kY l=some (l.map gK.cU):=by
 unfold kY;rw[c8 VW,cY,c6,gE (λd:gK=>d.cU) l 0 [] ado (λj x v b a=>by rw[dS (by simpa using a),cY,fj])];simp
def WW(i:Nat):ByteArray:=E_ [conv .u8 (dF .i64 97 i)]
def V1:∀i<10,uC (WW i)=some true:=by decide+kernel
def CK:∀i<10,∀j<10,seq (WW i) (WW j)=decide (i=j):=by decide+kernel
structure DcR (l:List gK) (i:Nat) (d:gK):Prop where
 nm:d.name=WW i
 fm:Hg [] d.cU
 pf:d.proof.err=0
 pw:d.proof.wt<=1000000000
 dv:∃m,Dv ((l.take i).map gK.cU) [] [] d.proof d.cU m
structure lN (l:List gK):Prop where
 len:l.length<=9
 all:∀i d,l[i]?=some d->DcR l i d
def lN.sq{l:List gK}(h:lN l)(i:Nat):Ai ((l.take i).map gK.cU) ⟨[],[]⟩:=by
 have:=h.len;refine⟨ado,λf a=>?_,λs hs=>by simp at hs,acZ,acZ,λf a=>by simp at a⟩;obtain⟨d,b,rfl⟩:=nj.1 a;obtain⟨j,c,e⟩:=ZA (z8 b);exact(h.all j d (by rw[l9 c,e])).fm
def Pq{α:Type}{f:Unit->α->Option (Bool×Unit)}:∀(l:List α) (i:Nat),(∀x∈l,f () x=some (false,()))->dH (ρ:=Int×Unit) (λ(j:Int) (x:α)=>(λ(v:Unit)=>cW (f v x) λa b=>if a then some (.ret (j,b))else some (.next b))) l i ()=some (.inl ())
 |[],_,_=>rfl|x::l,i,h=>by
  rw[dJ,h x acZ,cN,cO ab9];exact Pq l _ λy hy=>h y (by simp[hy])
def UJ{l:List gK}{f:Unit->gK->Option (Bool×Unit)}(a:l.length<=1000000000)(h:∀x∈l,f () x=some (false,())):eF l f ()=some (false,()):=by
 rw[eF,ej,c8 VW,cY,c6,Pq l 0 h,cv,dk];rfl
def V2{l:List Int}{f:Unit->Int->Option (Bool×Unit)}(a:l.length<=1000000000)(h:∀x∈l,f () x=some (false,())):hO l f ()=some (false,()):=by
 rw[hO,ku,c8 VW,cY,c6,Pq l 0 h,cv,dk];rfl
def ZD{l:List gK}(h:lN l){i:Nat}{d:gK}(a:l[i]?=some d):oR l (i:Int)=some 0:=by
 have n:=h.len;have hi:=(mH.1 a).1;have r:=h.all i d a;obtain⟨m,dv⟩:=r.dv;have hw:=r.fm.wt;obtain⟨us,e,ul,hu⟩:=dv.YD r.pw r.pf ado
 rw[oR,gP,a,cv,c6,r.nm,V1 i VW,cv,cS rfl,show k_ l 0 (i:Int)=some (l.take i) by
  unfold k_;simp;omega,cv,UJ ado (λx b=>by
  obtain⟨j,c,e⟩:=ZA b;rw[yg] at c;have f:=h.all j x (by rw[l9 VW,<-e];simp);rw[sm,r.nm,f.nm,CK j VW i VW,show decide (j=i)=false by simp;omega]
  rfl),cN]
 show(if false then _ else _)=_
 rw[cO ab9,pC VW acZ (λt k=>by simp at k),Oc (λs hs=>by simp at hs) acZ r.fm,cv,cO nz,e,cN,cO nz,V2 ul (λu h=>by
  have:=hu u h;simp only[A1,yg] at this;rw[ss,show pH u (i:Int)=false by rw[L5,ne_eq,gI];omega]
  rfl),cN,cO ab9]
def WE{l:List gK}(h:lN l):pz ⟨l⟩=some ((l.length:Int),0):=by
 have v:=h.len
 have loop:∀(r:List gK) (j:Nat),l.drop j=r->dH (ρ:=Int×Int) (λ(a:Int) (f:gK)=>(λ(_:Unit)=>
   cM (oR l a) λb=>if(dw b 0) then some (.ret (a,b))else(cM (k_ l 0 a) λk=>cM (kY k) λn=>cM (mZ n (Sq.mk [] []) f.proof f.cU) λc=>if(dw c 0) then some (.ret (a,c))else some (.next ())))) r j ()=some (.inl ()):=by
  intro r
  induction r with
  |nil=>intro j _;rfl|cons d r ih=>
   intro j s
   have o:l[j]?=some d:=by
    have:=St (xs:=l) (i:=j) (j:=0);rw[s] at this;simpa using this.symm
   have hi:=(mH.1 o).1
   have t:l.drop (j+1)=r:=by rw[<-List.drop_drop,s];rfl
   have q:=h.all j d o;obtain⟨m,dv⟩:=q.dv;obtain⟨us,u,_⟩:=aco (h.sq j) q.pw q.pf (dv.inf (h.sq j));rw[dJ,ZD h o,cv,cO nz,show k_ l 0 (j:Int)=some (l.take j) by unfold k_;simp;omega,cv,D3 ado,cv,LL (h.sq j) u q.fm,cv,cO nz,cv,dQ];exact ih (j+1) t
 unfold pz;rw[cO (by show¬lQ (dq l) 32=true;rw[eo,fy];omega),c8 (by show l.length<=_;omega),cY,c6];show cM (dH _ l 0 ()) _=_;rw[loop l 0 rfl];rfl
def RR{l:List gK}(h:lN l){k:Nat}(c:k<=l.length):p5 ⟨l⟩ (k:Int)=some ((l.take k).map gK.cU,0):=by
 have d:=h.len;unfold p5;rw[cO (by rw[kZ];simp[pR,lQ,eo];omega)];show cM (k_ l 0 (k:Int)) _=_
 rw[show k_ l 0 (k:Int)=some (l.take k) by unfold k_;simp;omega,cv,D3 ado,cv,c8 ado,cY,c6,gE id _ 0 [] ado (λj x v a b=>by
  have q:=(h.sq k).Ev x a
  rw[tZ q.err (q.aiA acZ VW),cv,dS (by simpa using b),cY,fj];rfl)]
 simp
def WD(p:gK->Bool):List gK->Nat->Option Nat
 |[],_=>none|d::r,j=>if p d then some j else WD p r (j+1)
def GQ{l:List gK}(n:l.length<=1000)(nm:ByteArray):kF ⟨l⟩ nm=some (match WD (λd=>seq d.name nm) l 0 with|some k=>((k:Int),true)|none=>(0,false)):=by
 have loop:∀(r:List gK) (j:Nat),dH (ρ:=Int×Unit) (λ(c:Int) (f:gK)=>(λ(v64:Unit)=>cW ((λ(s:Unit) (i:gK)=>nX (sn i nm) s) v64 f) λh a=>if h then some (.ret (c,a))else some (.next a))) r j ()=some (match WD (λd=>seq d.name nm) r j with|some k=>.inr ((k:Int),())|none=>.inl ()):=by
  intro r
  induction r with
  |nil=>intro j;rfl|cons d r ih=>
   intro j;rw[dJ,WD];show cM (if seq d.name nm then _ else _) _=_
   by_cases b:seq d.name nm=true
   .rw[cS b,cS b];rfl
   .rw[cO b,cO b,cv,dQ];exact ih (j+1)
 unfold kF ej;rw[c8 (by show l.length<=_;omega),cY,c6];show cW (cM (dH _ l 0 ()) _) _=_;rw[loop l 0];cases WD (λd=>seq d.name nm) l 0 with
 |none=>rfl|some k=>
  rw[cv];show some (imax (k:Int) 0,pH (k:Int) 0)=_;rw[show imax (k:Int) 0=k by unfold imax;omega,show pH (k:Int) 0=true by rw[gI];omega]
def G9{p:gK->Bool}:∀(l:List gK) (j:Nat),(∀d∈l,p d=false)->WD p l j=none
 |[],_,_=>rfl|d::l,j,h=>by rw[WD,cO (by rw[h d acZ];decide)];exact G9 l _ λx a=>h x (by simp[a])
def Vt{p:gK->Bool}:∀(l:List gK) (i j:Nat) (d:gK),l[i]?=some d->p d=true->(∀k x,k<i->l[k]?=some x->p x=false)->WD p l j=some (j+i)
 |[],i,j,d,h,_,_=>by simp at h
 |x::l,0,j,d,h,a,_=>by
  simp at h;subst h;rw[WD,cS a];rfl
 |x::l,i+1,j,d,h,a,b=>by
  rw[WD,cO (by rw[b 0 x VW rfl];decide),Vt l i (j+1) d (by simpa using h) a λk y c hy=>b (k+1) y VW (by simpa using hy)]
  congr 1;omega
def L7{l:List gK}(h:lN l){i:Nat}(hi:i<l.length):kF ⟨l⟩ (WW i)=some ((i:Int),true):=by
 have b:=h.len
 have e:WD (λd=>seq d.name (WW i)) l 0=some (0+i):=Vt l i 0 l[i] (l9 hi) (by
  rw[(h.all i l[i] (l9 hi)).nm,CK i VW i VW];simp) λk x c a=>by
  rw[(h.all k x a).nm,CK k VW i VW];simp;omega
 rw[GQ VW,e,tg]
def XT{l:List gK}(h:lN l){i:Nat}(hi:l.length<=i)(a:i<10):kF ⟨l⟩ (WW i)=some (0,false):=by
 have f:=h.len
 rw[GQ VW,G9 l 0 λd b=>by
  obtain⟨k,c,e⟩:=ZA b
  rw[(h.all k d (by rw[l9 c,e])).nm,CK k VW i VW];simp;omega]
def Zz:∀i<10,seq (WW i) (ByteArray.mk #[110,111,116,104,101,114,101])=false:=by decide+kernel
def Lj{l:List gK}(h:lN l):kF ⟨l⟩ (ByteArray.mk #[110,111,116,104,101,114,101])=some (0,false):=by
 have c:=h.len
 rw[GQ VW,G9 l 0 λd a=>by
  obtain⟨k,b,e⟩:=ZA a
  rw[(h.all k d (by rw[l9 b,e])).nm,Zz k VW]]
def lN.take{l:List gK}(h:lN l)(k:Nat):lN (l.take k):=by
 have b:=h.len;refine⟨ado,λi d a=>?_⟩;have hi:=(mH.1 a).1;rw[yg] at hi;rw[Yo VW] at a;have q:=h.all i d a;refine⟨q.nm,q.fm,q.pf,q.pw,?_⟩;rw[List.take_take,Ti VW];exact q.dv
def Lz{k i:Int}{s:Ty}{ts:List Tm}{a:List Fm}{l:List Pf}(h:(Pf.mk k i s ts a l).err=0){p:Pf}(b:p∈l):p.err=0:=by
 obtain⟨c,d,f⟩:=kI h;obtain⟨_,_,wp⟩:=Pf.Ws.parts (⟨c,d⟩:(Pf.mk k i s ts a l).Ws);obtain⟨j,n⟩:=wp p b;rw[Pf.cQ] at f;have:=di Pf.aiw b;unfold Pf.err;rw[cS j,cS ⟨n,VW⟩]
def L3{k:Int}{s:Ty}{ts:List Tm}{l:List Fm}(h:(Fm.mk k s ts l).err=0){f:Fm}(a:f∈l):f.err=0:=by
 obtain⟨b,c⟩:=Fm.fQ h;obtain⟨_,_,d⟩:=Fm.oW b;rw[Fm.cQ] at c;have:=di Fm.aiw a;exact Fm.py (d f a) VW
def afX{P Q:Pf}(a:P.wt<=1000000000)(b:Q.wt<=1000000000):jY 3 [P,Q]=some (.mk 3 0 .z [] [] [P,Q]):=by
 unfold jY
 rw[c8 acZ,cY,c6,gE id [P,Q] 0 [] acZ (λj x v hx c=>by
  have:x.wt<=1000000000:=by
   rcases j8.1 hx with rfl|hx
   .exact a
   .rw[yy.1 hx];exact b
  rw[vP FU x (by rw[dY];omega) this,cv,dS (by simpa using c),cY,fj];rfl)]
 rfl
def ZE{a b:Fm}(c:a.wt<=1000000000)(d:b.wt<=1000000000):ke 2 a b=some (.mk 2 .z [] [a,b]):=by
 unfold ke;rw[jl c,cv,jl d,cv];rfl
structure Lk (l:List gK) (P:Pf) (f:Fm) (n:Nat):Prop where
 pw:P.wt<=50000000+1000*n
 fw:f.wt<=300000+300000*n
 dv:P.err=0->f.err=0->∃m,Dv (l.map gK.cU) [] [] P f m
def Lk.join{l:List gK}(b:lN l){P:Pf}{f:Fm}{n:Nat}(h:Lk l P f n){i:Nat}{d:gK}(a:l[i]?=some d):Lk l (.mk 3 0 .z [] [] [P,.mk 2 (i:Int) .z [] [] []]) (.mk 2 .z [] [f,d.cU]) (n+1):=by
 have q:=b.all i d a;have hw:=q.fm.wt;have hi:=(mH.1 a).1;have s:=b.len;refine⟨?_,?_,λj c=>?_⟩
 .have:=h.pw;rw[Pf.ee];simp only[db,Pf.ee]
  have k:Ty.z.aiw=1:=ab9
  have:(i:Int).toNat=i:=acZ
  omega
 .have:=h.fw;rw[Fm.ee];simp only[db]
  have k:Ty.z.aiw=1:=ab9
  omega
 .have o:f.err=0:=L3 c acZ;obtain⟨m,dv⟩:=h.dv (Lz j acZ) o
  have r:(l.map gK.cU)[i]?=some d.cU:=by simp[a]
  have dl:Dv (l.map gK.cU) [] [] (.mk 2 (i:Int) .z [] [] []) d.cU 0:=.Ev VW (by simpa using r) q.fm;exact⟨_,.FZ dv dl ⟨c,.two (.inl rfl) dv.hg.ty q.fm.ty⟩⟩
def Vm(l:List gK)(i:Int):Int×Int×Int×Int×(List Ty)×(List Tm)×(List Fm)×(List Pf)×Int×Int×(List Ty)×(List Tm)×(List Fm)×dd->Option (dV (Int×Int×Int×Int×(List Ty)×(List Tm)×(List Fm)×(List Pf)×Int×Int×(List Ty)×(List Tm)×(List Fm)×dd) (ry×dd)):=
 Ud λ(c:Int) (d:Int) (f:Int) (h:Int) (j:List Ty) (k:List Tm) (n:List Fm) (o:List Pf) (q:Int) (r:Int) (s:List Ty) (t:List Tm) (u:List Fm) (v:dd)=>
 if(ep (lQ c 0) (lQ i 0) false) then(
 cW (eu v i) λw x=>
 cM (jY 3 [(Pf.mk d f (Ty.mk h j) k n o),(Pf.mk 2 w (Ty.mk 0 []) [] [] [])]) λa=>
 cM (dg l w) λy=>
 cM (ke 2 (Fm.mk q (Ty.mk r s) t u) y.cU) λb=>
 some (.next ((ed .i64 c 1),a.aiu,a.aix,a.cT.aiu,a.cT.aiv,a.dc,a.eg,a.aiv,b.aiu,b.cT.aiu,b.cT.aiv,b.dc,b.aiv,x)))
 else(some (.brk (c,d,f,h,j,k,n,o,q,r,s,t,u,v)))
def Um{l:List gK}(o:lN l):∀(c:Nat) (n:Nat) (P:Pf) (f:Fm) (d:dd) (fuel:Nat),c<fuel->c+n<=3->Lk l P f n->d.wf->∃r a b i,nt (Vm l (l.length:Int)) fuel ((c:Int),P.aiu,P.aix,P.cT.aiu,P.cT.aiv,P.dc,P.eg,P.aiv,f.aiu,f.cT.aiu,f.cT.aiv,f.dc,f.aiv,d)=some (.inl (r,a.aiu,a.aix,a.cT.aiu,a.cT.aiv,a.dc,a.eg,a.aiv,b.aiu,b.cT.aiu,b.cT.aiv,b.dc,b.aiv,i))/\Lk l a b 3/\i.wf:=by
 intro c
 induction c with
 |zero=>
  intro n P f d fuel t hn h j;obtain⟨m,rfl⟩:∃m,fuel=m+1:=⟨fuel-1,VW⟩;refine⟨0,P,f,d,?_,⟨by have:=h.pw;omega,by have:=h.fw;omega,h.dv⟩,j⟩;rw[kb];unfold Vm;rw[zU,cO (show¬ep (lQ ((0:Nat):Int) 0) _ false=true fromλh=>by cases h),cv,Ni];rfl
 |succ c ih=>
  intro n P f d fuel t hn h j;obtain⟨m,rfl⟩:∃m,fuel=m+1:=⟨fuel-1,VW⟩;have B:=o.len;have u:=h.pw;have v:=h.fw
  by_cases w:l.length=0
  .refine⟨((c+1:Nat):Int),P,f,d,?_,⟨VW,VW,h.dv⟩,j⟩;rw[kb];unfold Vm;rw[zU,cO (by rw[w];show¬ep (lQ ((c+1:Nat):Int) 0) false false=true;cases lQ ((c+1:Nat):Int) 0<;>decide),cv,Ni]
  .obtain⟨k,d1,x,C,D,A⟩:=jK d j (l.length:Int) VW VW;obtain⟨k,rfl⟩:∃y:Nat,k=y:=⟨k.toNat,VW⟩;have s:l[k]?=some l[k]:=l9 VW;have q:=o.all k _ s;have F:=q.fm.wt;obtain⟨r,a,b,i,g1,g2,g3⟩:=ih (n+1) _ _ d1 m VW VW (h.join o s) A;refine⟨r,a,b,i,?_,g2,g3⟩;rw[kb];unfold Vm;rw[zU,cS (by rw[show lQ ((c+1:Nat):Int) 0=true by rw[fy];omega,show lQ (l.length:Int) 0=true by rw[fy];omega];rfl),x,cN];simp only[Ty.h8,Pf.h8,Fm.h8]
   have G:(Ty.mk 0 []).aiw=1:=ab9
   have H:(k:Int).toNat=k:=acZ
   rw[afX VW (by rw[Pf.ee];simp only[db];omega),cv,gP,s,cv,ZE VW VW,cv,cv,dQ];rw[show ed .i64 ((c+1:Nat):Int) 1=(c:Int) by rw[et VW VW];omega];exact g1
def lN.add{l:List gK}(j:lN l)(r:l.length<=8){P:Pf}{f:Fm}{n:Nat}(h:Lk l P f n)(hn:n<=3)(c:P.err=0)(k:f.err=0):lN (l++[⟨WW l.length,f,P⟩]):=by
 obtain⟨m,dv⟩:=h.dv c k;have o:=h.pw;refine⟨ado,λi d a=>?_⟩
 by_cases hi:i<l.length
 .rw[tJ hi] at a;have q:=j.all i d a;refine⟨q.nm,q.fm,q.pf,q.pw,?_⟩;rw[ac9 VW];exact q.dv
 .have b:=(mH.1 a).1;rw[qj,List.length_singleton] at b
  obtain rfl:i=l.length:=VW
  rw[yf (gV _)] at a;simp at a;subst a;refine⟨rfl,dv.hg,c,by show P.wt<=_;omega,m,?_⟩;rw[ac9 (gV _),ac4];exact dv
def lN.nil:lN []:=⟨acZ,λi d h=>by simp at h⟩
def mqV:Mq [] ⟨[],[]⟩:=⟨agn,⟨λs hs=>by simp at hs⟩⟩
def V7{d:dd}(hd:d.wf):∃l d',sK d=some (⟨l⟩,d')/\d'.wf/\lN l:=by
 unfold sK;rw[c6]
 obtain⟨o,ho,hq⟩:=zE (ρ:=ry×dd) (F:=Zl λ(b:Int) (h:List gK) (L:dd)=>
   cW (eu L 4) λM I=>
   if(pR b (dF .i64 2 M)) then(
   g_ (uD I [] (Sq.mk [] []) 1) λa j N=>
   cW (eu N 3) λO Q=>
   de (Vm h b) λR=>
   cM (nt R FU (O,a.aiu,a.aix,a.cT.aiu,a.cT.aiv,a.dc,a.eg,a.aiv,j.cU.aiu,j.cU.cT.aiu,j.cU.cT.aiv,j.cU.dc,j.cU.aiv,Q)) (eE (Ud λ(W:Int) (n:Int) (q:Int) (t:Int) (u:List Ty) (v:List Tm) (w:List Fm) (A:List Pf) (B:Int) (C:Int) (D:List Ty) (G:List Tm) (H:List Fm) (J:dd)=>
   de (λ(S:Bool)=>
   if S then(
   some (.ret ((ry.mk h),J)))
   else(fa (eO h [(gK.mk (E_ [(conv .u8 (dF .i64 97 b))]) (Fm.mk B (Ty.mk C D) G H) (Pf.mk n q (Ty.mk t u) v w A))])<|some (.next ((dF .i64 b 1),(fu h [(gK.mk (E_ [(conv .u8 (dF .i64 97 b))]) (Fm.mk B (Ty.mk C D) G H) (Pf.mk n q (Ty.mk t u) v w A))]),J)))) λK=>
   cM (iJ (Fm.mk B (Ty.mk C D) G H)) λT=>
   if(dw T 0) then(
   K true)
   else(cM (nx (Pf.mk n q (Ty.mk t u) v w A)) λU=>
   K (dw U 0))) (λr=>some (.ret r))))
   else(some (.brk (b,h,I))))
  (λs=>s.1=(s.2.1.length:Int)/\s.2.1.length<=5/\lN s.2.1/\s.2.2.wf) (λs=>6-s.2.1.length)
  (λo=>match o with|.inl s=>s.2.2.wf/\lN s.2.1|.inr r=>r.2.wf/\lN r.1.dB)
  (by
   rintro⟨i,l,e⟩ ⟨h1,h2,V,h4⟩;simp only at h1 h2 V h4;subst h1;obtain⟨x,d1,x1,x2,x3,x4⟩:=jK e h4 4 VW VW;rw[Hm,x1,cN,dP VW VW]
   by_cases hc:(l.length:Int)<2+x
   .obtain⟨P,f,us,d2,m,y1,y2,y3,y4⟩:=Ml mqV x4 (k:=1) VW;obtain⟨c,d3,z1,z2,z3,z4⟩:=jK d2 y2 3 VW VW;obtain⟨c,rfl⟩:∃y:Nat,c=y:=⟨c.toNat,VW⟩;have af:=y3.hg.wt;have ah:=y3.wt
    have lk:Lk l P f 0:=⟨VW,VW,λ_ _=>⟨m,by
     have:=((Dv.of (Pf.aah y3.err).1 [] [] f m agn y3.inf).1).more (l.map gK.cU)
     simpa using this⟩⟩
    obtain⟨c',P',f',d4,w1,X,Y⟩:=Um V c 0 P f d3 FU (by rw[dY];omega) VW lk z4;have ad:=X.pw;have ae:=X.fw;rw[cS (by rw[kv];exact hc),show uD d1 [] (Sq.mk [] []) 1=_ from y1,mh,z1,cN,c6,w1,cv,dk,zU,c6];simp only[Ty.h8,Pf.h8,Fm.h8];rw[kG VW,cv]
    by_cases Z:f'.err=0
    .rw[cO (by rw[c9];simpa using Z),uv VW,cv]
     by_cases e2:P'.err=0
     .left;refine⟨((l.length:Int)+1,l++[⟨WW l.length,f',P'⟩],d4),?_,⟨?_,?_,V.add VW X VW e2 Z,Y⟩,?_⟩
      .rw[cO (by rw[c9];simpa using e2),dS ado,cY,fj,dP VW VW];rfl
      .simp
      .show(l++[_]).length<=5;simp;omega
      .show 6-(l++[_]).length<6-l.length;simp;omega
     .right;right;exact⟨_,by rw[cS (by rw[c9];exact e2)],Y,V⟩
    .right;right;exact⟨_,by rw[cS (by rw[c9];exact Z),cS trivial],Y,V⟩
   .right;left
    exact⟨_,by rw[cO (by rw[kv];exact hc)],x4,V⟩)
  FU (0,[],d) ⟨rfl,acZ,lN.nil,hd⟩ (by rw[dY];simp)
 cases o with
 |inl s=>refine⟨s.2.1,s.2.2,?_,hq⟩;erw [ho];rfl|inr r=>refine⟨r.1.dB,r.2,?_,hq⟩;erw [ho];rfl
def Sr{α ρ τ:Type}{F:Int->α->Unit->Option (dV Unit ρ)}{l:List α}{k:Unit⊕ρ->Option τ}{r:Option τ}
  (h:∀(i:Nat) x,l[i]?=some x->F (i:Int) x ()=some (.next ())) (a:k (.inl ())=r):cM (dH F l 0 ()) k=r:=by
 obtain⟨d,b,_⟩:=Mm (F:=F) (λ_=>True) l 0 () trivial (λk x s c _=>⟨(),by rw[tg];exact h k x c,trivial⟩);rw[b,cv,a]
def Di(a0:List Int)(a1:Int)(n:0<=a1)(v:a1<=255):nA a0 a1=some true:=by
 unfold nA;rw[acQ,cv,cS rfl,RZ,cv]
 by_cases h:a0.length<=500
 .rw[cS (vD h),show O8 a0=some ⟨a0,0⟩from rfl,cv];obtain⟨l,w,o,_,a⟩:=V7 (d:=⟨a0,0⟩) (acU a0 VW);rw[o,cN];have y:=a.len
  have s:dF .i64 (dq l) 1=(l.length:Int)+1:=by rw[eo,dP VW VW]
  have u:conv .i64 a1=a1:=by unfold conv;exact B8 VW VW
  obtain⟨k,j⟩:∃k:Nat,wq .i64 a1 ((l.length:Int)+1)=k:=⟨(a1.tmod ((l.length:Int)+1)).toNat,by
   unfold wq;exact(Int.toNat_of_nonneg (Int.tmod_nonneg _ n)).symm⟩
  have b:k<=l.length:=by
   have:=afY a1 (show(0:Int)<(l.length:Int)+1 by omega);unfold wq at j;omega
  simp only[s,u,j];have t:=a.take k
  rw[show Co ((l.length:Int)+1)=true by simp[Co];omega,cY,show k_ l 0 (k:Int)=some (l.take k) by unfold k_;simp;omega,cv,WE t,cN,RR a b,cN,cO (by simp[dw,eo,kZ];omega),c8 VW,cY,c6]
  refine Sr (λi x f=>?_) ?_
  .have hi:=(mH.1 f).1;have q:=a.all i x f;show cW (kF ⟨l⟩ x.name) _=_;rw[q.nm,L7 a hi,cN]
   by_cases c:i<k
   .rw[L7 t ado,cN,c6,cS rfl,cO (by simp[dw]),cO (by simp[P3,pR];omega),cS (by simp[pR];omega),show dg ((l.take k).map gK.cU) (i:Int)=some x.cU by simp[dg,Yo c,f],cv]
    obtain⟨r,s1,s2⟩:=Ii FU x.cU x.cU (by have:=q.fm.aiw;have:=x.cU.hI q.fm.ok;rw[dY];omega) (by have:=q.fm.aiw;have:=x.cU.hI q.fm.ok;omega);rw[s1,s2.2 rfl];rfl
   .rw[XT t ado VW,cN,c6,cS rfl,cO (by simp[dw]),cO (by simp[P3,pR];omega),cO (by simp[pR];omega)];rfl
  .rw[dk,Lj a,cN];rfl
 .rw[cO (by simpa using h)]
end Go.eZ
