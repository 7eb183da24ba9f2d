/- Part of the proof of TheoryNeeds: plain facts. -/
import Derived.Test.YtjgjcpnoaeljkaaGreatDoorNPN2
import Derived.Test.YtjgjcpnoaeljkaaGreatDoorNL21
set_option linter.all false
namespace Go.eU
open Go
def US{k q m:Nat}(hm:m=2^(k+1)*q+2^k)(j:Nat):(m&&&(m-1)).testBit j=(m.testBit j&&!decide (j=k)):=by
 have c:2^k<2^(k+1):=XZ aaB VW;have d:0<2^k:=Nat.two_pow_pos k
 have e:m-1=2^(k+1)*q+(2^k-1):=VW
 rw[Nat.testBit_and,e,hm,ack _ c,ack _ VW]
 by_cases a:j<k+1
 .rw[cS a,cS a,Ys,Nat.testBit_two_pow_sub_one]
  by_cases b:j=k
  .simp[b]
  .rw[Et (show¬k=j by omega)];simp
 .rw[cO a,cO a,Et (show¬j=k by omega)];simp
def Zl{a:Int}{l:List Int}{m:Nat}(h:Us (a::l) m):m≠0/\((Lib.ctz 32 m:Nat):Int)=a/\Us l (m&&&(m-1)):=by
 have u:=h.pos a aaL;obtain⟨k,rfl⟩:∃k:Nat,a=k:=⟨a.toNat,VW⟩;have d:m.testBit k=true:=(h.mem k).1 aaL
 have f:m≠0:=by rintro rfl;simp at d
 cases h.srt with
 |cons s1 s2=>
  have n:∀i,i<k->m.testBit i=false:=λi hi=>by
   rw[Nb];intro v;rcases jr.1 ((h.mem i).2 v)with e|e
   .omega
   .have:=s1 _ e;omega
  have o:Lib.ctz 32 m=Lib.ctzFrom 32 m:=by unfold Lib.ctz;rw[cO f]
  obtain⟨q,s,_⟩:=Lib.ctzFrom_spec 32 m VW (by have:=h.lt;omega);rw[<-o] at s
  have c:m=2^(Lib.ctz 32 m+1)*q+2^Lib.ctz 32 m:=by
   rw[Nat.pow_succ,Nat.mul_assoc,<-Nat.mul_succ];exact s
  have t:Lib.ctz 32 m=k:=by
   have b:∀j,j<=Lib.ctz 32 m->m.testBit j=decide (Lib.ctz 32 m=j):=λj B=>by
    have w:2^Lib.ctz 32 m<2^(Lib.ctz 32 m+1):=XZ aaB VW
    conv=>lhs;rw[c]
    rw[ack _ w,cS VW,Ys]
   rcases ae3 (Lib.ctz 32 m) k with r|heq|hgt
   .have:=b _ (gO _);rw[n _ r] at this;simp at this
   .exact heq
   .have:=b k VW;rw[d,Et VW] at this;cases this
  rw[t] at c;refine⟨f,by rw[t],⟨afr Nat.and_le_left h.lt,λx y=>h.pos x (by simp[y]),s2,λi=>?_⟩⟩;rw[US c,fI,<-h.mem i];simp only[XC,ab9];constructor
  .intro hi;refine⟨by simp[hi],?_⟩;rintro rfl;have:=s1 _ hi;omega
  .rintro⟨hi,A⟩;rcases jr.1 hi with e|e
   .omega
   .exact e
def Us.zero{m:Nat}(h:Us [] m):m=0:=by
 refine af4 λi=>?_;rw[Nat.zero_testBit,Nb];intro a;have:=(h.mem i).2 a;simp at this
def D4:∀(l:List Int) (m:Nat) (v:List Int) (n:Nat),Us l m->l.length<n->v.length+l.length<=1000000->nk (rI λ(v37:Int) (b:List Int)=>
   if(dx v37 0) then(
   cM (gI v37) λc=>
   e_ (eI b [c])<|some ((.next ((qn .u32 v37 (ea .u32 v37 1)),(fk b [c]))):dW (Int×List Int) (List Int)))
   else(some (.brk (v37,b)))) n ((m:Int),v)=some (.inl (0,v++l))
 |l,m,v,0,_,hn,_=>by omega|[],m,v,n+1,h,_,_=>by
  rw[h.zero,nk];simp only[rI];rw[cO (show¬dx ((0:Nat):Int) 0=true by decide)];simp
 |a::l,m,v,n+1,h,hn,f=>by
  simp only[kY] at hn f;obtain⟨k,i,hu⟩:=Zl h;have d:=h.lt
  have j:dx (m:Int) 0=true:=by rw[c_];omega
  rw[nk];simp only[rI];rw[cS j];rw[show gI (m:Int)=some a by unfold gI;rw[cS VW,zP,i],cv,dT acz,cY,cv,dR,fu];rw[show ea .u32 (m:Int) 1=((m-1:Nat):Int) by unfold ea;rw[Fg VW VW];omega,Mz d VW];rw[D4 l _ (v++[a]) n hu VW acz];simp
def Ss{l:List Int}{m:Nat}(h:Us l m):jl (m:Int)=some l:=by
 have a:=h.len;unfold jl;rw[c6,D4 l m [] FU h (by rw[d_];omega) acz,cv];simp[rI]
def LP:∀(n:Nat) (t:Tm),t.ain<=n->t.ain<=50000000->t.ok=true->wa n t=some t:=by
 intro n
 induction n with
 |zero=>intro t h;have:=t.dr;omega
 |succ n ih=>
  intro t hn c a;cases t with
  |mk k i s l=>
   rw[Tm.cQ] at hn c;have o:=Tm.ek l;have hi:=Tm.kN a;rw[Tm.fX,fI] at a;have d:=Ty.vx a.1;rw[wa];simp only[Tm.dq,Tm.eY,Tm.dV,Tm.di,c6]
   rw[nV VW,cv,c8 VW,cY,gP id l 0 [] acz (λj x v b f=>by
    have:=dk Tm.ain b
    rw[ih x VW VW (hi.2.2.2.1 x b),cv,dT (by simpa using f),cY,fu];rfl)]
   simp
def Fm.abM:∀(f:Fm) (b:Int),f.E6 (λt _=>t) b=f:=by
 intro f
 induction f using Fm.ind with
 |h k s ts l ih=>
  intro b;rw[Fm.yp,uy (g:=id) (λx a=>ih x a _)];simp
def AT{f:Fm}(h:f.err=0)(c:f.air 1000000000000=true):nP f=some f:=by
 obtain⟨d,hn⟩:=Fm.fP h;unfold nP;rw[nC (h:=λi j=>l6 i j) (ψ:=λt _=>t) (λt b a _ _=>?_) FU f 0 (by rw[d_];omega) VW d c VW VW]
 .rw[cN,Fm.abM]
 .have:=a.ain;unfold l6;rw[LP FU t (by rw[d_];omega) a.ain a.ok];rfl
noncomputable def IM (L:List Fm) (q:Sq):Int:=if 32<L.length then 3 else if eH (L.map λf=>Fh f [])≠0 then eH (L.map λf=>Fh f [])else if vM q.aip≠0 then vM q.aip else if 16<q.ais.length then 3 else eH (q.ais.map λf=>Fh f q.aip)
structure SqB (L:List Fm) (q:Sq):Prop where
 E0:∀f∈L,f.wt<=1000000000
 TS:∀t∈q.aip,t.ain<=1000000000
 tyl:q.aip.length<=1000000
 ais:∀f∈q.ais,f.wt<=1000000000
def xx{e:Int}:(cM (some e) λa=>if(dx a 0) then some (.ret a)else some ((.next ()):dW Unit Int))=if e≠0 then some (.ret e)else some (.next ()):=by
 rw[cv]
 by_cases h:e=0
 .subst h;rfl
 .rw[cS (by rw[c_];exact h),cS h]
def Q6{C:List Ty->Option Int}{T:List Ty->Fm->Option Int}{L:List Fm}{q:Sq}(u:C q.aip=some (vM q.aip))(v:∀f∈L,T [] f=some (Fh f []))(w:∀f∈q.ais,T q.aip f=some (Fh f q.aip)):(if(ly (dp L) 32) then some 3 else e_ (dE L)<|de (λ(y:Int) (i:Fm)=>(λ(_:Unit)=>cM (T [] i) λa=>if(dx a 0) then some (.ret a)else some ((.next ()):dW Unit Int))) λk=>
   cM (dF k L 0 ()) (eB (λ(_:Unit)=>cM (C q.aip) λb=>if(dx b 0) then some b else if(ly (dp q.ais) 16) then some 3 else e_ (dE q.ais)<|de (λ(A:Int) (l:Fm)=>(λ(_:Unit)=>cM (T q.aip l) λc=>if(dx c 0) then some (.ret c)else some ((.next ()):dW Unit Int))) λn=>
    cM (dF n q.ais 0 ()) (eB (λ(_:Unit)=>some 0) (λr=>some r))) (λr=>some r)))=some (IM L q):=by
 unfold IM;rw[ee]
 by_cases s:32<L.length
 .rw[cS (by rw[fx];omega),cS s]
 .have B:¬ly (L.length:Int) 32=true:=by rw[fx];omega
  rw[cO B,cO s,c8 VW,cY,c6];rw[j3 (λf=>Fh f []) L 0 (λj x o=>by rw[v x o];exact xx)]
  by_cases d:eH (L.map λf=>Fh f [])=0
  .rw[cS d,cO (show¬(eH (L.map λf=>Fh f [])≠0)fromλh=>h d),cv,dh,u,cv]
   by_cases c3:vM q.aip=0
   .have z2:¬dx (vM q.aip) 0=true:=by rw[c_];simpa using c3
    rw[cO z2,cO (show¬(vM q.aip≠0)fromλh=>h c3),ee]
    by_cases t:16<q.ais.length
    .rw[cS (by rw[fx];omega),cS t]
    .have z3:¬ly (q.ais.length:Int) 16=true:=by rw[fx];omega
     rw[cO z3,cO t,c8 VW,cY,c6];rw[j3 (λf=>Fh f q.aip) q.ais 0 (λj x o=>by rw[w x o];exact xx)]
     by_cases c5:eH (q.ais.map λf=>Fh f q.aip)=0
     .rw[cS c5,c5];rfl
     .rw[cO c5];rfl
   .have z2:dx (vM q.aip) 0=true:=by rw[c_];exact c3
    rw[cS z2,cS c3]
  .rw[cO d,cS d];rfl
def Bz{L:List Fm}{q:Sq}(h:SqB L q):rC L q=some (IM L q)/\sq L q=some (IM L q):=by
 have a:∀t∈([]:List Ty),t.ain<=1000000000:=λt c=>by simp at c
 exact⟨Q6 (C:=my) (T:=kr) (wx q.aip h.tyl h.TS) (λx b=>r5 (h.E0 x b) aaL a) (λx b=>r5 (h.ais x b) h.tyl h.TS),Q6 (C:=k8) (T:=ji) (rV q.aip h.tyl h.TS) (λx b=>uH (h.E0 x b) aaL a) (λx b=>uH (h.ais x b) h.tyl h.TS)⟩
def y7:∀{l:List Int},(∀e∈l,e=0)->eH l=0
 |[],_=>rfl|a::l,h=>by
  rw[eH,cS (h a aaL)];exact y7 λe he=>h e (by simp[he])
def yc:∀{l:List Int},eH l=0->∀e∈l,e=0
 |[],_,e,he=>by simp at he
 |a::l,h,e,he=>by
  rw[eH] at h
  by_cases b:a=0
  .rw[cS b] at h;rcases jr.1 he with rfl|he
   .exact b
   .exact yc h e he
  .rw[cO b] at h;exact absurd h b
def VC{f:Fm}{g:List Ty}(h:Fh f g=0):Hg g f:=by
 unfold Fh at h
 by_cases b:vM g=0
 .rw[cO (λh=>h b)] at h
  by_cases a:f.err=0
  .rw[cO (λh=>h a)] at h;exact⟨a,qC f (Fm.fP a).1 g (gN.of b).1 h⟩
  .rw[cS a] at h;exact absurd h a
 .rw[cS b] at h;exact absurd h b
structure ER (L:List Fm) (q:Sq):Prop where
 ln:L.length<=32
 E0:∀f∈L,Hg [] f
 ctx:gN q.aip
 nv:q.aip.length<=16
 nh:q.ais.length<=16
 ais:∀f∈q.ais,Hg q.aip f
def Rx{L:List Fm}{q:Sq}(h:IM L q=0):ER L q:=by
 unfold IM at h
 by_cases d:32<L.length
 .rw[cS d] at h;cases h
 .rw[cO d] at h
  by_cases a:eH (L.map λf=>Fh f [])=0
  .rw[cO (λh=>h a)] at h
   by_cases b:vM q.aip=0
   .rw[cO (λh=>h b)] at h
    by_cases i:16<q.ais.length
    .rw[cS i] at h;cases h
    .rw[cO i] at h;obtain⟨j,k⟩:=gN.of b;exact⟨VW,λf c=>VC (yc a _ (nw.2 ⟨f,c,rfl⟩)),j,k,VW,λf c=>VC (yc h _ (nw.2 ⟨f,c,rfl⟩))⟩
   .rw[cS b] at h;exact absurd h b
  .rw[cS a] at h;exact absurd h a
def ER.zero{L:List Fm}{q:Sq}(h:ER L q):IM L q=0:=by
 have c:∀{g:List Ty} {f:Fm},gN g->g.length<=16->Hg g f->Fh f g=0:=λhg b a=>by
  unfold Fh;rw[Bv hg b,cO aaB,cO (λh=>h a.err)];exact Bp a.ty hg (by have:=a.ain;omega)
 have d:eH (L.map λf=>Fh f [])=0:=y7 λe he=>by
  obtain⟨f,a,rfl⟩:=nw.1 he;exact c (λ_ h=>by simp at h) aaL (h.E0 f a)
 have i:eH (q.ais.map λf=>Fh f q.aip)=0:=y7 λe he=>by
  obtain⟨f,a,rfl⟩:=nw.1 he;exact c h.ctx h.nv (h.ais f a)
 unfold IM;have:=h.ln;have:=h.nh;rw[cO VW,d,cO aaB,Bv h.ctx h.nv,cO aaB,cO VW,i]
def Ga{T:List cR}{N:Nat}(n:N<=1000000):∀(l:List Fm) (j:Nat) (k:List c7),k.length+l.length<=1000000->dF (λ(o:Int) (b:Fm)=>(un4 λ(c:Int) (v46:Int) (d:List cR) (i:List c7)=>
   cM (eM (cV.mk (dU.mk c v46) d i) b) λa=>
   some ((.next (a.eX.vars,a.eX.ais,a.aip,a.known)):dW (Int×Int×(List cR)×(List c7)) (cV)))) l j ((N:Int),(k.length:Int),T,k)=some (.inl ((N:Int),((k.length+l.length:Nat):Int),T,k++l.map λf=>c7.mk f N))
 |[],j,k,_=>by simp|f::l,j,k,h=>by
  simp only[kY] at h;rw[dB];simp only[un4];unfold eM;rw[dT acz,cY,cv];simp only[cv,dR,fu];rw[dP VW VW];have:=Ga (T:=T) n l (j+1) (k++[c7.mk f N]) acz;rw[show(k.length:Int)+1=((k++[c7.mk f N]).length:Int) by simp];unfold eM at this;simp only[fu] at this;rw[this];simp;omega
def start_eq{L:List Fm}{q:Sq}(h:ER L q):∃p,qX q=some p/\PG L p (cX.mk L q.aip q.ais):=by
 have d:=h.nh;have a:=h.nv;refine⟨cV.mk (dU.mk (q.aip.length:Int) (q.ais.length:Int)) (q.aip.map r9) (q.ais.map λf=>c7.mk f q.aip.length),?_,⟨⟨rfl,rfl,rfl,h.ctx,a,d,aaL,?_⟩,rfl,h.E0,h.ais⟩⟩
 .unfold qX;rw[tT h.ctx VW,cv,c8 VW,cY,c6,ee];have:=Ga (T:=q.aip.map r9) (N:=q.aip.length) VW q.ais 0 [] acz;rw[show(([]:List c7).length:Int)=0 from rfl] at this;rw[this,cv];simp[un4]
 .intro i x g b c;have b:(q.ais.map λf=>c7.mk f q.aip.length)[i]?=some x:=b;have c:q.ais[i]?=some g:=c;rw[yq,c] at b;obtain rfl:=fQ b;have hg:=h.ais g (CO c);refine⟨hg.hy a,by show(0:Int)<=(q.aip.length:Int);omega,by show((q.aip.length:Nat):Int)<=(q.aip.length:Int);omega,?_⟩;show g=g.up 0 ((q.aip.length:Int)-(q.aip.length:Int));rw[Int.sub_self,Fm.xu]
def Pf.QR:∀(l:List Pf),(∀x∈l,x.x_<=x.ain)->Pf.uW l<=db Pf.ain l
 |[],_=>by simp[Pf.uW]|a::l,ih=>by
  have c:=ih a aaL;have d:=Pf.QR l (λx b=>ih x (by simp[b]));simp only[Pf.uW,db];omega
def Pf.Sp(p:Pf):p.x_<=p.ain:=by
 induction p using Pf.ind with
 |h k i s ts a l ih=>
  rw[Pf.cQ,Pf.x_];have:=Pf.QR l ih;omega
noncomputable def UP (L:List Fm) (q:Sq) (P:Pf):PR:=kh (IM L q) (kh P.err (P.inf L q.aip q.ais))
def A5{L:List Fm}{q:Sq}{P:Pf}(h:SqB L q)(i:P.wt<=1000000000):(∃e,e≠0/\UP L q P=.inr e/\pK L q P=some (⟨fS,[]⟩,e)/\iC L q P=some (⟨fS,[]⟩,e))\/∃(f:Fm) (m:Nat) (l:List Int),UP L q P=.inl (f,m)/\pK L q P=some (⟨f,l⟩,0)/\iC L q P=some (⟨f,l⟩,0)/\Us l m/\Hg q.aip f/\ER L q/\P.err=0:=by
 unfold pK iC UP;rw[(Bz h).1,(Bz h).2,cv,cv]
 by_cases b:IM L q=0
 .have d:=Rx b;rw[b,cO nz,cO nz,hI rfl,yn i,uf i,cv,cv]
  by_cases c:P.err=0
  .obtain⟨hw,hn⟩:=Pf.aav c;obtain⟨p,j,k⟩:=start_eq d;have n:=P.Sp;rw[c,cO nz,cO nz,hI rfl,show xo=some ()from rfl,cv,j,cv];rcases Ww hw FU FU (by rw[d_];omega) (by rw[d_];omega) p _ k with⟨e,he,q1,q2,q3⟩|⟨f,m,l,q1,q2,q3,hu,a⟩
   .rw[q2,q3,cN,cN,cS (by rw[c_];exact he),cS (by rw[c_];exact he)];exact .inl ⟨e,he,q1,rfl,rfl⟩
   .have a:Hg q.aip f:=a;have o:=hu.len;have r:=f.hS a.ok;have s:=a.ain;rw[q2,q3,cN,cN,cO nz,cO nz];simp only[];rw[AT a.err (a.air d.nv VW),cv,Ss hu,cv,je VW,cv,dT acz,cY,fu,od];exact .inr ⟨f,m,l,q1,rfl,rfl,hu,a,d,by trivial⟩
  .rw[cS (by rw[c_];exact c),cS (by rw[c_];exact c),iY c];exact .inl ⟨_,c,rfl,rfl,rfl⟩
 .rw[cS (by rw[c_];exact b),cS (by rw[c_];exact b),iY b];exact .inl ⟨_,b,rfl,rfl,rfl⟩
def Pf.oe(l:List Pf):l.length<=db Pf.wt l:=fR Pf.wt l λt _=>t.gM
def vz:∀(n:Nat) (P:Pf),P.wt<=n->P.wt<=1000000000->qj n P=some P:=by
 intro n
 induction n with
 |zero=>intro P h;have:=P.gM;omega
 |succ n ih=>
  intro P hn d;cases P with
  |mk k i s ts c l=>
   rw[Pf.ef] at hn d;have f:=fR Tm.wt ts λt _=>t.gM;have o:=fR Fm.wt c λt _=>t.gM;have q:=Pf.oe l;rw[qj];simp only[Pf.dq,Pf.eY,Pf.dV,Pf.gl,Pf.Fy,Pf.di,c6]
   rw[gV VW,cv,c8 VW,cY,gP id ts 0 [] acz (λj x v a b=>by
    have:=dk Tm.wt a
    rw[mj VW,cv,dT (by simpa using b),cY,fu];rfl),cv,dh,c8 VW,cY,gP id c 0 [] acz (λj x v a b=>by
    have:=dk Fm.wt a
    rw[je VW,cv,dT (by simpa using b),cY,fu];rfl),cv,dh,c8 VW,cY,gP id l 0 [] acz (λj x v a b=>by
    have:=dk Pf.wt a
    rw[ih x VW VW,cv,dT (by simpa using b),cY,fu];rfl),cv,dh]
   simp
def afs{k:Int}{l:List Pf}(h:db Pf.wt l<=1000000000):jV k l=some (.mk k 0 .z [] [] l):=by
 have c:=Pf.oe l;unfold jV
 rw[c8 VW,cY,c6,gP id l 0 [] acz (λj x v a b=>by
  have:=dk Pf.wt a
  rw[vz FU x (by rw[d_];omega) VW,cv,dT (by simpa using b),cY,fu];rfl),cv,dh]
 simp[Ty.z]
def MV{k:Int}{a:Pf}(h:a.wt<=500000000):jV k [a]=some (.mk k 0 .z [] [] [a]):=afs (by simp[db];omega)
def I9{k:Int}{a b:Pf}(h:a.wt<=400000000)(c:b.wt<=400000000):jV k [a,b]=some (.mk k 0 .z [] [] [a,b]):=afs (by simp[db];omega)
def We{F:Fm}{a:Pf}(hF:F.wt<=1000000000)(h:a.wt<=500000000):tM F a=some (.mk 6 0 .z [] [F] [a]):=by
 unfold tM;rw[MV h,cv,je hF];rfl
def F_{k:Int}{s:Ty}{a:Pf}(hs:s.ain<=1000000000)(h:a.wt<=500000000):pF k s a=some (.mk k 0 s [] [] [a]):=by
 unfold pF;rw[MV h,cv,gV hs];rfl
def QI{k:Int}{t:Tm}{a:Pf}(b:t.wt<=1000000000)(h:a.wt<=500000000):sV k t a=some (.mk k 0 .z [t] [] [a]):=by
 unfold sV;rw[MV h,cv,mj b];rfl
def QQ{k:Int}{F:Fm}{t:Tm}{a:Pf}(hF:F.wt<=1000000000)(b:t.wt<=1000000000)(h:a.wt<=500000000):sQ k F t a=some (.mk k 0 .z [t] [F] [a]):=by
 unfold sQ;rw[QI b h,cv,je hF];rfl
def RF{k:Int}{F:Fm}{t:Tm}{a:Pf}(hF:F.wt<=1000000000)(b:t.wt<=1000000000)(h:a.wt<=500000000):rv k F t a=some (.mk k 0 .z [t] [F] [a],F):=by
 unfold rv;rw[QI b h,cv,je hF];rfl
def O0{k:Int}{F:Fm}{t:Tm}{a b:Pf}(hF:F.wt<=1000000000)(c:t.wt<=1000000000)(h:a.wt<=400000000)(d:b.wt<=400000000):rY k F t a b=some (.mk k 0 .z [t] [F] [a,b]):=by
 unfold rY;rw[I9 h d,cv,mj c,cv,je hF];rfl
def ML{F:Fm}{a b:Pf}(hF:F.wt<=1000000000)(h:a.wt<=400000000)(c:b.wt<=400000000):qJ F a b=some (.mk 19 0 .z [] [F] [a,b]):=by
 unfold qJ;rw[I9 h c,cv,je hF];rfl
def tB{t:Tm}(a:t.wt<=1000000000):jx t=some (.mk 18 0 .z [t] [] []):=by
 unfold jx;rw[mj a];rfl
def ye{t:Tm}{g:List Ty}{s:Ty}(h:dH g t s)(hg:g.length<=1000)(hn:t.ain<=4096):iP t=some (t.up 0 1):=by
 have hw:=t.hS h.ok;have a:t.air 1000000000000=true:=h.air _ VW;unfold iP;rw[F1 VW VW,cv,sO FU _ 0 1 (by rw[d_,Fm.cQ];simp only[db];omega) (by rw[Fm.cQ];simp only[db];omega) VW (by rw[Fm.cQ];simp only[db];omega) VW VW (by rw[Fm.ey];simp[a]),cv,Fm.kI];rfl
def A7{q:Sq}{f:Fm}(h:q.ais.length<=1000):xn q f=some ⟨q.aip,q.ais++[f]⟩:=by
 unfold xn;rw[dT acz,cY,dT (by simp[fu];omega),cY];simp[fu]
def L5{L:List Fm}{q:Sq}(h:ER L q){l:List Ty}(f:l.length<=1000):pg q l=some ⟨q.aip++l,q.ais.map (Fm.up 0 l.length)⟩:=by
 have b:=h.nh;have a:=h.nv;unfold pg
 rw[ny _ _ VW,cv,c8 VW,cY,c6,gP (Fm.up 0 l.length) q.ais 0 [] acz (λj x v c d=>by
  have hg:=h.ais x c;have hn:=hg.ain
  rw[ee,sO FU x 0 l.length (by rw[d_];omega) VW VW VW VW VW (hg.air a VW),cv,dT (by simpa using d),cY,fu]),cv,dh,od]
def ER.below{L:List Fm}{q:Sq}(h:ER L q){l:List Ty}(b:gN l)(hn:q.aip.length+l.length<=16):ER L ⟨q.aip++l,q.ais.map (Fm.up 0 l.length)⟩:=by
 refine⟨h.ln,h.E0,h.ctx.append b,by simpa using hn,by simpa using h.nh,λf c=>?_⟩;obtain⟨f0,a,rfl⟩:=nw.1 c;exact(h.ais f0 a).up l
def ER.with{L:List Fm}{q:Sq}(h:ER L q){f:Fm}(a:Hg q.aip f)(hn:q.ais.length+1<=16):ER L ⟨q.aip,q.ais++[f]⟩:=by
 refine⟨h.ln,h.E0,h.ctx,h.nv,by simpa using hn,λx hx=>?_⟩;rcases rA.1 hx with hx|hx
 .exact h.ais x hx
 .rw[xV.1 hx];exact a
def Hg.wt{g:List Ty}{f:Fm}(h:Hg g f):f.wt<=266240:=by
 have:=f.hS h.ok;have:=h.ain;omega
def ER.b{L:List Fm}{q:Sq}(h:ER L q):SqB L q:=by
 refine⟨λf a=>by have:=(h.E0 f a).wt;omega,λt c=>by have:=ed (h.ctx t c);omega,by have:=h.nv;omega,λf a=>by have:=(h.ais f a).wt;omega⟩
def pb:Nat->Nat
 |0=>10000|k+1=>3*pb k+1000000
def Re:∀k,k<=4->10000<=pb k/\pb k<=50000000
 |0,_=>by decide|1,_=>by decide|2,_=>by decide|3,_=>by decide|4,_=>by decide|k+5,h=>by omega
def gZ(b:Nat)(o:Option (Pf×dd)):Prop:=∃x a,o=some (x,a)/\a.wf/\x.wt<=b
def gZ.of{b:Nat}{x:Pf}{d:dd}(a:d.wf)(h:x.wt<=b):gZ b (some (x,d)):=⟨x,d,rfl,a,h⟩
def hW{β:Type}{G:Option β->Prop}{c:Bool}{a b:Option β}(d:c=true->G a)(f:c=false->G b):G (if c then a else b):=by
 cases c with
 |true=>exact d rfl|false=>exact f rfl
def nO{g:List Ty}{t:Ty}{d:dd}(f:g.length<=600)(hg:rO 3 g)(h:t.err=0)(c:t.ain<=3)(i:d.wf):∃x a,fj FU d g t 1=some (x,a)/\a.wf/\dH g x t/\x.ain<=57/\x.wt<=3705/\x.err=0:=by
 obtain⟨x,a,j,k,b⟩:=Gx 3 VW VW 1 VW g t d f hg h c i;have hn:x.ain<=57:=b.ain;have hw:=x.hS b.ty.ok;exact⟨x,a,j,k,b.ty,hn,VW,Tm.pD b.ty.ok VW⟩
def yf{d:dd}(b:d.wf):∃t a,iu FU d 1=some (t,a)/\t.err=0/\t.ain<=3/\a.wf:=by
 obtain⟨t,a,c,f,i,h⟩:=yW d b 1 VW;exact⟨t,a,c,f,VW,h⟩
def TE{d:dd}(b:d.wf):∃t a,iu FU d 0=some (t,a)/\t.err=0/\t.ain<=3/\a.wf:=by
 obtain⟨t,a,c,f,i,h⟩:=yW d b 0 VW;exact⟨t,a,c,f,VW,h⟩
theorem Ty.eW:Ty.z.ain=1:=aaB
def Fj:eK 0=some v0:=rfl
def Uf{P:Pf}{e:Int}(h:P.wt<=1000000000):∃b c,sZ P e=some (b,c)/\b.wt<=P.wt+1:=by
 have a:(Pf.mk 0 0 (Ty.mk 0 []) [] [] []).wt<=P.wt+1:=by have:=P.gM;rw[Pf.ef];simp[db,Ty.cQ];omega
 unfold sZ
 by_cases he:e=0
 .subst he;rw[cO nz];unfold sh;rw[c6,yj FU P (by rw[d_];omega) h,cv,yG FU P (by rw[d_];omega) h];cases P.small with
  |false=>exact⟨_,_,rfl,a⟩|true=>
   rw[cS rfl,cv,cv];cases Hl (P.ain:Int) 16384 with
   |false=>exact⟨_,_,rfl,a⟩|true=>
    rw[cS rfl,vz FU P (by rw[d_];omega) h];exact⟨_,_,rfl,VW⟩
 .rw[cS (by rw[c_];exact he)];exact⟨_,_,rfl,a⟩
def S2{ts:List Tm}{ps:List Pf}(d:∀t∈ts,t.wt<=1000000000)(f:∀p∈ps,p.wt<=1000000000)(h:ts.length<=1000)(i:ps.length<=1000):∃e,rh ts [] ps=some e:=by
 unfold rh;rw[c8 VW,cY,c6,j3 Tm.err ts 0 (λj x a=>by rw[lv (d x a)];exact xx)]
 by_cases b:eH (ts.map Tm.err)=0
 .rw[cS b,cv,dh,c8 aaL,cY,c6,nT,cv,dh,c8 VW,cY,c6,j3 Pf.err ps 0 (λj x a=>by rw[uf (f x a)];exact xx)]
  by_cases c:eH (ps.map Pf.err)=0
  .rw[cS c];exact⟨_,rfl⟩
  .rw[cO c];exact⟨_,rfl⟩
 .rw[cO b];exact⟨_,rfl⟩
def D_{t:Tm}{g:List Ty}{s:Ty}(h:dH g t s)(hg:g.length<=1000)(hn:t.ain<=4096):tY t 1=some (t.up 0 1):=by
 unfold tY;rw[za FU t 0 1 (by rw[d_];omega) VW VW VW VW VW (h.air _ VW)];rfl
def M7{t:Tm}(a:t.wt<=3705):∃P,yd t=some P/\P.wt<=20000:=by
 obtain⟨z,h,z2⟩:=zl 0 VW VW;have c:=(z2 [.nat]).1;have r:=(z2 [.nat]).2;have b:=Ci;have i:dH [.nat] v0 .nat:=va (g:=[]);have d:dH [.nat] (gQ (gQ mH z) v0) .nat:=.app (.app (C6 _) c) i;have f:dH [] (lu .nat (i_ v0)) (.fn .nat .nat):=.lam yY (.succ va)
 have s:(gQ (gQ mH z) v0).ain<=20:=by
  unfold gQ v0;rw[Tm.cQ,db,db,Tm.cQ,db,db,Tm.cQ];simp only[db];omega
 have nL:(lu .nat (i_ v0)).ain=3:=aaB
 have wA:=Tm.hS _ d.ok;have u:=Tm.hS _ f.ok;have v:=Tm.hS _ c.ok
 have w:v0.wt<=10:=aaB
 have wp:mH.wt<=585:=by have:=Tm.hS _ (C6 []).ok;omega
 unfold yd;rw[An,cv,h,cv,Fj,cv,Lb VW VW VW,cv,show Tm.mk 3 0 .z [.mk 3 0 .z [mH,z],v0]=gQ (gQ mH z) v0 from rfl,cv,F1 VW VW,cv,eE,cv,cv,JL VW,cv,show Tm.mk 5 0 .z [v0]=i_ v0 from rfl,Ak aaB aaB,cv,show Tm.mk 2 0 .nat [i_ v0]=lu .nat (i_ v0)from rfl,cv,show lT 0=some (Pf.mk 1 0 .z [] [] [])from rfl,cv]
 have x:(Pf.mk 1 0 .z [] [] []).wt<=10:=aaB
 have j:∃P e,ua (lu .nat (i_ v0)) (gQ (gQ mH z) v0) v0 (Pf.mk 1 0 .z [] [] [])=some (P,e)/\P.wt<=12000:=by
  have y:=Tm.FJ (gQ (gQ mH z) v0) 0 1;have A:=Tm.FJ (lu .nat (i_ v0)) 0 1
  have B:(Tm.mk 3 0 .z [lu .nat (i_ v0),gQ (gQ mH z) v0]).wt<=1600:=by rw[Tm.ef];simp only[db,Ty.eW];omega
  have C:(Tm.mk 3 0 .z [(lu .nat (i_ v0)).up 0 1,(gQ (gQ mH z) v0).up 0 1]).wt<=1600:=by rw[Tm.ef];simp only[db,Ty.eW];omega
  have D:(Tm.mk 3 0 .z [(lu .nat (i_ v0)).up 0 1,v0]).wt<=1600:=by rw[Tm.ef];simp only[db,Ty.eW];omega
  have wf:(Fm.mk 1 .z [Tm.mk 3 0 .z [(lu .nat (i_ v0)).up 0 1,(gQ (gQ mH z) v0).up 0 1],Tm.mk 3 0 .z [(lu .nat (i_ v0)).up 0 1,v0]] []).wt<=4000:=by rw[Fm.ef];simp only[db,Ty.eW];omega
  have wr:(Pf.mk 18 0 .z [Tm.mk 3 0 .z [lu .nat (i_ v0),gQ (gQ mH z) v0]] [] []).wt<=2000:=by rw[Pf.ef];simp only[db,Ty.eW];omega
  have hg:uO (lu .nat (i_ v0)) (gQ (gQ mH z) v0) (Pf.mk 1 0 .z [] [] [])=some (.mk 19 0 .z [] [Fm.mk 1 .z [Tm.mk 3 0 .z [(lu .nat (i_ v0)).up 0 1,(gQ (gQ mH z) v0).up 0 1],Tm.mk 3 0 .z [(lu .nat (i_ v0)).up 0 1,v0]] []] [.mk 1 0 .z [] [] [],.mk 18 0 .z [Tm.mk 3 0 .z [lu .nat (i_ v0),gQ (gQ mH z) v0]] [] []]):=by
   unfold uO;rw[D_ f aaL VW,cv,D_ d aaL VW,cv,sN VW VW,cv,cv,Fj,cv,sN VW VW,cv,F1 VW VW,cv,sN VW VW,cv,tB VW,cv,ML VW VW VW];rfl
  unfold ua
  obtain⟨e,he⟩:=S2 (ts:=[lu .nat (i_ v0),gQ (gQ mH z) v0,v0]) (ps:=[Pf.mk 1 0 .z [] [] []]) (by
   intro t a;simp only[jr,vW,ta] at a
   rcases a with rfl|rfl|rfl<;>omega) (by
   intro t a
   rw[xV.1 a];omega) aaL aaL
  have k:(Pf.mk 19 0 .z [] [Fm.mk 1 .z [Tm.mk 3 0 .z [(lu .nat (i_ v0)).up 0 1,(gQ (gQ mH z) v0).up 0 1],Tm.mk 3 0 .z [(lu .nat (i_ v0)).up 0 1,v0]] []] [.mk 1 0 .z [] [] [],.mk 18 0 .z [Tm.mk 3 0 .z [lu .nat (i_ v0),gQ (gQ mH z) v0]] [] []]).wt<=11000:=by rw[Pf.ef];simp only[db,Ty.eW] at*;omega
  rw[hg,cv,he,cv];obtain⟨l,n,o,F⟩:=Uf (e:=e) (show _<=1000000000 from zS k VW);rw[o,cN];exact⟨l,n,rfl,VW⟩
 obtain⟨P,e,q,G⟩:=j
 have H:(Fm.mk 1 .z [gQ (gQ mH z) v0,v0] []).wt<=2000:=by rw[Fm.ef];simp only[db,Ty.eW];omega
 have I:(Pf.mk 18 0 .z [z] [] []).wt<=200:=by rw[Pf.ef];simp only[db,Ty.eW];omega
 rw[q,cN,cv,tB VW,cv,O0 VW VW VW VW];refine⟨_,rfl,?_⟩;rw[Pf.ef];simp only[db,Ty.eW] at*;omega
def dH.lift{g:List Ty}{x:Tm}{t:Ty}(h:dH g x t)(e:List Ty):dH (g++e) (x.up 0 e.length) t:=by
 have:=h.up g [] e aaL
 grind
def eqv(t:Tm):Fm:=.mk 1 .z [t.up 0 1,v0] []
def Kw{g:List Ty}{t:Tm}(h:dH g t .nat)(hn:t.ain<=57):Hg (g++[.nat]) (eqv t)/\(eqv t).ain<=59/\(eqv t).wt<=3900:=by
 have hu:dH (g++[.nat]) (t.up 0 1) .nat:=by
  exact h.lift [.nat]
 have a:jP (g++[.nat]) (eqv t):=.eq hu va
 have hm:(eqv t).ain<=59:=by
  unfold eqv;rw[Fm.cQ];simp only[db];rw[Tm.pV]
  have:v0.ain=1:=aaB
  omega
 have hw:=Fm.hS _ a.ok;refine⟨⟨?_,a⟩,hm,VW⟩;unfold Fm.err;rw[cS a.ok,cO VW]
def Ha{g:List Ty}{t:Tm}(h:dH g t .nat)(hg:g.length<=600)(hn:t.ain<=57){β:Type}(k:Fm->Option β):(cM (iP t) λa=>cM (eK 0) λb=>cM (kV a b) λc=>k c)=k (eqv t):=by
 have hw:=t.hS h.ok;have hu:=Tm.FJ t 0 1
 have d:v0.wt<=10:=aaB
 rw[ye h VW VW,cv,Fj,cv,F1 VW VW];rfl
def acA{g:List Ty}{f:Fm}{k:Int}(b:k=5\/k=7)(h:Hg (g++[.nat]) f)(hn:f.ain<=4000):Hg g (.mk k .nat [] [f]):=by
 have a:jP g (.mk k .nat [] [f]):=.q VW Ty.fM h.ty;refine⟨?_,a⟩;unfold Fm.err;rw[cS a.ok,cO (by rw[Fm.cQ];simp only[db];omega)]
def OT{q:Sq}{d:dd}(a:q.aip.length<=600)(hg:rO 3 q.aip)(b:d.wf):gZ 12000 (B1 d q):=by
 obtain⟨t,d1,t1,t2,t3,t4,t5,t6⟩:=nO a hg Ty.fM aaB b;obtain⟨c,f,h⟩:=Kw t3 t4
 have i:(Pf.mk 18 0 .z [t] [] []).wt<=3800:=by grind[Pf.ef,db,Ty.eW]
 have j:(Fm.mk 5 .nat [] [eqv t]).wt<=4000:=by rw[Fm.ef];simp only[db,Ty.gh];omega
 unfold B1;rw[eE,cv,t1,cN,Ha t3 a t4,EO aaB VW,cv,tB VW,cv,QQ VW VW VW,cv];refine gZ.of t2 ?_;rw[Pf.ef];simp only[db,Ty.eW];omega
def NH{q:Sq}{d:dd}(a:q.aip.length<=600)(hg:rO 3 q.aip)(c:d.wf):∃t b,sG d q=some (.mk 10 0 .z [t] [.mk 5 .nat [] [eqv t]] [.mk 18 0 .z [t] [] []],.mk 5 .nat [] [eqv t],b)/\b.wf/\dH q.aip t .nat/\t.ain<=57/\t.wt<=3705:=by
 obtain⟨t,d1,t1,t2,t3,t4,t5,t6⟩:=nO a hg Ty.fM aaB c;obtain⟨f,h,i⟩:=Kw t3 t4
 have j:(Pf.mk 18 0 .z [t] [] []).wt<=3800:=by grind[Pf.ef,db,Ty.eW]
 have k:(Fm.mk 5 .nat [] [eqv t]).wt<=4000:=by rw[Fm.ef];simp only[db,Ty.gh];omega
 unfold sG;rw[eE,cv,t1,cN,Ha t3 a t4,EO aaB VW,cv,tB VW,cv,RF VW VW VW,cN];exact⟨t,d1,rfl,t2,t3,t4,t5⟩
def w7{L:List Fm}{q:Sq}(h:ER L q){P:Pf}(a:P.wt<=1000000000):(∃e,e≠0/\iC L q P=some (⟨fS,[]⟩,e))\/∃f l,iC L q P=some (⟨f,l⟩,0)/\Hg q.aip f:=by
 rcases A5 h.b a with⟨e,he,_,_,c⟩|⟨f,m,l,_,_,c,_,d,_⟩
 all_goals grind
def Bw{g:List Ty}{f:Fm}(h:Hg g f)(hg:g.length<=16):fL FU f 0 1=some (f.up 0 1)/\(f.up 0 1).wt<=266240:=by
 have hn:=h.ain;refine⟨sO FU f 0 1 (by rw[d_];omega) VW VW VW VW VW (h.air hg VW),?_⟩;have a:=h.wt
 grind[Fm.FJ]
def Rb{a b x:Int}(c:0<=x)(d:x<2):∃y,dg [a,b] x=some y/\(x=0/\y=a\/x=1/\y=b):=by
 have:x=0\/x=1:=VW
 rcases this with rfl|rfl
 .exact⟨a,rfl,.inl ⟨rfl,rfl⟩⟩
 .exact⟨b,rfl,.inr ⟨rfl,rfl⟩⟩
structure Mq (L:List Fm) (q:Sq):Prop where
 v:ER L q
 c:rO 3 q.aip
def Mq.below{L:List Fm}{q:Sq}(h:Mq L q){s:Ty}(hs:s.err=0)(a:s.ain<=3)(hn:q.aip.length+1<=16):Mq L ⟨q.aip++[s],q.ais.map (Fm.up 0 1)⟩:=
 ⟨h.v.below (l:=[s]) (λx b=>by rw[xV.1 b];exact hs) hn,h.c.app λx b=>by rw[xV.1 b];exact⟨hs,a⟩⟩
def Mq.with{L:List Fm}{q:Sq}(h:Mq L q){f:Fm}(a:Hg q.aip f)(hn:q.ais.length+1<=16):Mq L ⟨q.aip,q.ais++[f]⟩:=⟨h.v.with a hn,h.c⟩
def Mq.mkb{L:List Fm}{q:Sq}(h:Mq L q)(s:Ty):pg q [s]=some ⟨q.aip++[s],q.ais.map (Fm.up 0 1)⟩:=L5 h.v (l:=[s]) aaL
def GQ{κ β:Type}{G:Option β->Prop}(Q:κ->Prop){k:κ}{b:κ->Option β}(a:Q k)(c:∀j,Q j->G (b j)):G (de k b):=c k a
def S4{n k:Nat}(S:k<=3){L:List Fm}(ih:∀(d:dd) (q:Sq),d.wf->Mq L q->gZ (pb k) (h7 n d L q (k:Int))){d:dd}(D:d.wf){q:Sq}(h:Mq L q)(F:q.aip.length<10)(B:q.ais.length<10):gZ (pb (k+1)) (v_ (n+1) d L q ((k+1:Nat):Int)):=by
 have H:=Re k VW;have I:pb (k+1)=3*pb k+1000000:=rfl;obtain⟨t,d1,s1,s2,K,M,T⟩:=NH VW h.c D;obtain⟨g1,g2,g3⟩:=Kw K M
 have U:(Pf.mk 18 0 .z [t] [] []).wt<=3800:=by rw[Pf.ef];simp only[db,Ty.eW];omega
 have u:∀i:Int,(Fm.mk i .nat [] [eqv t]).wt<=4000:=λi=>by rw[Fm.ef];simp only[db,Ty.gh];omega
 have v:∀i j:Int,(Pf.mk j 0 .z [t] [Fm.mk i .nat [] [eqv t]] [Pf.mk 18 0 .z [t] [] []]).wt<=20000:=λi j=>by have:=u i;rw[Pf.ef];simp only[db,Ty.eW];omega
 rw[v_,s1,l7];refine GQ (G:=gZ (pb (k+1))) (λJ=>∀(v24 v25:Int) (v26:dd) (v27:Int),v26.wf->(v27=5\/v27=7)->gZ (pb (k+1)) (J v24 v25 v26 v27)) ?_ ?_
 .intro v24 v25 v26 v27 w N;have O:Hg q.aip (.mk v27 .nat [] [eqv t]):=acA N g1 VW;have hm:Mq L ⟨q.aip++[.nat],q.ais.map (Fm.up 0 1)++[eqv t]⟩:=(h.below Ty.fM aaB VW).with g1 (by show(q.ais.map (Fm.up 0 1)).length+1<=16;simp;omega);obtain⟨Q,d3,q1,q2,q3⟩:=ih v26 _ w hm;show gZ _ (cM (dg [eqv t] 0) λP=>_);rw[show dg [eqv t] 0=some (eqv t)from rfl,cv,eE,cv,h.mkb .nat,cv,A7 (by show(q.ais.map (Fm.up 0 1)).length<=1000;simp;omega),cv,ep VW VW,show((k+1:Nat):Int)-1=(k:Int) by omega,q1,cN];refine GQ (G:=gZ (pb (k+1))) (λJ=>∀(a v145 v146:Int) (b:List Ty) (v148:List Tm) (f:List Fm) (l:List Pf) (o:dd),o.wf->(Pf.mk a v145 (.mk v146 b) v148 f l).wt<=pb k+300000->gZ (pb (k+1)) (J a v145 v146 b v148 f l o)) ?_ ?_
  .intro a v145 v146 b v148 f l o x hw;have:=v v27 v25;show gZ _ (cM (jV v24 [Pf.mk v25 0 .z [t] [Fm.mk v27 .nat [] [eqv t]] [Pf.mk 18 0 .z [t] [] []],Pf.mk a v145 (.mk v146 b) v148 f l]) λr=>some (r,o));rw[I9 VW VW,cv];refine gZ.of x ?_;rw[Pf.ef];simp only[db,Ty.eW];omega
  .intro J s;obtain⟨y,d4,A,R,y3,y4⟩:=jD d3 q2 2 VW VW;rw[A,cN];refine hW (λ_=>?_) (λ_=>?_)
   .obtain⟨u1,u2⟩:=Bw O VW;show gZ _ (cM (fL FU (.mk v27 .nat [] [eqv t]) 0 1) λC=>_)
    have V:v0.wt<=10:=aaB
    rw[u1,cv,Fj,cv,show lT 0=some (Pf.mk 1 0 .z [] [] [])from rfl,cv,QQ VW VW aaB,cv];refine s _ _ _ _ _ _ _ _ y4 ?_;show(Pf.mk v25 0 .z [v0] [(Fm.mk v27 .nat [] [eqv t]).up 0 1] [Pf.mk 1 0 .z [] [] []]).wt<=_;rw[Pf.ef];simp only[db,Ty.eW];rw[Pf.ef];simp only[db,Ty.eW];omega
   .refine s _ _ _ _ _ _ _ _ y4 ?_;rw[Ty.hX,Pf.hX];omega
 .intro J s;obtain⟨y,d4,A,R,y3,y4⟩:=jD d1 s2 3 VW VW;rw[A,cN];exact hW (λ_=>s _ _ _ _ y4 (.inr rfl)) (λ_=>s _ _ _ _ y4 (.inl rfl))
def MZ:∀(n k:Nat) (L:List Fm) (d:dd) (q:Sq),2*k<n->k<=4->d.wf->Mq L q->gZ (pb k) (h7 n d L q (k:Int)):=by
 intro n
 induction n using Nat.strongRecOn with
 |_ n ih=>
 intro k L d q hn X I h;cases n with
 |zero=>omega|succ n=>
 have N:=h.v.nv;have Y:=h.v.nh;have Z:=h.v.ln;have ad:=Re k X;rw[h7,eE,cv];refine pz (G:=gZ (pb k)) (λd=>d.wf) (λd I=>?_) (λj J=>?_)
 .--a leaf
  refine pz (G:=gZ (pb k)) (λd=>d.wf) (λd I=>?_) (λj J=>?_)
  .obtain⟨t,d1,t1,t2,t3,t4,t5,t6⟩:=nO VW h.c Ty.fM aaB I;rw[t1,cN,tB VW,cv];refine gZ.of t2 ?_;rw[Pf.ef];simp only[db,Ty.eW];omega
  .obtain⟨x,d1,R,x2,x3,w⟩:=jD d I 4 VW VW;rw[R,cN];refine hW (λ_=>hW (λO=>?_) (λ_=>J _ w)) (λ_=>hW (λ_=>hW (λO=>?_) (λ_=>J _ w)) (λ_=>J _ w))
   .rw[fx,ee] at O;obtain⟨y,d2,K,M,y3,y4⟩:=jD d1 w q.ais.length VW VW;rw[ee,K,cN,show lT y=some (Pf.mk 1 y .z [] [] [])from rfl,cv];refine gZ.of y4 ?_;rw[Pf.ef];simp only[db,Ty.eW];omega
   .rw[fx,ee] at O;obtain⟨y,d2,K,M,y3,y4⟩:=jD d1 w L.length VW VW;rw[ee,K,cN];refine gZ.of y4 ?_;show(Pf.mk 2 y .z [] [] []).wt<=_;rw[Pf.ef];simp only[db,Ty.eW];omega
 .refine hW (λO=>?_) (λ_=>J _ I);rw[p_,p_,fI,fI,fx,km,km,ee,ee] at O;obtain⟨ae,U,V⟩:=O;obtain⟨m,rfl⟩:∃m,k=m+1:=⟨k-1,VW⟩;rw[ep VW VW,show((m+1:Nat):Int)-1=(m:Int) by omega];have af:=Re m VW;have ah:pb (m+1)=3*pb m+1000000:=rfl;have i:∀(d:dd) (q:Sq),d.wf->Mq L q->gZ (pb m) (h7 n d L q (m:Int)):=λd q I h=>ih n VW m L d q VW VW I h;obtain⟨x,d1,R,x2,x3,w⟩:=jD d I 17 VW VW;rw[R,cN];refine hW (λ_=>?_) (λ_=>?_)
  .--and
   obtain⟨P,d2,r,o,B⟩:=i d1 q w h;obtain⟨Q,d3,q1,q2,q3⟩:=i d2 q o h;rw[r,cN,q1,cN,I9 VW VW,cv];refine gZ.of q2 ?_;rw[Pf.ef];simp only[db,Ty.eW];omega
  refine hW (λ_=>?_) (λ_=>?_)
  .obtain⟨y,d2,K,M,y3,y4⟩:=jD d1 w 2 VW VW;obtain⟨P,d3,r,o,B⟩:=i d2 q y4 h;obtain⟨Q,d4,q1,q2,q3⟩:=i d3 q o h
   have hw:(Pf.mk 3 0 .z [] [] [P,Q]).wt<=200000000:=by rw[Pf.ef];simp only[db,Ty.eW];omega
   rw[K,cN,r,cN,q1,cN,I9 VW VW,cv,MV VW,cv];refine gZ.of q2 ?_;rw[Pf.ef];simp only[db,Ty.eW];rw[Pf.ef];simp only[db,Ty.eW];omega
  refine hW (λ_=>?_) (λ_=>?_)
  .obtain⟨F,d2,f1,f2,f3⟩:=LA 1 VW q.aip d1 VW h.c w;have D:Hg q.aip F:=⟨f3.err aaB,f3.ty⟩;have S:=D.wt;obtain⟨P,d3,r,o,B⟩:=i d2 _ f2 (h.with D VW);rw[show(1:Int)=((1:Nat):Int)from rfl,f1,cN,A7 VW,cv,r,cN,We VW VW,cv];refine gZ.of o ?_;rw[Pf.ef];simp only[db,Ty.eW];omega
  refine hW (λ_=>?_) (λ_=>?_)
  .obtain⟨P,d2,r,o,B⟩:=i d1 q w h;rw[r,cN];rcases w7 h.v (P:=P) VW with⟨e,he,A⟩|⟨f,l,A,D⟩
   .rw[A,cN,cO (by rw[eN];exact he)];exact J _ o
   .have S:=D.wt;obtain⟨Q,d3,q1,q2,q3⟩:=i d2 _ o (h.with D VW)
    have hw:(Pf.mk 6 0 .z [] [f] [Q]).wt<=200000000:=by rw[Pf.ef];simp only[db,Ty.eW];omega
    rw[A,cN,cS adr];simp only[];rw[A7 VW,cv,q1,cN,We VW VW,cv,I9 VW VW,cv];refine gZ.of q2 ?_;rw[Pf.ef];simp only[db,Ty.eW];rw[Pf.ef];simp only[db,Ty.eW];omega
  refine hW (λ_=>?_) (λ_=>?_)
  .obtain⟨s,d2,s1,s2,C,H⟩:=yf w;obtain⟨P,d3,r,o,B⟩:=i d2 _ H (h.below s2 C VW);rw[s1,cN,h.mkb s,cv,r,cN,F_ VW VW,cv];refine gZ.of o ?_;rw[Pf.ef];simp only[db];omega
  refine hW (λ_=>?_) (λ_=>?_)
  .obtain⟨s,d2,s1,s2,C,H⟩:=yf w;obtain⟨t,d3,t1,t2,t3,t4,t5,t6⟩:=nO VW h.c s2 C H;obtain⟨P,d4,r,o,B⟩:=i d3 _ t2 (h.below s2 C VW)
   have hw:(Pf.mk 8 0 s [] [] [P]).wt<=200000000:=by rw[Pf.ef];simp only[db];omega
   rw[s1,cN,t1,cN,h.mkb s,cv,r,cN,F_ VW VW,cv,QI VW VW,cv];refine gZ.of o ?_;rw[Pf.ef];simp only[db,Ty.eW];rw[Pf.ef];simp only[db];omega
  refine hW (λ_=>?_) (λ_=>?_)
  .--there is a number W is equal to a term
   obtain⟨t,d2,t1,t2,t3,t4,t5,t6⟩:=nO VW h.c Ty.fM aaB w;obtain⟨y,d3,K,M,y3,y4⟩:=jD d2 t2 2 VW VW;obtain⟨a,a1,_⟩:=Rb (a:=5) (b:=7) M y3;obtain⟨b,T,_⟩:=Rb (a:=10) (b:=14) M y3;obtain⟨g1,g2,g3⟩:=Kw t3 t4
   have hr:(Pf.mk 18 0 .z [t] [] []).wt<=3800:=by rw[Pf.ef];simp only[db,Ty.eW];omega
   have D:(Fm.mk a .nat [] [eqv t]).wt<=4000:=by rw[Fm.ef];simp only[db,Ty.gh];omega
   rw[t1,cN,K,cN,c6,a1,cv,Ha t3 VW t4,EO aaB VW,cv,c6,T,cv,tB VW,cv,QQ VW VW VW,cv];refine gZ.of y4 ?_;rw[Pf.ef];simp only[db,Ty.eW];omega
  refine hW (λ_=>?_) (λ_=>?_)
  .obtain⟨P,d2,r,o,B⟩:=i d1 q w h;rw[r,cN];rcases w7 h.v (P:=P) VW with⟨e,he,A⟩|⟨f,l,A,D⟩
   .rw[A,cN,cO (by rw[eN];exact he)];exact J _ o
   .obtain⟨u1,u2⟩:=Bw D N;obtain⟨s,d3,s1,s2,C,H⟩:=yf o;obtain⟨y,d4,K,M,y3,y4⟩:=jD d3 H 2 VW VW;obtain⟨a,a1,_⟩:=Rb (a:=5) (b:=7) M y3;obtain⟨b,T,_⟩:=Rb (a:=10) (b:=14) M y3;obtain⟨t,d5,t1,t2,t3,t4,t5,t6⟩:=nO VW h.c s2 C y4
    have hw:(Fm.mk a s [] [f.up 0 1]).wt<=300000:=by rw[Fm.ef];simp only[db];omega
    rw[A,cN,cS adr,s1,cN,K,cN,c6,a1,cv,u1,cv,EO VW VW,cv,c6,T,cv,t1,cN,QQ VW VW VW,cv];refine gZ.of t2 ?_;rw[Pf.ef];simp only[db,Ty.eW];omega
  refine hW (λ_=>?_) (λ_=>?_)
  .obtain⟨n',rfl⟩:∃n',n=n'+1:=⟨n-1,VW⟩;obtain⟨P,d2,r,o,B⟩:=S4 (n:=n') (k:=m) VW (λd q I h=>ih n' VW m L d q VW VW I h) w h VW VW;rw[r,cN];exact gZ.of o B
  refine hW (λ_=>?_) (λ_=>?_)
  .obtain⟨P,d2,r,o,B⟩:=i d1 q w h;rw[r,cN];rcases w7 h.v (P:=P) VW with⟨e,he,A⟩|⟨f,l,A,D⟩
   .rw[A,cN,cO (by rw[eN];exact he)];exact J _ o
   .obtain⟨u1,u2⟩:=Bw D N;obtain⟨t,d5,t1,t2,t3,t4,t5,t6⟩:=nO VW h.c Ty.fM aaB o
    have hH:(Pf.mk 1 0 .z [] [] []).wt<=10:=aaB
    rw[A,cN,cS adr,u1,cv,t1,cN,show lT 0=some (Pf.mk 1 0 .z [] [] [])from rfl,cv,O0 VW VW VW VW,cv];refine gZ.of t2 ?_;rw[Pf.ef];simp only[db,Ty.eW];omega
  refine hW (λ_=>?_) (λ_=>?_)
  .obtain⟨P,d2,r,o,B⟩:=i d1 q w h;rw[r,cN];rcases w7 h.v (P:=P) VW with⟨e,he,A⟩|⟨f,l,A,D⟩
   .rw[A,cN,cO (by rw[eN];exact he)];exact J _ o
   .obtain⟨u1,u2⟩:=Bw D N;obtain⟨t,d5,t1,t2,t3,t4,t5,t6⟩:=nO VW h.c Ty.nx aaB o
    have hH:(Pf.mk 1 0 .z [] [] []).wt<=10:=aaB
    rw[A,cN,cS adr,u1,cv,fD,cv,t1,cN,show lT 0=some (Pf.mk 1 0 .z [] [] [])from rfl,cv,O0 VW VW VW VW,cv];refine gZ.of t2 ?_;rw[Pf.ef];simp only[db,Ty.eW];omega
  refine hW (λ_=>?_) (λ_=>?_)
  .obtain⟨t,d2,t1,t2,t3,t4,t5,t6⟩:=nO VW h.c Ty.fM aaB w;obtain⟨P,r,o⟩:=M7 t5;rw[t1,cN,r,cv];exact gZ.of t2 VW
  refine hW (λ_=>?_) (λ_=>?_)
  .obtain⟨t,d2,t1,t2,t3,t4,t5,t6⟩:=nO VW h.c Ty.fM aaB w;obtain⟨u,d3,u1,u2,u3,u4,u5,u6⟩:=nO VW h.c Ty.fM aaB t2;have ai:=Tm.FJ u 0 1
   have r1:(Pf.mk 18 0 .z [t] [] []).wt<=3800:=by rw[Pf.ef];simp only[db,Ty.eW];omega
   have r2:(Pf.mk 18 0 .z [u] [] []).wt<=3800:=by rw[Pf.ef];simp only[db,Ty.eW];omega
   have r3:(Fm.mk 1 .z [u.up 0 1,u.up 0 1] []).wt<=8000:=by rw[Fm.ef];simp only[db,Ty.eW];omega
   rw[t1,cN,u1,cN,ye u3 VW VW,cv,cv,F1 VW VW,cv,tB VW,cv,tB VW,cv,ML VW VW VW,cv];refine gZ.of u2 ?_;rw[Pf.ef];simp only[db,Ty.eW];omega
  refine hW (λ_=>?_) (λ_=>?_)
  .obtain⟨s,d2,s1,s2,C,H⟩:=TE w;have hb:=h.below s2 C VW;obtain⟨P,d3,r,o,B⟩:=OT (q:=⟨q.aip++[s],q.ais.map (Fm.up 0 1)⟩) (by show(q.aip++[s]).length<=600;simp;omega) hb.c H
   have hw:(Pf.mk 8 0 s [] [] [P]).wt<=13000:=by rw[Pf.ef];simp only[db];omega
   rw[s1,cN,h.mkb s,cv,r,cN,F_ VW VW,cv,MV VW,cv];refine gZ.of o ?_;rw[Pf.ef];simp only[db,Ty.eW];omega
  refine hW (λ_=>?_) (λ_=>?_)
  .obtain⟨s,d2,s1,s2,C,H⟩:=yf w;obtain⟨P,d3,r,o,B⟩:=i d2 _ H (h.below s2 C VW);rw[s1,cN,h.mkb s,cv,r,cN,F_ VW VW,cv];refine gZ.of o ?_;rw[Pf.ef];simp only[db];omega
  refine hW (λ_=>?_) (λ_=>J _ w)
  .obtain⟨s,d2,s1,s2,C,H⟩:=yf w;obtain⟨t,d3,t1,t2,t3,t4,t5,t6⟩:=nO VW h.c s2 C H;obtain⟨P,d4,r,o,B⟩:=i d3 _ t2 (h.below s2 C VW)
   have hw:(Pf.mk 12 0 s [] [] [P]).wt<=200000000:=by rw[Pf.ef];simp only[db];omega
   rw[s1,cN,t1,cN,h.mkb s,cv,r,cN,F_ VW VW,cv,QI VW VW,cv];refine gZ.of o ?_;rw[Pf.ef];simp only[db,Ty.eW];rw[Pf.ef];simp only[db];omega
def Fm.pD{f:Fm}(h:f.ok=true)(hn:f.ain<=4096):f.err=0:=by
 unfold Fm.err;rw[cS h,cO VW]
def Wi{P:Pf}(hw:P.ok=true)(hs:P.small=true):P.err=if P.ain<=16384 then 0 else 4:=by
 unfold Pf.err;rw[cS hw]
 by_cases h:P.ain<=16384
 .rw[cS ⟨hs,h⟩,cS h]
 .rw[cO (λa=>h a.2),cO h]
theorem kG{P:Pf}(h:P.err=0):P.ok=true/\P.small=true/\P.ain<=16384:=by
 unfold Pf.err at h;cases b:P.ok with
 |false=>rw[b] at h;cases h
 |true=>
  rw[b,cS rfl] at h
  by_cases a:P.small=true/\P.ain<=16384
  .exact⟨rfl,a.1,a.2⟩
  .rw[cO a] at h;cases h
def abJ{t:Tm}(h:t.err=0):t.ok=true/\Qn t=true:=by
 obtain⟨a,b⟩:=Tm.fP h;exact⟨a,by simpa[Qn] using b⟩
def Y6{g:List Ty}{hs L:List Fm}{t:Tm}(h:dH g t .nat)(c:gN g)(hg:g.length<=16)(hn:t.ain<=1000):(Pf.mk 18 0 .z [t] [] []).inf L g hs=.inl (.mk 1 .z [t,t] [],0)/\(Pf.mk 18 0 .z [t] [] []).err=0:=by
 have he:t.err=0:=Tm.pD h.ok VW;have d:(Fm.mk 1 .z [t,t] []).err=0:=Fm.pD (jP.eq h h).ok (by rw[Fm.cQ];simp only[db];omega);constructor
 .rw[Pf.mD,PZ,hI (Ln h c VW)];unfold H9;rw[gf,cS d];cases (Fm.mk 1 .z [t,t] []).has<;>rfl
 .obtain⟨a,b⟩:=abJ he;rw[Wi (by rw[Pf.fX];simp[a,Pf.node,Pf.sig,Ty.pB]) (by rw[Pf.yv];simp[b]),cS (by rw[Pf.cQ];simp only[db];omega)]
def Kq{L:List Fm}{q:Sq}(h:ER L q){P:Pf}(a:P.err=0):UP L q P=P.inf L q.aip q.ais:=by
 unfold UP;rw[hI h.zero,hI a]
structure Rt (L:List Fm) (q:Sq) (P:Pf) (f:Fm) (m:Nat):Prop where
 err:P.err=0
 inf:P.inf L q.aip q.ais=.inl (f,m)
 hg:Hg q.aip f
 wt:P.wt<=50000000
def NS{L:List Fm}{q:Sq}(h:Mq L q){d:dd}(D:d.wf){k:Nat}(A:k<=4):∃P f l j m,uu d L q (k:Int)=some (P,⟨f,l⟩,j)/\j.wf/\Rt L q P f m/\Us l m:=by
 have G:=Re k A;unfold uu;rw[c6]
 obtain⟨o,H,B⟩:=zp (ρ:=Pf×qV×dd) (F:=rI λ(v109:Int) (a:dd)=>
   if(qT v109 4) then(
   cW (h7 FU a L q (k:Int)) λc d134=>
   cW (iC L q c) λn u=>
   if(dj u 0) then(
   some (.ret (c,n,d134)))
   else(some (.next ((dJ .i64 v109 1),d134))))
   else(some (.brk (v109,a))))
  (λs=>0<=s.1/\s.1<=4/\s.2.wf) (λs=>(4-s.1).toNat)
  (λo=>match o with|.inl s=>s.2.wf|.inr r=>∃P f l j m,r=(P,⟨f,l⟩,j)/\j.wf/\Rt L q P f m/\Us l m)
  (by
   rintro⟨i,e⟩ ⟨i1,i2,i3⟩;simp only at i1 i2 i3
   by_cases hi:i<4
   .obtain⟨P,d1,I,C,U⟩:=MZ FU k L e q (by rw[d_];omega) A i3 h;simp only[rI,km,hi,if_true,I,cN];rcases A5 h.v.b (P:=P) VW with⟨e,he,_,_,q3⟩|⟨f,m,l,q1,_,q3,hu,y,_,he⟩
    .left;refine⟨(i+1,d1),?_,⟨?_,?_,C⟩,?_⟩
     .rw[q3,cN,cO (by rw[eN];exact he),dP VW VW]
     .show 0<=i+1;omega
     .show i+1<=4;omega
     .show(4-(i+1)).toNat<(4-i).toNat;omega
    .right;right;refine⟨(P,⟨f,l⟩,d1),?_,P,f,l,d1,m,rfl,C,⟨he,?_,y,VW⟩,hu⟩
     .rw[q3,cN,cS adr]
     .rw[<-Kq h.v he];exact q1
   .right;left
    exact⟨(i,e),by simp only[rI,km,hi,lL],i3⟩)
  FU (0,d) ⟨by show(0:Int)<=0;omega,by show(0:Int)<=4;omega,D⟩ (by show(4-(0:Int)).toNat<FU;rw[d_];omega)
 rw[H];cases o with
 |inr r=>
  obtain⟨P,f,l,j,m,rfl,J,K,M⟩:=B;exact⟨P,f,l,j,m,rfl,J,K,M⟩
 |inl s=>
  obtain⟨i,e⟩:=s;have he:e.wf:=B;obtain⟨x,d1,N,O,V,Q⟩:=jD e he 4 VW VW;obtain⟨t,t1,t2⟩:=zl x O VW;obtain⟨w,hn⟩:=t2 q.aip;have hw:=t.hS w.ok;obtain⟨R,S⟩:=Y6 (L:=L) (hs:=q.ais) w h.v.ctx h.v.nv VW
  have T:(Pf.mk 18 0 .z [t] [] []).wt<=1000:=by rw[Pf.ef];simp only[db,Ty.eW];omega
  rcases A5 h.v.b (P:=Pf.mk 18 0 .z [t] [] []) VW with⟨e,he,q1,_,q3⟩|⟨f,m,l,q1,_,q3,hu,y,_,he⟩
  .rw[Kq h.v S,R] at q1;cases q1
  .rw[cv,dh];simp only[rI];rw[N,cN,t1,cv,tB VW,cv,q3,cN];exact⟨_,f,l,d1,m,rfl,Q,⟨he,by rw[<-Kq h.v he];exact q1,y,VW⟩,hu⟩
def X0{f:Fm}{m:Nat}(h:f.err=0):H9 (.inl (f,m))=.inl (f,if f.has then m else 0):=by
 unfold H9;rw[gf,cS h]
theorem Yi{f:Fm}{m:Nat}(h:f.err≠0):H9 (.inl (f,m))=.inr 4:=by
 unfold H9;rw[gf,cO h]
def ae_:ER [] ⟨[],[]⟩:=⟨aaL,λf h=>by simp at h,λs h=>by simp at h,aaL,aaL,λf h=>by simp at h⟩
noncomputable def F4 (a b:Tm):Int:=@ite Int (a=b) (Classical.propDecidable _) 0 (if(a.norm 1000 0).2.2≠0 then(a.norm 1000 0).2.2 else if(b.norm 1000 0).2.2≠0 then(b.norm 1000 0).2.2 else@ite Int ((a.norm 1000 0).1=(b.norm 1000 0).1) (Classical.propDecidable _) 0 11)
def SD(a:Tm):F4 a a=0:=cS rfl
def X_{a b:Tm}(h:a≠b):F4 a b=if(a.norm 1000 0).2.2≠0 then(a.norm 1000 0).2.2 else if(b.norm 1000 0).2.2≠0 then(b.norm 1000 0).2.2 else@ite Int ((a.norm 1000 0).1=(b.norm 1000 0).1) (Classical.propDecidable _) 0 11:=cO h
def Nm.Yu{a:Tm}(h:Nm a)(b:(a.norm 1000 0).2.2=0):(a.norm 1000 0).1.ok=true/\(a.norm 1000 0).1.ain<=4096:=by
 obtain⟨p,n,e,c⟩:∃p n e,a.norm 1000 0=(p,n,e):=⟨_,_,_,rfl⟩;rw[c] at b|-;have b:e=0:=b;subst b;have:=Fl 1000 536870912 0 a p n VW (Sm.start h.err h.air) (rQ h.err).2 c;exact⟨this.1.ok,this.2⟩
def Eh{a b:Tm}(f:Nm a)(i:Nm b):kn a b 1000=some (F4 a b):=by
 have w:=a.hS (rQ f.err).1;have x:=b.hS (rQ i.err).1;have y:=(rQ f.err).2;have A:=(rQ i.err).2;unfold kn;rw[oK VW,f.err,cv,cO nz,oK VW,i.err,cv,cO nz];obtain⟨r,t,o⟩:=vB (a:=a) (b:=b) VW;rw[t,cv]
 by_cases c:a=b
 .rw[cS (o.2 c),c,SD]
 .rw[cO (λh=>c (o.1 h)),X_ c,f.both.1,i.both.1];obtain⟨p,n,e,u⟩:∃p n e,a.norm 1000 0=(p,n,e):=⟨_,_,_,rfl⟩;obtain⟨s,n',v,l⟩:∃p n e,b.norm 1000 0=(p,n,e):=⟨_,_,_,rfl⟩;have j:=f.Yu;rw[u] at j|-;rw[l,l7];simp only[] at j|-
  by_cases he:e=0
  .subst he;rw[cO nz,cO aaB,l7]
   by_cases d:v=0
   .subst d;rw[cO nz,cO aaB];have B:=p.hS (j rfl).1;have C:=(j rfl).2;obtain⟨q,q1,q2⟩:=vB (a:=p) (b:=s) VW;rw[q1,cv]
    by_cases k:p=s
    .rw[cS (q2.2 k),cS k]
    .rw[cO (λh=>k (q2.1 h)),cO k]
   .rw[cS (by rw[c_];exact d),cS d]
  .rw[cS (by rw[c_];exact he),cS he]
mutual
noncomputable def Fm.JD:Fm->Fm->Int
 |.mk k s ts l,b=>if k≠b.ail\/s.kW b.cT=false then 11 else if eH (List.zipWith F4 ts b.dc)≠0 then eH (List.zipWith F4 ts b.dc)else eH (Fm.RC l b.aim)
noncomputable def Fm.RC:List Fm->List Fm->List Int
 |a::l,b::m=>a.JD b::Fm.RC l m|_,_=>[]
end
def Fm.QG:∀(l m:List Fm),Fm.RC l m=List.zipWith Fm.JD l m
 |[],m=>by rw[Fm.RC];rfl;intros;simp_all|a::l,[]=>by rw[Fm.RC];rfl;intros;simp_all|a::l,b::m=>by rw[Fm.RC,Fm.QG l m];rfl
def Fm.ac3(k k':Int)(s b:Ty)(ts a:List Tm)(l c:List Fm):(Fm.mk k s ts l).JD (.mk k' b a c)=if k≠k'\/s.kW b=false then 11 else if eH (List.zipWith F4 ts a)≠0 then eH (List.zipWith F4 ts a)else eH (List.zipWith Fm.JD l c):=by rw[Fm.JD,Fm.QG];rfl
def Gn{α:Type}{E:α->α->Option Int}{e:α->α->Int}{M:List α}:∀(l:List α) (i:Nat),l.length+i=M.length->(∀x∈l,∀y∈M,E x y=some (e x y))->dF (λ(d:Int) (f:α)=>(λ(_:Unit)=>cM (dg M d) λb=>cM (E f b) λa=>if(dx a 0) then(some (.ret a))else(some ((.next ()):dW Unit Int)))) l i ()=some (if eH (List.zipWith e l (M.drop i))=0 then .inl ()else .inr (eH (List.zipWith e l (M.drop i))))
 |[],i,_,_=>by simp[eH]|x::l,i,n,h=>by
  simp only[kY] at n
  have hi:i<M.length:=VW
  have ih:=Gn (E:=E) (e:=e) (M:=M) l (i+1) VW (λy hy=>h y (by simp[hy]));have o:M.drop i=M[i]::M.drop (i+1):=(Ko hi)
  have q:List.zipWith e (x::l) (M.drop i)=e x M[i]::List.zipWith e l (M.drop (i+1)):=by rw[o];rfl
  rw[q,dB,fV,l5 hi,cv,h x aaL _ (Cy hi),cv]
  by_cases c:e x M[i]=0
  .have j:¬dx (e x M[i]) 0=true:=by rw[c_];simpa using c
   have k:eH (e x M[i]::List.zipWith e l (M.drop (i+1)))=eH (List.zipWith e l (M.drop (i+1))):=by rw[eH,cS c]
   rw[cO j,cv,dR,k];exact ih
  .have j:dx (e x M[i]) 0=true:=by rw[c_];exact c
   have k:eH (e x M[i]::List.zipWith e l (M.drop (i+1)))=e x M[i]:=by rw[eH,cO c]
   rw[cS j,cv,yz,k,cO c]
def Dk:∀(n:Nat) (a b:Fm),a.ain<=n->a.ain<=4096->b.ain<=4096->a.ok=true->b.ok=true->Ry a->Ry b->iL n a b=some (a.JD b):=by
 intro n
 induction n with
 |zero=>intro a b h;have:=a.dr;omega
 |succ n ih=>
  intro a b hn D F S T W X;cases a with
  |mk k s ts l=>
  cases b with
  |mk k' A c H=>
   cases W with
   |mk I J=>
   cases X with
   |mk K L=>
   rw[Fm.cQ] at hn D F;obtain⟨a1,a2,a3⟩:=Fm.pd S;obtain⟨Z,b2,Y⟩:=Fm.pd T;have l1:=Tm.ek ts;have l2:=Fm.ek l;rw[iL,Fm.ac3];refine pz (G:=λo=>o=some (if k≠k'\/s.kW A=false then 11 else if eH (List.zipWith F4 ts c)≠0 then eH (List.zipWith F4 ts c)else eH (List.zipWith Fm.JD l H))) (λv=>v=true↔(k≠k'\/s.kW A=false)) (λv U=>?_) (λj V=>?_)
   .by_cases i:k≠k'\/s.kW A=false
    .rw[cS (U.2 i),cS i]
    .rw[cO (λh=>i (U.1 h)),cO i];have M:k=k':=aeU λh=>i (.inl h);subst M;obtain⟨e1,e2⟩:=Fm.shape S T;show(e_ (dE ts) _:Option Int)=_;rw[c8 VW,cY,c6];show cM (dF (λ(N:Int) (O:Tm)=>(λ(_:Unit)=>cM (dg c N) λq=>cM (kn O q 1000) λd=>if(dx d 0) then(some (.ret d))else(some ((.next ()):dW Unit Int)))) ts 0 ()) _=_;rw[Gn (E:=λx y=>kn x y 1000) (e:=F4) ts 0 VW (λx r y hy=>Eh (I x r) (K y hy)),List.drop_zero]
     by_cases B:eH (List.zipWith F4 ts c)=0
     .rw[cS B,cv,dh,cO (λh=>h B)];show(e_ (dE l) _:Option Int)=_;rw[c8 VW,cY,c6];show cM (dF (λ(t:Int) (u:Fm)=>(λ(_:Unit)=>cM (dg H t) λw=>cM (iL n u w) λf=>if(dx f 0) then(some (.ret f))else(some ((.next ()):dW Unit Int)))) l 0 ()) _=_
      rw[Gn (E:=λx y=>iL n x y) (e:=Fm.JD) l 0 VW (λx r y hy=>by
       have m1:=dk Fm.ain r;have m2:=dk Fm.ain hy
       exact ih x y VW VW VW (a3 x r) (Y y hy) (J x r) (L y hy)),List.drop_zero]
      by_cases P:eH (List.zipWith Fm.JD l H)=0
      .rw[cS P,P];rfl
      .rw[cO P];rfl
     .rw[cO B,cS B];rfl
   .show(if(dx k k') then j true else cM (fN FU s A) λQ=>j (pL Q))=_
    by_cases C:k=k'
    .have R:¬dx k k'=true:=by rw[c_];simpa using C
     rw[cO R,o6 VW,cv];exact V _ (by rw[QP];simp[C])
    .have R:dx k k'=true:=by rw[c_];exact C
     rw[cS R];exact V _ (by simp[C])
def Hg.nmF{g:List Ty}{f:Fm}(h:Hg g f)(hg:g.length<=1000000):Ry f:=Ry.of f h.ain h.ok (h.ty.air _ (by have:=h.ain;omega))
theorem U_{g f:List Ty}{a b:Fm}(c:Hg g a)(d:Hg f b)(h:g.length<=1000000)(i:f.length<=1000000):yZ a b=a.JD b:=by
 have j:=c.wt;have k:=d.wt
 have e:ia a b=some (a.JD b):=by
  unfold ia;rw[kc VW,c.err,cv,cO nz,kc VW,d.err,cv,cO nz,Dk FU a b (by rw[d_];have:=c.ain;omega) c.ain d.ain c.ok d.ok (c.nmF h) (d.nmF i)];rfl
 unfold yZ;rw[e];rfl
def fin(f:Fm)(m:Nat):Nat:=if f.has then m else 0
def jb{r:PR}{f:Fm}{m:Nat}(h:H9 r=.inl (f,m)):∃m0,r=.inl (f,m0)/\f.err=0/\m=fin f m0:=by
 cases r with
 |inr e=>cases h
 |inl p=>
  obtain⟨f0,m0⟩:=p
  by_cases a:f0.err=0
  .rw[X0 a] at h;obtain⟨rfl,rfl⟩:=gy (xr h);exact⟨m0,rfl,a,rfl⟩
  .grind[Yi]
def gw{r:PR}{k:Fm->Nat->PR}{p:Fm×Nat}(h:pbind r k=.inl p):∃f m,r=.inl (f,m)/\k f m=.inl p:=by
 cases r with
 |inr e=>cases h
 |inl q=>exact⟨q.1,q.2,rfl,h⟩
theorem jX{e:Int}{r:PR}{p:Fm×Nat}(h:kh e r=.inl p):e=0/\r=.inl p:=by grind[hI,iY]
def mh{c:Prop}[Decidable c]{e:Int}{r:PR}{p:Fm×Nat}(h:uU c e r=.inl p):¬c/\r=.inl p:=by grind[ki,mC]
def vj{r:PR}{k:Int}{f:Fm}{m:Nat}(h:E2 r k=.inl (f,m)):r=.inl (f,m)/\f.ail=k:=by
 obtain⟨f0,m0,rfl,a⟩:=gw h
 grind
theorem vT{F:Fm}{t:Tm}(h:(mE F t).2=0):mE F t=(Fm.iI 0 F t,0)/\(Fm.iI 0 F t).ain<=4096:=by grind[oO]
def zC{r:PR}{F:Fm}{t:Tm}{f:Fm}{m:Nat}(h:prt r F t=.inl (f,m)):r=.inl (f,m)/\(Fm.iI 0 F t).ain<=4096/\yZ (Fm.iI 0 F t) f=0:=by
 obtain⟨f0,m0,rfl,a⟩:=gw h
 grind[jX,vT]
inductive Dv (L:List Fm):List Ty->List Fm->Pf->Fm->Nat->Prop
 |hyp {g hs i f}:0<=i->i<(hs.length:Int)->hs[hs.length-1-i.toNat]?=some f->Hg g f->Dv L g hs (.mk 1 i .z [] [] []) f 0|E0 {g hs i f}:0<=i->L[i.toNat]?=some f->Hg [] f->Dv L g hs (.mk 2 i .z [] [] []) f 0|HM {g hs a b x y m n}:Dv L g hs a x m->Dv L g hs b y n->Hg g (.mk 2 .z [] [x,y])->Dv L g hs (.mk 3 0 .z [] [] [a,b]) (.mk 2 .z [] [x,y]) (fin (.mk 2 .z [] [x,y]) (m|||n))|Vp {g hs a x y m}:Dv L g hs a (.mk 2 .z [] [x,y]) m->Hg g x->Dv L g hs (.mk 4 0 .z [] [] [a]) x (fin x m)|Vy {g hs a x y m}:Dv L g hs a (.mk 2 .z [] [x,y]) m->Hg g y->Dv L g hs (.mk 5 0 .z [] [] [a]) y (fin y m)|KA {g hs F a y m}:Hg g F->hs.length+1<=16->Dv L g (hs++[F]) a y m->Hg g (.mk 3 .z [] [F,y])->Dv L g hs (.mk 6 0 .z [] [F] [a]) (.mk 3 .z [] [F,y]) (fin (.mk 3 .z [] [F,y]) m)|JX {g hs a b x y f m n}:Dv L g hs a (.mk 3 .z [] [x,y]) m->Dv L g hs b f n->Hg g x->Hg g f->x.JD f=0->Hg g y->Dv L g hs (.mk 7 0 .z [] [] [a,b]) y (fin y (m|||n))|all {g hs k k' s a f m}:(k=8/\k'=4\/k=12/\k'=6/\m.testBit 0=false)->s.err=0->g.length+1<=16->Dv L (g++[s]) (hs.map (Fm.up 0 1)) a f m->Hg g (.mk k' s [] [f])->Dv L g hs (.mk k 0 s [] [] [a]) (.mk k' s [] [f]) (fin (.mk k' s [] [f]) (m/2))|Vz {g hs k k' t s a x m u}:(k=9/\k'=4/\u=m|||rP t\/k=13/\k'=6/\u=m)->dH g t s->t.err=0->Dv L g hs a (.mk k' s [] [x]) m->Hg (g++[s]) x->(Fm.iI 0 x t).ain<=4096->Dv L g hs (.mk k 0 .z [t] [] [a]) (Fm.iI 0 x t) (fin (Fm.iI 0 x t) u)|ex {g hs k k' t s a x f m u}:(k=10/\k'=5/\u=m|||rP t\/k=14/\k'=7/\u=m)->Hg g (.mk k' s [] [x])->dH g t s->t.err=0->Hg (g++[s]) x->Dv L g hs a f m->Hg g f->(Fm.iI 0 x t).ain<=4096->(Fm.iI 0 x t).JD f=0->Dv L g hs (.mk k 0 .z [t] [.mk k' s [] [x]] [a]) (.mk k' s [] [x]) (fin (.mk k' s [] [x]) u)|Vu {g hs k k' s a b x f m n}:(k=11/\k'=5\/k=15/\k'=7/\n.testBit 0=false)->Dv L g hs a (.mk k' s [] [x]) m->s.err=0->g.length+1<=16->hs.length+1<=16->Hg (g++[s]) x->Dv L (g++[s]) (hs.map (Fm.up 0 1)++[x]) b f n->Hg (g++[s]) f->(BI f).2=0->Hg g (BI f).1->Dv L g hs (.mk k 0 .z [] [] [a,b]) (BI f).1 (fin (BI f).1 (m|||n/2))|ind {g hs t F a b x y m n}:Hg (g++[.nat]) F->dH g t .nat->t.err=0->Dv L g hs a x m->Hg g x->(Fm.iI 0 F vy).ain<=4096->(Fm.iI 0 F vy).JD x=0->g.length+1<=16->hs.length+1<=16->Dv L (g++[.nat]) (hs.map (Fm.up 0 1)++[F]) b y n->Hg (g++[.nat]) y->(Fm.iI 0 (F.up 1 1) (i_ v0)).ain<=4096->(Fm.iI 0 (F.up 1 1) (i_ v0)).JD y=0->(Fm.iI 0 F t).ain<=4096->Dv L g hs (.mk 16 0 .z [t] [F] [a,b]) (Fm.iI 0 F t) (fin (Fm.iI 0 F t) ((rP t|||m)|||n/2))|lists {g hs t F a b x y m n}:Hg (g++[.mw]) F->dH g t .mw->t.err=0->Dv L g hs a x m->Hg g x->(Fm.iI 0 F (.mk 7 0 .z [])).ain<=4096->(Fm.iI 0 F (.mk 7 0 .z [])).JD x=0->g.length+2<=16->hs.length+1<=16->Dv L (g++[.nat]++[.mw]) (hs.map (Fm.up 0 2)++[F.up 1 1]) b y n->Hg (g++[.nat]++[.mw]) y->(Fm.iI 0 (F.up 1 2) (.mk 8 0 .z [v1,v0])).ain<=4096->(Fm.iI 0 (F.up 1 2) (.mk 8 0 .z [v1,v0])).JD y=0->(Fm.iI 0 F t).ain<=4096->Dv L g hs (.mk 17 0 .z [t] [F] [a,b]) (Fm.iI 0 F t) (fin (Fm.iI 0 F t) ((rP t|||m)|||n/4))|refl {g hs t}:dH g t .nat->t.err=0->Hg g (.mk 1 .z [t,t] [])->Dv L g hs (.mk 18 0 .z [t] [] []) (.mk 1 .z [t,t] []) 0|subst {g hs F a b t u f m n}:Hg (g++[.nat]) F->Dv L g hs a (.mk 1 .z [t,u] []) m->dH g t .nat->dH g u .nat->t.err=0->u.err=0->Dv L g hs b f n->Hg g f->(Fm.iI 0 F t).ain<=4096->(Fm.iI 0 F t).JD f=0->(Fm.iI 0 F u).ain<=4096->Dv L g hs (.mk 19 0 .z [] [F] [a,b]) (Fm.iI 0 F u) (fin (Fm.iI 0 F u) n)|choice {g hs a s u y m}:Dv L g hs a (.mk 4 s [] [.mk 5 u [] [y]]) m->s.err=0->u.err=0->Hg (g++[s]++[u]) y->(Ty.fn s u).err=0->(Fm.iI 0 (y.up 2 1) (gQ v1 v0)).ain<=4096->Hg g (.mk 5 (.fn s u) [] [.mk 4 s [] [Fm.iI 0 (y.up 2 1) (gQ v1 v0)]])->Dv L g hs (.mk 20 0 .z [] [] [a]) (.mk 5 (.fn s u) [] [.mk 4 s [] [Fm.iI 0 (y.up 2 1) (gQ v1 v0)]]) (fin (.mk 5 (.fn s u) [] [.mk 4 s [] [Fm.iI 0 (y.up 2 1) (gQ v1 v0)]]) m)
def Hk(f:Fm):fin f 0=0:=by grind[fin]
def AG{g c:List Ty}{a b:Fm}(d:Hg g a)(f:Hg c b)(i:g.length<=1000000)(j:c.length<=1000000)(h:yZ a b=0):a.JD b=0:=by grind[U_]
def qq{g:List Ty}{s:Ty}{F:Fm}{t:Tm}(hF:jP (g++[s]) F)(a:dH g t s)(hn:(Fm.iI 0 F t).ain<=4096):Hg g (Fm.iI 0 F t):=⟨Fm.pD (hF.put a).ok hn,hF.put a⟩
def Hg.ahb{g:List Ty}{F:Fm}(h:Hg (g++[.nat]) F):Hg (g++[.nat]++[.nat]) (F.up 1 1):=⟨Bc h.err VW VW,by have:=h.ty.up g [.nat] [.nat] rfl;simpa using this⟩
def Hg.ahs{g:List Ty}{F:Fm}(h:Hg (g++[.mw]) F):Hg (g++[.nat]++[.mw]++[.mw]) (F.up 1 2):=⟨Bc h.err VW VW,by have:=h.ty.up g [.mw] [.nat,.mw] rfl;simpa using this⟩
def Hg.upl{g:List Ty}{F:Fm}(h:Hg (g++[.mw]) F):Hg (g++[.nat]++[.mw]) (F.up 1 1):=⟨Bc h.err VW VW,by have:=h.ty.up g [.mw] [.nat] rfl;simpa using this⟩
def ER.Gu{L:List Fm}{g:List Ty}{hs:List Fm}(h:ER L ⟨g,hs⟩){s:Ty}(a:s.err=0)(hn:g.length+1<=16):ER L ⟨g++[s],hs.map (Fm.up 0 1)⟩:=h.below (l:=[s]) (λx b=>by rw[xV.1 b];exact a) hn
def ER.aaT{L:List Fm}{g:List Ty}{hs:List Fm}(h:ER L ⟨g,hs⟩)(hn:g.length+2<=16):ER L ⟨g++[.nat]++[.mw],hs.map (Fm.up 0 2)⟩:=by
 have:=h.below (l:=[.nat,.mw]) (λx hx=>by
  rcases jr.1 hx with rfl|hx
  .exact Ty.fM
  .rw[xV.1 hx];exact Ty.nx) hn
 grind
def yK{F:Fm}(hF:F.err=0){g:List Ty}(a:gN g)(h:F.uk g=0):Hg g F:=⟨hF,qC F (Fm.fP hF).1 g a h⟩
def Dv.of{L:List Fm}{P:Pf}(hP:yQ P):∀(g:List Ty) (hs:List Fm) (f:Fm) (m:Nat),ER L ⟨g,hs⟩->P.inf L g hs=.inl (f,m)->Dv L g hs P f m/\Hg g f:=by
 induction hP with
 |@hyp i hi=>
  intro g hs f m d h;have G:gN g:=d.ctx;rw[Pf.mD,Z5] at h;obtain⟨m0,o,he,c⟩:=jb h;rw[c];clear h c;have h:=o;clear o;obtain⟨j,H⟩:=mh h;obtain⟨U,rfl⟩:=gy (xr H)
  have O:hs.length-1-i.toNat<hs.length:=VW
  rw[TO,l5 O] at U;have U:hs[hs.length-1-i.toNat]=f:=U;have B:Hg g f:=d.ais f (by rw[<-U];exact Cy O);rw[Hk];exact⟨.hyp hi VW (by rw[l5 O,U]) B,B⟩
 |@E0 i hi=>
  intro g hs f m d h;have G:gN g:=d.ctx;rw[Pf.mD,ZP] at h;obtain⟨m0,o,he,c⟩:=jb h;rw[c];clear h c;have h:=o;clear o;obtain⟨j,H⟩:=mh h;obtain⟨U,rfl⟩:=gy (xr H)
  have O:i.toNat<L.length:=VW
  rw[TO,l5 O] at U;have U:L[i.toNat]=f:=U;have B:Hg [] f:=d.E0 f (by rw[<-U];exact Cy O);rw[Hk];exact⟨.E0 hi (by rw[l5 O,U]) B,he,by simpa using B.ty.front g⟩
 |@HM a b _ _ l I=>
  intro g hs f m d h;have G:gN g:=d.ctx;rw[Pf.mD,T2] at h;obtain⟨m0,o,he,c⟩:=jb h;rw[c];clear h c;have h:=o;clear o;obtain⟨x,n1,j,h⟩:=gw h;obtain⟨y,n2,H,h⟩:=gw h;obtain⟨rfl,rfl⟩:=gy (xr h);obtain⟨C,w⟩:=l g hs x n1 d j;obtain⟨S,tb⟩:=I g hs y n2 d H;have B:Hg g (.mk 2 .z [] [x,y]):=⟨he,.two (.inl rfl) w.ty tb.ty⟩;exact⟨.HM C S B,B⟩
 |@and k a A _ l=>
  intro g hs f m d h;have G:gN g:=d.ctx;rcases A with rfl|rfl
  .rw[Pf.mD,UX] at h;obtain⟨m0,o,he,c⟩:=jb h;rw[c];clear h c;have h:=o;clear o;obtain⟨x,n1,j,h⟩:=gw h;obtain⟨j,A⟩:=vj j;obtain⟨rfl,rfl⟩:=gy (xr h);obtain⟨C,w⟩:=l g hs x n1 d j;obtain⟨x,y,rfl,Q,hy⟩:=w.ty.JI A (.inl rfl);exact⟨.Vp C ⟨he,Q⟩,he,Q⟩
  .rw[Pf.mD,Wy] at h;obtain⟨m0,o,he,c⟩:=jb h;rw[c];clear h c;have h:=o;clear o;obtain⟨x,n1,j,h⟩:=gw h;obtain⟨j,A⟩:=vj j;obtain⟨rfl,rfl⟩:=gy (xr h);obtain⟨C,w⟩:=l g hs x n1 d j;obtain⟨x,y,rfl,Q,hy⟩:=w.ty.JI A (.inl rfl);exact⟨.Vy C ⟨he,hy⟩,he,hy⟩
 |@KA F a hF _ l=>
  intro g hs f m d h;have G:gN g:=d.ctx;rw[Pf.mD,Uw] at h;obtain⟨m0,o,he,c⟩:=jb h;rw[c];clear h c;have h:=o;clear o;obtain⟨K,h⟩:=jX h;obtain⟨hn,h⟩:=mh h;obtain⟨y,n1,j,h⟩:=gw h;obtain⟨rfl,rfl⟩:=gy (xr h);have r:=yK hF G K;obtain⟨C,w⟩:=l g _ y n1 (d.with r (by show hs.length+1<=16;omega)) j;have B:Hg g (.mk 3 .z [] [F,y]):=⟨he,.two (.inr rfl) r.ty w.ty⟩;exact⟨.KA r VW C B,B⟩
 |@JX a b _ _ l I=>
  intro g hs f m d h;have G:gN g:=d.ctx;have T:=d.nv;have T:g.length<=16:=T;rw[Pf.mD,UN] at h;obtain⟨m0,o,he,c⟩:=jb h;rw[c];clear h c;have h:=o;clear o;obtain⟨x,n1,j,h⟩:=gw h;obtain⟨j,A⟩:=vj j;obtain⟨z,n2,H,h⟩:=gw h;obtain⟨hm,h⟩:=jX h;obtain⟨rfl,rfl⟩:=gy (xr h);obtain⟨C,w⟩:=l g hs x n1 d j;obtain⟨S,tb⟩:=I g hs z n2 d H;obtain⟨x,y,rfl,Q,hy⟩:=w.ty.JI A (.inr rfl);have D:=w.sub (x:=x) aaL Q;exact⟨.JX C S D tb (AG D tb VW VW hm) ⟨he,hy⟩,he,hy⟩
 |@all k s a A v _ l=>
  intro g hs f m d h;have G:gN g:=d.ctx;rcases A with rfl|rfl
  .rw[Pf.mD,Vs] at h;obtain⟨m0,o,he,c⟩:=jb h;rw[c];clear h c;have h:=o;clear o;obtain⟨hn,h⟩:=mh h;obtain⟨x,n1,j,h⟩:=gw h;obtain⟨rfl,rfl⟩:=gy (xr h);obtain⟨C,w⟩:=l _ _ x n1 (d.Gu v VW) j;have B:Hg g (.mk 4 s [] [x]):=⟨he,.q (.inl rfl) v w.ty⟩;exact⟨.all (.inl ⟨rfl,rfl⟩) v VW C B,B⟩
  .rw[Pf.mD,Rm] at h;obtain⟨m0,o,he,c⟩:=jb h;rw[c];clear h c;have h:=o;clear o;obtain⟨hn,h⟩:=mh h;obtain⟨x,n1,j,h⟩:=gw h;obtain⟨hb,h⟩:=mh h;obtain⟨rfl,rfl⟩:=gy (xr h);obtain⟨C,w⟩:=l _ _ x n1 (d.Gu v VW) j;have B:Hg g (.mk 6 s [] [x]):=⟨he,.q (.inr (.inr (.inl rfl))) v w.ty⟩;exact⟨.all (.inr ⟨rfl,rfl,by simpa using hb⟩) v VW C B,B⟩
 |@Vz k t a A K _ l=>
  intro g hs f m d h;have G:gN g:=d.ctx
  have key:∀(k':Int) (f:Fm) (m:Nat),(k'=4\/k'=6)->∀u:Nat->Nat,(kh (t.ty g).2 (pbind (E2 (a.inf L g hs) k') λa m=>uU ((t.ty g).1.kW a.cT=false) 7 (kh (mE (a.aim.getD 0 fS) t).2 (.inl ((mE (a.aim.getD 0 fS) t).1,u m)))))=.inl (f,m)->∃s x n,dH g t s/\Dv L g hs a (.mk k' s [] [x]) n/\Hg (g++[s]) x/\(Fm.iI 0 x t).ain<=4096/\f=Fm.iI 0 x t/\m=u n:=by
   intro k' f m ak u h;obtain⟨af,h⟩:=jX h;obtain⟨x,n1,j,h⟩:=gw h;obtain⟨j,A⟩:=vj j;obtain⟨V,h⟩:=mh h;obtain⟨Y,h⟩:=jX h;obtain⟨rfl,rfl⟩:=gy (xr h);obtain⟨C,w⟩:=l g hs x n1 d j;obtain⟨s,y,rfl,v,hy⟩:=w.ty.vt A VW;have ah:=w.sub (x:=y) aaL hy;obtain⟨W,M⟩:=vT Y;rcases uv K G with⟨e,he,q1,_⟩|⟨s1,q1,N,an⟩
   .exact absurd (q1.symm.trans af) he
   .have q1:t.ty g=(s1,0):=q1;rw[q1] at V;have:s1=s:=(Ty.lS _ _).1 (by simpa using V);subst this;have W:mE y t=(Fm.iI 0 y t,0):=W;refine⟨s1,y,n1,N,C,ah,M,?_,rfl⟩;show(mE y t).1=_;rw[W]
  rcases A with rfl|rfl
  .rw[Pf.mD,ZQ] at h;obtain⟨m0,o,he,c⟩:=jb h;rw[c];clear h c;have h:=o;clear o;obtain⟨s,x,n,q1,q2,q3,Z,rfl,rfl⟩:=key 4 _ _ (.inl rfl) (λm=>m|||rP t) h;exact⟨.Vz (.inl ⟨rfl,rfl,rfl⟩) q1 K q2 q3 Z,qq q3.ty q1 Z⟩
  .rw[Pf.mD,Ut] at h;obtain⟨m0,o,he,c⟩:=jb h;rw[c];obtain⟨s,x,n,q1,q2,q3,Z,rfl,rfl⟩:=key 6 _ _ (.inr rfl) (λm=>m) o;exact⟨.Vz (.inr ⟨rfl,rfl,rfl⟩) q1 K q2 q3 Z,qq q3.ty q1 Z⟩
 |@ex k t F a A K hF _ l=>
  intro g hs f m d h;have G:gN g:=d.ctx;have T:g.length<=16:=d.nv
  have key:∀(k':Int) (f:Fm) (m:Nat),(k'=5\/k'=7)->∀u:Nat->Nat,(kh (F.uk g) (uU (F.ail≠k') 10 (kh (t.ty g).2 (uU ((t.ty g).1.kW F.cT=false) 7 (pbind (prt (a.inf L g hs) (F.aim.getD 0 fS) t) λ_ m=>.inl (F,u m))))))=.inl (f,m)->∃s x y n,F=.mk k' s [] [x]/\Hg g F/\dH g t s/\Hg (g++[s]) x/\Dv L g hs a y n/\Hg g y/\(Fm.iI 0 x t).ain<=4096/\(Fm.iI 0 x t).JD y=0/\f=F/\m=u n:=by
   intro k' f m ak u h;obtain⟨N,h⟩:=jX h;obtain⟨A,h⟩:=mh h;obtain⟨af,h⟩:=jX h;obtain⟨V,h⟩:=mh h;obtain⟨y,n,j,h⟩:=gw h;obtain⟨rfl,rfl⟩:=gy (xr h);have r:=yK hF G N;obtain⟨s,x,rfl,v,Q⟩:=r.ty.vt (wK.1 A) VW;have D:=r.sub (x:=x) aaL Q;obtain⟨j,M,hm⟩:=zC j;obtain⟨C,w⟩:=l g hs y n d j;rcases uv K G with⟨e,he,q1,_⟩|⟨s1,q1,ae,an⟩
   .exact absurd (q1.symm.trans af) he
   .rw[q1] at V;have:s1=s:=(Ty.lS _ _).1 (by simpa using V);subst this;exact⟨s1,x,y,n,rfl,r,ae,D,C,w,M,AG (qq Q ae M) w VW VW hm,rfl,rfl⟩
  rcases A with rfl|rfl
  .rw[Pf.mD,VL] at h;obtain⟨m0,o,he,c⟩:=jb h;rw[c];obtain⟨s,x,y,n,rfl,q1,q2,q3,Z,q5,q6,q7,rfl,rfl⟩:=key 5 _ _ (.inl rfl) (λm=>m|||rP t) o;exact⟨.ex (.inl ⟨rfl,rfl,rfl⟩) q1 q2 K q3 Z q5 q6 q7,q1⟩
  .rw[Pf.mD,UM] at h;obtain⟨m0,o,he,c⟩:=jb h;rw[c];obtain⟨s,x,y,n,rfl,q1,q2,q3,Z,q5,q6,q7,rfl,rfl⟩:=key 7 _ _ (.inr rfl) (λm=>m) o;exact⟨.ex (.inr ⟨rfl,rfl,rfl⟩) q1 q2 K q3 Z q5 q6 q7,q1⟩
 |@Vu k a b A _ _ l I=>
  intro g hs f m d h;have G:gN g:=d.ctx;have T:g.length<=16:=d.nv;rcases A with rfl|rfl
  .rw[Pf.mD,LR] at h;obtain⟨m0,o,he,c⟩:=jb h;rw[c];clear h c;obtain⟨x,n1,j,h⟩:=gw o;obtain⟨j,A⟩:=vj j;obtain⟨hn,h⟩:=mh h;obtain⟨y,n2,H,h⟩:=gw h;obtain⟨hw,h⟩:=jX h;obtain⟨rfl,rfl⟩:=gy (xr h);obtain⟨C,w⟩:=l g hs x n1 d j;obtain⟨s,x,rfl,v,Q⟩:=w.ty.vt A (.inr (.inl rfl));have D:=w.sub (x:=x) aaL Q;have R:=(d.Gu v VW).with (f:=x) D (by show(hs.map (Fm.up 0 1)).length+1<=16;simp;omega);obtain⟨S,tb⟩:=I _ _ y n2 R H;have B:Hg g (BI y).1:=⟨he,(K0 tb VW v hw).1⟩;exact⟨.Vu (.inl ⟨rfl,rfl⟩) C v VW VW D S tb hw B,B⟩
  .rw[Pf.mD,Nc] at h;obtain⟨m0,o,he,c⟩:=jb h;rw[c];clear h c;obtain⟨x,n1,j,h⟩:=gw o;obtain⟨j,A⟩:=vj j;obtain⟨hn,h⟩:=mh h;obtain⟨y,n2,H,h⟩:=gw h;obtain⟨hw,h⟩:=jX h;obtain⟨hb,h⟩:=mh h;obtain⟨rfl,rfl⟩:=gy (xr h);obtain⟨C,w⟩:=l g hs x n1 d j;obtain⟨s,x,rfl,v,Q⟩:=w.ty.vt A (.inr (.inr (.inr rfl)));have D:=w.sub (x:=x) aaL Q;have R:=(d.Gu v VW).with (f:=x) D (by show(hs.map (Fm.up 0 1)).length+1<=16;simp;omega);obtain⟨S,tb⟩:=I _ _ y n2 R H;have B:Hg g (BI y).1:=⟨he,(K0 tb VW v hw).1⟩;exact⟨.Vu (.inr ⟨rfl,rfl,by simpa using hb⟩) C v VW VW D S tb hw B,B⟩
 |@ind k t F a b A K hF _ _ l I=>
  intro g hs f m d h;have G:gN g:=d.ctx;have T:g.length<=16:=d.nv;rcases A with rfl|rfl
  .rw[Pf.mD,QT] at h;obtain⟨m0,o,he,c⟩:=jb h;rw[c];clear h c;obtain⟨N,h⟩:=jX o;obtain⟨A,h⟩:=jX h;obtain⟨x,n1,j,h⟩:=gw h;obtain⟨hn,h⟩:=mh h;obtain⟨y,n2,H,h⟩:=gw h;obtain⟨Y,h⟩:=jX h;obtain⟨W,M⟩:=vT Y;rw[W] at h;obtain⟨rfl,rfl⟩:=gy (xr h);have r:=yK hF G.nat N;have J:dH g t .nat:=zx G K (.inl rfl) A;obtain⟨j,a2,a3⟩:=zC j;obtain⟨H,X,b3⟩:=zC H;obtain⟨C,w⟩:=l g hs x n1 d j;have R:=(d.Gu Ty.fM VW).with (f:=F) r (by show(hs.map (Fm.up 0 1)).length+1<=16;simp;omega);obtain⟨S,tb⟩:=I _ _ y n2 R H;have hz:=qq r.ty (t:=vy) .zero a2;have ai:=qq (Hg.ahb r).ty (t:=i_ v0) (.succ va) X;have B:Hg g (Fm.iI 0 F t):=qq r.ty J M;exact⟨.ind r J K C w a2 (AG hz w VW VW a3) VW VW S tb X (AG ai tb acz acz b3) M,B⟩
  .rw[Pf.mD,Rn] at h;obtain⟨m0,o,he,c⟩:=jb h;rw[c];clear h c;obtain⟨N,h⟩:=jX o;obtain⟨A,h⟩:=jX h;obtain⟨x,n1,j,h⟩:=gw h;obtain⟨hn,h⟩:=mh h;obtain⟨y,n2,H,h⟩:=gw h;obtain⟨Y,h⟩:=jX h;obtain⟨W,M⟩:=vT Y;rw[W] at h;obtain⟨rfl,rfl⟩:=gy (xr h);have r:=yK hF G.mw N;have J:dH g t .mw:=zx G K (.inr rfl) A;obtain⟨j,a2,a3⟩:=zC j;obtain⟨H,X,b3⟩:=zC H;obtain⟨C,w⟩:=l g hs x n1 d j;have R:=(d.aaT VW).with (f:=F.up 1 1) (Hg.upl r) (by show(hs.map (Fm.up 0 2)).length+1<=16;simp;omega);obtain⟨S,tb⟩:=I _ _ y n2 R H;have hz:=qq r.ty (t:=.mk 7 0 .z []) .nil a2;have ai:=qq (Hg.ahs r).ty (t:=.mk 8 0 .z [v1,v0]) (.cons GS va) X;have B:Hg g (Fm.iI 0 F t):=qq r.ty J M;exact⟨.lists r J K C w a2 (AG hz w VW VW a3) VW VW S tb X (AG ai tb acz acz b3) M,B⟩
 |@refl t K=>
  intro g hs f m d h;have G:gN g:=d.ctx;rw[Pf.mD,PZ] at h;obtain⟨m0,o,he,c⟩:=jb h;rw[c];clear h c;obtain⟨A,h⟩:=jX o;obtain⟨rfl,rfl⟩:=gy (xr h);have J:dH g t .nat:=zx G K (.inl rfl) A;rw[Hk];exact⟨.refl J K ⟨he,.eq J J⟩,he,.eq J J⟩
 |@subst F a b hF _ _ l I=>
  intro g hs f m d h;have G:gN g:=d.ctx;have T:g.length<=16:=d.nv;rw[Pf.mD,Qy] at h;obtain⟨m0,o,he,c⟩:=jb h;rw[c];clear h c;obtain⟨N,h⟩:=jX o;obtain⟨x,n1,j,h⟩:=gw h;obtain⟨j,A⟩:=vj j;obtain⟨y,n2,H,h⟩:=gw h;obtain⟨Y,h⟩:=jX h;obtain⟨W,M⟩:=vT Y;rw[W] at h;obtain⟨rfl,rfl⟩:=gy (xr h);have r:=yK hF G.nat N;obtain⟨C,w⟩:=l g hs x n1 d j;obtain⟨t,u,rfl,K,hu⟩:=w.ty.aae A;have hn:=w.ain;rw[Fm.cQ] at hn;simp only[db] at hn;obtain⟨H,X,b3⟩:=zC H;obtain⟨S,tb⟩:=I g hs y n2 d H;have X:(Fm.iI 0 F t).ain<=4096:=X;have b3:yZ (Fm.iI 0 F t) y=0:=b3;have M:(Fm.iI 0 F u).ain<=4096:=M;have B:Hg g (Fm.iI 0 F u):=qq r.ty hu M;show Dv L g hs _ (Fm.iI 0 F u) (fin (Fm.iI 0 F u) n2)/\Hg g (Fm.iI 0 F u);exact⟨.subst r C K hu (Tm.pD K.ok VW) (Tm.pD hu.ok VW) S tb X (AG (qq r.ty K X) tb VW VW b3) M,B⟩
 |@choice a _ l=>
  intro g hs f m d h;have G:gN g:=d.ctx;rw[Pf.mD,Mg] at h;obtain⟨m0,o,he,c⟩:=jb h;rw[c];clear h c;obtain⟨x,n1,j,h⟩:=gw o;obtain⟨j,A⟩:=vj j;obtain⟨h5,h⟩:=mh h;obtain⟨ad,h⟩:=mh h;obtain⟨Y,h⟩:=mh h;obtain⟨W,M⟩:=vT (wK.1 Y);rw[W] at h;obtain⟨rfl,rfl⟩:=gy (xr h);obtain⟨C,w⟩:=l g hs x n1 d j;obtain⟨s,x,rfl,v,Q⟩:=w.ty.vt A (.inl rfl);have D:=w.sub (x:=x) aaL Q;obtain⟨u,y,rfl,ao,hy⟩:=Q.vt (wK.1 h5) (.inr (.inl rfl));have ah:=D.sub (x:=y) aaL hy;have M:(Fm.iI 0 (y.up 2 1) (gQ v1 v0)).ain<=4096:=M;have ad:(Ty.fn s u).err=0:=wK.1 ad
  have aq:jP (g++[.fn s u]++[s]++[u]) (y.up 2 1):=by
   have:=hy.up g [s,u] [.fn s u] aaL;simpa using this
  have ar:dH (g++[.fn s u]++[s]) (gQ v1 v0) u:=.app GS va;have B:Hg g (.mk 5 (.fn s u) [] [.mk 4 s [] [Fm.iI 0 (y.up 2 1) (gQ v1 v0)]]):=⟨he,.q (.inr (.inl rfl)) ad (.q (.inl rfl) v (aq.put ar))⟩;exact⟨.choice C v ao ah ad M B,B⟩
def vrs(k:Int)(i:Nat):Nat:=if k=8\/k=12 then 1 else if k=11\/k=15\/k=16 then i else if k=17 then 2*i else 0
def mot(k:Int):Nat:=if k=16\/k=17\/k=19 then 1 else 0
mutual
def Pf.air(m:Int):Pf->Bool
 |.mk _ _ _ ts a l=>ts.all (Tm.air m)&&a.all (Fm.air m)&&Pf.s9 m l
def Pf.s9(m:Int):List Pf->Bool
 |[]=>true|p::l=>p.air m&&Pf.s9 m l
end
def Uy{g:List Ty}{f:Fm}(b:gN g)(hg:g.length<=16)(a:Hg g f):Fh f g=0:=by
 unfold Fh;rw[Bv b hg,cO aaB,cO (λh=>h a.err)];exact Bp a.ty b (by have:=a.ain;omega)
end Go.eU
namespace Go.eU
open Go
section
variable{G G':List Ty} {ψ:Tm->Int->Tm}
def Fc(k:Int)(i:Nat):Nat:=if k=6 then 1 else if k=11\/k=15\/k=16\/k=17 then i else 0
mutual
def Pf.E6(ψ:Tm->Int->Tm)(η:Nat->Nat->Int->Pf):Nat->Nat->Pf->Pf
 |d,h,.mk k i s ts a l=>if k=1 then η d h i else .mk k i s (ts.map λt=>ψ t d) (a.map λf=>f.E6 ψ ((d+mot k:Nat):Int)) (Pf.afp ψ η k 0 d h l)
def Pf.afp(ψ:Tm->Int->Tm)(η:Nat->Nat->Int->Pf)(k:Int):Nat->Nat->Nat->List Pf->List Pf
 |_,_,_,[]=>[]|i,d,h,p::l=>p.E6 ψ η (d+vrs k i) (h+Fc k i)::Pf.afp ψ η k (i+1) d h l
end
def Pf.Ws(P:Pf):Prop:=P.ok=true/\P.small=true
def Dv.hg{L:List Fm}{g:List Ty}{hs:List Fm}{P:Pf}{f:Fm}{m:Nat}(h:Dv L g hs P f m):Hg g f:=by
 cases h with
 |hyp _ _ _ h=>exact h|E0 _ _ h=>exact⟨h.err,by simpa using h.ty.front g⟩|HM _ _ h=>exact h|Vp _ h=>exact h|Vy _ h=>exact h|KA _ _ _ h=>exact h|JX _ _ _ _ _ h=>exact h|all _ _ _ _ h=>exact h|Vz _ a _ _ b hn=>exact qq b.ty a hn|ex _ h=>exact h|Vu _ _ _ _ _ _ _ _ _ h=>exact h|ind hF a _ _ _ _ _ _ _ _ _ _ _ hn=>exact qq hF.ty a hn|lists hF a _ _ _ _ _ _ _ _ _ _ _ hn=>exact qq hF.ty a hn|refl _ _ h=>exact h|subst hF _ _ hu _ _ _ _ _ _ hn=>exact qq hF.ty hu hn|choice _ _ _ _ _ _ h=>exact h
end
end Go.eU
namespace Go.eU
open Go
def Pf.Ws.parts{k i:Int}{s:Ty}{ts:List Tm}{c:List Fm}{l:List Pf}(h:(Pf.mk k i s ts c l).Ws):(∀t∈ts,t.err=0)/\(∀f∈c,f.err=0)/\∀p∈l,p.Ws:=by
 obtain⟨a,b⟩:=h;rw[Pf.fX] at a;rw[Pf.yv] at b;simp only[fI,jY] at a b;refine⟨λt j=>Tm.pD (a.1.1.2 t j) ?_,λf n=>Fm.pD (a.1.2 f n) ?_,λp d=>⟨a.2 p d,b.2 p d⟩⟩
 .grind[Qn]
 .grind[TC]
end Go.eU
namespace Go.eU
open Go
section
variable{L:List Fm} {g:List Ty} {hs:List Fm}
end
end Go.eU
namespace Go.eU
open Go
end Go.eU
set_option maxRecDepth 20000
namespace Go.eU
open Go
def Dv.more{L:List Fm}(y:List Fm){g:List Ty}{hs:List Fm}{P:Pf}{f:Fm}{m:Nat}(h:Dv L g hs P f m):Dv (L++y) g hs P f m:=by
 induction h with
 |hyp s k l n=>exact .hyp s k l n|@E0 g hs i f s k l=>
  have:=(mI.1 k).1;exact .E0 s (by rw[tz this];exact k) l
 |HM _ _ n i1 i2=>exact .HM i1 i2 n|Vp _ h i1=>exact .Vp i1 h|Vy _ h i1=>exact .Vy i1 h|KA hF o _ hy i1=>exact .KA hF o i1 hy|JX _ _ b a hm hy i1 i2=>exact .JX i1 i2 b a hm hy|all q c o _ a i1=>exact .all q c o i1 a|Vz q d he _ b hn i1=>exact .Vz q d he i1 b hn|ex q hF d j b _ a hn hm i1=>exact .ex q hF d j b i1 a hn hm|Vu q _ c o r b _ a t A i1 i2=>exact .Vu q i1 c o r b i2 a t A|ind hF d j _ b k l o r _ hy n u v i1 i2=>exact .ind hF d j i1 b k l o r i2 hy n u v|lists hF d j _ b k l o r _ hy n u v i1 i2=>exact .lists hF d j i1 b k l o r i2 hy n u v|refl d he a=>exact .refl d he a|subst hF _ d hu het w _ a k l n i1 i2=>exact .subst hF i1 d hu het w i2 a k l n|choice _ c hu hy x hn a i1=>exact .choice i1 c hu hy x hn a
mutual
def ow:Pf->List (Int×Bool)->List (Int×Bool)
 |.mk k i _ _ _ l,acc=>ql l (if k=2 then(if 0<=i then nN acc i true else acc)else acc)
def ql:List Pf->List (Int×Bool)->List (Int×Bool)
 |[],acc=>acc|p::l,acc=>ql l (ow p acc)
end
mutual
def Dc:∀(p:Pf) (acc:List (Int×Bool)),(ow p acc).length<=acc.length+p.wt
 |.mk k i s ts a l,acc=>by
  rw[ow,Pf.ef];refine zS (FP l _) ?_
  split
  .split
   .have:=Cb i true acc;omega
   .omega
  .omega
def FP:∀(l:List Pf) (acc:List (Int×Bool)),(ql l acc).length<=acc.length+db Pf.wt l
 |[],acc=>by simp[ql]|p::l,acc=>by
  rw[ql,db];have a:=Dc p acc;have b:=FP l (ow p acc);omega
end
def xp{k i:Int}{s:Ty}{ts:List Tm}{b:List Fm}{a:Pf}{acc:List (Int×Bool)}(c:k≠2):ow (.mk k i s ts b [a]) acc=ow a acc:=by
 rw[ow,cO c,ql,ql]
def zD{k i:Int}{s:Ty}{ts:List Tm}{c:List Fm}{a b:Pf}{acc:List (Int×Bool)}(d:k≠2):ow (.mk k i s ts c [a,b]) acc=ow b (ow a acc):=by
 rw[ow,cO d,ql,ql,ql]
def NG{k i:Int}{s:Ty}{ts:List Tm}{a:List Fm}{acc:List (Int×Bool)}(b:k≠2):ow (.mk k i s ts a []) acc=acc:=by
 rw[ow,cO b,ql]
def Dv.ahG{L:List Fm}{g:List Ty}{hs:List Fm}{P:Pf}{f:Fm}{m:Nat}(h:Dv L g hs P f m):∀(acc:List (Int×Bool)) (u:Int),u∈gG (ow P acc)->u∈gG acc\/0<=u/\u<(L.length:Int):=by
 have two:∀{a b:Pf} {acc:List (Int×Bool)} {u:Int},(∀(acc:List (Int×Bool)) (u:Int),u∈gG (ow a acc)->u∈gG acc\/0<=u/\u<(L.length:Int))->(∀(acc:List (Int×Bool)) (u:Int),u∈gG (ow b acc)->u∈gG acc\/0<=u/\u<(L.length:Int))->u∈gG (ow b (ow a acc))->u∈gG acc\/0<=u/\u<(L.length:Int):=λi1 i2 hu=>by
  rcases i2 _ _ hu with h|h
  .exact i1 _ _ h
  .exact .inr h
 induction h with
 |hyp _ _ _ _=>intro acc u hu;rw[NG aaB] at hu;exact .inl hu
 |@E0 g hs i f d j k=>
  intro acc u hu;have:=(mI.1 j).1;rw[ow,cS rfl,cS d,ql] at hu;rcases(wN _ _ _ _).1 hu with h|h
  .exact .inr VW
  .exact .inl h
 |HM _ _ _ i1 i2=>intro acc u hu;rw[zD aaB] at hu;exact two i1 i2 hu
 |Vp _ _ i1=>intro acc u hu;rw[xp aaB] at hu;exact i1 _ _ hu
 |Vy _ _ i1=>intro acc u hu;rw[xp aaB] at hu;exact i1 _ _ hu
 |KA _ _ _ _ i1=>intro acc u hu;rw[xp aaB] at hu;exact i1 _ _ hu
 |JX _ _ _ _ _ _ i1 i2=>intro acc u hu;rw[zD aaB] at hu;exact two i1 i2 hu
 |all c _ _ _ _ i1=>intro acc u hu;rw[xp VW] at hu;exact i1 _ _ hu
 |Vz c _ _ _ _ _ i1=>intro acc u hu;rw[xp VW] at hu;exact i1 _ _ hu
 |ex c _ _ _ _ _ _ _ _ i1=>intro acc u hu;rw[xp VW] at hu;exact i1 _ _ hu
 |Vu c _ _ _ _ _ _ _ _ _ i1 i2=>intro acc u hu;rw[zD VW] at hu;exact two i1 i2 hu
 |ind _ _ _ _ _ _ _ _ _ _ _ _ _ _ i1 i2=>intro acc u hu;rw[zD aaB] at hu;exact two i1 i2 hu
 |lists _ _ _ _ _ _ _ _ _ _ _ _ _ _ i1 i2=>intro acc u hu;rw[zD aaB] at hu;exact two i1 i2 hu
 |refl _ _ _=>intro acc u hu;rw[NG aaB] at hu;exact .inl hu
 |subst _ _ _ _ _ _ _ _ _ _ _ i1 i2=>intro acc u hu;rw[zD aaB] at hu;exact two i1 i2 hu
 |choice _ _ _ _ _ _ _ i1=>intro acc u hu;rw[xp aaB] at hu;exact i1 _ _ hu
def CK{α ρ:Type}:∀(l:List α) (i:Nat),dF (λ(_:Int) (_:α) (_:Unit)=>(some (.next ()):Option (dW Unit ρ))) l i ()=some (.inl ())
 |[],i=>rfl|x::l,i=>by rw[dB];exact CK l _
def YF:∀(n:Nat) (p:Pf) (o:dI) (s:List (Int×Bool)),p.wt<=n->p.wt<=1000000000->kz n p o u7 s=some (ow p s):=by
 intro n
 induction n with
 |zero=>intro p o s h;have:=p.gM;omega
 |succ n ih=>
  intro p o s hn H;cases p with
  |mk k i y ts C l=>
   rw[Pf.ef] at hn H;have I:=fR Tm.wt ts λt _=>t.gM;have J:=fR Fm.wt C λt _=>t.gM;have K:=fR Pf.wt l λt _=>t.gM
   have loop:∀(x:dS) (r:List Pf) (j:Nat) (s:List (Int×Bool)),(∀q∈r,q∈l)->dF (ρ:=List (Int×Bool)) (λ(u:Int) (w:Pf)=>(λ(A:List (Int×Bool))=>
     cM (ld o x u) λa=>cM (kz n w a u7 A) λc=>some (.next c))) r j s=some (.inl (ql r s)):=by
    intro x r
    induction r with
    |nil=>intro j s _;rfl|cons q r L=>
     intro j s f;have:=dk Pf.wt (f q aaL);obtain⟨z,M⟩:∃z,ld o x (j:Int)=some z:=⟨_,rfl⟩;rw[dB,M,cv,ih q _ s VW VW,cv,ql];exact L _ _ λq N=>f q (by simp[N])
   have main:∀(x:dS) (s:List (Int×Bool)),(e_ (dE ts)<|de (λ(_:Int) (_:Tm)=>(λ(_:Unit)=>some (.next ())):Int->Tm->Unit->Option (dW Unit (List (Int×Bool)))) λD=>
     cM (dF D ts 0 ()) (eB (λ(_:Unit)=>e_ (dE C)<|de (λ(_:Int) (_:Fm)=>(λ(_:Unit)=>some (.next ())):Int->Fm->Unit->Option (dW Unit (List (Int×Bool)))) λF=>
     cM (dF F C 0 ()) (eB (λ(_:Unit)=>e_ (dE l)<|de (λ(u:Int) (w:Pf)=>(λ(A:List (Int×Bool))=>
     cM (ld o x u) λa=>cM (kz n w a u7 A) λc=>some (.next c)):Int->Pf->List (Int×Bool)->Option (dW (List (Int×Bool)) (List (Int×Bool)))) λG=>
     cM (dF G l 0 s) (eB (λv=>some v) (λr=>some r))) (λr=>some r))) (λr=>some r)))=some (ql l s):=λx s=>by
    rw[c8 VW,cY,c6,CK,cv,dh,c8 VW,cY,c6,CK,cv,dh,c8 VW,cY,c6,loop x l 0 s (λq h=>h),cv,dh]
   obtain⟨x,b,f,O⟩:∃x b,lb k=some (x,b)/\(k=2->x.aio=true):=by
    by_cases d:k=2
    .subst d;exact⟨_,_,rfl,λ_=>rfl⟩
    .rcases JP k with⟨_,r,f⟩|⟨_,_,_,_,_,r,_,f,_⟩
     .exact⟨r,_,f,λh=>absurd h d⟩
     .exact⟨r,_,f,λh=>absurd h d⟩
   rw[kz,ow];show cW (lb k) _=_;rw[f,cN,c6]
   by_cases d:k=2
   .rw[cS (O d),cS d,u7,cS (by rw[eN];exact d),sn]
    by_cases B:0<=i
    .rw[cS B,cS (by rw[gK];exact B),cv];exact main x _
    .rw[cO B,cO (by rw[gK];exact B),cv];exact main x _
   .rw[cO d]
    split
    .rw[u7,cO (by rw[eN];exact d),cv];exact main x _
    .exact main x _
def MJ{x y:Int}:∀l:List Int,y∈EP x l->y=x\/y∈l
 |[],h=>by simp[EP] at h;exact .inl h
 |z::l,h=>by
  rw[EP] at h
  split at h
  .simpa using h
  .rcases jr.1 h with h|h
   .exact .inr (by simp[h])
   .rcases MJ l h with h|h
    .exact .inl h
    .exact .inr (by simp[h])
def Js{y:Int}:∀l:List Int,y∈sy l->y∈l
 |[],h=>by simp[sy] at h
 |x::l,h=>by
  rcases MJ _ h with h|h
  .simp[h]
  .exact acS _ (Js l h)
def My(x:Int):∀l:List Int,(EP x l).length=l.length+1
 |[]=>rfl|y::l=>by rw[EP];split<;>simp[My x l]
def Ji:∀l:List Int,(sy l).length=l.length
 |[]=>rfl|x::l=>by show(EP x (sy l)).length=_;rw[My,Ji l];rfl
def Dv.Qv{L:List Fm}{g:List Ty}{hs:List Fm}{P:Pf}{f:Fm}{m:Nat}(h:Dv L g hs P f m)(hw:P.wt<=1000000000)(he:P.err=0)(c:L.length<=1000):∃us,mm P=some (us,0)/\us.length<=1000000000/\∀u∈us,0<=u/\u<(L.length:Int):=by
 have hm:∀u∈gG (ow P []),0<=u/\u<(L.length:Int):=λu hu=>(h.ahG [] u hu).resolve_left (by simp[gG])
 have a:LH (ow P [])=true:=by
  have:=Dc P [];unfold LH;rw[c8 (by simp at this;omega),yg,jY];intro p b;have:=hm p.1 (nw.2 ⟨p,b,rfl⟩);simp;omega
 refine⟨sy (gG (ow P [])),?_,?_,λu hu=>hm u (Js _ hu)⟩
 .rw[mm,yn hw,he,cv,cO nz,YF FU P _ _ (by rw[d_];omega) hw,cv,a,cY];rfl
 .rw[Ji,gG,yA];have:=Dc P [];simp at this;omega
def abD:xj=some true:=by decide+kernel
end Go.eU
set_option maxRecDepth 20000
set_option maxHeartbeats 1000000
namespace Go.eU
open Go
def nmT(i:Nat):ByteArray:=En [conv .u8 (dJ .i64 97 i)]
def Uj:∀i<10,tS (nmT i)=some true:=by decide+kernel
def TH:∀i<10,∀j<10,seq (nmT i) (nmT j)=decide (i=j):=by decide+kernel
structure DcR (l:List iz) (i:Nat) (d:iz):Prop where
 nm:d.name=nmT i
 fm:Hg [] d.cU
 pf:d.proof.err=0
 pw:d.proof.wt<=1000000000
 dv:∃m,Dv ((l.take i).map iz.cU) [] [] d.proof d.cU m
structure qs (l:List iz):Prop where
 len:l.length<=9
 all:∀i d,l[i]?=some d->DcR l i d
def Ps{α:Type}{f:Unit->α->Option (Bool×Unit)}:∀(l:List α) (i:Nat),(∀x∈l,f () x=some (false,()))->dF (ρ:=Int×Unit) (λ(j:Int) (x:α)=>(λ(v:Unit)=>cW (f v x) λa b=>if a then some (.ret (j,b))else some (.next b))) l i ()=some (.inl ())
 |[],_,_=>rfl|x::l,i,h=>by
  rw[dB,h x aaL,cN,cO aaB];exact Ps l _ λy hy=>h y (by simp[hy])
def Vf{l:List iz}{f:Unit->iz->Option (Bool×Unit)}(a:l.length<=1000000000)(h:∀x∈l,f () x=some (false,())):eD l f ()=some (false,()):=by
 rw[eD,ft,c8 VW,cY,c6,Ps l 0 h,cv,dh];rfl
def Wt{l:List Int}{f:Unit->Int->Option (Bool×Unit)}(a:l.length<=1000000000)(h:∀x∈l,f () x=some (false,())):g_ l f ()=some (false,()):=by
 rw[g_,kf,c8 VW,cY,c6,Ps l 0 h,cv,dh];rfl
def XA{l:List iz}(h:qs l){i:Nat}{d:iz}(a:l[i]?=some d):oR l (i:Int)=some 0:=by
 have n:=h.len;have hi:=(mI.1 a).1;have r:=h.all i d a;obtain⟨m,dv⟩:=r.dv;have hw:=r.fm.wt;obtain⟨us,e,ul,hu⟩:=dv.Qv r.pw r.pf acz
 rw[oR,fV,a,cv,c6,r.nm,Uj i VW,cv,cS rfl,show ru l 0 (i:Int)=some (l.take i) by
  unfold ru;simp;omega,cv,Vf acz (λx b=>by
  obtain⟨j,c,e⟩:=List.getElem_of_mem b;rw[xS] at c;have f:=h.all j x (by rw[l5 VW,<-e];simp);rw[sk,r.nm,f.nm,TH j VW i VW,show decide (j=i)=false by simp;omega]
  rfl),cN]
 show(if false then _ else _)=_
 rw[cO aaB,r5 VW aaL (λt k=>by simp at k),Uy (λs hs=>by simp at hs) aaL r.fm,cv,cO nz,e,cN,cO nz,Wt ul (λu h=>by
  have:=hu u h;simp only[yA,xS] at this;rw[sm,show og u (i:Int)=false by rw[Nb,ne_eq,gK];omega]
  rfl),cN,cO aaB]
def Kd{k i:Int}{s:Ty}{ts:List Tm}{a:List Fm}{l:List Pf}(h:(Pf.mk k i s ts a l).err=0){p:Pf}(b:p∈l):p.err=0:=by
 obtain⟨c,d,f⟩:=kG h;obtain⟨_,_,wp⟩:=Pf.Ws.parts (⟨c,d⟩:(Pf.mk k i s ts a l).Ws);obtain⟨j,n⟩:=wp p b;rw[Pf.cQ] at f;have:=dk Pf.ain b;unfold Pf.err;rw[cS j,cS ⟨n,VW⟩]
def LC{k:Int}{s:Ty}{ts:List Tm}{l:List Fm}(h:(Fm.mk k s ts l).err=0){f:Fm}(a:f∈l):f.err=0:=by
 obtain⟨b,c⟩:=Fm.fP h;obtain⟨_,_,d⟩:=Fm.pd b;rw[Fm.cQ] at c;have:=dk Fm.ain a;exact Fm.pD (d f a) VW
def aeD{P Q:Pf}(a:P.wt<=1000000000)(b:Q.wt<=1000000000):jV 3 [P,Q]=some (.mk 3 0 .z [] [] [P,Q]):=by
 unfold jV
 rw[c8 aaL,cY,c6,gP id [P,Q] 0 [] aaL (λj x v hx c=>by
  have:x.wt<=1000000000:=by
   rcases jr.1 hx with rfl|hx
   .exact a
   .rw[xV.1 hx];exact b
  rw[vz FU x (by rw[d_];omega) this,cv,dT (by simpa using c),cY,fu];rfl)]
 rfl
def Yt{a b:Fm}(c:a.wt<=1000000000)(d:b.wt<=1000000000):kb 2 a b=some (.mk 2 .z [] [a,b]):=by
 unfold kb;rw[je c,cv,je d,cv];rfl
structure Lk (l:List iz) (P:Pf) (f:Fm) (n:Nat):Prop where
 pw:P.wt<=50000000+1000*n
 fw:f.wt<=300000+300000*n
 dv:P.err=0->f.err=0->∃m,Dv (l.map iz.cU) [] [] P f m
def Lk.join{l:List iz}(b:qs l){P:Pf}{f:Fm}{n:Nat}(h:Lk l P f n){i:Nat}{d:iz}(a:l[i]?=some d):Lk l (.mk 3 0 .z [] [] [P,.mk 2 (i:Int) .z [] [] []]) (.mk 2 .z [] [f,d.cU]) (n+1):=by
 have q:=b.all i d a;have hw:=q.fm.wt;have hi:=(mI.1 a).1;have s:=b.len;refine⟨?_,?_,λj c=>?_⟩
 .have:=h.pw;rw[Pf.ef];simp only[db,Pf.ef]
  have k:Ty.z.ain=1:=aaB
  have:(i:Int).toNat=i:=aaL
  omega
 .have:=h.fw;rw[Fm.ef];simp only[db]
  have k:Ty.z.ain=1:=aaB
  omega
 .have o:f.err=0:=LC c aaL;obtain⟨m,dv⟩:=h.dv (Kd j aaL) o
  have r:(l.map iz.cU)[i]?=some d.cU:=by simp[a]
  have dl:Dv (l.map iz.cU) [] [] (.mk 2 (i:Int) .z [] [] []) d.cU 0:=.E0 VW (by simpa using r) q.fm;exact⟨_,.HM dv dl ⟨c,.two (.inl rfl) dv.hg.ty q.fm.ty⟩⟩
def TX(l:List iz)(i:Int):Int×Int×Int×Int×(List Ty)×(List Tm)×(List Fm)×(List Pf)×Int×Int×(List Ty)×(List Tm)×(List Fm)×dd->Option (dW (Int×Int×Int×Int×(List Ty)×(List Tm)×(List Fm)×(List Pf)×Int×Int×(List Ty)×(List Tm)×(List Fm)×dd) (sJ×dd)):=
 Ve λ(c:Int) (d:Int) (f:Int) (h:Int) (j:List Ty) (k:List Tm) (n:List Fm) (o:List Pf) (q:Int) (r:Int) (s:List Ty) (t:List Tm) (u:List Fm) (v:dd)=>
 if(en (ly c 0) (ly i 0) false) then(
 cW (et v i) λw x=>
 cM (jV 3 [(Pf.mk d f (Ty.mk h j) k n o),(Pf.mk 2 w (Ty.mk 0 []) [] [] [])]) λa=>
 cM (dg l w) λy=>
 cM (kb 2 (Fm.mk q (Ty.mk r s) t u) y.cU) λb=>
 some (.next ((ea .i64 c 1),a.ail,a.aio,a.cT.ail,a.cT.aim,a.dc,a.eh,a.aim,b.ail,b.cT.ail,b.cT.aim,b.dc,b.aim,x)))
 else(some (.brk (c,d,f,h,j,k,n,o,q,r,s,t,u,v)))
def VX{l:List iz}(o:qs l):∀(c:Nat) (n:Nat) (P:Pf) (f:Fm) (d:dd) (fuel:Nat),c<fuel->c+n<=3->Lk l P f n->d.wf->∃r a b i,nk (TX l (l.length:Int)) fuel ((c:Int),P.ail,P.aio,P.cT.ail,P.cT.aim,P.dc,P.eh,P.aim,f.ail,f.cT.ail,f.cT.aim,f.dc,f.aim,d)=some (.inl (r,a.ail,a.aio,a.cT.ail,a.cT.aim,a.dc,a.eh,a.aim,b.ail,b.cT.ail,b.cT.aim,b.dc,b.aim,i))/\Lk l a b 3/\i.wf:=by
 intro c
 induction c with
 |zero=>
  intro n P f d fuel t hn h j;obtain⟨m,rfl⟩:∃m,fuel=m+1:=⟨fuel-1,VW⟩;refine⟨0,P,f,d,?_,⟨by have:=h.pw;omega,by have:=h.fw;omega,h.dv⟩,j⟩;rw[j2];unfold TX;rw[zI,cO (show¬en (ly ((0:Nat):Int) 0) _ false=true fromλh=>by cases h),cv,Np];rfl
 |succ c ih=>
  intro n P f d fuel t hn h j;obtain⟨m,rfl⟩:∃m,fuel=m+1:=⟨fuel-1,VW⟩;have B:=o.len;have u:=h.pw;have v:=h.fw
  by_cases w:l.length=0
  .refine⟨((c+1:Nat):Int),P,f,d,?_,⟨VW,VW,h.dv⟩,j⟩;rw[j2];unfold TX;rw[zI,cO (by rw[w];show¬en (ly ((c+1:Nat):Int) 0) false false=true;cases ly ((c+1:Nat):Int) 0<;>decide),cv,Np]
  .obtain⟨k,d1,x,C,D,A⟩:=jD d j (l.length:Int) VW VW;obtain⟨k,rfl⟩:∃y:Nat,k=y:=⟨k.toNat,VW⟩;have s:l[k]?=some l[k]:=l5 VW;have q:=o.all k _ s;have F:=q.fm.wt;obtain⟨r,a,b,i,g1,g2,g3⟩:=ih (n+1) _ _ d1 m VW VW (h.join o s) A;refine⟨r,a,b,i,?_,g2,g3⟩;rw[j2];unfold TX;rw[zI,cS (by rw[show ly ((c+1:Nat):Int) 0=true by rw[fx];omega,show ly (l.length:Int) 0=true by rw[fx];omega];rfl),x,cN];simp only[Ty.hX,Pf.hX,Fm.hX]
   have G:(Ty.mk 0 []).ain=1:=aaB
   have H:(k:Int).toNat=k:=aaL
   rw[aeD VW (by rw[Pf.ef];simp only[db];omega),cv,fV,s,cv,Yt VW VW,cv,cv,dR];rw[show ea .i64 ((c+1:Nat):Int) 1=(c:Int) by rw[ep VW VW];omega];exact g1
def qs.add{l:List iz}(j:qs l)(r:l.length<=8){P:Pf}{f:Fm}{n:Nat}(h:Lk l P f n)(hn:n<=3)(c:P.err=0)(k:f.err=0):qs (l++[⟨nmT l.length,f,P⟩]):=by
 obtain⟨m,dv⟩:=h.dv c k;have o:=h.pw;refine⟨acz,λi d a=>?_⟩
 by_cases hi:i<l.length
 .rw[tz hi] at a;have q:=j.all i d a;refine⟨q.nm,q.fm,q.pf,q.pw,?_⟩;rw[acs VW];exact q.dv
 .have b:=(mI.1 a).1;rw[rF,List.length_singleton] at b
  obtain rfl:i=l.length:=VW
  rw[xT (gO _)] at a;simp at a;subst a;refine⟨rfl,dv.hg,c,by show P.wt<=_;omega,m,?_⟩;rw[acs (gO _),abt];exact dv
def qs.nil:qs []:=⟨aaL,λi d h=>by simp at h⟩
def mqV:Mq [] ⟨[],[]⟩:=⟨ae_,⟨λs hs=>by simp at hs⟩⟩
def Vh{d:dd}(hd:d.wf):∃l d',ss d=some (⟨l⟩,d')/\d'.wf/\qs l:=by
 unfold ss;rw[c6]
 obtain⟨o,ho,hq⟩:=zp (ρ:=sJ×dd) (F:=X5 λ(b:Int) (h:List iz) (L:dd)=>
   cW (et L 4) λM I=>
   if(qT b (dJ .i64 2 M)) then(
   gX (uu I [] (Sq.mk [] []) 1) λa j N=>
   cW (et N 3) λO Q=>
   de (TX h b) λR=>
   cM (nk R FU (O,a.ail,a.aio,a.cT.ail,a.cT.aim,a.dc,a.eh,a.aim,j.cU.ail,j.cU.cT.ail,j.cU.cT.aim,j.cU.dc,j.cU.aim,Q)) (eB (Ve λ(W:Int) (n:Int) (q:Int) (t:Int) (u:List Ty) (v:List Tm) (w:List Fm) (A:List Pf) (B:Int) (C:Int) (D:List Ty) (G:List Tm) (H:List Fm) (J:dd)=>
   de (λ(S:Bool)=>
   if S then(
   some (.ret ((sJ.mk h),J)))
   else(e_ (eI h [(iz.mk (En [(conv .u8 (dJ .i64 97 b))]) (Fm.mk B (Ty.mk C D) G H) (Pf.mk n q (Ty.mk t u) v w A))])<|some (.next ((dJ .i64 b 1),(fk h [(iz.mk (En [(conv .u8 (dJ .i64 97 b))]) (Fm.mk B (Ty.mk C D) G H) (Pf.mk n q (Ty.mk t u) v w A))]),J)))) λK=>
   cM (iH (Fm.mk B (Ty.mk C D) G H)) λT=>
   if(dx T 0) then(
   K true)
   else(cM (np (Pf.mk n q (Ty.mk t u) v w A)) λU=>
   K (dx U 0))) (λr=>some (.ret r))))
   else(some (.brk (b,h,I))))
  (λs=>s.1=(s.2.1.length:Int)/\s.2.1.length<=5/\qs s.2.1/\s.2.2.wf) (λs=>6-s.2.1.length)
  (λo=>match o with|.inl s=>s.2.2.wf/\qs s.2.1|.inr r=>r.2.wf/\qs r.1.dO)
  (by
   rintro⟨i,l,e⟩ ⟨h1,h2,V,h4⟩;simp only at h1 h2 V h4;subst h1;obtain⟨x,d1,x1,x2,x3,x4⟩:=jD e h4 4 VW VW;rw[Hi,x1,cN,dP VW VW]
   by_cases hc:(l.length:Int)<2+x
   .obtain⟨P,f,us,d2,m,y1,y2,y3,y4⟩:=NS mqV x4 (k:=1) VW;obtain⟨c,d3,z1,z2,z3,z4⟩:=jD d2 y2 3 VW VW;obtain⟨c,rfl⟩:∃y:Nat,c=y:=⟨c.toNat,VW⟩;have af:=y3.hg.wt;have ah:=y3.wt
    have lk:Lk l P f 0:=⟨VW,VW,λ_ _=>⟨m,by
     have:=((Dv.of (Pf.aav y3.err).1 [] [] f m ae_ y3.inf).1).more (l.map iz.cU)
     simpa using this⟩⟩
    obtain⟨c',P',f',d4,w1,X,Y⟩:=VX V c 0 P f d3 FU (by rw[d_];omega) VW lk z4;have ad:=X.pw;have ae:=X.fw;rw[cS (by rw[km];exact hc),show uu d1 [] (Sq.mk [] []) 1=_ from y1,l7,z1,cN,c6,w1,cv,dh,zI,c6];simp only[Ty.hX,Pf.hX,Fm.hX];rw[ky VW,cv]
    by_cases Z:f'.err=0
    .rw[cO (by rw[c_];simpa using Z),uf VW,cv]
     by_cases e2:P'.err=0
     .left;refine⟨((l.length:Int)+1,l++[⟨nmT l.length,f',P'⟩],d4),?_,⟨?_,?_,V.add VW X VW e2 Z,Y⟩,?_⟩
      .rw[cO (by rw[c_];simpa using e2),dT acz,cY,fu,dP VW VW];rfl
      .simp
      .show(l++[_]).length<=5;simp;omega
      .show 6-(l++[_]).length<6-l.length;simp;omega
     .right;right;exact⟨_,by rw[cS (by rw[c_];exact e2)],Y,V⟩
    .right;right;exact⟨_,by rw[cS (by rw[c_];exact Z),cS trivial],Y,V⟩
   .right;left
    exact⟨_,by rw[cO (by rw[km];exact hc)],x4,V⟩)
  FU (0,[],d) ⟨rfl,aaL,qs.nil,hd⟩ (by rw[d_];simp)
 cases o with
 |inl s=>refine⟨s.2.1,s.2.2,?_,hq⟩;erw [ho];rfl|inr r=>refine⟨r.1.dO,r.2,?_,hq⟩;erw [ho];rfl
end Go.eU
set_option maxRecDepth 20000
namespace Go.eU
open Go
inductive RA (U:List (List Int)):Nat->Nat->Prop
 |refl (i:Nat):RA U i i|step {i u m:Nat} {l:List Int}:U[i]?=some l->(u:Int)∈l->RA U u m->RA U i m
def Bef(U:List (List Int)):Prop:=∀(i:Nat) (l:List Int),U[i]?=some l->l.length<=1000000000/\∀u∈l,0<=u/\u<(i:Int)
def RA.trans{U:List (List Int)}{i j m:Nat}(h:RA U i j)(a:RA U j m):RA U i m:=by
 induction h with
 |refl=>exact a|step b c _ ih=>exact .step b c (ih a)
def Fq{v:List Bool}{i m:Nat}(hi:i<v.length):(v.set i true)[m]?=some true↔v[m]?=some true\/m=i:=by
 rw[List.getElem?_set]
 by_cases h:i=m
 .subst h;simp[hi]
 .rw[cO h];exact⟨.inl,λa=>a.resolve_right λe=>h e.symm⟩
def SH{U:List (List Int)}(C:Bef U):∀(i:Nat) (n:Nat) (v:List Bool),i<n->i<U.length->v.length=U.length->(∀j,j<=i->v[j]?=some true->∀m,RA U j m->v[m]?=some true)->∃w,iM U n (i:Int) v=some w/\w.length=v.length/\∀m:Nat,w[m]?=some true↔v[m]?=some true\/RA U i m:=by
 intro i
 induction i using Nat.strongRecOn with
 |_ i ih=>
  intro n v hn hi H D;obtain⟨n,rfl⟩:∃k,n=k+1:=⟨n-1,VW⟩;have F:=l5 (l:=v) (i:=i) VW;have q:=l5 (l:=U) (i:=i) hi;rw[iM,fV,F,cv]
  by_cases d:v[i]' VW=true
  .rw[cS d];refine⟨v,rfl,rfl,λm=>⟨.inl,λh=>h.elim id λh=>D i (gO _) (by rw[F,d]) m h⟩⟩
  .rw[cO d,fV,q,cv,c8 (by have:=(C i _ q).1;omega),cY,c6]
   have loop:∀(r:List Int) (j:Nat) (s:List Bool),(∀u∈r,u∈U[i])->s.length=U.length->(∀j,j<i->s[j]?=some true->∀m,RA U j m->s[m]?=some true)->∃w,dF (ρ:=List Bool) (λ(_:Int) (x:Int)=>(λ(v:List Bool)=>cM (iM U n x v) λs=>some (.next s))) r j s=some (.inl w)/\w.length=U.length/\∀m:Nat,w[m]?=some true↔s[m]?=some true\/∃u:Nat,(u:Int)∈r/\RA U u m:=by
    intro r
    induction r with
    |nil=>intro j s _ hs _;exact⟨s,rfl,hs,λm=>by simp⟩|cons x r I=>
     intro j s G hs t;have P:=(C i _ q).2 x (G x aaL);obtain⟨u,rfl⟩:∃u:Nat,x=u:=⟨x.toNat,VW⟩;obtain⟨J,K,Q,A⟩:=ih u VW n s VW VW hs λj B=>t j VW
     obtain⟨L,M,N,O⟩:=I (j+1) J (λy hy=>G y (by simp[hy])) VW λj B f m hm=>by
      rcases(A j).1 f with h|h
      .exact(A m).2 (.inl (t j B h m hm))
      .exact(A m).2 (.inr (h.trans hm))
     refine⟨L,?_,N,λm=>?_⟩
     .rw[dB,K,cv];exact M
     .rw[O m,A m];constructor
      .rintro((h|h)|⟨y,hy,h⟩)
       .exact .inl h
       .exact .inr ⟨u,aaL,h⟩
       .exact .inr ⟨y,by simp[hy],h⟩
      .rintro(h|⟨y,hy,h⟩)
       .exact .inl (.inl h)
       .rcases jr.1 hy with hy|hy
        .obtain rfl:y=u:=VW
         exact .inl (.inr h)
        .exact .inr ⟨y,hy,h⟩
   have o:i<v.length:=VW
   obtain⟨w,e,lw,hw⟩:=loop U[i] 0 (v.set i true) (λu hu=>hu) (by rw[Po];exact H) λj B f m hm=>by
    rcases(Fq o).1 f with h|h
    .exact(Fq o).2 (.inl (D j VW h m hm))
    .omega
   refine⟨w,?_,VW,λm=>?_⟩
   .rw[show((i:Int)).toNat=i by simp,e,cv,dh]
   .rw[hw m,Fq o];constructor
    .rintro((h|h)|⟨u,hu,h⟩)
     .exact .inl h
     .rw[h];exact .inr (.refl i)
     .exact .inr (.step q hu h)
    .rintro(h|h)
     .exact .inl (.inl h)
     .cases h with
      |refl=>exact .inl (.inr rfl)|step a b c=>
       rw[q] at a;obtain rfl:=fQ a;exact .inr ⟨_,b,c⟩
def marks:List Bool->Nat->List Int
 |[],_=>[]|b::r,j=>if b then(j:Int)::marks r (j+1)else marks r (j+1)
def Dx:∀(r:List Bool) (j:Nat) (x:Int),x∈marks r j↔∃m:Nat,r[m]?=some true/\x=((j+m:Nat):Int)
 |[],j,x=>by simp[marks]|b::r,j,x=>by
  have e:x∈marks (b::r) j↔(b=true/\x=(j:Int))\/x∈marks r (j+1):=by
   rw[marks];split<;>simp_all
  rw[e,Dx r (j+1) x];constructor
  .rintro(⟨h,a⟩|⟨m,h,a⟩)
   .exact⟨0,by simp[h],by simpa using a⟩
   .exact⟨m+1,by simpa using h,by rw[a];congr 1;omega⟩
  .rintro⟨m,h,a⟩;cases m with
   |zero=>exact .inl ⟨by simpa using h,by simpa using a⟩|succ m=>exact .inr ⟨m,by simpa using h,by rw[a];congr 1;omega⟩
def w5:∀(r:List Bool) (j:Nat),(marks r j).Pairwise (· < ·)
 |[],_=>.nil|b::r,j=>by
  rw[marks]
  split
  .refine Yx.2 ⟨λx a=>?_,w5 r (j+1)⟩;obtain⟨m,_,e⟩:=(Dx r (j+1) x).1 a;omega
  .exact w5 r (j+1)
def Ja:∀(r:List Bool) (j:Nat),(marks r j).length<=r.length
 |[],_=>gO _|b::r,j=>by
  rw[marks];have:=Ja r (j+1)
  split<;>simp<;>omega
def Md{t:sJ}{U:List (List Int)}(hu:oL t=some (U,0))(f:Bef U)(n:U.length<=1000){k:Nat}(i:k<U.length):∃L:List Int,l8 t (k:Int)=some (L,0)/\L.Pairwise (· < ·)/\L.length<=1000/\∀x:Int,x∈L↔∃m:Nat,RA U k m/\x=(m:Int):=by
 have a:∀j:Nat,(List.replicate U.length false)[j]?≠some true:=λj h=>by
  have:=CO h;simp at this
 obtain⟨w,e,lw,hw⟩:=SH f k FU (List.replicate U.length false) (by rw[d_];omega) i aaL (λj _ h=>absurd h (a j))
 have l:w.length=U.length:=by rw[lw];simp
 have loop:∀(r:List Bool) (j:Nat) (s:List Int),s.length+r.length<=1000000->dF (ρ:=List Int×Int) (λ(j:Int) (x:Bool)=>(λ(s:List Int)=>if x then(e_ (eI s [j])<|some (.next (fk s [j])))else some (.next s))) r j s=some (.inl (s++marks r j)):=by
  intro r
  induction r with
  |nil=>intro j s _;rw[marks,uF];rfl|cons b r d=>
   intro j s hs;simp only[kY] at hs;rw[dB,marks]
   by_cases c:b=true
   .rw[cS c,cS c,show eI s [(j:Int)]=true by unfold eI lim;simp;omega,cY];show dF _ r (j+1) (s++[(j:Int)])=_;rw[d (j+1) _ acz,s6];rfl
   .rw[cO c,cO c];exact d (j+1) s VW
 refine⟨marks w 0,?_,w5 w 0,zS (Ja w 0) VW,λx=>?_⟩
 .rw[l8,hu,cN,cO nz,cO (by simp only[qT,og,ee,en];simp;omega),c8 VW,cY,e,cv,c8 VW,cY,c6,loop w 0 [] acz,cv,dh,od]
 .rw[Dx];constructor
  .rintro⟨m,h,e⟩;exact⟨m,((hw m).1 h).resolve_left (a m),by rw[e];simp⟩
  .rintro⟨m,h,e⟩;exact⟨m,(hw m).2 (.inr h),by rw[e];simp⟩
def ZW{l:List iz}{j:Nat}{d:iz}{r:List iz}(a:l.drop j=d::r):l[j]?=some d/\l.drop (j+1)=r:=by
 refine⟨?_,by rw[<-List.drop_drop,a];rfl⟩;have:=Sx (xs:=l) (i:=j) (j:=0);rw[a] at this;simpa using this.symm
def SB{l:List iz}(h:qs l):pT ⟨l⟩=some 0:=by
 have k:=h.len
 have loop:∀(r:List iz) (j:Nat),l.drop j=r->dF (ρ:=Int) (λ(b:Int) (_:iz)=>(λ(_:Unit)=>
   cM (oR l b) λa=>if(dx a 0) then some (.ret a)else some (.next ()))) r j ()=some (.inl ()):=by
  intro r
  induction r with
  |nil=>intro j _;rfl|cons d r ih=>
   intro j c;obtain⟨f,i⟩:=ZW c;rw[dB,XA h f,cv,cO nz];exact ih (j+1) i
 rw[pT,cO (by show¬ly (dp l) 32=true;rw[ee,fx];omega),c8 (by show l.length<=_;omega),cY,c6];show cM (dF _ l 0 ()) _=_;rw[loop l 0 rfl];rfl
def YY{l:List iz}(h:qs l):∃U,oL ⟨l⟩=some (U,0)/\U.length=l.length/\Bef U:=by
 have C:=h.len
 have loop:∀(r:List iz) (j:Nat) (s:List (List Int)),l.drop j=r->s.length=j->Bef s->∃U,dF (ρ:=List (List Int)×Int) (λ(_:Int) (c:iz)=>(λ(v80:List (List Int))=>
   cW (mm c.proof) λb _=>e_ (eI v80 [b])<|some (.next (fk v80 [b])))) r j s=some (.inl U)/\U.length=j+r.length/\Bef U:=by
  intro r
  induction r with
  |nil=>intro j s _ hs f;exact⟨s,rfl,by simpa using hs,f⟩|cons d r ih=>
   intro j s t hs f;obtain⟨o,v⟩:=ZW t;have hi:=(mI.1 o).1;have q:=h.all j d o;obtain⟨m,dv⟩:=q.dv;obtain⟨us,e,ul,hu⟩:=dv.Qv q.pw q.pf acz
   obtain⟨U,w,y,k⟩:=ih (j+1) (s++[us]) v (by simp[hs]) λi x a=>by
    rw[List.getElem?_append] at a
    split at a
    .exact f i x a
    .rename_i A
     have n:i-s.length=0:=by
      have:=(mI.1 a).1;simp at this;omega
     rw[n] at a
     obtain rfl:us=x:=by simpa using a
     have B:i=j:=VW
     refine⟨ul,λu h=>?_⟩;have:=hu u h;simp only[yA,xS] at this;omega
   refine⟨U,?_,by rw[y];simp;omega,k⟩;rw[dB,e,cN,show eI s [us]=true by unfold eI lim;simp;omega,cY];exact w
 obtain⟨U,e,D,k⟩:=loop l 0 [] rfl rfl (λi x a=>by simp at a);refine⟨U,?_,VW,k⟩;rw[oL,SB h,cv,cO nz,c8 (by show l.length<=_;omega),cY,c6];show cM (dF _ l 0 []) _=_;rw[e];rfl
end Go.eU
set_option maxRecDepth 20000
set_option maxHeartbeats 1000000
namespace Go.eU
open Go
structure Gc (m:List (Int×Bool)) (S:Int->Prop):Prop where
 nd:(gG m).Nodup
 tr:∀p∈m,p.2=true
 mem:∀x,x∈gG m↔S x
def I3:∀(m:List (Int×Bool)) (k:Int),(∀p∈m,p.2=true)->∀p∈nN m k true,p.2=true
 |[],k,_,p,a=>by rw[nN] at a;rw[xV.1 a]
 |q::m,k,h,p,a=>by
  rw[nN] at a
  split at a
  .rcases jr.1 a with e|e
   .rw[e]
   .exact h p aaQ
  .rcases jr.1 a with e|e
   .exact h p aaQ
   .exact I3 m k (λp a=>h p (by simp[a])) p e
theorem Gc.put{m:List (Int×Bool)}{S:Int->Prop}(h:Gc m S)(k:Int):Gc (nN m k true) λx=>x=k\/S x:=
 ⟨xc k true m h.nd,I3 m k h.tr,λx=>by rw[wN,h.mem]⟩
def Gc.to{m:List (Int×Bool)}{S a:Int->Prop}(h:Gc m S)(e:∀x,S x↔a x):Gc m a:=⟨h.nd,h.tr,λx=>(h.mem x).trans (e x)⟩
def Ju:∀(m:List (Int×Bool)) (k:Int),(∀p∈m,p.2=true)->k∈gG m->D1 m k false=true
 |[],k,_,a=>by simp[gG] at a
 |p::m,k,h,a=>by
  unfold D1;rw[Qh]
  by_cases e:p.1=k
  .rw[cS e];exact h p aaL
  .rw[cO e];refine Ju m k (λp b=>h p (by simp[b])) ?_;rcases jr.1 a with e'|e'
   .exact absurd e'.symm e
   .exact e'
def Y0(S:Int->Prop):∀(r:List Int) (j:Nat) (m:List (Int×Bool)),Gc m S->∃a,dF (ρ:=Bool) (λ(_:Int) (x:Int)=>(λ(v:List (Int×Bool))=>some (.next (nN v x true)))) r j m=some (.inl a)/\Gc a λx=>S x\/x∈r:=by
 intro r
 induction r generalizing S with
 |nil=>intro j m h;exact⟨m,rfl,h.to λx=>by simp⟩|cons x r ih=>
  intro j m h;obtain⟨a,e,b⟩:=ih (λy=>y=x\/S y) (j+1) (nN m x true) (h.put x);refine⟨a,by rw[dB];exact e,b.to λy=>?_⟩;constructor
  .rintro((h|h)|h)
   .exact .inr (by simp[h])
   .exact .inl h
   .exact .inr (by simp[h])
  .rintro(h|h)
   .exact .inl (.inr h)
   .rcases jr.1 h with h|h
    .exact .inl (.inl h)
    .exact .inr h
def EF(a0:List Int)(a1:Int)(X:0<=a1)(h1:a1<=255):om a0 a1=some true:=by
 unfold om;rw[abD,cv,cS rfl,SA,cv]
 by_cases R:a0.length<=500
 .rw[cS (vF R),show Pl a0=some ⟨a0,0⟩from rfl,cv];obtain⟨l,d',K,_,B⟩:=Vh (d:=⟨a0,0⟩) (acW a0 VW);rw[K,cN];have h9:=B.len;show(if dj (dp l) 0 then _ else _)=_
  by_cases Y:l.length=0
  .rw[cS (by rw[eN,ee];omega)]
  rw[cO (by rw[eN,ee];omega)]
  have M:conv .i64 a1=a1:=by unfold conv;exact BW VW VW
  obtain⟨k,N⟩:∃k:Nat,yw .i64 a1 (dp l)=k:=⟨(a1.tmod (l.length:Int)).toNat,by
   unfold yw;rw[ee];exact(Int.toNat_of_nonneg (Int.tmod_nonneg _ X)).symm⟩
  have Z:k<l.length:=by
   have:=aeO a1 (show(0:Int)<(l.length:Int) by omega);unfold yw at N;rw[ee] at N;omega
  obtain⟨U,O,lU,P⟩:=YY B;obtain⟨L,eL,sL,nL,mL⟩:=Md O P VW (k:=k) VW;simp only[M,N];rw[show Bu (dp l)=true by simp[Bu,ee,show l≠[] fromλh=>Y (by rw[h];rfl)],cY,O,cN,eL,cN,cO (by simp[dx,ee,kP];omega),fV,l5 VW,cv];have A:=l5 (l:=U) (i:=k) VW;have Q:=P k _ A;rw[c8 VW,cY,c6]
  have loop:∀(r:List Int) (j:Nat) (m:List (Int×Bool)) (S:Int->Prop),(∀u∈r,u∈U[k])->Gc m S->∃T,dF (ρ:=Bool) (λ(V:Int) (o:Int)=>(λ(v228:List (Int×Bool))=>
    cW (l8 ⟨l⟩ o) λq C=>if(en (dx C 0) true (og o (k:Int))) then some (.ret false)else(e_ (dE q)<|de (λ(W:Int) (D:Int)=>(λ(f:List (Int×Bool))=>some (.next (nN f D true))):Int->Int->List (Int×Bool)->Option (dW (List (Int×Bool)) Bool)) λG=>
    cM (dF G q 0 v228) (eB (λ(f:List (Int×Bool))=>some (.next f)) (λr=>some (.ret r)))))) r j m=some (.inl T)/\Gc T λx=>S x\/∃u m:Nat,(u:Int)∈r/\RA U u m/\x=(m:Int):=by
   intro r
   induction r with
   |nil=>intro j m S _ h;exact⟨m,rfl,h.to λx=>by simp⟩|cons x r ih=>
    intro j m S B h;have J:=Q.2 x (B x aaL);obtain⟨u,rfl⟩:∃u:Nat,x=u:=⟨x.toNat,VW⟩;obtain⟨L1,K,_,n1,m1⟩:=Md O P VW (k:=u) VW;obtain⟨m2,e2,h2⟩:=Y0 S L1 0 m h;obtain⟨m3,M,h3⟩:=ih (j+1) m2 _ (λy hy=>B y (by simp[hy])) h2;refine⟨m3,?_,h3.to λy=>?_⟩
    .rw[dB,K,cN,cO (by simp[dx,og,kP];omega),c8 VW,cY,c6,e2,cv,dh];exact M
    .rw[m1];constructor
     .rintro((h|⟨m,a,b⟩)|⟨v,m,a,b,c⟩)
      .exact .inl h
      .exact .inr ⟨u,m,aaL,a,b⟩
      .exact .inr ⟨v,m,by simp[a],b,c⟩
     .rintro(h|⟨v,m,a,b,c⟩)
      .exact .inl (.inl h)
      .rcases jr.1 a with a|a
       .obtain rfl:v=u:=VW
        exact .inl (.inr ⟨m,b,c⟩)
       .exact .inr ⟨v,m,a,b,c⟩
  obtain⟨m,em,hm⟩:=loop U[k] 0 (nN [] (k:Int) true) (λx=>x=(k:Int)) (λu h=>h) ⟨by simp[nN,gG],by simp[nN],by simp[nN,gG]⟩
  have hm:Gc m λx=>x∈L:=hm.to λx=>by
   rw[mL];constructor
   .rintro(h|⟨u,m,a,b,c⟩)
    .exact⟨k,.refl k,h⟩
    .exact⟨m,.step A a b,c⟩
   .rintro⟨m,h,e⟩;cases h with
    |refl=>exact .inl e|step a b c=>
     rw[A] at a;obtain rfl:=fQ a;exact .inr ⟨_,m,b,c,e⟩
  show cM (dF _ U[k] 0 _) _=_;rw[em,cv,dh,c8 VW,cY,c6]
  obtain⟨s',e4,_⟩:=Mi (ρ:=Bool) (F:=λ(t:Int) (w:Int)=>(λ(_:Unit)=>de (λ(H:Bool)=>if H then some (.ret false)else some (.next ())) λn=>
    if(D1 m w false) then(if(ly t 0) then(cM (dg L (ea .i64 t 1)) λI=>n (og I w))else n false)else n true)) (λ_=>True) L 0 () trivial (λi x s J _=>by
   refine⟨(),?_,trivial⟩;rw[c6,cS (Ju m x hm.tr ((hm.mem x).2 (CO J))),tH];have hi:=(mI.1 J).1
   by_cases c:i=0
   .rw[cO (by simp[ly,c])];rfl
   .rw[cS (by simp[ly];omega),ep VW VW,show((i:Int)-1)=((i-1:Nat):Int) by omega,fV,l5 VW,cv,show og L[i-1] x=false by
      have:=List.pairwise_iff_getElem.1 sL (i-1) i VW hi VW;have e:=(mI.1 J).2;rw[e] at this
      simp[og];omega]
    rfl)
  rw[e4,cv,dh,FH,cN];have hp:(gG m).Perm L:=(List.perm_ext_iff_of_nodup hm.nd (sL.imp λh=>by omega)).2 hm.mem;have:=hp.length_eq;rw[gG,yA] at this;rw[show dj (m.length:Int) (dp L)=true by rw[eN,ee];omega]
 .rw[cO (by simpa using R)]
end Go.eU
