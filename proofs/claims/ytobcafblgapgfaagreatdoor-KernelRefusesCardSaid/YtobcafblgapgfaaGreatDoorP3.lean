/- Part of the proof of KernelRefuses: plain facts. -/
import Derived.Test.YtobcafblgapgfaaGreatDoorP2
set_option linter.all false
namespace Go.gV
open Go
def Us.Pp{l:List Int}{m:Nat}(h:Us l m)(x:Int):x∈l↔0<=x/\m.testBit x.toNat=true:=by
 constructor
 ·intro b;have a:=h.pos x b;refine⟨a,(h.mem x.toNat).1 ?_⟩
  rwa [T_ a]
 ·rintro⟨a,c⟩;have:=(h.mem x.toNat).2 c
  rwa [T_ a] at this
def Us.ext{l a:List Int}{m:Nat}(h:Us l m)(b:Us a m):l=a:=ES.eq h.YG b.YG λx=>by rw[h.Pp,b.Pp]
def S0{k q m:Nat}(hm:m=2^(k+1)*q+2^k)(j:Nat):(m&&&(m-1)).testBit j=(m.testBit j&&!decide (j=k)):=by
 have c:2^k<2^(k+1):=I9 (by decide) (by omega);have d:0<2^k:=Nat.two_pow_pos k
 have e:m-1=2^(k+1)*q+(2^k-1):=by omega
 rw[Nat.testBit_and,e,hm,RE _ c,RE _ (by omega)]
 by_cases a:j<k+1
 ·rw[ee a,ee a,aaF,Nat.testBit_two_pow_sub_one]
  by_cases b:j=k
  ·simp[b]
  ·rw[DA (show¬k=j by omega)];simp
 ·rw[ea a,ea a,DA (show¬j=k by omega)];simp
def T6{a:Int}{l:List Int}{m:Nat}(h:Us (a::l) m):m≠0/\((Lib.ctz 32 m:Nat):Int)=a/\Us l (m&&&(m-1)):=by
 have s:=h.pos a (by simp);obtain⟨k,rfl⟩:∃k:Nat,a=k:=⟨a.toNat,by omega⟩;have d:m.testBit k=true:=(h.mem k).1 (by simp)
 have f:m≠0:=by rintro rfl;simp at d
 cases h.YG with
 |cons s1 s2=>
  have g:∀i,i<k->m.testBit i=false:=λi hi=>by
   rw[RH];intro t;rcases l7.1 ((h.mem i).2 t)with e|e
   ·omega
   ·have:=s1 _ e;omega
  have n:Lib.ctz 32 m=Lib.ctzFrom 32 m:=by unfold Lib.ctz;rw[ea f]
  obtain⟨q,p,_⟩:=Lib.ctzFrom_spec 32 m (by omega) (by have:=h.lt;omega);rw[<-n] at p
  have c:m=2^(Lib.ctz 32 m+1)*q+2^Lib.ctz 32 m:=by
   rw[Nat.pow_succ,Nat.mul_assoc,<-Nat.mul_succ];exact p
  have r:Lib.ctz 32 m=k:=by
   have b:∀j,j<=Lib.ctz 32 m->m.testBit j=decide (Lib.ctz 32 m=j):=λj y=>by
    have u:2^Lib.ctz 32 m<2^(Lib.ctz 32 m+1):=I9 (by decide) (by omega)
    conv=>lhs;rw[c]
    rw[RE _ u,ee (by omega),aaF]
   rcases Ql (Lib.ctz 32 m) k with o|heq|hgt
   ·have:=b _ (jw _);rw[g _ o] at this;simp at this
   ·exact heq
   ·have:=b k (by omega);rw[d,DA (by omega)] at this;cases this
  rw[r] at c;refine⟨f,by rw[r],⟨Qo Nat.and_le_left h.lt,λx v=>h.pos x (by simp[v]),s2,λi=>?_⟩⟩;rw[S0 c,gO,<-h.mem i];simp only[P7,aav];constructor
  ·intro hi;refine⟨by simp[hi],?_⟩;rintro rfl;have:=s1 _ hi;omega
  ·rintro⟨hi,w⟩;rcases l7.1 hi with e|e
   ·omega
   ·exact e
def Us.zero{m:Nat}(h:Us [] m):m=0:=by
 refine WN λi=>?_;rw[Nat.zero_testBit,RH];intro a;have:=(h.mem i).2 a;simp at this
def EN:∀(l:List Int) (m:Nat) (v:List Int) (n:Nat),Us l m->l.length<n->v.length+l.length<=1000000->qR (uD λ(v37:Int) (b:List Int)=>
   if(eW v37 0)=true then(
   cv (iT v37) λc=>
   hO (gy b [c])<|some ((.next ((qC .u32 v37 (fG .u32 v37 1)),(gU b [c]))):gw (Int×List Int) (List Int)))
   else(some (.Ki (v37,b)))) n ((m:Int),v)=some (.inl (0,v++l))
 |l,m,v,0,_,hn,_=>by omega|[],m,v,n+1,h,_,_=>by
  rw[h.zero,qR];simp only[uD];rw[ea (show¬eW ((0:Nat):Int) 0=true by decide)];simp
 |a::l,m,v,n+1,h,hn,e=>by
  simp only[l5] at hn e;obtain⟨i,f,hu⟩:=T6 h;have d:=h.lt
  have g:eW (m:Int) 0=true:=by rw[ew];omega
  rw[qR];simp only[uD];rw[ee g];rw[show iT (m:Int)=some a by unfold iT;rw[ee (by omega),AX,f],cl,fA (by simp;omega),eo,cl,fv,g_];rw[show fG .u32 (m:Int) 1=((m-1:Nat):Int) by unfold fG;rw[F1 (by omega) (by omega)];omega,MC d (by omega)];rw[EN l _ (v++[a]) n hu (by omega) (by simp;omega)];simp
def Qz{l:List Int}{m:Nat}(h:Us l m):kB (m:Int)=some l:=by
 have a:=h.len;unfold kB;rw[eA,EN l m [] FU h (by rw[fC];omega) (by simp;omega),cl];simp[uD]
def Ms:∀(n:Nat) (t:Tm),t.acO<=n->t.acO<=50000000->t.ok=true->vN n t=some t:=by
 intro n
 induction n with
 |zero=>intro t h;have:=t.eP;omega
 |succ n c=>
  intro t hn d a;cases t with
  |mk k i s l=>
   rw[Tm.ef] at hn d;have g:=Tm.fK l;have hi:=Tm.lB a;rw[Tm.ia,gO] at a;have e:=Ty.wW a.1;rw[vN];simp only[Tm.eM,Tm.gl,Tm.ft,Tm.eF,eA]
   rw[pJ (by omega),cl,eC (by omega),eo,jq id l 0 [] (by simp;omega) (λj x v b f=>by
    have:=eJ Tm.acO b
    rw[c x (by omega) (by omega) (hi.2.2.2.1 x b),cl,fA (by simpa using f),eo,g_];rfl)]
   simp
def Fm.YC:∀(f:Fm) (b:Int),f.IG (λt _=>t) b=f:=by
 intro f
 induction f using Fm.ind with
 |h k s ts l a=>
  intro b;rw[Fm.zq,uQ (g:=id) (λx c=>a x c _)];simp
def Bx{f:Fm}(h:f.err=0)(c:f.acS 1000000000000=true):pB f=some f:=by
 obtain⟨d,hn⟩:=Fm.hZ h;unfold pB;rw[oZ (h:=λe g=>nL e g) (ψ:=λt _=>t) (λt b a _ _=>?_) FU f 0 (by rw[fC];omega) (by omega) d c (by omega) (by omega)]
 ·rw[eb,Fm.YC]
 ·have:=a.acO;unfold nL;rw[Ms FU t (by rw[fC];omega) a.acO a.ok];rfl
noncomputable def I1 (L:List Fm) (q:Sq):Int:=if 32<L.length then 3 else if fO (L.map λf=>FW f [])≠0 then fO (L.map λf=>FW f [])else if wZ q.acQ≠0 then wZ q.acQ else if 16<q.acT.length then 3 else fO (q.acT.map λf=>FW f q.acQ)
structure SqB (L:List Fm) (q:Sq):Prop where
 JF:∀f∈L,f.wt<=1000000000
 O0:∀t∈q.acQ,t.acO<=1000000000
 tyl:q.acQ.length<=1000000
 acT:∀f∈q.acT,f.wt<=1000000000
def yd{e:Int}:(cv (some e) λa=>if(eW a 0)=true then some (.ret a)else some ((.next ()):gw Unit Int))=if e≠0 then some (.ret e)else some (.next ()):=by
 rw[cl]
 by_cases h:e=0
 ·subst h;rfl
 ·rw[ee (by rw[ew];exact h),ee h]
def Pj{C:List Ty->Option Int}{T:List Ty->Fm->Option Int}{L:List Fm}{q:Sq}(o:C q.acQ=some (wZ q.acQ))(p:∀f∈L,T [] f=some (FW f []))(s:∀f∈q.acT,T q.acQ f=some (FW f q.acQ)):(if(pc (eN L) 32)=true then some 3 else hO (fm L)<|eL (λ(t:Int) (e:Fm)=>(λ(_:Unit)=>cv (T [] e) λa=>if(eW a 0)=true then some (.ret a)else some ((.next ()):gw Unit Int))) λg=>
   cv (fo g L 0 ()) (gm (λ(_:Unit)=>cv (C q.acQ) λb=>if(eW b 0)=true then some b else if(pc (eN q.acT) 16)=true then some 3 else hO (fm q.acT)<|eL (λ(u:Int) (i:Fm)=>(λ(_:Unit)=>cv (T q.acQ i) λc=>if(eW c 0)=true then some (.ret c)else some ((.next ()):gw Unit Int))) λk=>
    cv (fo k q.acT 0 ()) (gm (λ(_:Unit)=>some 0) (λr=>some r))) (λr=>some r)))=some (I1 L q):=by
 unfold I1;rw[fV]
 by_cases m:32<L.length
 ·rw[ee (by rw[gW];omega),ee m]
 ·have v:¬pc (L.length:Int) 32=true:=by rw[gW];omega
  rw[ea v,ea m,eC (by omega),eo,eA];rw[lD (λf=>FW f []) L 0 (λj x l=>by rw[p x l];exact yd)]
  by_cases d:fO (L.map λf=>FW f [])=0
  ·rw[ee d,ea (show¬(fO (L.map λf=>FW f [])≠0)fromλh=>h d),cl,en,o,cl]
   by_cases c3:wZ q.acQ=0
   ·have z2:¬eW (wZ q.acQ) 0=true:=by rw[ew];simpa using c3
    rw[ea z2,ea (show¬(wZ q.acQ≠0)fromλh=>h c3),fV]
    by_cases n:16<q.acT.length
    ·rw[ee (by rw[gW];omega),ee n]
    ·have z3:¬pc (q.acT.length:Int) 16=true:=by rw[gW];omega
     rw[ea z3,ea n,eC (by omega),eo,eA];rw[lD (λf=>FW f q.acQ) q.acT 0 (λj x l=>by rw[s x l];exact yd)]
     by_cases c5:fO (q.acT.map λf=>FW f q.acQ)=0
     ·rw[ee c5,c5];rfl
     ·rw[ea c5];rfl
   ·have z2:eW (wZ q.acQ) 0=true:=by rw[ew];exact c3
    rw[ee z2,ee c3]
  ·rw[ea d,ee d];rfl
def Ce{L:List Fm}{q:Sq}(h:SqB L q):sq L q=some (I1 L q)/\tL L q=some (I1 L q):=by
 have a:∀t∈([]:List Ty),t.acO<=1000000000:=λt c=>by simp at c
 exact⟨Pj (C:=oe) (T:=mM) (xM q.acQ h.tyl h.O0) (λx b=>ta (h.JF x b) (by simp) a) (λx b=>ta (h.acT x b) h.tyl h.O0),Pj (C:=mQ) (T:=kz) (tl q.acQ h.tyl h.O0) (λx b=>vY (h.JF x b) (by simp) a) (λx b=>vY (h.acT x b) h.tyl h.O0)⟩
def z8:∀{l:List Int},(∀e∈l,e=0)->fO l=0
 |[],_=>rfl|a::l,h=>by
  rw[fO,ee (h a (by simp))];exact z8 λe he=>h e (by simp[he])
def r8:∀{l:List Int},fO l=0->∀e∈l,e=0
 |[],_,e,he=>by simp at he
 |a::l,h,e,he=>by
  rw[fO] at h
  by_cases b:a=0
  ·rw[ee b] at h;rcases l7.1 he with rfl|he
   ·exact b
   ·exact r8 h e he
  ·rw[ea b] at h;exact absurd h b
def RC{f:Fm}{g:List Ty}(h:FW f g=0):Hg g f:=by
 unfold FW at h
 by_cases b:wZ g=0
 ·rw[ea (λh=>h b)] at h
  by_cases a:f.err=0
  ·rw[ea (λh=>h a)] at h;exact⟨a,rY f (Fm.hZ a).1 g (iV.of b).1 h⟩
  ·rw[ee a] at h;exact absurd h a
 ·rw[ee b] at h;exact absurd h b
structure B1 (L:List Fm) (q:Sq):Prop where
 ln:L.length<=32
 JF:∀f∈L,Hg [] f
 ctx:iV q.acQ
 nv:q.acQ.length<=16
 nh:q.acT.length<=16
 acT:∀f∈q.acT,Hg q.acQ f
def QM{L:List Fm}{q:Sq}(h:I1 L q=0):B1 L q:=by
 unfold I1 at h
 by_cases d:32<L.length
 ·rw[ee d] at h;cases h
 ·rw[ea d] at h
  by_cases a:fO (L.map λf=>FW f [])=0
  ·rw[ea (λh=>h a)] at h
   by_cases b:wZ q.acQ=0
   ·rw[ea (λh=>h b)] at h
    by_cases e:16<q.acT.length
    ·rw[ee e] at h;cases h
    ·rw[ea e] at h;obtain⟨g,i⟩:=iV.of b;exact⟨by omega,λf c=>RC (r8 a _ (oi.2 ⟨f,c,rfl⟩)),g,i,by omega,λf c=>RC (r8 h _ (oi.2 ⟨f,c,rfl⟩))⟩
   ·rw[ee b] at h;exact absurd h b
  ·rw[ee a] at h;exact absurd h a
def B1.zero{L:List Fm}{q:Sq}(h:B1 L q):I1 L q=0:=by
 have c:∀{g:List Ty} {f:Fm},iV g->g.length<=16->Hg g f->FW f g=0:=λhg b a=>by
  unfold FW;rw[Cc hg b,ea (by decide),ea (λh=>h a.err)];exact uR a.ty hg (by have:=a.acO;omega)
 have d:fO (L.map λf=>FW f [])=0:=z8 λe he=>by
  obtain⟨f,a,rfl⟩:=oi.1 he;exact c (λ_ h=>by simp at h) (by simp) (h.JF f a)
 have i:fO (q.acT.map λf=>FW f q.acQ)=0:=z8 λe he=>by
  obtain⟨f,a,rfl⟩:=oi.1 he;exact c h.ctx h.nv (h.acT f a)
 unfold I1;have:=h.ln;have:=h.nh;rw[ea (by omega),d,ea (by decide),Cc h.ctx h.nv,ea (by decide),ea (by omega),i]
def GO{T:List ed}{N:Nat}(g:N<=1000000):∀(l:List Fm) (j:Nat) (k:List eu),k.length+l.length<=1000000->fo (λ(i:Int) (b:Fm)=>(YT λ(c:Int) (v46:Int) (d:List ed) (e:List eu)=>
   cv (gi (eg.mk (fa.mk c v46) d e) b) λa=>
   some ((.next (a.gj.vars,a.gj.acT,a.acQ,a.known)):gw (Int×Int×(List ed)×(List eu)) (eg)))) l j ((N:Int),(k.length:Int),T,k)=some (.inl ((N:Int),((k.length+l.length:Nat):Int),T,k++l.map λf=>eu.mk f N))
 |[],j,k,_=>by simp|f::l,j,k,h=>by
  simp only[l5] at h;rw[fl];simp only[YT];unfold gi;rw[fA (by simp;omega),eo,cl];simp only[cl,fv,g_];rw[fu (by omega) (by omega)];have:=GO (T:=T) g l (j+1) (k++[eu.mk f N]) (by simp;omega);rw[show(k.length:Int)+1=((k++[eu.mk f N]).length:Int) by simp];unfold gi at this;simp only[g_] at this;rw[this];simp;omega
def start_eq{L:List Fm}{q:Sq}(h:B1 L q):∃p,sb q=some p/\PG L p (ei.mk L q.acQ q.acT):=by
 have d:=h.nh;have a:=h.nv;refine⟨eg.mk (fa.mk (q.acQ.length:Int) (q.acT.length:Int)) (q.acQ.map tk) (q.acT.map λf=>eu.mk f q.acQ.length),?_,⟨⟨rfl,rfl,rfl,h.ctx,a,d,by simp,?_⟩,rfl,h.JF,h.acT⟩⟩
 ·unfold sb;rw[vP h.ctx (by omega),cl,eC (by omega),eo,eA,fV];have:=GO (T:=q.acQ.map tk) (N:=q.acQ.length) (by omega) q.acT 0 [] (by simp;omega);rw[show(([]:List eu).length:Int)=0 from rfl] at this;rw[this,cl];simp[YT]
 ·intro i x g b c;have b:(q.acT.map λf=>eu.mk f q.acQ.length)[i]?=some x:=b;have c:q.acT[i]?=some g:=c;rw[tN,c] at b;obtain rfl:=iD b;have hg:=h.acT g (CH c);refine⟨hg.hy a,by show(0:Int)<=(q.acQ.length:Int);omega,by show((q.acQ.length:Nat):Int)<=(q.acQ.length:Int);omega,?_⟩;show g=g.up 0 ((q.acQ.length:Int)-(q.acQ.length:Int));rw[Int.sub_self,Fm.uW]
def Pf.PD:∀(l:List Pf),(∀x∈l,x.yW<=x.acO)->Pf.wc l<=ez Pf.acO l
 |[],_=>by simp[Pf.wc]|a::l,b=>by
  have d:=b a (by simp);have e:=Pf.PD l (λx c=>b x (by simp[c]));simp only[Pf.wc,ez];omega
def Pf.QI(p:Pf):p.yW<=p.acO:=by
 induction p using Pf.ind with
 |h k i s ts fs l a=>
  rw[Pf.ef,Pf.yW];have:=Pf.PD l a;omega
noncomputable def Tz (L:List Fm) (q:Sq) (P:Pf):PR:=lq (I1 L q) (lq P.err (P.inf L q.acQ q.acT))
def vj{L:List Fm}{q:Sq}{P:Pf}(h:SqB L q)(j:P.wt<=1000000000):(∃e,e≠0/\Tz L q P=.inr e/\jz L q P=some (⟨hW,[]⟩,e)/\lS L q P=some (⟨hW,[]⟩,e))\/∃(f:Fm) (m:Nat) (l:List Int),Tz L q P=.inl (f,m)/\jz L q P=some (⟨f,l⟩,0)/\lS L q P=some (⟨f,l⟩,0)/\Us l m/\Hg q.acQ f/\B1 L q/\P.err=0:=by
 unfold jz lS Tz;rw[(Ce h).1,(Ce h).2,cl,cl]
 by_cases b:I1 L q=0
 ·have d:=QM b;rw[b,ea nz,ea nz,ie rfl,HX j,y_ j,cl,cl]
  by_cases c:P.err=0
  ·obtain⟨hw,hn⟩:=Pf.VM c;obtain⟨p,k,n⟩:=start_eq d;have o:=P.QI;rw[c,ea nz,ea nz,ie rfl,show yp=some ()from rfl,cl,k,cl];rcases Sp hw FU FU (by rw[fC];omega) (by rw[fC];omega) p _ n with⟨e,he,q1,g,i⟩|⟨f,m,l,q1,g,i,hu,a⟩
   ·rw[g,i,eb,eb,ee (by rw[ew];exact he),ee (by rw[ew];exact he)];exact .inl ⟨e,he,q1,rfl,rfl⟩
   ·have a:Hg q.acQ f:=a;have r:=hu.len;have s:=f.jC a.ok;have t:=a.acO;rw[g,i,eb,eb,ea nz,ea nz];simp only[];rw[Bx a.err (a.acS d.nv (by omega)),cl,Qz hu,cl,lP (by omega),cl,fA (by simp;omega),eo,g_,pk];exact .inr ⟨f,m,l,q1,rfl,rfl,hu,a,d,by trivial⟩
  ·rw[ee (by rw[ew];exact c),ee (by rw[ew];exact c),j0 c];exact .inl ⟨_,c,rfl,rfl,rfl⟩
 ·rw[ee (by rw[ew];exact b),ee (by rw[ew];exact b),j0 b];exact .inl ⟨_,b,rfl,rfl,rfl⟩
def Pf.oz(l:List Pf):l.length<=ez Pf.wt l:=iA Pf.wt l λt _=>t.jB
def Bg:∀(n:Nat) (P:Pf),P.wt<=n->P.wt<=1000000000->qk n P=some P:=by
 intro n
 induction n with
 |zero=>intro P h;have:=P.jB;omega
 |succ n c=>
  intro P hn d;cases P with
  |mk k i s ts fs l=>
   rw[Pf.fM] at hn d;have e:=iA Tm.wt ts λt _=>t.jB;have f:=iA Fm.wt fs λt _=>t.jB;have g:=Pf.oz l;rw[qk];simp only[Pf.eM,Pf.gl,Pf.ft,Pf.hY,Pf.zv,Pf.eF,eA]
   rw[jd (by omega),cl,eC (by omega),eo,jq id ts 0 [] (by simp;omega) (λj x v a b=>by
    have:=eJ Tm.wt a
    rw[nR (by omega),cl,fA (by simpa using b),eo,g_];rfl),cl,en,eC (by omega),eo,jq id fs 0 [] (by simp;omega) (λj x v a b=>by
    have:=eJ Fm.wt a
    rw[lP (by omega),cl,fA (by simpa using b),eo,g_];rfl),cl,en,eC (by omega),eo,jq id l 0 [] (by simp;omega) (λj x v a b=>by
    have:=eJ Pf.wt a
    rw[c x (by omega) (by omega),cl,fA (by simpa using b),eo,g_];rfl),cl,en]
   simp
def Zt{k:Int}{l:List Pf}(h:ez Pf.wt l<=1000000000):mb k l=some (.mk k 0 .z [] [] l):=by
 have c:=Pf.oz l;unfold mb
 rw[eC (by omega),eo,eA,jq id l 0 [] (by simp;omega) (λj x v a b=>by
  have:=eJ Pf.wt a
  rw[Bg FU x (by rw[fC];omega) (by omega),cl,fA (by simpa using b),eo,g_];rfl),cl,en]
 simp[Ty.z]
def MB{k:Int}{a:Pf}(h:a.wt<=500000000):mb k [a]=some (.mk k 0 .z [] [] [a]):=Zt (by simp[ez];omega)
def G1{k:Int}{a b:Pf}(h:a.wt<=400000000)(c:b.wt<=400000000):mb k [a,b]=some (.mk k 0 .z [] [] [a,b]):=Zt (by simp[ez];omega)
def SF{F:Fm}{a:Pf}(hF:F.wt<=1000000000)(h:a.wt<=500000000):u0 F a=some (.mk 6 0 .z [] [F] [a]):=by
 unfold u0;rw[MB h,cl,lP hF];rfl
def y'{k:Int}{s:Ty}{a:Pf}(hs:s.acO<=1000000000)(h:a.wt<=500000000):nF k s a=some (.mk k 0 s [] [] [a]):=by
 unfold nF;rw[MB h,cl,jd hs];rfl
def Pk{k:Int}{t:Tm}{a:Pf}(b:t.wt<=1000000000)(h:a.wt<=500000000):t_ k t a=some (.mk k 0 .z [t] [] [a]):=by
 unfold t_;rw[MB h,cl,nR b];rfl
def JH{k:Int}{F:Fm}{t:Tm}{a:Pf}(hF:F.wt<=1000000000)(b:t.wt<=1000000000)(h:a.wt<=500000000):q_ k F t a=some (.mk k 0 .z [t] [F] [a]):=by
 unfold q_;rw[Pk b h,cl,lP hF];rfl
def P_{k:Int}{F:Fm}{t:Tm}{a:Pf}(hF:F.wt<=1000000000)(b:t.wt<=1000000000)(h:a.wt<=500000000):sR k F t a=some (.mk k 0 .z [t] [F] [a],F):=by
 unfold sR;rw[Pk b h,cl,lP hF];rfl
def N1{k:Int}{F:Fm}{t:Tm}{a b:Pf}(hF:F.wt<=1000000000)(c:t.wt<=1000000000)(h:a.wt<=400000000)(d:b.wt<=400000000):s8 k F t a b=some (.mk k 0 .z [t] [F] [a,b]):=by
 unfold s8;rw[G1 h d,cl,nR c,cl,lP hF];rfl
def Mw{F:Fm}{a b:Pf}(hF:F.wt<=1000000000)(h:a.wt<=400000000)(c:b.wt<=400000000):rI F a b=some (.mk 19 0 .z [] [F] [a,b]):=by
 unfold rI;rw[G1 h c,cl,lP hF];rfl
def sh{t:Tm}(a:t.wt<=1000000000):kq t=some (.mk 18 0 .z [t] [] []):=by
 unfold kq;rw[nR a];rfl
def y9{t:Tm}{g:List Ty}{s:Ty}(h:eY g t s)(hg:g.length<=1000)(hn:t.acO<=4096):kg t=some (t.up 0 1):=by
 have hw:=t.jC h.ok;have a:t.acS 1000000000000=true:=h.acS _ (by omega);unfold kg;rw[zk (by omega) (by omega),cl,ui FU _ 0 1 (by rw[fC,Fm.ef];simp only[ez];omega) (by rw[Fm.ef];simp only[ez];omega) (by omega) (by rw[Fm.ef];simp only[ez];omega) (by omega) (by omega) (by rw[Fm.fX];simp[a]),cl,Fm.kl];rfl
def Bs{q:Sq}{f:Fm}(h:q.acT.length<=1000):yg q f=some ⟨q.acQ,q.acT++[f]⟩:=by
 unfold yg;rw[fA (by simp;omega),eo,fA (by simp[g_];omega),eo];simp[g_]
def Mn{L:List Fm}{q:Sq}(h:B1 L q){l:List Ty}(e:l.length<=1000):qz q l=some ⟨q.acQ++l,q.acT.map (Fm.up 0 l.length)⟩:=by
 have b:=h.nh;have a:=h.nv;unfold qz
 rw[pd _ _ (by omega),cl,eC (by omega),eo,eA,jq (Fm.up 0 l.length) q.acT 0 [] (by simp;omega) (λj x v c d=>by
  have hg:=h.acT x c;have hn:=hg.acO
  rw[fV,ui FU x 0 l.length (by rw[fC];omega) (by omega) (by omega) (by omega) (by omega) (by omega) (hg.acS a (by omega)),cl,fA (by simpa using d),eo,g_]),cl,en,pk]
def B1.below{L:List Fm}{q:Sq}(h:B1 L q){l:List Ty}(b:iV l)(hn:q.acQ.length+l.length<=16):B1 L ⟨q.acQ++l,q.acT.map (Fm.up 0 l.length)⟩:=by
 refine⟨h.ln,h.JF,h.ctx.append b,by simpa using hn,by simpa using h.nh,λf c=>?_⟩;obtain⟨f0,a,rfl⟩:=oi.1 c;exact(h.acT f0 a).up l
def B1.with{L:List Fm}{q:Sq}(h:B1 L q){f:Fm}(a:Hg q.acQ f)(hn:q.acT.length+1<=16):B1 L ⟨q.acQ,q.acT++[f]⟩:=by
 refine⟨h.ln,h.JF,h.ctx,h.nv,by simpa using hn,λx hx=>?_⟩;rcases tj.1 hx with hx|hx
 ·exact h.acT x hx
 ·rw[we.1 hx];exact a
def Hg.wt{g:List Ty}{f:Fm}(h:Hg g f):f.wt<=266240:=by
 have:=f.jC h.ok;have:=h.acO;omega
def B1.b{L:List Fm}{q:Sq}(h:B1 L q):SqB L q:=by
 refine⟨λf a=>by have:=(h.JF f a).wt;omega,λt c=>by have:=fB (h.ctx t c);omega,by have:=h.nv;omega,λf a=>by have:=(h.acT f a).wt;omega⟩
def pb:Nat->Nat
 |0=>10000|k+1=>3*pb k+1000000
def RX:∀k,k<=4->10000<=pb k/\pb k<=50000000
 |0,_=>by decide|1,_=>by decide|2,_=>by decide|3,_=>by decide|4,_=>by decide|k+5,h=>by omega
def jk(b:Nat)(o:Option (Pf×eG)):Prop:=∃x a,o=some (x,a)/\a.wf/\x.wt<=b
def jk.of{b:Nat}{x:Pf}{d:eG}(a:d.wf)(h:x.wt<=b):jk b (some (x,d)):=⟨x,d,rfl,a,h⟩
def jK{β:Type}{G:Option β->Prop}{c:Bool}{a b:Option β}(d:c=true->G a)(e:c=false->G b):G (if c=true then a else b):=by
 cases c with
 |true=>exact d rfl|false=>exact e rfl
def pD{g:List Ty}{t:Ty}{d:eG}(e:g.length<=600)(hg:ss 3 g)(f:t.err=0)(c:t.acO<=3)(h:d.wf):∃x a,gH FU d g t 1=some (x,a)/\a.wf/\eY g x t/\x.acO<=57/\x.wt<=3705/\x.err=0:=by
 obtain⟨x,a,i,j,b⟩:=GX 3 (by omega) (by omega) 1 (by omega) g t d e hg f c h;have hn:x.acO<=57:=b.acO;have hw:=x.jC b.ty.ok;exact⟨x,a,i,j,b.ty,hn,by omega,Tm.rq b.ty.ok (by omega)⟩
def zR{d:eG}(b:d.wf):∃t a,jE FU d 1=some (t,a)/\t.err=0/\t.acO<=3/\a.wf:=by
 obtain⟨t,a,c,e,g,f⟩:=zd d b 1 (by omega);exact⟨t,a,c,e,by omega,f⟩
def TM{d:eG}(b:d.wf):∃t a,jE FU d 0=some (t,a)/\t.err=0/\t.acO<=3/\a.wf:=by
 obtain⟨t,a,c,e,g,f⟩:=zd d b 0 (by omega);exact⟨t,a,c,e,by omega,f⟩
theorem Ty.gz:Ty.z.acO=1:=by decide
def Ap:fy 0=some v0:=rfl
def TP{P:Pf}{e:Int}(h:P.wt<=1000000000):∃b c,tX P e=some (b,c)/\b.wt<=P.wt+1:=by
 have a:(Pf.mk 0 0 (Ty.mk 0 []) [] [] []).wt<=P.wt+1:=by have:=P.jB;rw[Pf.fM];simp[ez,Ty.ef];omega
 unfold tX
 by_cases he:e=0
 ·subst he;rw[ea nz];unfold s7;rw[eA,zV FU P (by rw[fC];omega) h,cl,zI FU P (by rw[fC];omega) h];cases P.small with
  |false=>exact⟨_,_,rfl,a⟩|true=>
   rw[ee rfl,cl,cl];cases LP (P.acO:Int) 16384 with
   |false=>exact⟨_,_,rfl,a⟩|true=>
    rw[ee rfl,Bg FU P (by rw[fC];omega) h];exact⟨_,_,rfl,by omega⟩
 ·rw[ee (by rw[ew];exact he)];exact⟨_,_,rfl,a⟩
def QU{ts:List Tm}{ps:List Pf}(d:∀t∈ts,t.wt<=1000000000)(f:∀p∈ps,p.wt<=1000000000)(g:ts.length<=1000)(h:ps.length<=1000):∃e,sJ ts [] ps=some e:=by
 unfold sJ;rw[eC (by omega),eo,eA,lD Tm.err ts 0 (λj x a=>by rw[ni (d x a)];exact yd)]
 by_cases b:fO (ts.map Tm.err)=0
 ·rw[ee b,cl,en,eC (by simp),eo,eA,pw,cl,en,eC (by omega),eo,eA,lD Pf.err ps 0 (λj x a=>by rw[y_ (f x a)];exact yd)]
  by_cases c:fO (ps.map Pf.err)=0
  ·rw[ee c];exact⟨_,rfl⟩
  ·rw[ea c];exact⟨_,rfl⟩
 ·rw[ea b];exact⟨_,rfl⟩
def EH{t:Tm}{g:List Ty}{s:Ty}(h:eY g t s)(hg:g.length<=1000)(hn:t.acO<=4096):vA t 1=some (t.up 0 1):=by
 unfold vA;rw[zO FU t 0 1 (by rw[fC];omega) (by omega) (by omega) (by omega) (by omega) (by omega) (h.acS _ (by omega))];rfl
def LZ{t:Tm}(a:t.wt<=3705):∃P,zJ t=some P/\P.wt<=20000:=by
 obtain⟨z,h,z2⟩:=DI 0 (by omega) (by omega);have c:=(z2 [.nat]).1;have p:=(z2 [.nat]).2;have b:=CI;have i:eY [.nat] v0 .nat:=sm (g:=[]);have d:eY [.nat] (iQ (iQ od z) v0) .nat:=.app (.app (D5 _) c) i;have f:eY [] (na .nat (iy v0)) (.fn .nat .nat):=.lam zm (.succ sm)
 have q:(iQ (iQ od z) v0).acO<=20:=by
  unfold iQ v0;rw[Tm.ef,ez,ez,Tm.ef,ez,ez,Tm.ef];simp only[ez];omega
 have r:(na .nat (iy v0)).acO=3:=by decide
 have s:=Tm.jC _ d.ok;have u:=Tm.jC _ f.ok;have v:=Tm.jC _ c.ok
 have w:v0.wt<=10:=by decide
 have wp:od.wt<=585:=by have:=Tm.jC _ (D5 []).ok;omega
 unfold zJ;rw[Bi,cl,h,cl,Ap,cl,Lr (by omega) (by omega) (by omega),cl,show Tm.mk 3 0 .z [.mk 3 0 .z [od,z],v0]=iQ (iQ od z) v0 from rfl,cl,zk (by omega) (by omega),cl,fE,cl,cl,Gn (by omega),cl,show Tm.mk 5 0 .z [v0]=iy v0 from rfl,A5 (by decide) (by decide),cl,show Tm.mk 2 0 .nat [iy v0]=na .nat (iy v0)from rfl,cl,show mV 0=some (Pf.mk 1 0 .z [] [] [])from rfl,cl]
 have x:(Pf.mk 1 0 .z [] [] []).wt<=10:=by decide
 have j:∃P e,vk (na .nat (iy v0)) (iQ (iQ od z) v0) v0 (Pf.mk 1 0 .z [] [] [])=some (P,e)/\P.wt<=12000:=by
  have y:=Tm.Hr (iQ (iQ od z) v0) 0 1;have A:=Tm.Hr (na .nat (iy v0)) 0 1
  have B:(Tm.mk 3 0 .z [na .nat (iy v0),iQ (iQ od z) v0]).wt<=1600:=by rw[Tm.fM];simp only[ez,Ty.gz];omega
  have C:(Tm.mk 3 0 .z [(na .nat (iy v0)).up 0 1,(iQ (iQ od z) v0).up 0 1]).wt<=1600:=by rw[Tm.fM];simp only[ez,Ty.gz];omega
  have D:(Tm.mk 3 0 .z [(na .nat (iy v0)).up 0 1,v0]).wt<=1600:=by rw[Tm.fM];simp only[ez,Ty.gz];omega
  have wf:(Fm.mk 1 .z [Tm.mk 3 0 .z [(na .nat (iy v0)).up 0 1,(iQ (iQ od z) v0).up 0 1],Tm.mk 3 0 .z [(na .nat (iy v0)).up 0 1,v0]] []).wt<=4000:=by rw[Fm.fM];simp only[ez,Ty.gz];omega
  have wr:(Pf.mk 18 0 .z [Tm.mk 3 0 .z [na .nat (iy v0),iQ (iQ od z) v0]] [] []).wt<=2000:=by rw[Pf.fM];simp only[ez,Ty.gz];omega
  have hg:ve (na .nat (iy v0)) (iQ (iQ od z) v0) (Pf.mk 1 0 .z [] [] [])=some (.mk 19 0 .z [] [Fm.mk 1 .z [Tm.mk 3 0 .z [(na .nat (iy v0)).up 0 1,(iQ (iQ od z) v0).up 0 1],Tm.mk 3 0 .z [(na .nat (iy v0)).up 0 1,v0]] []] [.mk 1 0 .z [] [] [],.mk 18 0 .z [Tm.mk 3 0 .z [na .nat (iy v0),iQ (iQ od z) v0]] [] []]):=by
   unfold ve;rw[EH f (by simp) (by omega),cl,EH d (by simp) (by omega),cl,uc (by omega) (by omega),cl,cl,Ap,cl,uc (by omega) (by omega),cl,zk (by omega) (by omega),cl,uc (by omega) (by omega),cl,sh (by omega),cl,Mw (by omega) (by omega) (by omega)];rfl
  unfold vk
  obtain⟨e,he⟩:=QU (ts:=[na .nat (iy v0),iQ (iQ od z) v0,v0]) (ps:=[Pf.mk 1 0 .z [] [] []]) (by
   intro t a;simp only[l7,wV,Ux] at a
   rcases a with rfl|rfl|rfl<;>omega) (by
   intro t a
   rw[we.1 a];omega) (by simp) (by simp)
  have k:(Pf.mk 19 0 .z [] [Fm.mk 1 .z [Tm.mk 3 0 .z [(na .nat (iy v0)).up 0 1,(iQ (iQ od z) v0).up 0 1],Tm.mk 3 0 .z [(na .nat (iy v0)).up 0 1,v0]] []] [.mk 1 0 .z [] [] [],.mk 18 0 .z [Tm.mk 3 0 .z [na .nat (iy v0),iQ (iQ od z) v0]] [] []]).wt<=11000:=by rw[Pf.fM];simp only[ez,Ty.gz] at*;omega
  rw[hg,cl,he,cl];obtain⟨l,m,n,E⟩:=TP (e:=e) (show _<=1000000000 from C9 k (by omega));rw[n,eb];exact⟨l,m,rfl,by omega⟩
 obtain⟨P,e,o,F⟩:=j
 have G:(Fm.mk 1 .z [iQ (iQ od z) v0,v0] []).wt<=2000:=by rw[Fm.fM];simp only[ez,Ty.gz];omega
 have H:(Pf.mk 18 0 .z [z] [] []).wt<=200:=by rw[Pf.fM];simp only[ez,Ty.gz];omega
 rw[o,eb,cl,sh (by omega),cl,N1 (by omega) (by omega) (by omega) (by omega)];refine⟨_,rfl,?_⟩;rw[Pf.fM];simp only[ez,Ty.gz] at*;omega
def eY.lift{g:List Ty}{x:Tm}{t:Ty}(h:eY g x t)(e:List Ty):eY (g++e) (x.up 0 e.length) t:=by
 have:=h.up g [] e (by simp)
 grind
def eqv(t:Tm):Fm:=.mk 1 .z [t.up 0 1,v0] []
def Ln{g:List Ty}{t:Tm}(h:eY g t .nat)(hn:t.acO<=57):Hg (g++[.nat]) (eqv t)/\(eqv t).acO<=59/\(eqv t).wt<=3900:=by
 have hu:eY (g++[.nat]) (t.up 0 1) .nat:=by
  exact h.lift [.nat]
 have a:jV (g++[.nat]) (eqv t):=.eq hu sm
 have hm:(eqv t).acO<=59:=by
  unfold eqv;rw[Fm.ef];simp only[ez];rw[Tm.q9]
  have:v0.acO=1:=by decide
  omega
 have hw:=Fm.jC _ a.ok;refine⟨⟨?_,a⟩,hm,by omega⟩;unfold Fm.err;rw[ee a.ok,ea (by omega)]
def Hh{g:List Ty}{t:Tm}(h:eY g t .nat)(hg:g.length<=600)(hn:t.acO<=57){β:Type}(k:Fm->Option β):(cv (kg t) λa=>cv (fy 0) λb=>cv (k0 a b) λc=>k c)=k (eqv t):=by
 have hw:=t.jC h.ok;have hu:=Tm.Hr t 0 1
 have d:v0.wt<=10:=by decide
 rw[y9 h (by omega) (by omega),cl,Ap,cl,zk (by omega) (by omega)];rfl
def Yt{g:List Ty}{f:Fm}{k:Int}(b:k=5\/k=7)(h:Hg (g++[.nat]) f)(hn:f.acO<=4000):Hg g (.mk k .nat [] [f]):=by
 have a:jV g (.mk k .nat [] [f]):=.q (by omega) Ty.gK h.ty;refine⟨?_,a⟩;unfold Fm.err;rw[ee a.ok,ea (by rw[Fm.ef];simp only[ez];omega)]
def NL{q:Sq}{d:eG}(a:q.acQ.length<=600)(hg:ss 3 q.acQ)(b:d.wf):jk 12000 (CU d q):=by
 obtain⟨t,d1,t1,t2,t3,t4,t5,t6⟩:=pD a hg Ty.gK (by decide) b;obtain⟨c,e,f⟩:=Ln t3 t4
 have g:(Pf.mk 18 0 .z [t] [] []).wt<=3800:=by grind[Pf.fM,ez,Ty.gz]
 have h:(Fm.mk 5 .nat [] [eqv t]).wt<=4000:=by rw[Fm.fM];simp only[ez,Ty.ir];omega
 unfold CU;rw[fE,cl,t1,eb,Hh t3 a t4,BW (by decide) (by omega),cl,sh (by omega),cl,JH (by omega) (by omega) (by omega),cl];refine jk.of t2 ?_;rw[Pf.fM];simp only[ez,Ty.gz];omega
def Nk{q:Sq}{d:eG}(a:q.acQ.length<=600)(hg:ss 3 q.acQ)(c:d.wf):∃t b,tZ d q=some (.mk 10 0 .z [t] [.mk 5 .nat [] [eqv t]] [.mk 18 0 .z [t] [] []],.mk 5 .nat [] [eqv t],b)/\b.wf/\eY q.acQ t .nat/\t.acO<=57/\t.wt<=3705:=by
 obtain⟨t,d1,t1,t2,t3,t4,t5,t6⟩:=pD a hg Ty.gK (by decide) c;obtain⟨e,f,g⟩:=Ln t3 t4
 have h:(Pf.mk 18 0 .z [t] [] []).wt<=3800:=by grind[Pf.fM,ez,Ty.gz]
 have i:(Fm.mk 5 .nat [] [eqv t]).wt<=4000:=by rw[Fm.fM];simp only[ez,Ty.ir];omega
 unfold tZ;rw[fE,cl,t1,eb,Hh t3 a t4,BW (by decide) (by omega),cl,sh (by omega),cl,P_ (by omega) (by omega) (by omega),eb];exact⟨t,d1,rfl,t2,t3,t4,t5⟩
def yw{L:List Fm}{q:Sq}(h:B1 L q){P:Pf}(a:P.wt<=1000000000):(∃e,e≠0/\lS L q P=some (⟨hW,[]⟩,e))\/∃f l,lS L q P=some (⟨f,l⟩,0)/\Hg q.acQ f:=by
 rcases vj h.b a with⟨e,he,_,_,c⟩|⟨f,m,l,_,_,c,_,d,_⟩
 all_goals grind
def Di{g:List Ty}{f:Fm}(h:Hg g f)(hg:g.length<=16):hI FU f 0 1=some (f.up 0 1)/\(f.up 0 1).wt<=266240:=by
 have hn:=h.acO;refine⟨ui FU f 0 1 (by rw[fC];omega) (by omega) (by omega) (by omega) (by omega) (by omega) (h.acS hg (by omega)),?_⟩;have a:=h.wt
 grind[Fm.Hr]
def PM{a b x:Int}(c:0<=x)(d:x<2):∃y,eI [a,b] x=some y/\(x=0/\y=a\/x=1/\y=b):=by
 have:x=0\/x=1:=by omega
 rcases this with rfl|rfl
 ·exact⟨a,rfl,.inl ⟨rfl,rfl⟩⟩
 ·exact⟨b,rfl,.inr ⟨rfl,rfl⟩⟩
structure Mq (L:List Fm) (q:Sq):Prop where
 v:B1 L q
 c:ss 3 q.acQ
def Mq.below{L:List Fm}{q:Sq}(h:Mq L q){s:Ty}(hs:s.err=0)(a:s.acO<=3)(hn:q.acQ.length+1<=16):Mq L ⟨q.acQ++[s],q.acT.map (Fm.up 0 1)⟩:=
 ⟨h.v.below (l:=[s]) (λx b=>by rw[we.1 b];exact hs) hn,h.c.app λx b=>by rw[we.1 b];exact⟨hs,a⟩⟩
def Mq.with{L:List Fm}{q:Sq}(h:Mq L q){f:Fm}(a:Hg q.acQ f)(hn:q.acT.length+1<=16):Mq L ⟨q.acQ,q.acT++[f]⟩:=⟨h.v.with a hn,h.c⟩
def Mq.YF{L:List Fm}{q:Sq}(h:Mq L q)(s:Ty):qz q [s]=some ⟨q.acQ++[s],q.acT.map (Fm.up 0 1)⟩:=Mn h.v (l:=[s]) (by simp)
def GL{κ β:Type}{G:Option β->Prop}(Q:κ->Prop){k:κ}{b:κ->Option β}(a:Q k)(c:∀j,Q j->G (b j)):G (eL k b):=c k a
def Q9{n k:Nat}(T:k<=3){L:List Fm}(C:∀(d:eG) (q:Sq),d.wf->Mq L q->jk (pb k) (jn n d L q (k:Int))){d:eG}(D:d.wf){q:Sq}(h:Mq L q)(E:q.acQ.length<10)(A:q.acT.length<10):jk (pb (k+1)) (xP (n+1) d L q ((k+1:Nat):Int)):=by
 have F:=RX k (by omega);have H:pb (k+1)=3*pb k+1000000:=rfl;obtain⟨t,d1,s1,s2,I,K,U⟩:=Nk (by omega) h.c D;obtain⟨g1,g2,g3⟩:=Ln I K
 have V:(Pf.mk 18 0 .z [t] [] []).wt<=3800:=by rw[Pf.fM];simp only[ez,Ty.gz];omega
 have s:∀i:Int,(Fm.mk i .nat [] [eqv t]).wt<=4000:=λi=>by rw[Fm.fM];simp only[ez,Ty.ir];omega
 have u:∀i j:Int,(Pf.mk j 0 .z [t] [Fm.mk i .nat [] [eqv t]] [Pf.mk 18 0 .z [t] [] []]).wt<=20000:=λi j=>by have:=s i;rw[Pf.fM];simp only[ez,Ty.gz];omega
 rw[xP,s1,ow];refine GL (G:=jk (pb (k+1))) (λJ=>∀(v24 m:Int) (o:eG) (a:Int),o.wf->(a=5\/a=7)->jk (pb (k+1)) (J v24 m o a)) ?_ ?_
 ·intro v24 m o a v M;have N:Hg q.acQ (.mk a .nat [] [eqv t]):=Yt M g1 (by omega);have hm:Mq L ⟨q.acQ++[.nat],q.acT.map (Fm.up 0 1)++[eqv t]⟩:=(h.below Ty.gK (by decide) (by omega)).with g1 (by show(q.acT.map (Fm.up 0 1)).length+1<=16;simp;omega);obtain⟨Q,d3,q1,O,W⟩:=C o _ v hm;show jk _ (cv (eI [eqv t] 0) λP=>_);rw[show eI [eqv t] 0=some (eqv t)from rfl,cl,fE,cl,h.YF .nat,cl,Bs (by show(q.acT.map (Fm.up 0 1)).length<=1000;simp;omega),cl,fF (by omega) (by omega),show((k+1:Nat):Int)-1=(k:Int) by omega,q1,eb];refine GL (G:=jk (pb (k+1))) (λJ=>∀(b v145 v146:Int) (e:List Ty) (v148:List Tm) (f:List Fm) (g:List Pf) (l:eG),l.wf->(Pf.mk b v145 (.mk v146 e) v148 f g).wt<=pb k+300000->jk (pb (k+1)) (J b v145 v146 e v148 f g l)) ?_ ?_
  ·intro b v145 v146 e v148 f g l w hw;have:=u a m;show jk _ (cv (mb v24 [Pf.mk m 0 .z [t] [Fm.mk a .nat [] [eqv t]] [Pf.mk 18 0 .z [t] [] []],Pf.mk b v145 (.mk v146 e) v148 f g]) λp=>some (p,l));rw[G1 (by omega) (by omega),cl];refine jk.of w ?_;rw[Pf.fM];simp only[ez,Ty.gz];omega
  ·intro J r;obtain⟨y,d4,x,R,y3,y4⟩:=mg d3 O 2 (by omega) (by omega);rw[x,eb];refine jK (λ_=>?_) (λ_=>?_)
   ·obtain⟨S,X⟩:=Di N (by omega);show jk _ (cv (hI FU (.mk a .nat [] [eqv t]) 0 1) λB=>_)
    have Y:v0.wt<=10:=by decide
    rw[S,cl,Ap,cl,show mV 0=some (Pf.mk 1 0 .z [] [] [])from rfl,cl,JH (by omega) (by omega) (by decide),cl];refine r _ _ _ _ _ _ _ _ y4 ?_;show(Pf.mk m 0 .z [v0] [(Fm.mk a .nat [] [eqv t]).up 0 1] [Pf.mk 1 0 .z [] [] []]).wt<=_;rw[Pf.fM];simp only[ez,Ty.gz];rw[Pf.fM];simp only[ez,Ty.gz];omega
   ·refine r _ _ _ _ _ _ _ _ y4 ?_;rw[Ty.lZ,Pf.lZ];omega
 ·intro J r;obtain⟨y,d4,x,R,y3,y4⟩:=mg d1 s2 3 (by omega) (by omega);rw[x,eb];exact jK (λ_=>r _ _ _ _ y4 (.inr rfl)) (λ_=>r _ _ _ _ y4 (.inl rfl))
def ML:∀(n k:Nat) (L:List Fm) (d:eG) (q:Sq),2*k<n->k<=4->d.wf->Mq L q->jk (pb k) (jn n d L q (k:Int)):=by
 intro n
 induction n using Nat.strongRecOn with
 |_ n U=>
 intro k L d q hn Z D h;cases n with
 |zero=>omega|succ n=>
 have J:=h.v.nv;have aa:=h.v.nh;have ab:=h.v.ln;have ad:=RX k Z;rw[jn,fE,cl];refine qE (G:=jk (pb k)) (λd=>d.wf) (λd D=>?_) (λj E=>?_)
 ·--a leaf
  refine qE (G:=jk (pb k)) (λd=>d.wf) (λd D=>?_) (λj E=>?_)
  ·obtain⟨t,d1,t1,t2,t3,t4,t5,t6⟩:=pD (by omega) h.c Ty.gK (by decide) D;rw[t1,eb,sh (by omega),cl];refine jk.of t2 ?_;rw[Pf.fM];simp only[ez,Ty.gz];omega
  ·obtain⟨x,d1,R,x2,x3,p⟩:=mg d D 4 (by omega) (by omega);rw[R,eb];refine jK (λ_=>jK (λM=>?_) (λ_=>E _ p)) (λ_=>jK (λ_=>jK (λM=>?_) (λ_=>E _ p)) (λ_=>E _ p))
   ·rw[gW,fV] at M;obtain⟨y,d2,H,I,y3,y4⟩:=mg d1 p q.acT.length (by omega) (by omega);rw[fV,H,eb,show mV y=some (Pf.mk 1 y .z [] [] [])from rfl,cl];refine jk.of y4 ?_;rw[Pf.fM];simp only[ez,Ty.gz];omega
   ·rw[gW,fV] at M;obtain⟨y,d2,H,I,y3,y4⟩:=mg d1 p L.length (by omega) (by omega);rw[fV,H,eb];refine jk.of y4 ?_;show(Pf.mk 2 y .z [] [] []).wt<=_;rw[Pf.fM];simp only[ez,Ty.gz];omega
 ·refine jK (λM=>?_) (λ_=>E _ D);rw[rv,rv,gO,gO,gW,mD,mD,fV,fV] at M;obtain⟨ae,V,W⟩:=M;obtain⟨m,rfl⟩:∃m,k=m+1:=⟨k-1,by omega⟩;rw[fF (by omega) (by omega),show((m+1:Nat):Int)-1=(m:Int) by omega];have af:=RX m (by omega);have ah:pb (m+1)=3*pb m+1000000:=rfl;have g:∀(d:eG) (q:Sq),d.wf->Mq L q->jk (pb m) (jn n d L q (m:Int)):=λd q D h=>U n (by omega) m L d q (by omega) (by omega) D h;obtain⟨x,d1,R,x2,x3,p⟩:=mg d D 17 (by omega) (by omega);rw[R,eb];refine jK (λ_=>?_) (λ_=>?_)
  ·--and
   obtain⟨P,d2,o,i,w⟩:=g d1 q p h;obtain⟨Q,d3,q1,N,X⟩:=g d2 q i h;rw[o,eb,q1,eb,G1 (by omega) (by omega),cl];refine jk.of N ?_;rw[Pf.fM];simp only[ez,Ty.gz];omega
  refine jK (λ_=>?_) (λ_=>?_)
  ·obtain⟨y,d2,H,I,y3,y4⟩:=mg d1 p 2 (by omega) (by omega);obtain⟨P,d3,o,i,w⟩:=g d2 q y4 h;obtain⟨Q,d4,q1,N,X⟩:=g d3 q i h
   have hw:(Pf.mk 3 0 .z [] [] [P,Q]).wt<=200000000:=by rw[Pf.fM];simp only[ez,Ty.gz];omega
   rw[H,eb,o,eb,q1,eb,G1 (by omega) (by omega),cl,MB (by omega),cl];refine jk.of N ?_;rw[Pf.fM];simp only[ez,Ty.gz];rw[Pf.fM];simp only[ez,Ty.gz];omega
  refine jK (λ_=>?_) (λ_=>?_)
  ·obtain⟨F,d2,f1,f2,f3⟩:=Me 1 (by omega) q.acQ d1 (by omega) h.c p;have B:Hg q.acQ F:=⟨f3.err (by decide),f3.ty⟩;have S:=B.wt;obtain⟨P,d3,o,i,w⟩:=g d2 _ f2 (h.with B (by omega));rw[show(1:Int)=((1:Nat):Int)from rfl,f1,eb,Bs (by omega),cl,o,eb,SF (by omega) (by omega),cl];refine jk.of i ?_;rw[Pf.fM];simp only[ez,Ty.gz];omega
  refine jK (λ_=>?_) (λ_=>?_)
  ·obtain⟨P,d2,o,i,w⟩:=g d1 q p h;rw[o,eb];rcases yw h.v (P:=P) (by omega)with⟨e,he,r⟩|⟨f,l,r,B⟩
   ·rw[r,eb,ea (by rw[gA];exact he)];exact E _ i
   ·have S:=B.wt;obtain⟨Q,d3,q1,N,X⟩:=g d2 _ i (h.with B (by omega))
    have hw:(Pf.mk 6 0 .z [] [f] [Q]).wt<=200000000:=by rw[Pf.fM];simp only[ez,Ty.gz];omega
    rw[r,eb,ee (by rfl)];simp only[];rw[Bs (by omega),cl,q1,eb,SF (by omega) (by omega),cl,G1 (by omega) (by omega),cl];refine jk.of N ?_;rw[Pf.fM];simp only[ez,Ty.gz];rw[Pf.fM];simp only[ez,Ty.gz];omega
  refine jK (λ_=>?_) (λ_=>?_)
  ·obtain⟨s,d2,s1,s2,A,C⟩:=zR p;obtain⟨P,d3,o,i,w⟩:=g d2 _ C (h.below s2 A (by omega));rw[s1,eb,h.YF s,cl,o,eb,y' (by omega) (by omega),cl];refine jk.of i ?_;rw[Pf.fM];simp only[ez];omega
  refine jK (λ_=>?_) (λ_=>?_)
  ·obtain⟨s,d2,s1,s2,A,C⟩:=zR p;obtain⟨t,d3,t1,t2,t3,t4,t5,t6⟩:=pD (by omega) h.c s2 A C;obtain⟨P,d4,o,i,w⟩:=g d3 _ t2 (h.below s2 A (by omega))
   have hw:(Pf.mk 8 0 s [] [] [P]).wt<=200000000:=by rw[Pf.fM];simp only[ez];omega
   rw[s1,eb,t1,eb,h.YF s,cl,o,eb,y' (by omega) (by omega),cl,Pk (by omega) (by omega),cl];refine jk.of i ?_;rw[Pf.fM];simp only[ez,Ty.gz];rw[Pf.fM];simp only[ez];omega
  refine jK (λ_=>?_) (λ_=>?_)
  ·--there is a number Y is equal to a term
   obtain⟨t,d2,t1,t2,t3,t4,t5,t6⟩:=pD (by omega) h.c Ty.gK (by decide) p;obtain⟨y,d3,H,I,y3,y4⟩:=mg d2 t2 2 (by omega) (by omega);obtain⟨a,a1,_⟩:=PM (a:=5) (b:=7) I y3;obtain⟨b,T,_⟩:=PM (a:=10) (b:=14) I y3;obtain⟨g1,g2,g3⟩:=Ln t3 t4
   have hr:(Pf.mk 18 0 .z [t] [] []).wt<=3800:=by rw[Pf.fM];simp only[ez,Ty.gz];omega
   have B:(Fm.mk a .nat [] [eqv t]).wt<=4000:=by rw[Fm.fM];simp only[ez,Ty.ir];omega
   rw[t1,eb,H,eb,eA,a1,cl,Hh t3 (by omega) t4,BW (by decide) (by omega),cl,eA,T,cl,sh (by omega),cl,JH (by omega) (by omega) (by omega),cl];refine jk.of y4 ?_;rw[Pf.fM];simp only[ez,Ty.gz];omega
  refine jK (λ_=>?_) (λ_=>?_)
  ·obtain⟨P,d2,o,i,w⟩:=g d1 q p h;rw[o,eb];rcases yw h.v (P:=P) (by omega)with⟨e,he,r⟩|⟨f,l,r,B⟩
   ·rw[r,eb,ea (by rw[gA];exact he)];exact E _ i
   ·obtain⟨K,O⟩:=Di B J;obtain⟨s,d3,s1,s2,A,C⟩:=zR i;obtain⟨y,d4,H,I,y3,y4⟩:=mg d3 C 2 (by omega) (by omega);obtain⟨a,a1,_⟩:=PM (a:=5) (b:=7) I y3;obtain⟨b,T,_⟩:=PM (a:=10) (b:=14) I y3;obtain⟨t,d5,t1,t2,t3,t4,t5,t6⟩:=pD (by omega) h.c s2 A y4
    have hw:(Fm.mk a s [] [f.up 0 1]).wt<=300000:=by rw[Fm.fM];simp only[ez];omega
    rw[r,eb,ee (by rfl),s1,eb,H,eb,eA,a1,cl,K,cl,BW (by omega) (by omega),cl,eA,T,cl,t1,eb,JH (by omega) (by omega) (by omega),cl];refine jk.of t2 ?_;rw[Pf.fM];simp only[ez,Ty.gz];omega
  refine jK (λ_=>?_) (λ_=>?_)
  ·obtain⟨n',rfl⟩:∃n',n=n'+1:=⟨n-1,by omega⟩;obtain⟨P,d2,o,i,w⟩:=Q9 (n:=n') (k:=m) (by omega) (λd q D h=>U n' (by omega) m L d q (by omega) (by omega) D h) p h (by omega) (by omega);rw[o,eb];exact jk.of i w
  refine jK (λ_=>?_) (λ_=>?_)
  ·obtain⟨P,d2,o,i,w⟩:=g d1 q p h;rw[o,eb];rcases yw h.v (P:=P) (by omega)with⟨e,he,r⟩|⟨f,l,r,B⟩
   ·rw[r,eb,ea (by rw[gA];exact he)];exact E _ i
   ·obtain⟨K,O⟩:=Di B J;obtain⟨t,d5,t1,t2,t3,t4,t5,t6⟩:=pD (by omega) h.c Ty.gK (by decide) i
    have hH:(Pf.mk 1 0 .z [] [] []).wt<=10:=by decide
    rw[r,eb,ee (by rfl),K,cl,t1,eb,show mV 0=some (Pf.mk 1 0 .z [] [] [])from rfl,cl,N1 (by omega) (by omega) (by omega) (by omega),cl];refine jk.of t2 ?_;rw[Pf.fM];simp only[ez,Ty.gz];omega
  refine jK (λ_=>?_) (λ_=>?_)
  ·obtain⟨P,d2,o,i,w⟩:=g d1 q p h;rw[o,eb];rcases yw h.v (P:=P) (by omega)with⟨e,he,r⟩|⟨f,l,r,B⟩
   ·rw[r,eb,ea (by rw[gA];exact he)];exact E _ i
   ·obtain⟨K,O⟩:=Di B J;obtain⟨t,d5,t1,t2,t3,t4,t5,t6⟩:=pD (by omega) h.c Ty.oX (by decide) i
    have hH:(Pf.mk 1 0 .z [] [] []).wt<=10:=by decide
    rw[r,eb,ee (by rfl),K,cl,gT,cl,t1,eb,show mV 0=some (Pf.mk 1 0 .z [] [] [])from rfl,cl,N1 (by omega) (by omega) (by omega) (by omega),cl];refine jk.of t2 ?_;rw[Pf.fM];simp only[ez,Ty.gz];omega
  refine jK (λ_=>?_) (λ_=>?_)
  ·obtain⟨t,d2,t1,t2,t3,t4,t5,t6⟩:=pD (by omega) h.c Ty.gK (by decide) p;obtain⟨P,o,i⟩:=LZ t5;rw[t1,eb,o,cl];exact jk.of t2 (by omega)
  refine jK (λ_=>?_) (λ_=>?_)
  ·obtain⟨t,d2,t1,t2,t3,t4,t5,t6⟩:=pD (by omega) h.c Ty.gK (by decide) p;obtain⟨u,d3,K,O,u3,u4,u5,u6⟩:=pD (by omega) h.c Ty.gK (by decide) t2;have ai:=Tm.Hr u 0 1
   have r1:(Pf.mk 18 0 .z [t] [] []).wt<=3800:=by rw[Pf.fM];simp only[ez,Ty.gz];omega
   have r2:(Pf.mk 18 0 .z [u] [] []).wt<=3800:=by rw[Pf.fM];simp only[ez,Ty.gz];omega
   have r3:(Fm.mk 1 .z [u.up 0 1,u.up 0 1] []).wt<=8000:=by rw[Fm.fM];simp only[ez,Ty.gz];omega
   rw[t1,eb,K,eb,y9 u3 (by omega) (by omega),cl,cl,zk (by omega) (by omega),cl,sh (by omega),cl,sh (by omega),cl,Mw (by omega) (by omega) (by omega),cl];refine jk.of O ?_;rw[Pf.fM];simp only[ez,Ty.gz];omega
  refine jK (λ_=>?_) (λ_=>?_)
  ·obtain⟨s,d2,s1,s2,A,C⟩:=TM p;have hb:=h.below s2 A (by omega);obtain⟨P,d3,o,i,w⟩:=NL (q:=⟨q.acQ++[s],q.acT.map (Fm.up 0 1)⟩) (by show(q.acQ++[s]).length<=600;simp;omega) hb.c C
   have hw:(Pf.mk 8 0 s [] [] [P]).wt<=13000:=by rw[Pf.fM];simp only[ez];omega
   rw[s1,eb,h.YF s,cl,o,eb,y' (by omega) (by omega),cl,MB (by omega),cl];refine jk.of i ?_;rw[Pf.fM];simp only[ez,Ty.gz];omega
  refine jK (λ_=>?_) (λ_=>?_)
  ·obtain⟨s,d2,s1,s2,A,C⟩:=zR p;obtain⟨P,d3,o,i,w⟩:=g d2 _ C (h.below s2 A (by omega));rw[s1,eb,h.YF s,cl,o,eb,y' (by omega) (by omega),cl];refine jk.of i ?_;rw[Pf.fM];simp only[ez];omega
  refine jK (λ_=>?_) (λ_=>E _ p)
  ·obtain⟨s,d2,s1,s2,A,C⟩:=zR p;obtain⟨t,d3,t1,t2,t3,t4,t5,t6⟩:=pD (by omega) h.c s2 A C;obtain⟨P,d4,o,i,w⟩:=g d3 _ t2 (h.below s2 A (by omega))
   have hw:(Pf.mk 12 0 s [] [] [P]).wt<=200000000:=by rw[Pf.fM];simp only[ez];omega
   rw[s1,eb,t1,eb,h.YF s,cl,o,eb,y' (by omega) (by omega),cl,Pk (by omega) (by omega),cl];refine jk.of i ?_;rw[Pf.fM];simp only[ez,Ty.gz];rw[Pf.fM];simp only[ez];omega
def Fm.rq{f:Fm}(h:f.ok=true)(hn:f.acO<=4096):f.err=0:=by
 unfold Fm.err;rw[ee h,ea (by omega)]
def Ng{P:Pf}(hw:P.ok=true)(hs:P.small=true):P.err=if P.acO<=16384 then 0 else 4:=by
 unfold Pf.err;rw[ee hw]
 by_cases h:P.acO<=16384
 ·rw[ee ⟨hs,h⟩,ee h]
 ·rw[ea (λa=>h a.2),ea h]
def Rl{t:Tm}(h:t.err=0):t.ok=true/\Q6 t=true:=by
 obtain⟨a,b⟩:=Tm.hZ h;exact⟨a,by simpa[Q6] using b⟩
def Li{g:List Ty}{hs L:List Fm}{t:Tm}(h:eY g t .nat)(c:iV g)(hg:g.length<=16)(hn:t.acO<=1000):(Pf.mk 18 0 .z [t] [] []).inf L g hs=.inl (.mk 1 .z [t,t] [],0)/\(Pf.mk 18 0 .z [t] [] []).err=0:=by
 have he:t.err=0:=Tm.rq h.ok (by omega);have d:(Fm.mk 1 .z [t,t] []).err=0:=Fm.rq (jV.eq h h).ok (by rw[Fm.ef];simp only[ez];omega);constructor
 ·rw[Pf.k1,OS,ie (Ke h c (by omega))];unfold yT;rw[gp,ee d];cases (Fm.mk 1 .z [t,t] []).has<;>rfl
 ·obtain⟨a,b⟩:=Rl he;rw[Ng (by rw[Pf.ia];simp[a,Pf.node,Pf.sig,Ty.pT]) (by rw[Pf.xV];simp[b]),ee (by rw[Pf.ef];simp only[ez];omega)]
def yf{L:List Fm}{q:Sq}(h:B1 L q){P:Pf}(a:P.err=0):Tz L q P=P.inf L q.acQ q.acT:=by
 unfold Tz;rw[ie h.zero,ie a]
def Wy(g:List Ty)(s:Ty):eY (g++[s]) v0 s:=sm
def AF{f:Fm}{m:Nat}(h:f.err=0):yT (.inl (f,m))=.inl (f,if f.has=true then m else 0):=by
 unfold yT;rw[gp,ee h]
theorem U6{f:Fm}{m:Nat}(h:f.err≠0):yT (.inl (f,m))=.inr 4:=by
 unfold yT;rw[gp,ea h]
def BM:B1 [] ⟨[],[]⟩:=⟨by simp,λf h=>by simp at h,λs h=>by simp at h,by simp,by simp,λf h=>by simp at h⟩
def Uw:vw=some true:=by
 have g:iV [Ty.nat]:=λs hs=>by rw[we.1 hs];exact Ty.gK
 obtain⟨a,d⟩:=Li (L:=[]) (hs:=[]) (Wy [] .nat) g (by simp) (by decide)
 have he:(Pf.mk 8 0 .nat [] [] [.mk 18 0 .z [v0] [] []]).err=0:=by decide
 have hi:(Pf.mk 8 0 .nat [] [] [.mk 18 0 .z [v0] [] []]).inf [] [] []=.inl (.mk 4 .nat [] [.mk 1 .z [v0,v0] []],0):=by
  rw[Pf.k1,J2,kK (by decide)];have a:(Pf.mk 18 0 .z [v0] [] []).inf [] ([]++[.nat]) (List.map (Fm.up 0 1) [])=.inl (.mk 1 .z [v0,v0] [],0):=a;rw[a,gp,AF (by decide)];rw[show(Fm.mk 4 .nat [] [.mk 1 .z [v0,v0] []]).has=false by decide];rfl
 have hw:(Pf.mk 8 0 .nat [] [] [.mk 18 0 .z [v0] [] []]).wt<=100:=by decide
 unfold vw;rw[fE,cl,Ap,cl,sh (by decide),cl,y' (by decide) (by decide),cl];rcases vj BM.b (P:=.mk 8 0 .nat [] [] [.mk 18 0 .z [v0] [] []]) (by omega)with⟨e,c,q1,_,h⟩|⟨f,m,l,q1,i,h,hu,k,_,c⟩
 ·rw[yf BM he] at q1;have q1:(Pf.mk 8 0 .nat [] [] [.mk 18 0 .z [v0] [] []]).inf [] [] []=.inr e:=q1;rw[hi] at q1;cases q1
 ·rw[yf BM he] at q1;have q1:(Pf.mk 8 0 .nat [] [] [.mk 18 0 .z [v0] [] []]).inf [] [] []=.inl (f,m):=q1;rw[hi] at q1;obtain⟨rfl,rfl⟩:=iq (UF q1);have j:=hu.ext .nil;subst j;rw[i,eb,eA,ee (by rfl),ee (by rfl),cl,cl,zk (by decide) (by decide),cl,BW (by decide) (by decide),cl];obtain⟨r,a,d⟩:=I8 FU (.mk 4 .nat [] [.mk 1 .z [v0,v0] []]) (.mk 4 .nat [] [.mk 1 .z [v0,v0] []]) (by rw[fC];decide) (by decide);have:=d.2 rfl;subst this;simp only[];rw[a];rfl
noncomputable def yu (a b:Tm):Int:=@ite Int (a=b) (Classical.propDecidable _) 0 (if(a.norm 1000 0).2.2≠0 then(a.norm 1000 0).2.2 else if(b.norm 1000 0).2.2≠0 then(b.norm 1000 0).2.2 else@ite Int ((a.norm 1000 0).1=(b.norm 1000 0).1) (Classical.propDecidable _) 0 11)
def Jj(a:Tm):yu a a=0:=ee rfl
def KF{a b:Tm}(h:a≠b):yu a b=if(a.norm 1000 0).2.2≠0 then(a.norm 1000 0).2.2 else if(b.norm 1000 0).2.2≠0 then(b.norm 1000 0).2.2 else@ite Int ((a.norm 1000 0).1=(b.norm 1000 0).1) (Classical.propDecidable _) 0 11:=ea h
def Nm.Vp{a:Tm}(h:Nm a)(b:(a.norm 1000 0).2.2=0):(a.norm 1000 0).1.ok=true/\(a.norm 1000 0).1.acO<=4096:=by
 obtain⟨p,n,e,c⟩:∃p n e,a.norm 1000 0=(p,n,e):=⟨_,_,_,rfl⟩;rw[c] at b|-;have b:e=0:=b;subst b;have:=FZ 1000 536870912 0 a p n (by omega) (Sm.start h.err h.acS) (tr h.err).2 c;exact⟨this.1.ok,this.2⟩
def Ff{a b:Tm}(f:Nm a)(g:Nm b):lM a b 1000=some (yu a b):=by
 have v:=a.jC (tr f.err).1;have w:=b.jC (tr g.err).1;have x:=(tr f.err).2;have y:=(tr g.err).2;unfold lM;rw[ql (by omega),f.err,cl,ea nz,ql (by omega),g.err,cl,ea nz];obtain⟨r,s,l⟩:=xb (a:=a) (b:=b) (by omega);rw[s,cl]
 by_cases c:a=b
 ·rw[ee (l.2 c),c,Jj]
 ·rw[ea (λh=>c (l.1 h)),KF c,f.both.1,g.both.1];obtain⟨p,n,e,t⟩:∃p n e,a.norm 1000 0=(p,n,e):=⟨_,_,_,rfl⟩;obtain⟨m,n',u,k⟩:∃p n e,b.norm 1000 0=(p,n,e):=⟨_,_,_,rfl⟩;have i:=f.Vp;rw[t] at i|-;rw[k,ow];simp only[] at i|-
  by_cases he:e=0
  ·subst he;rw[ea nz,ea (by decide),ow]
   by_cases d:u=0
   ·subst d;rw[ea nz,ea (by decide)];have z:=p.jC (i rfl).1;have A:=(i rfl).2;obtain⟨q,q1,o⟩:=xb (a:=p) (b:=m) (by omega);rw[q1,cl]
    by_cases j:p=m
    ·rw[ee (o.2 j),ee j]
    ·rw[ea (λh=>j (o.1 h)),ea j]
   ·rw[ee (by rw[ew];exact d),ee d]
  ·rw[ee (by rw[ew];exact he),ee he]
mutual
noncomputable def Fm.Dx:Fm->Fm->Int
 |.mk k s ts l,b=>if k≠b.acM\/s.kL b.dv=false then 11 else if fO (List.zipWith yu ts b.ek)≠0 then fO (List.zipWith yu ts b.ek)else fO (Fm.P2 l b.acN)
noncomputable def Fm.P2:List Fm->List Fm->List Int
 |a::l,b::m=>a.Dx b::Fm.P2 l m|_,_=>[]
end
def Fm.PA:∀(l m:List Fm),Fm.P2 l m=List.zipWith Fm.Dx l m
 |[],m=>by rw[Fm.P2];rfl;intros;simp_all|a::l,[]=>by rw[Fm.P2];rfl;intros;simp_all|a::l,b::m=>by rw[Fm.P2,Fm.PA l m];rfl
def Fm.KU(k k':Int)(s b:Ty)(ts a:List Tm)(l c:List Fm):(Fm.mk k s ts l).Dx (.mk k' b a c)=if k≠k'\/s.kL b=false then 11 else if fO (List.zipWith yu ts a)≠0 then fO (List.zipWith yu ts a)else fO (List.zipWith Fm.Dx l c):=by rw[Fm.Dx,Fm.PA];rfl
def Gg{α:Type}{E:α->α->Option Int}{e:α->α->Int}{M:List α}:∀(l:List α) (i:Nat),l.length+i=M.length->(∀x∈l,∀y∈M,E x y=some (e x y))->fo (λ(d:Int) (f:α)=>(λ(_:Unit)=>cv (eI M d) λb=>cv (E f b) λa=>if(eW a 0)=true then(some (.ret a))else(some ((.next ()):gw Unit Int)))) l i ()=some (if fO (List.zipWith e l (M.drop i))=0 then .inl ()else .inr (fO (List.zipWith e l (M.drop i))))
 |[],i,_,_=>by simp[fO]|x::l,i,k,h=>by
  simp only[l5] at k
  have hi:i<M.length:=by omega
  have m:=Gg (E:=E) (e:=e) (M:=M) l (i+1) (by omega) (λy hy=>h y (by simp[hy]));have n:M.drop i=M[i]::M.drop (i+1):=(Kq hi)
  have o:List.zipWith e (x::l) (M.drop i)=e x M[i]::List.zipWith e l (M.drop (i+1)):=by rw[n];rfl
  rw[o,fl,jJ,oG hi,cl,h x (by simp) _ (Cl hi),cl]
  by_cases c:e x M[i]=0
  ·have g:¬eW (e x M[i]) 0=true:=by rw[ew];simpa using c
   have j:fO (e x M[i]::List.zipWith e l (M.drop (i+1)))=fO (List.zipWith e l (M.drop (i+1))):=by rw[fO,ee c]
   rw[ea g,cl,fv,j];exact m
  ·have g:eW (e x M[i]) 0=true:=by rw[ew];exact c
   have j:fO (e x M[i]::List.zipWith e l (M.drop (i+1)))=e x M[i]:=by rw[fO,ea c]
   rw[ee g,cl,zD,j,ea c]
def DB:∀(n:Nat) (a b:Fm),a.acO<=n->a.acO<=4096->b.acO<=4096->a.ok=true->b.ok=true->Qg a->Qg b->jM n a b=some (a.Dx b):=by
 intro n
 induction n with
 |zero=>intro a b h;have:=a.eP;omega
 |succ n S=>
  intro a b hn z A O P T U;cases a with
  |mk k s ts l=>
  cases b with
  |mk k' t c B=>
   cases T with
   |mk C D=>
   cases U with
   |mk F H=>
   rw[Fm.ef] at hn z A;obtain⟨a1,a2,a3⟩:=Fm.rf O;obtain⟨W,X,V⟩:=Fm.rf P;have Y:=Tm.fK ts;have Z:=Fm.fK l;rw[jM,Fm.KU];refine qE (G:=λo=>o=some (if k≠k'\/s.kL t=false then 11 else if fO (List.zipWith yu ts c)≠0 then fO (List.zipWith yu ts c)else fO (List.zipWith Fm.Dx l B))) (λv=>v=true↔(k≠k'\/s.kL t=false)) (λv Q=>?_) (λj R=>?_)
   ·by_cases g:k≠k'\/s.kL t=false
    ·rw[ee (Q.2 g),ee g]
    ·rw[ea (λh=>g (Q.1 h)),ea g];have I:k=k':=Xs λh=>g (.inl h);subst I;obtain⟨e1,e2⟩:=Fm.shape O P;show(hO (fm ts) _:Option Int)=_;rw[eC (by omega),eo,eA];show cv (fo (λ(J:Int) (K:Tm)=>(λ(_:Unit)=>cv (eI c J) λi=>cv (lM K i 1000) λd=>if(eW d 0)=true then(some (.ret d))else(some ((.next ()):gw Unit Int)))) ts 0 ()) _=_;rw[Gg (E:=λx y=>lM x y 1000) (e:=yu) ts 0 (by omega) (λx m y hy=>Ff (C x m) (F y hy)),XD]
     by_cases u:fO (List.zipWith yu ts c)=0
     ·rw[ee u,cl,en,ea (λh=>h u)];show(hO (fm l) _:Option Int)=_;rw[eC (by omega),eo,eA];show cv (fo (λ(p:Int) (q:Fm)=>(λ(_:Unit)=>cv (eI B p) λr=>cv (jM n q r) λf=>if(eW f 0)=true then(some (.ret f))else(some ((.next ()):gw Unit Int)))) l 0 ()) _=_
      rw[Gg (E:=λx y=>jM n x y) (e:=Fm.Dx) l 0 (by omega) (λx m y hy=>by
       have m1:=eJ Fm.acO m;have m2:=eJ Fm.acO hy
       exact S x y (by omega) (by omega) (by omega) (a3 x m) (V y hy) (D x m) (H y hy)),XD]
      by_cases L:fO (List.zipWith Fm.Dx l B)=0
      ·rw[ee L,L];rfl
      ·rw[ea L];rfl
     ·rw[ea u,ee u];rfl
   ·show(if(eW k k')=true then j true else cv (hD FU s t) λM=>j (nB M))=_
    by_cases w:k=k'
    ·have N:¬eW k k'=true:=by rw[ew];simpa using w
     rw[ea N,p_ (by omega),cl];exact R _ (by rw[O2];simp[w])
    ·have N:eW k k'=true:=by rw[ew];exact w
     rw[ee N];exact R _ (by simp[w])
def Hg.nmF{g:List Ty}{f:Fm}(h:Hg g f)(hg:g.length<=1000000):Qg f:=Qg.of f h.acO h.ok (h.ty.acS _ (by have:=h.acO;omega))
theorem CO{g f:List Ty}{a b:Fm}(c:Hg g a)(d:Hg f b)(h:g.length<=1000000)(i:f.length<=1000000):zM a b=a.Dx b:=by
 have j:=c.wt;have k:=d.wt
 have e:i_ a b=some (a.Dx b):=by
  unfold i_;rw[ly (by omega),c.err,cl,ea nz,ly (by omega),d.err,cl,ea nz,DB FU a b (by rw[fC];have:=c.acO;omega) c.acO d.acO c.ok d.ok (c.nmF h) (d.nmF i)];rfl
 unfold zM;rw[e];rfl
def ur{α:Type}{e:α->α->Int}:∀(l:List α),(∀x∈l,e x x=0)->fO (List.zipWith e l l)=0
 |[],_=>rfl|x::l,h=>by
  have a:=h x (by simp);show fO (e x x::List.zipWith e l l)=0;rw[fO,ee a];exact ur l λy hy=>h y (by simp[hy])
def Fm.L_(f:Fm):f.Dx f=0:=by
 induction f using Fm.ind with
 |h k s ts l a=>
  rw[Fm.KU,ea (by rintro(h|h);exact h rfl;rw[(Ty.j3 s s).2 rfl] at h;cases h),ur ts (λx _=>Jj x),ea (by decide),ur l a]
def fin(f:Fm)(m:Nat):Nat:=if f.has=true then m else 0
def kH{r:PR}{f:Fm}{m:Nat}(h:yT r=.inl (f,m)):∃a,r=.inl (f,a)/\f.err=0/\m=fin f a:=by
 cases r with
 |inr e=>cases h
 |inl p=>
  obtain⟨f0,a⟩:=p
  by_cases b:f0.err=0
  ·rw[AF b] at h;obtain⟨rfl,rfl⟩:=iq (UF h);exact⟨a,rfl,b,rfl⟩
  ·grind[U6]
def iJ{r:PR}{k:Fm->Nat->PR}{p:Fm×Nat}(h:pbind r k=.inl p):∃f m,r=.inl (f,m)/\k f m=.inl p:=by
 cases r with
 |inr e=>cases h
 |inl q=>exact⟨q.1,q.2,rfl,h⟩
theorem k8{e:Int}{r:PR}{p:Fm×Nat}(h:lq e r=.inl p):e=0/\r=.inl p:=by grind[ie,j0]
def nQ{c:Prop}[Decidable c]{e:Int}{r:PR}{p:Fm×Nat}(h:wb c e r=.inl p):¬c/\r=.inl p:=by grind[lp,kK]
def wE{r:PR}{k:Int}{f:Fm}{m:Nat}(h:Dw r k=.inl (f,m)):r=.inl (f,m)/\f.acM=k:=by
 obtain⟨f0,a,rfl,b⟩:=iJ h
 grind
theorem xm{F:Fm}{t:Tm}(h:(nj F t).2=0):nj F t=(Fm.jF 0 F t,0)/\(Fm.jF 0 F t).acO<=4096:=by grind[o7]
def Ah{r:PR}{F:Fm}{t:Tm}{f:Fm}{m:Nat}(h:Fp r F t=.inl (f,m)):r=.inl (f,m)/\(Fm.jF 0 F t).acO<=4096/\zM (Fm.jF 0 F t) f=0:=by
 obtain⟨f0,a,rfl,b⟩:=iJ h
 grind[k8,xm]
inductive Dv (L:List Fm):List Ty->List Fm->Pf->Fm->Nat->Prop
 |hyp {g hs i f}:0<=i->i<(hs.length:Int)->hs[hs.length-1-i.toNat]?=some f->Hg g f->Dv L g hs (.mk 1 i .z [] [] []) f 0|JF {g hs i f}:0<=i->L[i.toNat]?=some f->Hg [] f->Dv L g hs (.mk 2 i .z [] [] []) f 0|Qd {g hs a b x y m n}:Dv L g hs a x m->Dv L g hs b y n->Hg g (.mk 2 .z [] [x,y])->Dv L g hs (.mk 3 0 .z [] [] [a,b]) (.mk 2 .z [] [x,y]) (fin (.mk 2 .z [] [x,y]) (m|||n))|ZD {g hs a x y m}:Dv L g hs a (.mk 2 .z [] [x,y]) m->Hg g x->Dv L g hs (.mk 4 0 .z [] [] [a]) x (fin x m)|aaX {g hs a x y m}:Dv L g hs a (.mk 2 .z [] [x,y]) m->Hg g y->Dv L g hs (.mk 5 0 .z [] [] [a]) y (fin y m)|QR {g hs F a y m}:Hg g F->hs.length+1<=16->Dv L g (hs++[F]) a y m->Hg g (.mk 3 .z [] [F,y])->Dv L g hs (.mk 6 0 .z [] [F] [a]) (.mk 3 .z [] [F,y]) (fin (.mk 3 .z [] [F,y]) m)|QF {g hs a b x y f m n}:Dv L g hs a (.mk 3 .z [] [x,y]) m->Dv L g hs b f n->Hg g x->Hg g f->x.Dx f=0->Hg g y->Dv L g hs (.mk 7 0 .z [] [] [a,b]) y (fin y (m|||n))|all {g hs k k' s a f m}:(k=8/\k'=4\/k=12/\k'=6/\m.testBit 0=false)->s.err=0->g.length+1<=16->Dv L (g++[s]) (hs.map (Fm.up 0 1)) a f m->Hg g (.mk k' s [] [f])->Dv L g hs (.mk k 0 s [] [] [a]) (.mk k' s [] [f]) (fin (.mk k' s [] [f]) (m/2))|VI {g hs k k' t s a x m u}:(k=9/\k'=4/\u=m|||qP t\/k=13/\k'=6/\u=m)->eY g t s->t.err=0->Dv L g hs a (.mk k' s [] [x]) m->Hg (g++[s]) x->(Fm.jF 0 x t).acO<=4096->Dv L g hs (.mk k 0 .z [t] [] [a]) (Fm.jF 0 x t) (fin (Fm.jF 0 x t) u)|ex {g hs k k' t s a x f m u}:(k=10/\k'=5/\u=m|||qP t\/k=14/\k'=7/\u=m)->Hg g (.mk k' s [] [x])->eY g t s->t.err=0->Hg (g++[s]) x->Dv L g hs a f m->Hg g f->(Fm.jF 0 x t).acO<=4096->(Fm.jF 0 x t).Dx f=0->Dv L g hs (.mk k 0 .z [t] [.mk k' s [] [x]] [a]) (.mk k' s [] [x]) (fin (.mk k' s [] [x]) u)|V3 {g hs k k' s a b x f m n}:(k=11/\k'=5\/k=15/\k'=7/\n.testBit 0=false)->Dv L g hs a (.mk k' s [] [x]) m->s.err=0->g.length+1<=16->hs.length+1<=16->Hg (g++[s]) x->Dv L (g++[s]) (hs.map (Fm.up 0 1)++[x]) b f n->Hg (g++[s]) f->(y0 f).2=0->Hg g (y0 f).1->Dv L g hs (.mk k 0 .z [] [] [a,b]) (y0 f).1 (fin (y0 f).1 (m|||n/2))|ind {g hs t F a b x y m n}:Hg (g++[.nat]) F->eY g t .nat->t.err=0->Dv L g hs a x m->Hg g x->(Fm.jF 0 F gD).acO<=4096->(Fm.jF 0 F gD).Dx x=0->g.length+1<=16->hs.length+1<=16->Dv L (g++[.nat]) (hs.map (Fm.up 0 1)++[F]) b y n->Hg (g++[.nat]) y->(Fm.jF 0 (F.up 1 1) (iy v0)).acO<=4096->(Fm.jF 0 (F.up 1 1) (iy v0)).Dx y=0->(Fm.jF 0 F t).acO<=4096->Dv L g hs (.mk 16 0 .z [t] [F] [a,b]) (Fm.jF 0 F t) (fin (Fm.jF 0 F t) ((qP t|||m)|||n/2))|lists {g hs t F a b x y m n}:Hg (g++[.ns]) F->eY g t .ns->t.err=0->Dv L g hs a x m->Hg g x->(Fm.jF 0 F (.mk 7 0 .z [])).acO<=4096->(Fm.jF 0 F (.mk 7 0 .z [])).Dx x=0->g.length+2<=16->hs.length+1<=16->Dv L (g++[.nat]++[.ns]) (hs.map (Fm.up 0 2)++[F.up 1 1]) b y n->Hg (g++[.nat]++[.ns]) y->(Fm.jF 0 (F.up 1 2) (.mk 8 0 .z [v1,v0])).acO<=4096->(Fm.jF 0 (F.up 1 2) (.mk 8 0 .z [v1,v0])).Dx y=0->(Fm.jF 0 F t).acO<=4096->Dv L g hs (.mk 17 0 .z [t] [F] [a,b]) (Fm.jF 0 F t) (fin (Fm.jF 0 F t) ((qP t|||m)|||n/4))|refl {g hs t}:eY g t .nat->t.err=0->Hg g (.mk 1 .z [t,t] [])->Dv L g hs (.mk 18 0 .z [t] [] []) (.mk 1 .z [t,t] []) 0|subst {g hs F a b t u f m n}:Hg (g++[.nat]) F->Dv L g hs a (.mk 1 .z [t,u] []) m->eY g t .nat->eY g u .nat->t.err=0->u.err=0->Dv L g hs b f n->Hg g f->(Fm.jF 0 F t).acO<=4096->(Fm.jF 0 F t).Dx f=0->(Fm.jF 0 F u).acO<=4096->Dv L g hs (.mk 19 0 .z [] [F] [a,b]) (Fm.jF 0 F u) (fin (Fm.jF 0 F u) n)|choice {g hs a s u y m}:Dv L g hs a (.mk 4 s [] [.mk 5 u [] [y]]) m->s.err=0->u.err=0->Hg (g++[s]++[u]) y->(Ty.fn s u).err=0->(Fm.jF 0 (y.up 2 1) (iQ v1 v0)).acO<=4096->Hg g (.mk 5 (.fn s u) [] [.mk 4 s [] [Fm.jF 0 (y.up 2 1) (iQ v1 v0)]])->Dv L g hs (.mk 20 0 .z [] [] [a]) (.mk 5 (.fn s u) [] [.mk 4 s [] [Fm.jF 0 (y.up 2 1) (iQ v1 v0)]]) (fin (.mk 5 (.fn s u) [] [.mk 4 s [] [Fm.jF 0 (y.up 2 1) (iQ v1 v0)]]) m)
def He(f:Fm):fin f 0=0:=by grind[fin]
def BZ{g c:List Ty}{a b:Fm}(d:Hg g a)(e:Hg c b)(f:g.length<=1000000)(i:c.length<=1000000)(h:zM a b=0):a.Dx b=0:=by grind[CO]
def vL{g:List Ty}{s:Ty}{F:Fm}{t:Tm}(hF:jV (g++[s]) F)(a:eY g t s)(hn:(Fm.jF 0 F t).acO<=4096):Hg g (Fm.jF 0 F t):=⟨Fm.rq (hF.put a).ok hn,hF.put a⟩
def Hg.XA{g:List Ty}{F:Fm}(h:Hg (g++[.nat]) F):Hg (g++[.nat]++[.nat]) (F.up 1 1):=⟨Bz h.err (by omega) (by omega),by have:=h.ty.up g [.nat] [.nat] rfl;simpa using this⟩
def Hg.Yr{g:List Ty}{F:Fm}(h:Hg (g++[.ns]) F):Hg (g++[.nat]++[.ns]++[.ns]) (F.up 1 2):=⟨Bz h.err (by omega) (by omega),by have:=h.ty.up g [.ns] [.nat,.ns] rfl;simpa using this⟩
def Hg.upl{g:List Ty}{F:Fm}(h:Hg (g++[.ns]) F):Hg (g++[.nat]++[.ns]) (F.up 1 1):=⟨Bz h.err (by omega) (by omega),by have:=h.ty.up g [.ns] [.nat] rfl;simpa using this⟩
def B1.Ae{L:List Fm}{g:List Ty}{hs:List Fm}(h:B1 L ⟨g,hs⟩){s:Ty}(a:s.err=0)(hn:g.length+1<=16):B1 L ⟨g++[s],hs.map (Fm.up 0 1)⟩:=h.below (l:=[s]) (λx b=>by rw[we.1 b];exact a) hn
def B1.Th{L:List Fm}{g:List Ty}{hs:List Fm}(h:B1 L ⟨g,hs⟩)(hn:g.length+2<=16):B1 L ⟨g++[.nat]++[.ns],hs.map (Fm.up 0 2)⟩:=by
 have:=h.below (l:=[.nat,.ns]) (λx hx=>by
  rcases l7.1 hx with rfl|hx
  ·exact Ty.gK
  ·rw[we.1 hx];exact Ty.oX) hn
 grind
def zT{F:Fm}(hF:F.err=0){g:List Ty}(a:iV g)(h:F.vW g=0):Hg g F:=⟨hF,rY F (Fm.hZ hF).1 g a h⟩
def Dv.of{L:List Fm}{P:Pf}(hP:ze P):∀(g:List Ty) (hs:List Fm) (f:Fm) (m:Nat),B1 L ⟨g,hs⟩->P.inf L g hs=.inl (f,m)->Dv L g hs P f m/\Hg g f:=by
 induction hP with
 |@hyp i hi=>
  intro g hs f m d h;have D:iV g:=d.ctx;rw[Pf.k1,Rm] at h;obtain⟨J,o,he,c⟩:=kH h;rw[c];clear h c;have h:=o;clear o;obtain⟨j,E⟩:=nQ h;obtain⟨T,rfl⟩:=iq (UF E)
  have N:hs.length-1-i.toNat<hs.length:=by omega
  rw[Vs,oG N] at T;have T:hs[hs.length-1-i.toNat]=f:=T;have A:Hg g f:=d.acT f (by rw[<-T];exact Cl N);rw[He];exact⟨.hyp hi (by omega) (by rw[oG N,T]) A,A⟩
 |@JF i hi=>
  intro g hs f m d h;have D:iV g:=d.ctx;rw[Pf.k1,VU] at h;obtain⟨J,o,he,c⟩:=kH h;rw[c];clear h c;have h:=o;clear o;obtain⟨j,E⟩:=nQ h;obtain⟨T,rfl⟩:=iq (UF E)
  have N:i.toNat<L.length:=by omega
  rw[Vs,oG N] at T;have T:L[i.toNat]=f:=T;have A:Hg [] f:=d.JF f (by rw[<-T];exact Cl N);rw[He];exact⟨.JF hi (by rw[oG N,T]) A,he,by simpa using A.ty.front g⟩
 |@Qd a b _ _ l G=>
  intro g hs f m d h;have D:iV g:=d.ctx;rw[Pf.k1,RU] at h;obtain⟨J,o,he,c⟩:=kH h;rw[c];clear h c;have h:=o;clear o;obtain⟨x,n1,j,h⟩:=iJ h;obtain⟨y,n2,E,h⟩:=iJ h;obtain⟨rfl,rfl⟩:=iq (UF h);obtain⟨B,v⟩:=l g hs x n1 d j;obtain⟨R,tb⟩:=G g hs y n2 d E;have A:Hg g (.mk 2 .z [] [x,y]):=⟨he,.two (.inl rfl) v.ty tb.ty⟩;exact⟨.Qd B R A,A⟩
 |@and k a w _ l=>
  intro g hs f m d h;have D:iV g:=d.ctx;rcases w with rfl|rfl
  ·rw[Pf.k1,R_] at h;obtain⟨J,o,he,c⟩:=kH h;rw[c];clear h c;have h:=o;clear o;obtain⟨x,n1,j,h⟩:=iJ h;obtain⟨j,w⟩:=wE j;obtain⟨rfl,rfl⟩:=iq (UF h);obtain⟨B,v⟩:=l g hs x n1 d j;obtain⟨x,y,rfl,O,hy⟩:=v.ty.JM w (.inl rfl);exact⟨.ZD B ⟨he,O⟩,he,O⟩
  ·rw[Pf.k1,SU] at h;obtain⟨J,o,he,c⟩:=kH h;rw[c];clear h c;have h:=o;clear o;obtain⟨x,n1,j,h⟩:=iJ h;obtain⟨j,w⟩:=wE j;obtain⟨rfl,rfl⟩:=iq (UF h);obtain⟨B,v⟩:=l g hs x n1 d j;obtain⟨x,y,rfl,O,hy⟩:=v.ty.JM w (.inl rfl);exact⟨.aaX B ⟨he,hy⟩,he,hy⟩
 |@QR F a hF _ l=>
  intro g hs f m d h;have D:iV g:=d.ctx;rw[Pf.k1,Rs] at h;obtain⟨J,o,he,c⟩:=kH h;rw[c];clear h c;have h:=o;clear o;obtain⟨I,h⟩:=k8 h;obtain⟨hn,h⟩:=nQ h;obtain⟨y,n1,j,h⟩:=iJ h;obtain⟨rfl,rfl⟩:=iq (UF h);have p:=zT hF D I;obtain⟨B,v⟩:=l g _ y n1 (d.with p (by show hs.length+1<=16;omega)) j;have A:Hg g (.mk 3 .z [] [F,y]):=⟨he,.two (.inr rfl) p.ty v.ty⟩;exact⟨.QR p (by omega) B A,A⟩
 |@QF a b _ _ l G=>
  intro g hs f m d h;have D:iV g:=d.ctx;have S:=d.nv;have S:g.length<=16:=S;rw[Pf.k1,TS] at h;obtain⟨J,o,he,c⟩:=kH h;rw[c];clear h c;have h:=o;clear o;obtain⟨x,n1,j,h⟩:=iJ h;obtain⟨j,w⟩:=wE j;obtain⟨z,n2,E,h⟩:=iJ h;obtain⟨hm,h⟩:=k8 h;obtain⟨rfl,rfl⟩:=iq (UF h);obtain⟨B,v⟩:=l g hs x n1 d j;obtain⟨R,tb⟩:=G g hs z n2 d E;obtain⟨x,y,rfl,O,hy⟩:=v.ty.JM w (.inr rfl);have C:=v.sub (x:=x) (by simp) O;exact⟨.QF B R C tb (BZ C tb (by omega) (by omega) hm) ⟨he,hy⟩,he,hy⟩
 |@all k s a w r _ l=>
  intro g hs f m d h;have D:iV g:=d.ctx;rcases w with rfl|rfl
  ·rw[Pf.k1,J2] at h;obtain⟨J,o,he,c⟩:=kH h;rw[c];clear h c;have h:=o;clear o;obtain⟨hn,h⟩:=nQ h;obtain⟨x,n1,j,h⟩:=iJ h;obtain⟨rfl,rfl⟩:=iq (UF h);obtain⟨B,v⟩:=l _ _ x n1 (d.Ae r (by omega)) j;have A:Hg g (.mk 4 s [] [x]):=⟨he,.q (.inl rfl) r v.ty⟩;exact⟨.all (.inl ⟨rfl,rfl⟩) r (by omega) B A,A⟩
  ·rw[Pf.k1,Kr] at h;obtain⟨J,o,he,c⟩:=kH h;rw[c];clear h c;have h:=o;clear o;obtain⟨hn,h⟩:=nQ h;obtain⟨x,n1,j,h⟩:=iJ h;obtain⟨hb,h⟩:=nQ h;obtain⟨rfl,rfl⟩:=iq (UF h);obtain⟨B,v⟩:=l _ _ x n1 (d.Ae r (by omega)) j;have A:Hg g (.mk 6 s [] [x]):=⟨he,.q (.inr (.inr (.inl rfl))) r v.ty⟩;exact⟨.all (.inr ⟨rfl,rfl,by simpa using hb⟩) r (by omega) B A,A⟩
 |@VI k t a w I _ l=>
  intro g hs f m d h;have D:iV g:=d.ctx
  have key:∀(k':Int) (f:Fm) (m:Nat),(k'=4\/k'=6)->∀u:Nat->Nat,(lq (t.ty g).2 (pbind (Dw (a.inf L g hs) k') λa m=>wb ((t.ty g).1.kL a.dv=false) 7 (lq (nj (a.acN.getD 0 hW) t).2 (.inl ((nj (a.acN.getD 0 hW) t).1,u m)))))=.inl (f,m)->∃s x n,eY g t s/\Dv L g hs a (.mk k' s [] [x]) n/\Hg (g++[s]) x/\(Fm.jF 0 x t).acO<=4096/\f=Fm.jF 0 x t/\m=u n:=by
   intro k' f m ah u h;obtain⟨ad,h⟩:=k8 h;obtain⟨x,n1,j,h⟩:=iJ h;obtain⟨j,w⟩:=wE j;obtain⟨U,h⟩:=nQ h;obtain⟨X,h⟩:=k8 h;obtain⟨rfl,rfl⟩:=iq (UF h);obtain⟨B,v⟩:=l g hs x n1 d j;obtain⟨s,y,rfl,r,hy⟩:=v.ty.wz w (by omega);have ae:=v.sub (x:=y) (by simp) hy;obtain⟨V,K⟩:=xm X;rcases vZ I D with⟨e,he,q1,_⟩|⟨s1,q1,M,ai⟩
   ·exact absurd (q1.symm.trans ad) he
   ·have q1:t.ty g=(s1,0):=q1;rw[q1] at U;have:s1=s:=(Ty.j3 _ _).1 (by simpa using U);subst this;have V:nj y t=(Fm.jF 0 y t,0):=V;refine⟨s1,y,n1,M,B,ae,K,?_,rfl⟩;show(nj y t).1=_;rw[V]
  rcases w with rfl|rfl
  ·rw[Pf.k1,VK] at h;obtain⟨J,o,he,c⟩:=kH h;rw[c];clear h c;have h:=o;clear o;obtain⟨s,x,n,q1,q2,Y,Z,rfl,rfl⟩:=key 4 _ _ (.inl rfl) (λm=>m|||qP t) h;exact⟨.VI (.inl ⟨rfl,rfl,rfl⟩) q1 I q2 Y Z,vL Y.ty q1 Z⟩
  ·rw[Pf.k1,Sr] at h;obtain⟨J,o,he,c⟩:=kH h;rw[c];obtain⟨s,x,n,q1,q2,Y,Z,rfl,rfl⟩:=key 6 _ _ (.inr rfl) (λm=>m) o;exact⟨.VI (.inr ⟨rfl,rfl,rfl⟩) q1 I q2 Y Z,vL Y.ty q1 Z⟩
 |@ex k t F a w I hF _ l=>
  intro g hs f m d h;have D:iV g:=d.ctx;have S:g.length<=16:=d.nv
  have key:∀(k':Int) (f:Fm) (m:Nat),(k'=5\/k'=7)->∀u:Nat->Nat,(lq (F.vW g) (wb (F.acM≠k') 10 (lq (t.ty g).2 (wb ((t.ty g).1.kL F.dv=false) 7 (pbind (Fp (a.inf L g hs) (F.acN.getD 0 hW) t) λ_ m=>.inl (F,u m))))))=.inl (f,m)->∃s x y n,F=.mk k' s [] [x]/\Hg g F/\eY g t s/\Hg (g++[s]) x/\Dv L g hs a y n/\Hg g y/\(Fm.jF 0 x t).acO<=4096/\(Fm.jF 0 x t).Dx y=0/\f=F/\m=u n:=by
   intro k' f m ah u h;obtain⟨M,h⟩:=k8 h;obtain⟨w,h⟩:=nQ h;obtain⟨ad,h⟩:=k8 h;obtain⟨U,h⟩:=nQ h;obtain⟨y,n,j,h⟩:=iJ h;obtain⟨rfl,rfl⟩:=iq (UF h);have p:=zT hF D M;obtain⟨s,x,rfl,r,O⟩:=p.ty.wz (vE.1 w) (by omega);have C:=p.sub (x:=x) (by simp) O;obtain⟨j,K,hm⟩:=Ah j;obtain⟨B,v⟩:=l g hs y n d j;rcases vZ I D with⟨e,he,q1,_⟩|⟨s1,q1,ab,ai⟩
   ·exact absurd (q1.symm.trans ad) he
   ·rw[q1] at U;have:s1=s:=(Ty.j3 _ _).1 (by simpa using U);subst this;exact⟨s1,x,y,n,rfl,p,ab,C,B,v,K,BZ (vL O ab K) v (by omega) (by omega) hm,rfl,rfl⟩
  rcases w with rfl|rfl
  ·rw[Pf.k1,KB] at h;obtain⟨J,o,he,c⟩:=kH h;rw[c];obtain⟨s,x,y,n,rfl,q1,q2,Y,Z,q5,q6,q7,rfl,rfl⟩:=key 5 _ _ (.inl rfl) (λm=>m|||qP t) o;exact⟨.ex (.inl ⟨rfl,rfl,rfl⟩) q1 q2 I Y Z q5 q6 q7,q1⟩
  ·rw[Pf.k1,Tj] at h;obtain⟨J,o,he,c⟩:=kH h;rw[c];obtain⟨s,x,y,n,rfl,q1,q2,Y,Z,q5,q6,q7,rfl,rfl⟩:=key 7 _ _ (.inr rfl) (λm=>m) o;exact⟨.ex (.inr ⟨rfl,rfl,rfl⟩) q1 q2 I Y Z q5 q6 q7,q1⟩
 |@V3 k a b w _ _ l G=>
  intro g hs f m d h;have D:iV g:=d.ctx;have S:g.length<=16:=d.nv;rcases w with rfl|rfl
  ·rw[Pf.k1,HR] at h;obtain⟨J,o,he,c⟩:=kH h;rw[c];clear h c;obtain⟨x,n1,j,h⟩:=iJ o;obtain⟨j,w⟩:=wE j;obtain⟨hn,h⟩:=nQ h;obtain⟨y,n2,E,h⟩:=iJ h;obtain⟨hw,h⟩:=k8 h;obtain⟨rfl,rfl⟩:=iq (UF h);obtain⟨B,v⟩:=l g hs x n1 d j;obtain⟨s,x,rfl,r,O⟩:=v.ty.wz w (.inr (.inl rfl));have C:=v.sub (x:=x) (by simp) O;have Q:=(d.Ae r (by omega)).with (f:=x) C (by show(hs.map (Fm.up 0 1)).length+1<=16;simp;omega);obtain⟨R,tb⟩:=G _ _ y n2 Q E;have A:Hg g (y0 y).1:=⟨he,(HT tb (by omega) r hw).1⟩;exact⟨.V3 (.inl ⟨rfl,rfl⟩) B r (by omega) (by omega) C R tb hw A,A⟩
  ·rw[Pf.k1,Mi] at h;obtain⟨J,o,he,c⟩:=kH h;rw[c];clear h c;obtain⟨x,n1,j,h⟩:=iJ o;obtain⟨j,w⟩:=wE j;obtain⟨hn,h⟩:=nQ h;obtain⟨y,n2,E,h⟩:=iJ h;obtain⟨hw,h⟩:=k8 h;obtain⟨hb,h⟩:=nQ h;obtain⟨rfl,rfl⟩:=iq (UF h);obtain⟨B,v⟩:=l g hs x n1 d j;obtain⟨s,x,rfl,r,O⟩:=v.ty.wz w (.inr (.inr (.inr rfl)));have C:=v.sub (x:=x) (by simp) O;have Q:=(d.Ae r (by omega)).with (f:=x) C (by show(hs.map (Fm.up 0 1)).length+1<=16;simp;omega);obtain⟨R,tb⟩:=G _ _ y n2 Q E;have A:Hg g (y0 y).1:=⟨he,(HT tb (by omega) r hw).1⟩;exact⟨.V3 (.inr ⟨rfl,rfl,by simpa using hb⟩) B r (by omega) (by omega) C R tb hw A,A⟩
 |@ind k t F a b w I hF _ _ l G=>
  intro g hs f m d h;have D:iV g:=d.ctx;have S:g.length<=16:=d.nv;rcases w with rfl|rfl
  ·rw[Pf.k1,PE] at h;obtain⟨J,o,he,c⟩:=kH h;rw[c];clear h c;obtain⟨M,h⟩:=k8 o;obtain⟨w,h⟩:=k8 h;obtain⟨x,n1,j,h⟩:=iJ h;obtain⟨hn,h⟩:=nQ h;obtain⟨y,n2,E,h⟩:=iJ h;obtain⟨X,h⟩:=k8 h;obtain⟨V,K⟩:=xm X;rw[V] at h;obtain⟨rfl,rfl⟩:=iq (UF h);have p:=zT hF D.nat M;have H:eY g t .nat:=Al D I (.inl rfl) w;obtain⟨j,a2,a3⟩:=Ah j;obtain⟨E,W,b3⟩:=Ah E;obtain⟨B,v⟩:=l g hs x n1 d j;have Q:=(d.Ae Ty.gK (by omega)).with (f:=F) p (by show(hs.map (Fm.up 0 1)).length+1<=16;simp;omega);obtain⟨R,tb⟩:=G _ _ y n2 Q E;have hz:=vL p.ty (t:=gD) .zero a2;have af:=vL (Hg.XA p).ty (t:=iy v0) (.succ sm) W;have A:Hg g (Fm.jF 0 F t):=vL p.ty H K;exact⟨.ind p H I B v a2 (BZ hz v (by omega) (by omega) a3) (by omega) (by omega) R tb W (BZ af tb (by simp;omega) (by simp;omega) b3) K,A⟩
  ·rw[Pf.k1,Pr] at h;obtain⟨J,o,he,c⟩:=kH h;rw[c];clear h c;obtain⟨M,h⟩:=k8 o;obtain⟨w,h⟩:=k8 h;obtain⟨x,n1,j,h⟩:=iJ h;obtain⟨hn,h⟩:=nQ h;obtain⟨y,n2,E,h⟩:=iJ h;obtain⟨X,h⟩:=k8 h;obtain⟨V,K⟩:=xm X;rw[V] at h;obtain⟨rfl,rfl⟩:=iq (UF h);have p:=zT hF D.ns M;have H:eY g t .ns:=Al D I (.inr rfl) w;obtain⟨j,a2,a3⟩:=Ah j;obtain⟨E,W,b3⟩:=Ah E;obtain⟨B,v⟩:=l g hs x n1 d j;have Q:=(d.Th (by omega)).with (f:=F.up 1 1) (Hg.upl p) (by show(hs.map (Fm.up 0 2)).length+1<=16;simp;omega);obtain⟨R,tb⟩:=G _ _ y n2 Q E;have hz:=vL p.ty (t:=.mk 7 0 .z []) .nil a2;have af:=vL (Hg.Yr p).ty (t:=.mk 8 0 .z [v1,v0]) (.cons C' sm) W;have A:Hg g (Fm.jF 0 F t):=vL p.ty H K;exact⟨.lists p H I B v a2 (BZ hz v (by omega) (by omega) a3) (by omega) (by omega) R tb W (BZ af tb (by simp;omega) (by simp;omega) b3) K,A⟩
 |@refl t I=>
  intro g hs f m d h;have D:iV g:=d.ctx;rw[Pf.k1,OS] at h;obtain⟨J,o,he,c⟩:=kH h;rw[c];clear h c;obtain⟨w,h⟩:=k8 o;obtain⟨rfl,rfl⟩:=iq (UF h);have H:eY g t .nat:=Al D I (.inl rfl) w;rw[He];exact⟨.refl H I ⟨he,.eq H H⟩,he,.eq H H⟩
 |@subst F a b hF _ _ l G=>
  intro g hs f m d h;have D:iV g:=d.ctx;have S:g.length<=16:=d.nv;rw[Pf.k1,PH] at h;obtain⟨J,o,he,c⟩:=kH h;rw[c];clear h c;obtain⟨M,h⟩:=k8 o;obtain⟨x,n1,j,h⟩:=iJ h;obtain⟨j,w⟩:=wE j;obtain⟨y,n2,E,h⟩:=iJ h;obtain⟨X,h⟩:=k8 h;obtain⟨V,K⟩:=xm X;rw[V] at h;obtain⟨rfl,rfl⟩:=iq (UF h);have p:=zT hF D.nat M;obtain⟨B,v⟩:=l g hs x n1 d j;obtain⟨t,u,rfl,I,hu⟩:=v.ty.Wt w;have hn:=v.acO;rw[Fm.ef] at hn;simp only[ez] at hn;obtain⟨E,W,b3⟩:=Ah E;obtain⟨R,tb⟩:=G g hs y n2 d E;have W:(Fm.jF 0 F t).acO<=4096:=W;have b3:zM (Fm.jF 0 F t) y=0:=b3;have K:(Fm.jF 0 F u).acO<=4096:=K;have A:Hg g (Fm.jF 0 F u):=vL p.ty hu K;show Dv L g hs _ (Fm.jF 0 F u) (fin (Fm.jF 0 F u) n2)/\Hg g (Fm.jF 0 F u);exact⟨.subst p B I hu (Tm.rq I.ok (by omega)) (Tm.rq hu.ok (by omega)) R tb W (BZ (vL p.ty I W) tb (by omega) (by omega) b3) K,A⟩
 |@choice a _ l=>
  intro g hs f m d h;have D:iV g:=d.ctx;rw[Pf.k1,Nj] at h;obtain⟨J,o,he,c⟩:=kH h;rw[c];clear h c;obtain⟨x,n1,j,h⟩:=iJ o;obtain⟨j,w⟩:=wE j;obtain⟨h5,h⟩:=nQ h;obtain⟨aa,h⟩:=nQ h;obtain⟨X,h⟩:=nQ h;obtain⟨V,K⟩:=xm (vE.1 X);rw[V] at h;obtain⟨rfl,rfl⟩:=iq (UF h);obtain⟨B,v⟩:=l g hs x n1 d j;obtain⟨s,x,rfl,r,O⟩:=v.ty.wz w (.inl rfl);have C:=v.sub (x:=x) (by simp) O;obtain⟨u,y,rfl,aj,hy⟩:=O.wz (vE.1 h5) (.inr (.inl rfl));have ae:=C.sub (x:=y) (by simp) hy;have K:(Fm.jF 0 (y.up 2 1) (iQ v1 v0)).acO<=4096:=K;have aa:(Ty.fn s u).err=0:=vE.1 aa
  have ak:jV (g++[.fn s u]++[s]++[u]) (y.up 2 1):=by
   have:=hy.up g [s,u] [.fn s u] (by simp);simpa using this
  have al:eY (g++[.fn s u]++[s]) (iQ v1 v0) u:=.app C' sm;have A:Hg g (.mk 5 (.fn s u) [] [.mk 4 s [] [Fm.jF 0 (y.up 2 1) (iQ v1 v0)]]):=⟨he,.q (.inr (.inl rfl)) aa (.q (.inl rfl) r (ak.put al))⟩;exact⟨.choice B r aj ae aa K A,A⟩
def Mm{x:Tm}{e:Int}(h:(yX x e).2=0):e=0/\∃n,x.norm 1000 0=((yX x e).1,n,0):=by
 by_cases he:e=0
 ·subst he;refine⟨rfl,?_⟩;unfold yX at h|-;simp only[if_true] at h|-;refine⟨(x.norm 1000 0).2.1,?_⟩;obtain⟨p,n,e,a⟩:∃p n e,x.norm 1000 0=(p,n,e):=⟨_,_,_,rfl⟩;rw[a] at h|-;simp only at h|-;rw[h]
 ·rw[C8 he] at h;exact absurd h he
def Tm.UN(t:Tm):∀n:Int,t.acU n=0->(t.up (n+1) (-1)).up n 1=t:=by
 induction t using Tm.ind with
 |h k i s l e=>
  intro n a;rw[Tm.gG] at a;rw[Tm.kl,Tm.kl,Fs]
  congr 1
  ·by_cases b:k=1
   ·subst b;simp only[ZZ] at a|-
    have:¬i=n:=λh=>by rw[ee h] at a;omega
    by_cases c:n+1<=i
    ·rw[ee c,ee (by omega)];omega
    ·rw[ea c,ea (by omega)]
   ·simp only[b,false_and,QL]
  ·refine map_id' λx d=>?_;have:=eJ (Tm.acU (n+gk k)) d;have:=e x d (n+gk k) (by omega);rw[show n+gk k+1=n+1+gk k by omega] at this;exact this
def Fm.UN(f:Fm):∀n:Int,f.acU n=0->(f.up (n+1) (-1)).up n 1=f:=by
 induction f using Fm.ind with
 |h k s ts l b=>
  intro n c;rw[Fm.gG] at c;rw[Fm.kl,Fm.kl,Fs,Fs]
  congr 1
  ·refine map_id' λx a=>?_;have:=eJ (Tm.acU n) a;exact x.UN n (by omega)
  ·refine map_id' λx a=>?_;have:=eJ (Fm.acU (n+qB k)) a;have:=b x a (n+qB k) (by omega);rw[show n+qB k+1=n+1+qB k by omega] at this;exact this
inductive II
 |n|l|u|p (a b:II)|f (a b:II)
def II.D:II->Type
 |.n=>Nat|.l=>List Nat|.u=>Unit|.p a b=>a.D×b.D|.f a b=>a.D->b.D
def II.Yf:(s:II)->s.D
 |.n=>(0:Nat)|.l=>([]:List Nat)|.u=>()|.p a b=>(a.Yf,b.Yf)|.f _ b=>λ_=>b.Yf
structure Vl where
 s:II
 d:s.D
def Vl.no:Vl:=⟨.u,()⟩
noncomputable def Vl.at (v:Vl) (s:II):s.D:=@dite _ (v.s=s) (Classical.propDecidable _) (λh=>h▸v.d) (λ_=>s.Yf)
def Vl.yO(s:II)(d:s.D):(Vl.mk s d).at s=d:=by unfold Vl.at;rw[dif_pos rfl]
def Vl.eta{v:Vl}{s:II}(h:v.s=s):(⟨s,v.at s⟩:Vl)=v:=by
 subst h;rw[Vl.yO]
def Jp(k:Int):List II->II
 |[a,b]=>if k=3 then .p a b else .f a b|_=>if k=1 then .n else if k=2 then .l else .u
mutual
def Ty.S:Ty->II
 |.mk k l=>Jp k (Ty.SL l)
def Ty.SL:List Ty->List II
 |[]=>[]|t::l=>t.S::Ty.SL l
end
def HL:Ty.nat.S=.n:=by grind[Ty.nat,Ty.S,Ty.SL,Jp]
def Nn:Ty.ns.S=.l:=by grind[Ty.ns,Ty.S,Ty.SL,Jp]
def XH:Ty.unit.S=.u:=by grind[Ty.unit,Ty.S,Ty.SL,Jp]
def LO(a b:Ty):(Ty.fn a b).S=.f a.S b.S:=by grind[Ty.fn,Ty.S,Ty.SL,Jp]
def Xn(a b:Ty):(Ty.pr a b).S=.p a.S b.S:=by grind[Ty.pr,Ty.S,Ty.SL,Jp]
noncomputable def Yw (s:II) (φ:s.D->Vl):Vl:=⟨.f s (φ s.Yf).s,λx=>(φ x).at (φ s.Yf).s⟩
noncomputable def uT (f a:Vl):Vl:=match f with
 |⟨.f s t,φ⟩=>⟨t,φ (a.at s)⟩
 |_=>.no
noncomputable def No (b s:Vl):Nat->Vl
 |0=>b|k+1=>uT (uT s ⟨.n,k⟩) (No b s k)
noncomputable def EW (b s:Vl):List Nat->Vl
 |[]=>b|h::t=>uT (uT (uT s ⟨.n,h⟩) ⟨.l,t⟩) (EW b s t)
def WA(v:Vl):Vl:=match v with
 |⟨.p a _,x⟩=>⟨a,x.1⟩|_=>.no
def Xu(v:Vl):Vl:=match v with
 |⟨.p _ b,x⟩=>⟨b,x.2⟩|_=>.no
noncomputable def r9 (v:Vl):Nat:=v.at .n
noncomputable def zf (v:Vl):List Nat:=v.at .l
noncomputable def YS (k:Int):List Vl->Vl
 |[]=>if k=4 then⟨.n,(0:Nat)⟩else if k=7 then⟨.l,([]:List Nat)⟩else⟨.u,()⟩|[a]=>if k=5 then⟨.n,r9 a+1⟩else if k=11 then WA a else Xu a|[a,b]=>if k=3 then uT a b else if k=8 then⟨.l,r9 a::zf b⟩else⟨.p a.s b.s,(a.d,b.d)⟩|a::b::c::_=>if k=6 then No a b (r9 c)else EW a b (zf c)
def V7:List Vl->Vl
 |[]=>.no|v::_=>v
mutual
noncomputable def Tm.val:Tm->List Vl->Vl
 |.mk k i s l,ρ=>if k=1 then(ρ.reverse[i.toNat]?).getD .no else if k=2 then Yw s.S λx=>Tm.UQ l (ρ++[⟨s.S,x⟩])else YS k (Tm.S' l ρ)
noncomputable def Tm.UQ:List Tm->List Vl->Vl
 |[],_=>.no|t::_,ρ=>t.val ρ
noncomputable def Tm.S':List Tm->List Vl->List Vl
 |[],_=>[]|t::l,ρ=>t.val ρ::Tm.S' l ρ
end
def U5:∀(l:List Tm) (ρ:List Vl),Tm.UQ l ρ=V7 (l.map λt=>t.val ρ)
 |[],_=>by rw[Tm.UQ];rfl|t::l,ρ=>by rw[Tm.UQ];rfl
def O3:∀(l:List Tm) (ρ:List Vl),Tm.S' l ρ=l.map λt=>t.val ρ
 |[],_=>by rw[Tm.S'];rfl|t::l,ρ=>by rw[Tm.S',O3 l];rfl
def Tm.val_mk(k i:Int)(s:Ty)(l:List Tm)(ρ:List Vl):(Tm.mk k i s l).val ρ=if k=1 then(ρ.reverse[i.toNat]?).getD .no else if k=2 then Yw s.S λx=>V7 (l.map λt=>t.val (ρ++[⟨s.S,x⟩]))else YS k (l.map λt=>t.val ρ):=by
 rw[Tm.val,O3];simp only[U5]
def Pg{k:Int}(h:k≠2):gk k=0:=by grind[gk]
def Ol(t:Tm):∀ρ1 e ρ2:List Vl,t.ok=true->(t.up ρ2.length e.length).val (ρ1++e++ρ2)=t.val (ρ1++ρ2):=by
 induction t using Tm.ind with
 |h k i s l c=>
  intro ρ1 e ρ2 b;have hi:=(Tm.lB b).2.1;rw[Tm.kl,Tm.val_mk,Tm.val_mk]
  by_cases d:k=1
  ·grind
  ·rw[ea d,ea d]
   by_cases a:k=2
   ·subst a;rw[ee rfl,ee rfl]
    congr 1
    funext x
    rw[Fs]
    congr 1
    refine uQ λy hy=>?_;have:=c y hy ρ1 e (ρ2++[⟨s.S,x⟩]) (Tm.xa b y hy)
    grind[gk]
   ·rw[ea a,ea a,Pg a,wq,Fs]
    congr 1
    exact uQ λy hy=>c y hy ρ1 e ρ2 (Tm.xa b y hy)
def Sj(t:Tm)(ρ e:List Vl)(a:t.ok=true):(t.up 0 e.length).val (ρ++e)=t.val ρ:=by
 have:=Ol t ρ e [] a
 grind
def Kk(a:Tm)(g:a.ok=true)(t:Tm):∀ρ1 ρ2:List Vl,t.ok=true->(Tm.jF ρ2.length t a).val (ρ1++ρ2)=t.val (ρ1++[a.val ρ1]++ρ2):=by
 induction t using Tm.ind with
 |h k i s l j=>
  intro ρ1 ρ2 d;have hi:=(Tm.lB d).2.1;rw[Tm.kV]
  by_cases c:k=1
  ·subst c;rw[ee rfl,Tm.val_mk,ee rfl];unfold Tm.rG;rw[aa2,aa2,List.reverse_singleton,List.singleton_append]
   by_cases e:i=(ρ2.length:Int)
   ·rw[ee e,Sj a ρ1 ρ2 g,uo (by simp;omega),show i.toNat-ρ2.reverse.length=0 by simp;omega];rfl
   ·rw[ea e]
    by_cases f:(ρ2.length:Int)<i
    ·rw[ee f,Tm.val_mk,ee rfl,aa2,uo (by simp;omega),uo (by simp;omega),show i.toNat-ρ2.reverse.length=((i-1).toNat-ρ2.reverse.length)+1 by simp;omega,mT]
    ·rw[ea f,Tm.val_mk,ee rfl,aa2,r_ (by simp;omega),r_ (by simp;omega)]
  ·rw[ea c,Tm.val_mk,Tm.val_mk,ea c,ea c]
   by_cases b:k=2
   ·subst b;rw[ee rfl,ee rfl]
    congr 1
    funext x
    rw[Fs]
    congr 1
    refine uQ λy hy=>?_
    grind[Tm.xa,gk]
   ·rw[ea b,ea b,Pg b,wq,Fs]
    congr 1
    exact uQ λy hy=>j y hy ρ1 ρ2 (Tm.xa d y hy)
def sY(ρ:List Vl)(g:List Ty):Prop:=ρ.map Vl.s=g.map Ty.S
def sY.app{ρ:List Vl}{g:List Ty}(h:sY ρ g){v:Vl}{s:Ty}(a:v.s=s.S):sY (ρ++[v]) (g++[s]):=by grind[sY]
def Wz{v:Vl}{a b:II}(h:v.s=.f a b):∃φ:a.D->b.D,v=⟨.f a b,φ⟩:=by
 cases v with
 |mk s d=>simp only at h;subst h;exact⟨d,rfl⟩
def Ps{v:Vl}{a b:II}(h:v.s=.p a b):∃(x:a.D) (y:b.D),v=⟨.p a b,(x,y)⟩:=by
 cases v with
 |mk s d=>simp only at h;subst h;exact⟨d.1,d.2,rfl⟩
def JJ{f a:Vl}{s t:II}(h:f.s=.f s t):(uT f a).s=t:=by
 obtain⟨φ,rfl⟩:=Wz h;rfl
def BA{g:List Ty}{x:Tm}{t:Ty}(h:eY g x t):∀ρ:List Vl,sY ρ g->(x.val ρ).s=t.S:=by
 induction h with
 |@var g t i hi hg=>
  intro ρ he
  have p:ρ.length=g.length:=by have:=congrArg List.length he;simpa using this
  rw[Tm.val_mk,ee rfl,show((i:Nat):Int).toNat=i from rfl,List.getElem?_reverse (by omega),p]
  have l:(ρ.map Vl.s)[g.length-1-i]?=(g.map Ty.S)[g.length-1-i]?:=by rw[he]
  rw[tN,tN,hg] at l;cases j:ρ[g.length-1-i]?with
  |none=>rw[j] at l;cases l
  |some v=>rw[j] at l;exact iD l
 |@lam g s b t hs _ m=>
  intro ρ he;rw[Tm.val_mk,ea (by decide),ee rfl,LO];show II.f s.S _=_
  congr 1
  exact m _ (he.app rfl)
 |app _ _ c d=>
  intro ρ he;rw[Tm.val_mk,ea (by decide),ea (by decide)];exact JJ (by rw[<-LO];exact c ρ he)
 |zero=>intro ρ _;rw[Tm.val_mk,ea (by decide),ea (by decide),HL];rfl|succ _ _=>intro ρ _;rw[Tm.val_mk,ea (by decide),ea (by decide),HL];rfl|@tW g t b s n _ _ _ _ c d o=>
  intro ρ he;rw[Tm.val_mk,ea (by decide),ea (by decide)];show(No (b.val ρ) (s.val ρ) _).s=_;have j:=d ρ he;rw[LO,LO] at j;generalize r9 (n.val ρ)=k
  induction k with
  |zero=>exact c ρ he|succ k _=>exact JJ (JJ j)
 |nil=>intro ρ _;rw[Tm.val_mk,ea (by decide),ea (by decide),Nn];rfl|cons _ _ _ _=>intro ρ _;rw[Tm.val_mk,ea (by decide),ea (by decide),Nn];rfl|@fold g t b s n _ _ _ _ c d o=>
  intro ρ he;rw[Tm.val_mk,ea (by decide),ea (by decide)];show(EW (b.val ρ) (s.val ρ) _).s=_;have j:=d ρ he;rw[LO,LO,LO] at j;generalize zf (n.val ρ)=k
  induction k with
  |nil=>exact c ρ he|cons h k _=>exact JJ (JJ (JJ j))
 |pair _ _ _ c d=>
  intro ρ he;rw[Tm.val_mk,ea (by decide),ea (by decide),Xn,<-c ρ he,<-d ρ he];rfl
 |@fst g a s t _ m=>
  intro ρ he;rw[Tm.val_mk,ea (by decide),ea (by decide)];show(WA (a.val ρ)).s=_;obtain⟨x,y,e⟩:=Ps (v:=a.val ρ) (by rw[<-Xn];exact m ρ he);rw[e];rfl
 |@snd g a s t _ m=>
  intro ρ he;rw[Tm.val_mk,ea (by decide),ea (by decide)];show(Xu (a.val ρ)).s=_;obtain⟨x,y,e⟩:=Ps (v:=a.val ρ) (by rw[<-Xn];exact m ρ he);rw[e];rfl
 |unit=>intro ρ _;rw[Tm.val_mk,ea (by decide),ea (by decide),XH];rfl
def R8{s:II}{φ:s.D->Vl}{a:Vl}(b:a.s=s)(h:∀x,(φ x).s=(φ s.Yf).s):uT (Yw s φ) a=φ (a.at s):=Vl.eta (h _)
def P3{g:List Ty}{x:Tm}{t:Ty}(h:eY g x t)(o:x.root=true){ρ:List Vl}(he:sY ρ g):x.gb.val ρ=x.val ρ:=by
 have v1:∀(k i:Int) (s:Ty) (l:List Tm),k≠1->k≠2->(Tm.mk k i s l).val ρ=YS k (l.map λt=>t.val ρ):=λk i s l c j=>by rw[Tm.val_mk,ea c,ea j]
 cases h with
 |@app _ f a s _ c j=>
  have d:f.acM=2:=by simpa[Tm.root,Tm.kd] using o
  generalize r:Ty.fn s t=q at c
  cases c<;>simp only[Tm.eM] at d<;>first|omega|skip
  rename_i H b w B p;obtain⟨rfl,rfl⟩:=Ty.TH r
  have e:(Tm.mk 3 0 .z [.mk 2 0 s [b],a]).gb=Tm.jF 0 b a:=by simp[Tm.gb]
  have C:=Kk a j.ok b ρ [] p.ok;simp only[wv,yy] at C;rw[e];refine C.trans ?_;rw[v1 3 _ _ _ (by decide) (by decide)];show _=uT ((Tm.mk 2 0 s [b]).val ρ) (a.val ρ);rw[Tm.val_mk,ea (by decide),ee rfl];have E:∀x:s.S.D,(b.val (ρ++[⟨s.S,x⟩])).s=t.S:=λx=>BA p _ (he.app rfl);rw[R8 (BA j ρ he) (λx=>by show(b.val _).s=(b.val _).s;rw[E,E])];show _=b.val (ρ++[⟨s.S,(a.val ρ).at s.S⟩]);rw[Vl.eta (BA j ρ he)]
 |@tW _ _ b s n c j B p=>
  have d:n.acM=4\/n.acM=5:=by simpa[Tm.root,Tm.kd] using o
  cases p<;>simp only[Tm.eM] at d<;>first|omega|skip
  ·rw[v1 6 _ _ _ (by decide) (by decide)];show b.val ρ=No (b.val ρ) (s.val ρ) (r9 ((Tm.mk 4 0 .z []).val ρ));rw[v1 4 _ _ _ (by decide) (by decide)];show _=No (b.val ρ) (s.val ρ) (r9 ⟨.n,(0:Nat)⟩);rw[show r9 ⟨.n,(0:Nat)⟩=0 from Vl.yO _ _];rfl
  ·rename_i m A
   have e:(Tm.mk 6 0 t [b,s,.mk 5 0 .z [m]]).gb=.mk 3 0 .z [.mk 3 0 .z [s,m],.mk 6 0 t [b,s,m]]:=by simp[Tm.gb,l6,Ty.z]
   rw[e,v1 6 _ _ _ (by decide) (by decide),v1 3 _ _ _ (by decide) (by decide)];show uT ((Tm.mk 3 0 .z [s,m]).val ρ) ((Tm.mk 6 0 t [b,s,m]).val ρ)=No (b.val ρ) (s.val ρ) (r9 ((Tm.mk 5 0 .z [m]).val ρ));rw[v1 6 _ _ _ (by decide) (by decide),v1 3 _ _ _ (by decide) (by decide),v1 5 _ _ _ (by decide) (by decide)];show uT (uT (s.val ρ) (m.val ρ)) (No (b.val ρ) (s.val ρ) (r9 (m.val ρ)))=No (b.val ρ) (s.val ρ) (r9 ⟨.n,r9 (m.val ρ)+1⟩);rw[show r9 ⟨.n,r9 (m.val ρ)+1⟩=r9 (m.val ρ)+1 from Vl.yO _ _];show _=uT (uT (s.val ρ) ⟨.n,r9 (m.val ρ)⟩) _;have:=Vl.eta (v:=m.val ρ) (s:=.n) (by rw[<-HL];exact BA A ρ he);rw[show(⟨.n,r9 (m.val ρ)⟩:Vl)=m.val ρ from this]
 |@fold _ _ b s n c j B p=>
  have d:n.acM=7\/n.acM=8:=by simpa[Tm.root,Tm.kd] using o
  cases p<;>simp only[Tm.eM] at d<;>first|omega|skip
  ·rw[v1 9 _ _ _ (by decide) (by decide)];show b.val ρ=EW (b.val ρ) (s.val ρ) (zf ((Tm.mk 7 0 .z []).val ρ));rw[v1 7 _ _ _ (by decide) (by decide)];show _=EW (b.val ρ) (s.val ρ) (zf ⟨.l,([]:List Nat)⟩);rw[show zf ⟨.l,([]:List Nat)⟩=[] from Vl.yO _ _];rfl
  ·rename_i u v A F
   have e:(Tm.mk 9 0 t [b,s,.mk 8 0 .z [u,v]]).gb=.mk 3 0 .z [.mk 3 0 .z [.mk 3 0 .z [s,u],v],.mk 9 0 t [b,s,v]]:=by simp[Tm.gb,l6,Ty.z]
   rw[e,v1 9 _ _ _ (by decide) (by decide),v1 3 _ _ _ (by decide) (by decide)];show uT ((Tm.mk 3 0 .z [.mk 3 0 .z [s,u],v]).val ρ) ((Tm.mk 9 0 t [b,s,v]).val ρ)=EW (b.val ρ) (s.val ρ) (zf ((Tm.mk 8 0 .z [u,v]).val ρ));rw[v1 9 _ _ _ (by decide) (by decide),v1 3 _ _ _ (by decide) (by decide),v1 8 _ _ _ (by decide) (by decide)];show uT (uT ((Tm.mk 3 0 .z [s,u]).val ρ) (v.val ρ)) (EW (b.val ρ) (s.val ρ) (zf (v.val ρ)))=EW (b.val ρ) (s.val ρ) (zf ⟨.l,r9 (u.val ρ)::zf (v.val ρ)⟩);rw[v1 3 _ _ _ (by decide) (by decide),show zf ⟨.l,r9 (u.val ρ)::zf (v.val ρ)⟩=r9 (u.val ρ)::zf (v.val ρ)from Vl.yO _ _];show uT (uT (uT (s.val ρ) (u.val ρ)) (v.val ρ)) _=uT (uT (uT (s.val ρ) ⟨.n,r9 (u.val ρ)⟩) ⟨.l,zf (v.val ρ)⟩) _;have q1:=Vl.eta (v:=u.val ρ) (s:=.n) (by rw[<-HL];exact BA A ρ he);have G:=Vl.eta (v:=v.val ρ) (s:=.l) (by rw[<-Nn];exact BA F ρ he);rw[show(⟨.n,r9 (u.val ρ)⟩:Vl)=u.val ρ from q1,show(⟨.l,zf (v.val ρ)⟩:Vl)=v.val ρ from G]
 |@fst _ a s w c=>
  have d:a.acM=10:=by simpa[Tm.root,Tm.kd] using o
  generalize r:Ty.pr t w=q at c
  cases c<;>simp only[Tm.eM] at d<;>first|omega|skip
  rename_i x y _ _ _ _ _;rw[v1 11 _ _ _ (by decide) (by decide)];show _=WA ((Tm.mk 10 0 .z [_,_]).val ρ);rw[v1 10 _ _ _ (by decide) (by decide)];rfl
 |@snd _ a s w c=>
  have d:a.acM=10:=by simpa[Tm.root,Tm.kd] using o
  generalize r:Ty.pr s t=q at c
  cases c<;>simp only[Tm.eM] at d<;>first|omega|skip
  rw[v1 12 _ _ _ (by decide) (by decide)];show _=Xu ((Tm.mk 10 0 .z [_,_]).val ρ);rw[v1 10 _ _ _ (by decide) (by decide)];rfl
 |_=>simp[Tm.root] at o
def eY.parts{g:List Ty}{k i:Int}{s t:Ty}{l:List Tm}(h:eY g (.mk k i s l) t):(k=2->∃u,∀a∈l,eY (g++[s]) a u)/\(k≠2->∀a∈l,∃u,eY g a u):=by
 cases h<;>refine⟨λc=>?_,λc=>?_⟩<;>first
  |omega
  |(rename_i h;exact⟨_,λa b=>by rw[we.1 b];exact h⟩)
  |(intro a b
    simp only[l7,wV,Ux] at b<;>first
     |(rcases b with rfl|rfl|rfl<;>exact⟨_,by assumption⟩)
     |(subst b;exact⟨_,by assumption⟩))
def Hn{r:Int}{f:Tm->Vl}:∀{l c:List Tm},Tm.rB r l=some (some c)->(∀a∈l,∀d,a.FO r=some (some d)->f d=f a)->c.map f=l.map f
 |[],_,h,_=>(nK h).elim|a::l,c,h,g=>by
  rcases kD h with⟨d,e,rfl⟩|⟨m,e,rfl⟩
  ·grind
  ·rw[wk,wk,Hn e λb i=>g b (by simp[i])]
def UO{r:Int}(x:Tm):∀(g:List Ty) (t:Ty) (d:Tm) (ρ:List Vl),eY g x t->x.FO r=some (some d)->sY ρ g->d.val ρ=x.val ρ:=by
 induction x using Tm.ind with
 |h k i s l m=>
  intro g t d ρ h hs he;rcases mc hs with⟨p,rfl⟩|⟨q,n,rfl⟩
  ·exact P3 h p he
  ·rw[Tm.val_mk,Tm.val_mk]
   by_cases o:k=1
   ·grind
   ·rw[ea o,ea o]
    by_cases b:k=2
    ·rw[ee b,ee b];obtain⟨u,hu⟩:=h.parts.1 b
     congr 1
     funext x
     rw[Hn (f:=λt=>t.val (ρ++[Vl.mk s.S x])) n λa c j e=>m a c _ _ j _ (hu a c) e (he.app rfl)]
    ·rw[ea b,ea b,Hn (f:=λt=>t.val ρ) n λa c j e=>by
      obtain⟨u,hu⟩:=h.parts.2 b a c
      exact m a c _ _ j _ hu e he]
def zt{g:List Ty}{t:Ty}{ρ:List Vl}(he:sY ρ g):∀(k:Nat) (m:Int) (x a:Tm) (n:Int),eY g x t->x.norm k m=(a,n,0)->a.val ρ=x.val ρ
 |0,m,x,a,n,b,h=>by grind[Tm.norm]|k+1,m,x,a,n,b,h=>by
  rw[Tm.norm] at h
  split at h
  ·cases h
  ·grind
  ·rename_i c hs;rw[zt he k (m+1) c a n (b.FO _ hs) h,UO x g t c ρ b hs he]
def MI{g:List Ty}{a b:Tm}{t u:Ty}(l:eY g a t)(m:eY g b u)(h:yu a b=0){ρ:List Vl}(he:sY ρ g):a.val ρ=b.val ρ:=by
 by_cases f:a=b
 ·rw[f]
 ·rw[KF f] at h
  by_cases c:(a.norm 1000 0).2.2=0
  ·rw[ea (λh=>h c)] at h
   by_cases d:(b.norm 1000 0).2.2=0
   ·obtain⟨p,n,e,j⟩:∃p n e,a.norm 1000 0=(p,n,e):=⟨_,_,_,rfl⟩;obtain⟨o,n',q,i⟩:∃p n e,b.norm 1000 0=(p,n,e):=⟨_,_,_,rfl⟩;rw[j] at c h;rw[i] at d h;have c:e=0:=c;have d:q=0:=d;subst c;subst d
    by_cases k:p=o
    ·subst k;rw[<-zt he 1000 0 a p n l j,<-zt he 1000 0 b p n' m i]
    ·rw[ea k] at h;cases h
   ·rw[ee d] at h;exact absurd h d
  ·rw[ee c] at h;exact absurd h c
mutual
def Fm.sW:Fm->List Vl->Prop
 |.mk k s ts l,ρ=>
  if k=1 then((ts.getD 0 Tm.z).val ρ=(ts.getD 1 Tm.z).val ρ)
  else if k=2 then(Fm.F2 l ρ/\Fm.Vb l ρ)
  else if k=3 then(Fm.F2 l ρ->Fm.Vb l ρ)
  else if k=4\/k=6 then(∀x:s.S.D,Fm.F2 l (ρ++[⟨s.S,x⟩]))
  else(∃x:s.S.D,Fm.F2 l (ρ++[⟨s.S,x⟩]))
def Fm.F2:List Fm->List Vl->Prop
 |[],_=>True|f::_,ρ=>f.sW ρ
def Fm.Vb:List Fm->List Vl->Prop
 |[],_=>True|_::l,ρ=>Fm.F2 l ρ
end
def vg(a b:Tm)(ρ:List Vl):(Fm.mk 1 .z [a,b] []).sW ρ↔a.val ρ=b.val ρ:=by rw[Fm.sW,ee rfl];exact Iff.rfl
def Dq(a b:Fm)(ρ:List Vl):(Fm.mk 2 .z [] [a,b]).sW ρ↔(a.sW ρ/\b.sW ρ):=by rw[Fm.sW,ea (by decide),ee rfl,Fm.F2,Fm.Vb,Fm.F2]
def FJ(a b:Fm)(ρ:List Vl):(Fm.mk 3 .z [] [a,b]).sW ρ↔(a.sW ρ->b.sW ρ):=by rw[Fm.sW,ea (by decide),ea (by decide),ee rfl,Fm.F2,Fm.Vb,Fm.F2]
def Am{k:Int}(b:k=4\/k=6)(s:Ty)(a:Fm)(ρ:List Vl):(Fm.mk k s [] [a]).sW ρ↔∀x:s.S.D,a.sW (ρ++[⟨s.S,x⟩]):=by
 rw[Fm.sW,ea (by omega),ea (by omega),ea (by omega),ee b];simp only[Fm.F2]
def El{k:Int}(b:k=5\/k=7)(s:Ty)(a:Fm)(ρ:List Vl):(Fm.mk k s [] [a]).sW ρ↔∃x:s.S.D,a.sW (ρ++[⟨s.S,x⟩]):=by
 rw[Fm.sW,ea (by omega),ea (by omega),ea (by omega),ea (by omega)];simp only[Fm.F2]
def FV{k:Int}(g:k=2\/k=3){a b c d:Fm}{ρ ρ':List Vl}(e:c.sW ρ'↔a.sW ρ)(f:d.sW ρ'↔b.sW ρ):(Fm.mk k .z [] [c,d]).sW ρ'↔(Fm.mk k .z [] [a,b]).sW ρ:=by
 rcases g with rfl|rfl
 ·rw[Dq,Dq,e,f]
 ·rw[FJ,FJ,e,f]
def Pv{k:Int}(d:k=4\/k=5\/k=6\/k=7)(s:Ty){a b:Fm}{ρ ρ':List Vl}(h:∀x:s.S.D,b.sW (ρ'++[⟨s.S,x⟩])↔a.sW (ρ++[⟨s.S,x⟩])):(Fm.mk k s [] [b]).sW ρ'↔(Fm.mk k s [] [a]).sW ρ:=by
 by_cases c:k=4\/k=6
 ·rw[Am c,Am c];exact forall_congr' h
 ·rw[El (by omega),El (by omega)];exact exists_congr h
def D8{g:List Ty}{f:Fm}(h:jV g f):∀ρ1 e ρ2:List Vl,(f.up ρ2.length e.length).sW (ρ1++e++ρ2)↔f.sW (ρ1++ρ2):=by
 induction h with
 |eq j l=>
  intro ρ1 e ρ2;rw[Fm.kl];simp only[wk,aaf];rw[vg,vg,Ol _ _ _ _ j.ok,Ol _ _ _ _ l.ok]
 |@two g k a b c _ _ d i=>
  intro ρ1 e ρ2
  have:qB k=0:=by rcases c with rfl|rfl<;>decide
  rw[Fm.kl,this,wq];exact FV c (d ρ1 e ρ2) (i ρ1 e ρ2)
 |@q g k s a c _ _ m=>
  intro ρ1 e ρ2
  have:qB k=1:=by rcases c with rfl|rfl|rfl|rfl<;>decide
  rw[Fm.kl,this];refine Pv c s λx=>?_;have:=m ρ1 e (ρ2++[⟨s.S,x⟩]);rw[show(((ρ2++[(⟨s.S,x⟩:Vl)]).length:Nat):Int)=(ρ2.length:Int)+1 by simp,<-qW,<-qW] at this;exact this
def MP{g:List Ty}{f:Fm}(h:jV g f)(ρ:List Vl)(v:Vl):(f.up 0 1).sW (ρ++[v])↔f.sW ρ:=by
 have:=D8 h ρ [v] [];simpa using this
def UK{a:Tm}(e:a.ok=true){g:List Ty}{f:Fm}(h:jV g f):∀ρ1 ρ2:List Vl,(Fm.jF ρ2.length f a).sW (ρ1++ρ2)↔f.sW (ρ1++[a.val ρ1]++ρ2):=by
 induction h with
 |eq i j=>
  intro ρ1 ρ2;rw[Fm.kV];simp only[wk,aaf];rw[vg,vg,Kk a e _ _ _ i.ok,Kk a e _ _ _ j.ok]
 |@two g k _ _ b _ _ c d=>
  intro ρ1 ρ2
  have:qB k=0:=by rcases b with rfl|rfl<;>decide
  rw[Fm.kV,this,wq];exact FV b (c ρ1 ρ2) (d ρ1 ρ2)
 |@q g k s _ b _ _ l=>
  intro ρ1 ρ2
  have:qB k=1:=by rcases b with rfl|rfl|rfl|rfl<;>decide
  rw[Fm.kV,this];refine Pv b s λx=>?_;have:=l ρ1 (ρ2++[⟨s.S,x⟩]);rw[show(((ρ2++[(⟨s.S,x⟩:Vl)]).length:Nat):Int)=(ρ2.length:Int)+1 by simp,<-qW,<-qW] at this;exact this
def si{a:Tm}(b:a.ok=true){g:List Ty}{f:Fm}(h:jV g f)(ρ:List Vl):(Fm.jF 0 f a).sW ρ↔f.sW (ρ++[a.val ρ]):=by
 have:=UK b h ρ [];simpa using this
def wQ{g:List Ty}{a:Fm}(h:jV g a):∀{b:Fm} {ρ:List Vl},jV g b->a.Dx b=0->sY ρ g->(a.sW ρ↔b.sW ρ):=by
 have key:∀{k k':Int} {s j:Ty} {ts f:List Tm} {l t:List Fm},(Fm.mk k s ts l).Dx (.mk k' j f t)=0->k=k'/\s=j/\fO (List.zipWith yu ts f)=0/\fO (List.zipWith Fm.Dx l t)=0:=by
  intro k k' s j ts f l t h;rw[Fm.KU] at h
  by_cases d:k≠k'\/s.kL j=false
  ·rw[ee d] at h;cases h
  ·rw[ea d] at h
   by_cases i:fO (List.zipWith yu ts f)=0
   ·rw[ea (λh=>h i)] at h;refine⟨Xs λm=>d (.inl m),(Ty.j3 s j).1 ?_,i,h⟩;cases u:s.kL j with
    |true=>rfl|false=>exact absurd (.inr u) d
   ·rw[ee i] at h;exact absurd h i
 induction h with
 |@eq g a b i z=>
  intro c ρ d hm he;cases d with
  |@eq _ A B p v=>
   obtain⟨_,_,r,_⟩:=key hm;have n:=r8 r;rw[vg,vg,MI i p (n _ (by simp)) he,MI z v (n _ (by simp)) he]
  |two m _ _=>obtain⟨e,_⟩:=key hm;omega
  |q m _ _=>obtain⟨e,_⟩:=key hm;omega
 |@two g k a b m i z w y=>
  intro c ρ d hm he;cases d with
  |eq _ _=>obtain⟨e,_⟩:=key hm;omega
  |@two _ k' A B o p v=>
   obtain⟨rfl,_,_,r⟩:=key hm;have n:=r8 r;exact FV m (w p (n _ (by simp)) he) (y v (n _ (by simp)) he)
  |q o _ _=>obtain⟨e,_⟩:=key hm;omega
 |@q g k s a m hs i C=>
  intro c ρ d hm he;cases d with
  |eq _ _=>obtain⟨e,_⟩:=key hm;omega
  |two o _ _=>obtain⟨e,_⟩:=key hm;omega
  |@q _ k' j A o D p=>
   obtain⟨rfl,rfl,_,r⟩:=key hm;have n:=r8 r;exact Pv m s λx=>C p (n _ (by simp)) (he.app rfl)
def UT{g:List Ty}{f:Fm}(h:jV g f):∀{e:Int} {ρ:List Vl},(f.ua e).2=0->sY ρ g->((f.ua e).1.sW ρ↔f.sW ρ):=by
 induction h with
 |@eq g a b d n=>
  intro e ρ he c;rw[Lb] at he|-;obtain⟨o,n1,q1⟩:=Mm he;obtain⟨t,n2,p⟩:=Mm o;rw[vg,vg,zt c 1000 0 _ _ _ d p,zt c 1000 0 _ _ _ n q1]
 |@two g k a b i d n j l=>
  intro e ρ he c;rw[Py] at he|-;have he:(b.ua (a.ua e).2).2=0:=he;have m:(a.ua e).2=0:=Xs λh=>h (by rw[Fm.Gm b _ h] at he;exact he);exact FV i (j m c) (l he c)
 |@q g k s a i hs d r=>
  intro e ρ he c;rw[Wl] at he|-;exact Pv i s λx=>r he (c.app rfl)
def Ug{g:List Ty}{s:Ty}{f:Fm}(h:Hg (g++[s]) f)(hg:g.length<=1000)(hs:s.err=0)(a:(y0 f).2=0){ρ:List Vl}(he:sY ρ g){v:Vl}(e:v.s=s.S):f.sW (ρ++[v])↔(y0 f).1.sW ρ:=by
 have i:=(HT h hg hs a).1;rw[<-MP i ρ v];unfold y0 at a|-
 by_cases c:f.acU 0=0
 ·rw[ee c];show _↔((f.up 1 (-1)).up 0 1).sW _;rw[show(f.up 1 (-1)).up 0 1=f from f.UN 0 c]
 ·rw[ea c] at a|-
  by_cases b:(f.ua 0).2≠0
  ·rw[ee b] at a;exact absurd a b
  ·rw[ea b] at a|-;have b:(f.ua 0).2=0:=vE.1 b
   by_cases d:(f.ua 0).1.acU 0≠0
   ·rw[ee d] at a;cases a
   ·rw[ea d];show _↔(((f.ua 0).1.up 1 (-1)).up 0 1).sW _;rw[show((f.ua 0).1.up 1 (-1)).up 0 1=(f.ua 0).1 from Fm.UN _ 0 (vE.1 d)];exact(UT h.ty b (he.app e)).symm
def OY{g:List Ty}{hs:List Fm}{ρ:List Vl}(h:∀f∈hs,f.sW ρ)(b:∀f∈hs,Hg g f)(v:Vl):∀f∈hs.map (Fm.up 0 1),f.sW (ρ++[v]):=by
 intro f c;obtain⟨x,a,rfl⟩:=oi.1 c;exact(MP (b x a).ty ρ v).2 (h x a)
def CL{hs:List Fm}{ρ:List Vl}(h:∀f∈hs,f.sW ρ){x:Fm}(a:x.sW ρ):∀f∈hs++[x],f.sW ρ:=by
 intro f b;rcases tj.1 b with h1|h1
 ·exact h f h1
 ·rw[we.1 h1];exact a
def KY{g:List Ty}{t:Tm}{s:Ty}(h:eY g t s){ρ:List Vl}(he:sY ρ g):∃d:s.S.D,t.val ρ=⟨s.S,d⟩:=⟨_,(Vl.eta (BA h ρ he)).symm⟩
def val_zero(ρ:List Vl):gD.val ρ=⟨.n,(0:Nat)⟩:=by unfold gD;rw[Tm.val_mk];rfl
def OI(ρ:List Vl)(v:Vl):v0.val (ρ++[v])=v:=by unfold v0;rw[Tm.val_mk,ee rfl,aa2];rfl
def Sv(ρ:List Vl)(v w:Vl):v1.val (ρ++[v]++[w])=v:=by unfold v1;rw[Tm.val_mk,ee rfl,aa2,aa2];rfl
def val_succ(ρ:List Vl)(k:Nat):(iy v0).val (ρ++[⟨.n,k⟩])=⟨.n,k+1⟩:=by
 unfold iy;rw[Tm.val_mk,ea (by decide),ea (by decide)];show YS 5 [v0.val _]=_;rw[OI];show(⟨.n,r9 ⟨.n,k⟩+1⟩:Vl)=_;rw[show r9 ⟨.n,k⟩=k from Vl.yO _ _]
def U4(ρ:List Vl):(Tm.mk 7 0 .z []).val ρ=⟨.l,([]:List Nat)⟩:=by rw[Tm.val_mk];rfl
def RB(ρ:List Vl)(k:Nat)(l:List Nat):(Tm.mk 8 0 .z [v1,v0]).val (ρ++[⟨.n,k⟩]++[⟨.l,l⟩])=⟨.l,k::l⟩:=by
 rw[Tm.val_mk,ea (by decide),ea (by decide)];show YS 8 [v1.val _,v0.val _]=_;rw[OI,Sv];show(⟨.l,r9 ⟨.n,k⟩::zf ⟨.l,l⟩⟩:Vl)=_;rw[show r9 ⟨.n,k⟩=k from Vl.yO _ _,show zf ⟨.l,l⟩=l from Vl.yO _ _]
def UH(ρ:List Vl){s t:II}(φ:s.D->t.D)(x:s.D):(iQ v1 v0).val (ρ++[⟨.f s t,φ⟩]++[⟨s,x⟩])=⟨t,φ x⟩:=by
 unfold iQ;rw[Tm.val_mk,ea (by decide),ea (by decide)];show uT (v1.val _) (v0.val _)=_;rw[OI,Sv];show(⟨t,φ (Vl.at ⟨s,x⟩ s)⟩:Vl)=_;rw[Vl.yO]
def Dv.sW{g:List Ty}{hs:List Fm}{P:Pf}{f:Fm}{m:Nat}(h:Dv [] g hs P f m):B1 [] ⟨g,hs⟩->∀ρ:List Vl,sY ρ g->(∀x∈hs,x.sW ρ)->f.sW ρ:=by
 induction h with
 |hyp _ _ h _=>intro _ ρ _ i;exact i _ (CH h)|JF _ h _=>simp at h
 |Qd _ _ _ c j=>intro e ρ he i;exact(Dq _ _ ρ).2 ⟨c e ρ he i,j e ρ he i⟩|ZD _ _ c=>intro e ρ he i;exact((Dq _ _ ρ).1 (c e ρ he i)).1|aaX _ _ c=>intro e ρ he i;exact((Dq _ _ ρ).1 (c e ρ he i)).2|@QR g hs F a y m hF hn E M c=>
  intro e ρ he i;exact(FJ _ _ ρ).2 λp=>c (e.with hF (by show hs.length+1<=16;omega)) ρ he (CL i p)
 |QF E O q r hm _ c j=>
  intro e ρ he i;exact(FJ _ _ ρ).1 (c e ρ he i) ((wQ q.ty r.ty hm he).2 (j e ρ he i))
 |@all g hs k k' s a f m v A hn E M c=>
  intro e ρ he i
  have v:k'=4\/k'=6:=by rcases v with⟨_,h⟩|⟨_,h,_⟩<;>simp[h]
  exact(Am v s f ρ).2 λx=>c (e.Ae A hn) _ (he.app rfl) (OY i e.acT _)
 |@VI g hs k k' t s a x m u v w G E q J c=>
  intro e ρ he i
  have v:k'=4\/k'=6:=by rcases v with⟨_,h,_⟩|⟨_,h,_⟩<;>simp[h]
  have p:=(Am v s x ρ).1 (c e ρ he i);obtain⟨d,H⟩:=KY w he;refine(si w.ok q.ty ρ).2 ?_;rw[H];exact p d
 |@ex g hs k k' t s a x f m u v hF w G q E r J hm c=>
  intro e ρ he i
  have v:k'=5\/k'=7:=by rcases v with⟨_,h,_⟩|⟨_,h,_⟩<;>simp[h]
  have p:=(wQ (q.ty.put w) r.ty hm he).2 (c e ρ he i);obtain⟨d,H⟩:=KY w he;have o:=(si w.ok q.ty ρ).1 p;rw[H] at o;exact(El v s x ρ).2 ⟨d,o⟩
 |@V3 g hs k k' s a b x f m n v E A hn aa q O r Q M c j=>
  intro e ρ he i
  have v:k'=5\/k'=7:=by rcases v with⟨_,h⟩|⟨_,h,_⟩<;>simp[h]
  obtain⟨d,H⟩:=(El v s x ρ).1 (c e ρ he i);have B:=(e.Ae A (by omega)).with (f:=x) q (by show(hs.map (Fm.up 0 1)).length+1<=16;simp;omega);have p:=j B (ρ++[⟨s.S,d⟩]) (he.app rfl) (CL (OY i e.acT _) H);exact(Ug r (by omega) A Q he rfl).1 p
 |@ind g hs t F a b x y m n hF w G E q R K T U O hy V L J c j=>
  intro e ρ he i
  have all:∀k:Nat,F.sW (ρ++[⟨.n,k⟩]):=by
   intro k
   induction k with
   |zero=>
    have:=(si (a:=gD) (by decide) hF.ty ρ).1 ((wQ (hF.ty.put .zero) q.ty K he).2 (c e ρ he i));rw[val_zero] at this;exact this
   |succ k W=>
    have B:=(e.Ae Ty.gK (by omega)).with (f:=F) hF (by show(hs.map (Fm.up 0 1)).length+1<=16;simp;omega);have C:sY (ρ++[⟨.n,k⟩]) (g++[.nat]):=he.app HL.symm;have p:=j B _ C (CL (OY i e.acT _) W);have o:=(si (a:=iy v0) (by decide) hF.XA.ty _).1 ((wQ (hF.XA.ty.put (.succ sm)) hy.ty L C).2 p);rw[val_succ] at o;have N:=D8 hF.ty ρ [⟨.n,k⟩] [⟨.n,k+1⟩];exact N.1 o
  obtain⟨d,H⟩:=KY w he;refine(si w.ok hF.ty ρ).2 ?_;rw[H];generalize I:Ty.nat.S=S at d;rw[HL] at I;subst I;exact all d
 |@lists g hs t F a b x y m n hF w G E q R K T U O hy V L J c j=>
  intro e ρ he i
  have all:∀l:List Nat,F.sW (ρ++[⟨.l,l⟩]):=by
   intro l
   induction l with
   |nil=>
    have:=(si (a:=.mk 7 0 .z []) (by decide) hF.ty ρ).1 ((wQ (hF.ty.put .nil) q.ty K he).2 (c e ρ he i));rw[U4] at this;exact this
   |cons k l X=>
    have B:=(e.Th (by omega)).with (f:=F.up 1 1) (Hg.upl hF) (by show(hs.map (Fm.up 0 2)).length+1<=16;simp;omega);have C:sY (ρ++[⟨.n,k⟩]++[⟨.l,l⟩]) (g++[.nat]++[.ns]):=(he.app HL.symm).app Nn.symm
    have h0:∀f∈hs.map (Fm.up 0 2),f.sW (ρ++[⟨.n,k⟩]++[⟨.l,l⟩]):=by
     intro f M;obtain⟨x,q,rfl⟩:=oi.1 M;have:=D8 (e.acT x q).ty ρ [⟨.n,k⟩,⟨.l,l⟩] [];rw[yy,yy] at this;rw[qW];exact this.2 (i x q)
    have Y:(F.up 1 1).sW (ρ++[⟨.n,k⟩]++[⟨.l,l⟩]):=(D8 hF.ty ρ [⟨.n,k⟩] [⟨.l,l⟩]).2 X;have p:=j B _ C (CL h0 Y);have o:=(si (a:=.mk 8 0 .z [v1,v0]) (by decide) hF.Yr.ty _).1 ((wQ (hF.Yr.ty.put (.cons C' sm)) hy.ty L C).2 p);rw[RB] at o;have N:=D8 hF.ty ρ [⟨.n,k⟩,⟨.l,l⟩] [⟨.l,k::l⟩];refine N.1 ?_;rw[show ρ++[⟨.n,k⟩,⟨.l,l⟩]=ρ++[⟨.n,k⟩]++[(⟨.l,l⟩:Vl)] by simp];exact o
  obtain⟨d,H⟩:=KY w he;refine(si w.ok hF.ty ρ).2 ?_;rw[H];generalize I:Ty.ns.S=S at d;rw[Nn] at I;subst I;exact all d
 |refl _ _ _=>intro _ ρ _ _;exact(vg _ _ ρ).2 rfl|@subst g hs F a b t u f m n hF E w hu G ab O r ad hm ae c j=>
  intro e ρ he i;have p:=(vg _ _ ρ).1 (c e ρ he i);have o:=(si w.ok hF.ty ρ).1 ((wQ (hF.ty.put w) r.ty hm he).2 (j e ρ he i));rw[p] at o;exact(si hu.ok hF.ty ρ).2 o
 |@choice g hs a s u y m E A af hy ah ai M c=>
  intro e ρ he i;have p:=(Am (.inl rfl) s _ ρ).1 (c e ρ he i);have o:∀x:s.S.D,∃z:u.S.D,y.sW (ρ++[⟨s.S,x⟩]++[⟨u.S,z⟩]):=λx=>(El (.inl rfl) u y _).1 (p x);refine(El (.inl rfl) _ _ ρ).2 ?_;have I:=LO s u;generalize (Ty.fn s u).S=S at I;subst I;refine⟨λx=>Classical.choose (o x),(Am (.inl rfl) s _ _).2 λx=>?_⟩
  have Z:jV (g++[.fn s u]++[s]++[u]) (y.up 2 1):=by
   have:=hy.ty.up g [s,u] [.fn s u] (by simp);simpa using this
  refine(si (a:=iQ v1 v0) (by decide) Z _).2 ?_;rw[UH];have N:=D8 hy.ty ρ [⟨.f s.S u.S,λx=>Classical.choose (o x)⟩] [⟨s.S,x⟩,⟨u.S,Classical.choose (o x)⟩];have h4:=N.2 (by rw[show ρ++[⟨s.S,x⟩,⟨u.S,Classical.choose (o x)⟩]=ρ++[⟨s.S,x⟩]++[(⟨u.S,Classical.choose (o x)⟩:Vl)] by simp];exact Classical.choose_spec (o x));rw[show ρ++[⟨.f s.S u.S,λx=>Classical.choose (o x)⟩]++[⟨s.S,x⟩,⟨u.S,Classical.choose (o x)⟩]=ρ++[⟨.f s.S u.S,λx=>Classical.choose (o x)⟩]++[⟨s.S,x⟩]++[(⟨u.S,Classical.choose (o x)⟩:Vl)] by simp] at h4;exact h4
def V5{L:List Fm}{q:Sq}{P:Pf}(h:B1 L q)(a:P.wt<=1000000000)(he:P.err=0){e:Int}(hi:P.inf L q.acQ q.acT=.inr e):jz L q P=some (⟨hW,[]⟩,e):=by
 rcases vj h.b a with⟨d,_,q1,c,_⟩|⟨f,m,l,q1,_⟩
 ·rw[yf h he,hi] at q1;rw[c,Sum.inr.inj q1]
 ·rw[yf h he,hi] at q1;cases q1
def WK{L:List Fm}{q:Sq}{P:Pf}(h:B1 L q)(c:P.wt<=1000000000)(he:P.err=0){f:Fm}{m:Nat}(hi:P.inf L q.acQ q.acT=.inl (f,m)):∃l,jz L q P=some (⟨f,l⟩,0)/\Us l m/\Hg q.acQ f:=by
 rcases vj h.b c with⟨e,_,q1,a,_⟩|⟨g,i,l,q1,a,_,hu,d,_⟩
 ·rw[yf h he,hi] at q1;cases q1
 ·rw[yf h he,hi] at q1;obtain⟨rfl,rfl⟩:=iq (UF q1);exact⟨l,a,hu,d⟩
def Bq(s:Ty):s.kL s=true:=(Ty.j3 s s).2 rfl
def OK{L:List Fm}{q:Sq}(d:B1 L q){P:Pf}{f b:Fm}{l:List Int}(k:jz L q P=some (⟨f,l⟩,0))(j:Hg q.acQ f)(c:Hg q.acQ b):nc L q P b=some (f.Dx b):=by
 have hw:=j.wt;have m:=c.wt;have g:=d.nv
 have e:FW b q.acQ=0:=by
  unfold FW;rw[Cc d.ctx g,ea (by decide),ea (λh=>h c.err)];exact uR c.ty d.ctx (by have:=c.acO;omega)
 unfold nc;rw[k,eb,ea nz,ta (by omega) (by omega) (λt n=>by have:=fB (d.ctx t n);omega),e,cl,ea nz];show(cv (i_ f b) λi=>some i)=_;rw[(Ku (a:=f) (b:=b) (by omega) (by omega)).1,CO j c (by omega) (by omega)];rfl
def num:Nat->Tm
 |0=>gD|n+1=>iy (num n)
def yk(g:List Ty):∀n,eY g (num n) .nat
 |0=>.zero|n+1=>.succ (yk g n)
def u7:∀n,(num n).acO=n+1
 |0=>by decide|n+1=>by rw[num];unfold iy;rw[Tm.ef];simp only[ez];rw[u7 n];omega
def Pu(r:Int):∀n,(num n).FO r=some none
 |0=>by rw[num];unfold gD;rw[Tm.xg,ea (by decide)];rfl|n+1=>by
  rw[num];unfold iy;rw[Tm.xg,ea (by simp[Tm.root]),Tm.rB,Pu r n,Tm.rB]
def Mr(n:Nat):(num n).norm 1000 0=(num n,0,0):=AB (Pu _ n)
def Ut:v0.norm 1000 0=(v0,0,0):=AB (by unfold v0;rw[Tm.xg,ea (by decide)];rfl)
def Rn:∀n,num n=gD->n=0
 |0,_=>rfl|n+1,h=>by rw[num] at h;unfold iy gD at h;simp at h
def Ga(n:Nat)(hn:n<=4000):tg (n:Int)=some (num n):=by
 have key:n_ (n:Int)=some (num n):=by
  unfold n_;rw[pj 4 [] (by simp[ez])];simp only[cl,eA]
  obtain⟨o,l,k⟩:=DV (ρ:=Tm) (F:=Qt λ(g:Int) (h:Int) (v167:Int) (v168:Int) (i:List Ty) (j:List Tm)=>
    if pc g 0=true then some (gw.next (fG .i64 g 1,5,0,0,[],[Tm.mk h v167 (Ty.mk v168 i) j]))else some (gw.Ki (g,h,v167,v168,i,j)))
   (λs=>0<=s.1/\s.1<=n/\Tm.mk s.2.1 s.2.2.1 (Ty.mk s.2.2.2.1 s.2.2.2.2.1) s.2.2.2.2.2=num (n-s.1.toNat))
   (λs=>s.1.toNat)
   (λo=>match o with|.inl s=>Tm.mk s.2.1 s.2.2.1 (Ty.mk s.2.2.2.1 s.2.2.2.2.1) s.2.2.2.2.2=num n|.inr _=>False)
   (by
    rintro⟨a,b,c,d,e,f⟩ ⟨l,k,m⟩;simp only at l k m
    by_cases p:0<a
    ·left;refine⟨_,by simp only[wT,gW,p,if_true];rfl,⟨?_,?_,?_⟩,?_⟩
     ·rw[fF (by omega) (by omega)];show 0<=a-1;omega
     ·rw[fF (by omega) (by omega)];show a-1<=n;omega
     ·rw[fF (by omega) (by omega)];show Tm.mk 5 0 (Ty.mk 0 []) [Tm.mk b c (Ty.mk d e) f]=num (n-(a-1).toNat);rw[m,show n-(a-1).toNat=n-a.toNat+1 by omega];rfl
     ·rw[fF (by omega) (by omega)];show(a-1).toNat<a.toNat;omega
    ·right;left;refine⟨_,by simp only[wT,gW,p,QL];rfl,?_⟩
     have:a=0:=by omega
     subst this
     exact m)
   FU ((n:Int),4,0,0,[],[]) ⟨by simp,by simp,by simp[num,gD,Ty.z]⟩ (by rw[fC];show(n:Int).toNat<_;omega)
  simp only[Tm.eM,Tm.gl,Tm.ft,Ty.eM,Ty.eF,Tm.eF];rw[l];cases o with
  |inr r=>exact k.elim|inl s=>
   obtain⟨a,b,c,d,e,f⟩:=s;rw[cl,en];exact congrArg some k
 unfold tg sa;simp only[mD,iX];rw[ea (by omega),ea (by omega),key];rfl
def L7:Hg [] (.mk 1 .z [gD,iy gD] []):=⟨by decide,.eq .zero (.succ .zero)⟩
def SZ{P:Pf}(i:P.wt<=1000000000):∃e,e≠0/\nc [] ⟨[],[]⟩ P (.mk 1 .z [gD,iy gD] [])=some e:=by
 rcases vj BM.b i with⟨e,he,_,c,_⟩|⟨f,m,l,q1,c,_,_,h,_,a⟩
 ·refine⟨e,he,?_⟩;unfold nc;rw[c,eb,ee (by rw[ew];exact he)]
 ·refine⟨_,λj=>?_,OK BM c h L7⟩;rw[yf BM a] at q1;obtain⟨k,_⟩:=Dv.of (Pf.VM a).1 [] [] f m BM q1;have o:=k.sW BM [] (show sY [] [] from rfl) (by simp);have d:Hg [] f:=h;have p:=(vg _ _ []).1 ((wQ d.ty L7.ty j (show sY [] [] from rfl)).1 o);have g:=congrArg r9 p;rw[val_zero] at g
  have q:(iy gD).val []=⟨.n,(1:Nat)⟩:=by
   unfold iy;rw[Tm.val_mk,ea (by decide),ea (by decide)];show YS 5 [gD.val []]=_;rw[val_zero];show(⟨.n,r9 ⟨.n,(0:Nat)⟩+1⟩:Vl)=_;rw[show r9 ⟨.n,(0:Nat)⟩=0 from Vl.yO _ _];rfl
  rw[q,show r9 ⟨.n,(0:Nat)⟩=0 from Vl.yO _ _,show r9 ⟨.n,(1:Nat)⟩=1 from Vl.yO _ _] at g;cases g
def Yy(t:Tm)(a:t.ok=true):Fm.jF 0 (.mk 1 .z [v0,v0] []) t=.mk 1 .z [t,t] []:=by
 have h:Tm.jF 0 v0 t=t:=by
  unfold v0;rw[Tm.kV,ee rfl];unfold Tm.rG;rw[ee rfl,Tm.uW]
 rw[Fm.kV];simp[h]
def Ph{F:Fm}{t:Tm}(h:(Fm.jF 0 F t).acO<=4096):nj F t=(Fm.jF 0 F t,0):=by
 rcases o7 F t with a|⟨_,a⟩
 ·unfold nj at a;rw[ea (by omega)] at a;exact absurd (show(0:Int)=4 from congrArg Prod.snd a) (by decide)
 ·exact a
def S1:B1 [] ⟨[.nat],[]⟩:=⟨by simp,by simp,λx a=>by rw[we.1 a];exact Ty.gK,by simp,by simp,by simp⟩
def Cp(l:List Int):ot l=some true:=by
 unfold ot;rw[Uw,cl,ee rfl,Qj,cl]
 by_cases o:500<l.length
 ·rw[ea (by simpa using o)]
 have N:l.length<=500:=by omega
 rw[ee (by simpa using N),show N7 l=some ⟨l,0⟩from rfl,cl];have O:ss 3 ([]:List Ty):=⟨λs hs=>by simp at hs⟩;obtain⟨P,d1,p,Q,p3⟩:=ML FU 4 [] ⟨l,0⟩ ⟨[],[]⟩ (by rw[fC];omega) (by omega) (W_ l (by omega)) ⟨BM,O⟩;have p:jn FU ⟨l,0⟩ [] ⟨[],[]⟩ 4=some (P,d1):=p
 have R:pb 4<=50000000:=by decide
 obtain⟨e0,r,a0⟩:=SZ (P:=P) (by omega);rw[p,eb,Ru,cl,a0,cl,ea (by rw[gA];exact r),fE,cl,Ap];have u:fy 1=some v1:=rfl
 have w0:v0.wt<=10:=by decide
 have w1:v1.wt<=10:=by decide
 simp only[cl,u];rw[zk (by omega) (by omega),cl,BW (by decide) (by decide),cl,sh (by omega),cl,JH (by decide) (by omega) (by decide),cl,y' (by decide) (by decide),cl];have hF:Hg [.nat] (.mk 5 .nat [] [.mk 1 .z [v0,v1] []]):=⟨by decide,.q (.inr (.inl rfl)) Ty.gK (.eq (sm (g:=[.nat])) (C' (g:=[])))⟩
 have d:Fm.jF 0 (.mk 1 .z [v0,v1] []) v0=.mk 1 .z [v0,v0] []:=by
  rw[Fm.kV]
  have j:Tm.jF 0 v0 v0=v0:=by
   unfold v0;rw[Tm.kV,ee rfl];unfold Tm.rG;rw[ee rfl,Tm.uW]
  have v:Tm.jF 0 v1 v0=v0:=by
   unfold v0 v1;rw[Tm.kV,ee rfl];unfold Tm.rG;rw[ea (by decide),ee (by decide)];rfl
  simp[j,v]
 have a:eY [.nat] v0 .nat:=sm (g:=[]);have k:Hg [.nat] (.mk 1 .z [v0,v0] []):=⟨by decide,.eq a a⟩
 have kF:nj (.mk 1 .z [v0,v1] []) v0=(.mk 1 .z [v0,v0] [],0):=by
  have:=Ph (F:=.mk 1 .z [v0,v1] []) (t:=v0) (by rw[d];decide);rw[d] at this;exact this
 have i10:(Pf.mk 10 0 .z [v0] [.mk 5 .nat [] [.mk 1 .z [v0,v1] []]] [.mk 18 0 .z [v0] [] []]).inf [] [.nat] []=.inl (.mk 5 .nat [] [.mk 1 .z [v0,v1] []],0|||qP v0):=by
  rw[Pf.k1,KB,ie (uR hF.ty S1.ctx (by decide)),kK (by decide),zp a S1.ctx (by decide),ie rfl,kK (by show¬Ty.nat.kL .nat=false;rw[Bq];decide),(Li a S1.ctx (by decide) (by decide)).1];show yT (pbind (Fp (.inl (.mk 1 .z [v0,v0] [],0)) (.mk 1 .z [v0,v1] []) v0) _)=_;unfold Fp;rw[gp,kF,ie rfl,CO k k (by decide) (by decide),Fm.L_,ie rfl,gp,AF hF.err,show(Fm.mk 5 .nat [] [.mk 1 .z [v0,v1] []]).has=true by rw[Fm.Aw];rfl,ee rfl]
 have S:(0|||qP v0).testBit 0=true:=by
  rw[N3,p9];right;rw[JK];exact⟨by omega,by decide⟩
 have i12:(Pf.mk 12 0 .nat [] [] [Pf.mk 10 0 .z [v0] [.mk 5 .nat [] [.mk 1 .z [v0,v1] []]] [.mk 18 0 .z [v0] [] []]]).inf [] [] []=.inr 12:=by
  rw[Pf.k1,Kr,kK (by decide)];show yT (pbind ((Pf.mk 10 0 .z [v0] [.mk 5 .nat [] [.mk 1 .z [v0,v1] []]] [.mk 18 0 .z [v0] [] []]).inf [] [.nat] []) _)=_;rw[i10,gp,lp S];rfl
 have i8:(Pf.mk 8 0 .nat [] [] [Pf.mk 10 0 .z [v0] [.mk 5 .nat [] [.mk 1 .z [v0,v1] []]] [.mk 18 0 .z [v0] [] []]]).inf [] [] []=.inl (.mk 4 .nat [] [.mk 5 .nat [] [.mk 1 .z [v0,v1] []]],(0|||qP v0)/2):=by
  rw[Pf.k1,J2,kK (by decide)];show yT (pbind ((Pf.mk 10 0 .z [v0] [.mk 5 .nat [] [.mk 1 .z [v0,v1] []]] [.mk 18 0 .z [v0] [] []]).inf [] [.nat] []) _)=_;rw[i10,gp,AF (by decide),show(Fm.mk 4 .nat [] [.mk 5 .nat [] [.mk 1 .z [v0,v1] []]]).has=true by rw[Fm.Aw,Fm.Aw];rfl,ee rfl]
 obtain⟨l8,T,_⟩:=WK BM (P:=Pf.mk 8 0 .nat [] [] [Pf.mk 10 0 .z [v0] [.mk 5 .nat [] [.mk 1 .z [v0,v1] []]] [.mk 18 0 .z [v0] [] []]]) (by decide) (by decide) i8;rw[V5 BM (by decide) (by decide) i12,eb,y' (by decide) (by decide),cl,T,eb];rw[zk (by omega) (by omega),cl,BW (by decide) (by decide),cl];obtain⟨x,d2,U,V,x3,x4⟩:=mg d1 Q 5 (by omega) (by omega);obtain⟨n,rfl⟩:=WW V
 have hn:n<=4:=by omega
 have nw:(num n).wt<=1000:=by have:=(num n).jC (yk [] n).ok;rw[u7] at this;omega
 have ne:(num n).err=0:=Tm.rq (yk [] n).ok (by rw[u7];omega);rw[U,eb,Ga n (by omega),cl,show tg 0=some gD from Ga 0 (by omega),cl,sh (by decide),cl,JH (by decide) (by omega) (by decide),cl];show(cv (mb 11 [Pf.mk 10 0 .z [num n] [.mk 5 .nat [] [.mk 1 .z [v0,v0] []]] [.mk 18 0 .z [gD] [] []],Pf.mk 1 0 .z [] [] []]) λH=>_)=_
 have W:(Pf.mk 10 0 .z [num n] [.mk 5 .nat [] [.mk 1 .z [v0,v0] []]] [.mk 18 0 .z [gD] [] []]).wt<=10000:=by
  rw[Pf.fM];simp only[ez]
  have j:(Fm.mk 5 .nat [] [.mk 1 .z [v0,v0] []]).wt<=100:=by decide
  have v:(Pf.mk 18 0 .z [gD] [] []).wt<=100:=by decide
  have I:Ty.z.acO<=10:=by decide
  omega
 rw[G1 (by omega) (by decide),cl];have hG:Hg [] (.mk 5 .nat [] [.mk 1 .z [v0,v0] []]):=⟨by decide,.q (.inr (.inl rfl)) Ty.gK k.ty⟩;have J:Hg [] (.mk 1 .z [num n,num n] []):=⟨Fm.rq (jV.eq (yk [] n) (yk [] n)).ok (by rw[Fm.ef];simp only[ez];rw[u7];omega),.eq (yk [] n) (yk [] n)⟩;have X:Hg [] (.mk 1 .z [gD,gD] []):=⟨by decide,.eq .zero .zero⟩
 have c:nj (.mk 1 .z [v0,v0] []) (num n)=(.mk 1 .z [num n,num n] [],0):=by
  have hi:=Yy (num n) (yk [] n).ok;have:=Ph (F:=.mk 1 .z [v0,v0] []) (t:=num n) (by rw[hi];have:=J.acO;omega);rw[hi] at this;exact this
 have e:(Pf.mk 10 0 .z [num n] [.mk 5 .nat [] [.mk 1 .z [v0,v0] []]] [.mk 18 0 .z [gD] [] []]).inf [] [] []=yT (pbind (lq ((Fm.mk 1 .z [num n,num n] []).Dx (.mk 1 .z [gD,gD] [])) (.inl (.mk 1 .z [gD,gD] [],0))) λ_ m=>.inl (.mk 5 .nat [] [.mk 1 .z [v0,v0] []],m|||qP (num n))):=by
  rw[Pf.k1,KB,ie (uR hG.ty BM.ctx (by decide)),kK (by decide),zp (yk [] n) BM.ctx (by rw[u7];simp;omega),ie rfl,kK (by show¬Ty.nat.kL .nat=false;rw[Bq];decide),(Li (t:=gD) .zero BM.ctx (by decide) (by decide)).1];show yT (pbind (Fp (.inl (.mk 1 .z [gD,gD] [],0)) (.mk 1 .z [v0,v0] []) (num n)) _)=_;unfold Fp;rw[gp,c,ie rfl,CO J X (by decide) (by decide)]
 have w:(Pf.mk 11 0 .z [] [] [Pf.mk 10 0 .z [num n] [.mk 5 .nat [] [.mk 1 .z [v0,v0] []]] [.mk 18 0 .z [gD] [] []],Pf.mk 1 0 .z [] [] []]).err=0:=by
  obtain⟨Y,hs⟩:=Rl ne;have Z:=u7 n;have z:Ty.z.ra=true:=Ty.pT
  have y:(Pf.mk 18 0 .z [gD] [] []).ok=true:=by decide
  have A:(Pf.mk 18 0 .z [gD] [] []).small=true:=by decide
  have o1:(Pf.mk 1 0 .z [] [] []).ok=true:=by decide
  have s1:(Pf.mk 1 0 .z [] [] []).small=true:=by decide
  have B:(Fm.mk 5 .nat [] [.mk 1 .z [v0,v0] []]).ok=true:=by decide
  have C:Rh (Fm.mk 5 .nat [] [.mk 1 .z [v0,v0] []])=true:=by decide
  rw[Ng (by rw[Pf.ia];simp only[wu,U2];rw[Pf.ia];simp[Y,B,y,o1,Pf.node,Pf.sig,z]) (by rw[Pf.xV];simp only[wu,U2];rw[Pf.xV];simp[hs,C,A,s1]),ee]
  have j:(Fm.mk 5 .nat [] [.mk 1 .z [v0,v0] []]).acO<=100:=by decide
  have v:(Pf.mk 18 0 .z [gD] [] []).acO<=100:=by decide
  have I:(Pf.mk 1 0 .z [] [] []).acO<=100:=by decide
  rw[Pf.ef];simp only[ez];rw[Pf.ef];simp only[ez];omega
 have D:(Pf.mk 11 0 .z [] [] [Pf.mk 10 0 .z [num n] [.mk 5 .nat [] [.mk 1 .z [v0,v0] []]] [.mk 18 0 .z [gD] [] []],Pf.mk 1 0 .z [] [] []]).wt<=1000000000:=by
  have j:(Pf.mk 1 0 .z [] [] []).wt<=100:=by decide
  have I:Ty.z.acO<=10:=by decide
  rw[Pf.fM];simp only[ez];omega
 obtain⟨g,hg,hi⟩:∃g,(g=6\/g=11)/\(Pf.mk 11 0 .z [] [] [Pf.mk 10 0 .z [num n] [.mk 5 .nat [] [.mk 1 .z [v0,v0] []]] [.mk 18 0 .z [gD] [] []],Pf.mk 1 0 .z [] [] []]).inf [] [] []=.inr g:=by
  rw[Pf.k1,HR,e]
  by_cases K:n=0
  ·subst K;refine⟨6,.inl rfl,?_⟩;rw[show(Fm.mk 1 .z [num 0,num 0] []).Dx (.mk 1 .z [gD,gD] [])=0 from Fm.L_ _,ie rfl,gp,AF hG.err,show(Fm.mk 5 .nat [] [.mk 1 .z [v0,v0] []]).has=true by rw[Fm.Aw];rfl,ee rfl,R4 (Fm.eM 5 .nat [] _),gp,kK (by decide)];show yT (pbind ((Pf.mk 1 0 .z [] [] []).inf [] [.nat] [.mk 1 .z [v0,v0] []]) λb n=>lq (y0 b).2 _)=_;rw[Pf.k1,Rm,kK (by decide)];show yT (pbind (yT (.inl (.mk 1 .z [v0,v0] [],0))) _)=_;rw[AF k.err,gp]
   have hw:y0 (.mk 1 .z [v0,v0] [])=(hW,6):=by
    have E:(Fm.mk 1 .z [v0,v0] []).ua 0=(.mk 1 .z [v0,v0] [],0):=by
     have L:yX v0 0=(v0,0):=by unfold yX;rw[ee rfl,Ut]
     rw[Lb,L];show(Fm.mk 1 .z [v0,(yX v0 0).1] [],(yX v0 0).2)=_;rw[L]
    unfold y0;rw[ea (by decide),E,ea (λh=>h rfl),ee (by decide)]
   rw[hw];rfl
  ·refine⟨11,.inr rfl,?_⟩;have f:num n≠gD:=λh=>K (Rn n h)
   have hm:yu (num n) gD=11:=by
    rw[KF f,Mr,show gD.norm 1000 0=(gD,0,0)from Mr 0,ea (λh=>h rfl),ea (λh=>h rfl),ea f]
   have i:(Fm.mk 1 .z [num n,num n] []).Dx (.mk 1 .z [gD,gD] [])=11:=by
    rw[Fm.KU,ea (by simp[Bq])];show(if fO [yu (num n) gD,yu (num n) gD]≠0 then fO [yu (num n) gD,yu (num n) gD] else fO [])=11;rw[hm];rfl
   rw[i,j0 (by decide)];rfl
 rw[show jz [] ⟨[],[]⟩ _=some (⟨hW,[]⟩,g)from V5 BM D w hi,eb];obtain⟨lu,u1,u2,u3,u4⟩:=Bk (t:=v0) (by decide) (by decide) (by decide);rw[u1,eb]
 have G:lu=[0]:=by
  refine ES.eq u2 (.cons (by simp) .nil) λx=>?_;rw[u4,we];unfold v0;rw[Tm.gG];simp only[ez,FC,ZZ];constructor
  ·rintro⟨_,h⟩
   by_cases M:(0:Int)=x
   ·exact M.symm
   ·rw[ea M] at h;omega
  ·rintro rfl;exact⟨by omega,by decide⟩
 rw[G];rcases hg with rfl|rfl<;>rfl
end Go.gV
