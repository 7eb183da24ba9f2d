/- Part of the proof of SchemeLists: plain facts. -/
import Derived.KernelRfl
import Derived.Test.YtpgdkkomegalnaaGreatDoorLPL2
set_option linter.all false
set_option maxRecDepth 20000
set_option maxHeartbeats 2000000
namespace Go.fD
open Go
def PX(n:Nat)(v105:List dJ):(Int×Int×(List Int)×(List dJ)×Int×Int×Int×(List Ty)×(List Tm)×(List dJ)×dV)->(Option (gm (Int×Int×(List Int)×(List dJ)×Int×Int×Int×(List Ty)×(List Tm)×(List dJ)×dV) (dJ×dV))):=
 ((Kb λ(b:Int) (c:Int) (d:List Int) (f:List dJ) (h:Int) (i:Int) (j:Int) (k:List Ty) (l:List Tm) (o:List dJ) (q:dV)=>
 ej (λ(u:Bool)=>
 if u then(
 ej (λ(v:Int) (w:List Int) (x:List dJ) (y:Int) (A:Int) (B:Int) (C:List Ty) (D:List Tm) (F:List dJ) (G:dV)=>
 some (.next ((eS .i64 b 1),v,w,x,y,A,B,C,D,F,G))) λs=>
 dH (dW v105 1) λH=>
 dU (eJ n q H (dJ.mk b [] [] (Tm.mk 0 0 (Ty.mk 0 []) []) [])) λI r=>
 if r.out then(
 s c d f h i j k l o r)
 else(dU (eJ n r I (dJ.mk c d f (Tm.mk h i (Ty.mk j k) l) o)) λa J=>
 s a.num a.list a.pair a.body.ak5 a.body.ak8 a.body.dM.ak5 a.body.dM.ak6 a.body.ak6 a.env J))
 else(some (.yd (b,c,d,f,h,i,j,k,l,o,q)))) λt=>
 dH (dW v105 2) λK=>
 if(o7 b K.num) then(
 t (lJ q.out))
 else(t false)):(Int×Int×(List Int)×(List dJ)×Int×Int×Int×(List Ty)×(List Tm)×(List dJ)×dV)->(Option (gm (Int×Int×(List Int)×(List dJ)×Int×Int×Int×(List Ty)×(List Tm)×(List dJ)×dV) (dJ×dV))))
def JE(n:Nat)(v105:List dJ)(f:dJ):(Int×Int×(List Int)×(List dJ)×Int×Int×Int×(List Ty)×(List Tm)×(List dJ)×dV)->(Option (gm (Int×Int×(List Int)×(List dJ)×Int×Int×Int×(List Ty)×(List Tm)×(List dJ)×dV) (dJ×dV))):=
 ((Kb λ(d:Int) (h:Int) (i:List Int) (j:List dJ) (k:Int) (l:Int) (o:Int) (q:List Ty) (r:List Tm) (s:List dJ) (t:dV)=>
 if(fv (pd d 0) (lJ t.out) false) then(
 ej (λ(y:Int) (A:List Int) (B:List dJ) (C:Int) (D:Int) (F:Int) (G:List Ty) (H:List Tm) (I:List dJ) (J:dV)=>
 some (.next ((fA .i64 d 1),y,A,B,C,D,F,G,H,I,J))) λw=>
 dH (dW v105 1) λK=>
 dH (dW f.list d) λL=>
 dU (eJ n t K (dJ.mk L [] [] (Tm.mk 0 0 (Ty.mk 0 []) []) [])) λa u=>
 ej (λ(M:Int) (N:List Int) (O:List dJ) (P:Int) (Q:Int) (R:Int) (S:List Ty) (T:List Tm) (U:List dJ) (v:dV)=>
 if v.out then(
 w h i j k l o q r s v)
 else(dU (eJ n v (dJ.mk M N O (Tm.mk P Q (Ty.mk R S) T) U) (dJ.mk h i j (Tm.mk k l (Ty.mk o q) r) s)) λb V=>
 w b.num b.list b.pair b.body.ak5 b.body.ak8 b.body.dM.ak5 b.body.dM.ak6 b.body.ak6 b.env V)) λx=>
 if u.out then(
 x a.num a.list a.pair a.body.ak5 a.body.ak8 a.body.dM.ak5 a.body.dM.ak6 a.body.ak6 a.env u)
 else(dH (pF f.list (eS .i64 d 1) (eA f.list)) λW=>
 dU (eJ n u a (dJ.mk 0 W [] (Tm.mk 0 0 (Ty.mk 0 []) []) [])) λc X=>
 x c.num c.list c.pair c.body.ak5 c.body.ak8 c.body.dM.ak5 c.body.dM.ak6 c.body.ak6 c.env X))
 else(some (.yd (d,h,i,j,k,l,o,q,r,s,t)))):(Int×Int×(List Int)×(List dJ)×Int×Int×Int×(List Ty)×(List Tm)×(List dJ)×dV)->(Option (gm (Int×Int×(List Int)×(List dJ)×Int×Int×Int×(List Ty)×(List Tm)×(List dJ)×dV) (dJ×dV))))
def Vf(n:Nat)(k:Int)(v105:List dJ)(c:dV):Option (dJ×dV):=
 if(eo k 3) then(
 dH (dW v105 0) λi=>
 dH (dW v105 1) λj=>
 dU (eJ n c i j) λl o=>
 some (l,o))
 else(if(eo k 5) then(
 dH (dW v105 0) λq=>
 some ((dJ.mk (eS .i64 q.num 1) [] [] (Tm.mk 0 0 (Ty.mk 0 []) []) []),c))
 else(if(eo k 6) then(
 dH (dW v105 0) λa=>
 ej (PX n v105) λs=>
 dH (js s FU (0,a.num,a.list,a.pair,a.body.ak5,a.body.ak8,a.body.dM.ak5,a.body.dM.ak6,a.body.ak6,a.env,c)) (fL (Kb λ(U:Int) (t:Int) (u:List Int) (v:List dJ) (w:Int) (x:Int) (y:Int) (A:List Ty) (B:List Tm) (C:List dJ) (D:dV)=>
 some ((dJ.mk t u v (Tm.mk w x (Ty.mk y A) B) C),D)) (λr=>some r)))
 else(if(eo k 8) then(
 dH (dW v105 0) λd=>
 dH (dW v105 1) λf=>
 gB (fI [d.num] f.list)<|some ((dJ.mk 0 (fR [d.num] f.list) [] (Tm.mk 0 0 (Ty.mk 0 []) []) []),c))
 else(if(eo k 9) then(
 dH (dW v105 0) λb=>
 dH (dW v105 2) λh=>
 ej (JE n v105 h) λF=>
 dH (js F FU ((fA .i64 (eA h.list) 1),b.num,b.list,b.pair,b.body.ak5,b.body.ak8,b.body.dM.ak5,b.body.dM.ak6,b.body.ak6,b.env,c)) (fL (Kb λ(V:Int) (G:Int) (H:List Int) (I:List dJ) (J:Int) (K:Int) (L:Int) (M:List Ty) (N:List Tm) (O:List dJ) (P:dV)=>
 some ((dJ.mk G H I (Tm.mk J K (Ty.mk L M) N) O),P)) (λr=>some r)))
 else(if(eo k 10) then(
 some ((dJ.mk 0 [] v105 (Tm.mk 0 0 (Ty.mk 0 []) []) []),c))
 else(if(eo k 11) then(
 dH (dW v105 0) λQ=>
 dH (dW Q.pair 0) λR=>
 some (R,c))
 else(if(eo k 12) then(
 dH (dW v105 0) λS=>
 dH (dW S.pair 1) λT=>
 some (T,c))
 else(some ((dJ.mk 0 [] [] (Tm.mk 0 0 (Ty.mk 0 []) []) []),c)))))))))
abbrev LSt:=Int×Int×(List Int)×(List dJ)×Int×Int×Int×(List Ty)×(List Tm)×(List dJ)×dV
def pk(j:Int)(r:vi)(m:SG):LSt:=(j,r.num,r.list,r.pair,r.body.ak5,r.body.ak8,r.body.dM.ak5,r.body.dM.ak6,r.body.ak6,r.env,m)
def pkE:LSt->Option (vi×SG):=Kb λ(_:Int) (a:Int) (b:List Int) (c:List dJ) (d:Int) (f:Int) (h:Int) (i:List Ty) (j:List Tm) (k:List dJ) (l:dV)=>some ((dJ.mk a b c (Tm.mk d f (Ty.mk h i) j) k),l)
def Ms(j:Int)(r:vi)(m:SG):pkE (pk j r m)=some (r,m):=by
 unfold pkE pk;rw[vJ,Ty.gE,Tm.gE,dJ.gE]
abbrev Xo(k:Int):vi:=.mk k [] [] (Tm.mk 0 0 (Ty.mk 0 []) []) []
abbrev aeB(l:List Int):vi:=.mk 0 l [] (Tm.mk 0 0 (Ty.mk 0 []) []) []
def Zs{n:Nat}{b s nn r:vi}{j:Int}{m:SG}(h:o7 j nn.num=true)(a:m.out=false):PX n [b,s,nn] (pk j r m)=dU (eJ n m s (Xo j)) λf d=>if d.out then some (.next (pk (eS .i64 j 1) r d))else dU (eJ n d f r) λc i=>some (.next (pk (eS .i64 j 1) c i)):=by
 unfold PX
 conv=>lhs;unfold pk
 rw[vJ,eg,show dW [b,s,nn] 2=some nn from rfl,dI,dR h,a];dsimp only;rw[dR ac8,eg,show dW [b,s,nn] 1=some s from rfl,dI,Ty.gE,Tm.gE,dJ.gE];rfl
def N3{n:Nat}{b s nn r:vi}{j:Int}{m:SG}(h:o7 j nn.num=false\/m.out=true):PX n [b,s,nn] (pk j r m)=some (.yd (pk j r m)):=by
 unfold PX
 conv=>lhs;unfold pk
 rw[vJ,eg,show dW [b,s,nn] 2=some nn from rfl,dI];rcases h with h|h
 ·rw[h,dK aak];dsimp only;rw[dK aak];rfl
 ·by_cases a:o7 j nn.num=true
  ·rw[dR a,h];dsimp only;rw[dK aak];rfl
  ·rw[dK a];dsimp only;rw[dK aak];rfl
def VG{n:Nat}{b s nn r:vi}{i:Int}{m:SG}{h:Int}(hi:0<=i)(l:m.out=false)(o:dW nn.list i=some h):JE n [b,s,nn] nn (pk i r m)=dU (eJ n m s (Xo h)) λf d=>if d.out then some (.next (pk (fA .i64 i 1) r d))else dH (pF nn.list (eS .i64 i 1) (eA nn.list)) λj=>dU (eJ n d f (aeB j)) λf2 d2=>if d2.out then some (.next (pk (fA .i64 i 1) r d2))else dU (eJ n d2 f2 r) λq t=>some (.next (pk (fA .i64 i 1) q t)):=by
 unfold JE
 conv=>lhs;unfold pk
 rw[vJ,dR (by rw[vz,l];simp[hi,lJ]),eg,show dW [b,s,nn] 1=some s from rfl,dI,o,dI];cases v:eJ n m s (Xo h)with
 |none=>rfl|some fd=>
  obtain⟨f,d⟩:=fd;rw[dQ,dQ,eg]
  by_cases c:d.out=true
  ·rw[dR c,dR c];dsimp only;rw[dR c];rfl
  ·rw[dK c,dK c];cases hs:pF nn.list (eS .i64 i 1) (eA nn.list)with
   |none=>rfl|some j=>
    rw[dI,dI];cases u:eJ n d f (aeB j)with
    |none=>rfl|some k=>
     obtain⟨f2,d2⟩:=k;rw[dQ,dQ]
     by_cases a:d2.out=true
     ·rw[dR a];dsimp only;rw[dR a];rfl
     ·rw[dK a];dsimp only;rw[dK a];simp only[Ty.gE,Tm.gE,dJ.gE];rfl
def K0{n:Nat}{b s nn r:vi}{i:Int}{m:SG}(h:i<0\/m.out=true):JE n [b,s,nn] nn (pk i r m)=some (.yd (pk i r m)):=by
 unfold JE
 conv=>lhs;unfold pk
 rw[vJ,dK (by
  rw[vz,hD,jk];rintro⟨c,a⟩;rcases h with h|h
  ·omega
  ·rw[h] at a;exact absurd a aak)]
 rfl
def WV{M n:Nat}{b s nn:vi}{σ:DI}{φ:Nat->σ.D->σ.D}{B0 d:Nat}(hs:RT M (.f .n (.f σ σ)) φ s B0)(hn:nn.num=(d:Int))(R:d<=B0)(V:Nat->σ.D)(w:∀k,V (k+1)=φ k (V k)):∀(q j:Nat) (r:vi) (u B:Nat),j<=d->RT M σ (V j) r B->B0<=B->B+(M-u)<=100000000->u<=M->2*(M-u)+2<=n->(M-u)+2<=q->∃i a out,dH (js (PX n [b,s,nn]) q (pk (j:Int) r (mc M u false))) (fL pkE (λr=>some r))=some (i,mc M a out)/\u<=a/\a<=M/\(out=false->RT M σ (V d) i (B+(a-u))):=by
 intro q
 induction q with
 |zero=>intro j r u B _ _ _ _ _ _ h;omega|succ q ih=>
  intro j r u B S t x l hu o T;rw[hI]
  by_cases y:j<d
  ·rw[Zs (by rw[j3,hn];omega) rfl]
   have A:eS .i64 (j:Int) 1=((j+1:Nat):Int):=by rw[fX VW VW];omega
   have stop:∀(r:vi) (a:Nat),u<=a->a<=M->∃i c out,dH (dH (some (gm.next (pk (eS .i64 (j:Int) 1) r (mc M a true)))) (J3 (js (PX n [b,s,nn]) q))) (fL pkE (λr=>some r))=some (i,mc M c out)/\u<=c/\c<=M/\(out=false->RT M σ (V d) i (B+(c-u))):=λr a C F=>by
    obtain⟨v,rfl⟩:∃v,q=v+1:=⟨q-1,VW⟩;rw[dI,fh,hI,N3 (.inr rfl),dI,sj,dI,eB,Ms];exact⟨r,a,true,rfl,C,F,λh=>by cases h⟩
   obtain⟨f,u1,o1,G,H,c3,I⟩:=hs j (Xo (j:Int)) B u n x l ⟨rfl,VW⟩ hu o;rw[G,dQ];cases o1 with
   |true=>rw[dR rfl];exact stop r u1 H c3|false=>
    obtain⟨c5,J⟩:=I rfl;rw[dK aa2];obtain⟨i,u2,o2,g1,g2,g3,g4⟩:=J (V j) r (B+(u1-u)) u1 n (gY _) VW (t.mono _ VW) c3 VW;rw[g1,dQ];cases o2 with
    |true=>exact stop i u2 VW g3|false=>
     obtain⟨g5,g6⟩:=g4 rfl;rw[dI,fh,A];rw[<-w j] at g6;obtain⟨K,u3,L,N,k2,O,P⟩:=ih (j+1) i u2 (B+(u2-u)) VW (g6.mono _ VW) VW VW g3 VW VW;exact⟨K,u3,L,N,VW,O,λh=>(P h).mono _ VW⟩
  ·have:j=d:=VW
   subst this
   have Q:o7 (j:Int) nn.num=false:=by
    cases h:o7 (j:Int) nn.num with
    |false=>rfl|true=>rw[j3,hn] at h;omega
   rw[N3 (.inl Q),dI,sj,dI,eB,Ms];exact⟨r,u,false,rfl,gY _,hu,λ_=>t.mono _ VW⟩
def Uk{M n:Nat}{b s nn:vi}{σ:DI}{φ:Nat->List Nat->σ.D->σ.D}{B0:Nat}{a:List Nat}(hs:RT M (.f .n (.f .l (.f σ σ))) φ s B0)(hn:nn.list=a.map (λ(x:Nat)=>(x:Int)))(C:a.length<=B0/\∀x∈a,x<=B0)(V:List Nat->σ.D)(K:∀h t,V (h::t)=φ h t (V t)):∀(q j:Nat) (r:vi) (u B:Nat),j<=a.length->RT M σ (V (a.drop j)) r B->B0<=B->B+(M-u)<=100000000->u<=M->2*(M-u)+2<=n->(M-u)+2<=q->∃i c out,dH (js (JE n [b,s,nn] nn) q (pk ((j:Int)-1) r (mc M u false))) (fL pkE (λr=>some r))=some (i,mc M c out)/\u<=c/\c<=M/\(out=false->RT M σ (V a) i (B+(c-u))):=by
 intro q
 induction q with
 |zero=>intro j r u B _ _ _ _ _ _ h;omega|succ q ih=>
  intro j r u B hj F L o hu v hq;rw[hI];cases j with
  |succ j=>
   have k:j<a.length:=VW
   have w:a.drop j=a[j]::a.drop (j+1):=Kd k;rw[show(((j+1:Nat):Int)-1)=(j:Int) by omega]
   have N:dW nn.list (j:Int)=some ((a[j]:Nat):Int):=by rw[gX,hn];simp[k]
   rw[VG VW rfl N];have O:fA .i64 (j:Int) 1=(j:Int)-1:=fT VW VW
   have stop:∀(r:vi) (c:Nat),u<=c->c<=M->∃i d out,dH (dH (some (gm.next (pk (fA .i64 (j:Int) 1) r (mc M c true)))) (J3 (js (JE n [b,s,nn] nn) q))) (fL pkE (λr=>some r))=some (i,mc M d out)/\u<=d/\d<=M/\(out=false->RT M σ (V a) i (B+(d-u))):=λr c P Q=>by
    obtain⟨G,rfl⟩:∃G,q=G+1:=⟨q-1,VW⟩;rw[dI,fh,hI,K0 (.inr rfl),dI,sj,dI,eB,Ms];exact⟨r,c,true,rfl,P,Q,λh=>by cases h⟩
   have H:a[j]<=B0:=C.2 _ (B7 k);obtain⟨f,u1,o1,R,S,c3,T⟩:=hs a[j] (Xo ((a[j]:Nat):Int)) B u n L o ⟨rfl,VW⟩ hu v;rw[R,dQ];cases o1 with
   |true=>rw[dR rfl];exact stop r u1 S c3|false=>
    obtain⟨c5,U⟩:=T rfl;rw[dK aa2]
    have y:pF nn.list (eS .i64 (j:Int) 1) (eA nn.list)=some ((a.drop (j+1)).map (λ(x:Nat)=>(x:Int))):=by
     rw[fX VW VW,fM,hn];unfold pF;rw[dR acx]
     have e:((j:Int)+1).toNat=j+1:=VW
     simp[aeH,e,ac1]
    rw[y,dI]
    have A:RT M .l (a.drop (j+1)) (aeB ((a.drop (j+1)).map (λ(x:Nat)=>(x:Int)))) (B+(u1-u)):=by
     refine⟨rfl,by rw[ON];omega,λx H=>?_⟩;have:=C.2 x (Fj H);omega
    obtain⟨f2,u2,o2,g1,g2,g3,g4⟩:=U (a.drop (j+1)) _ (B+(u1-u)) u1 n (gY _) VW A c3 VW;rw[g1,dQ];cases o2 with
    |true=>rw[dR rfl];exact stop r u2 VW g3|false=>
     obtain⟨g5,g6⟩:=g4 rfl;rw[dK aa2];obtain⟨i,u3,W,X,k2,I,Y⟩:=g6 (V (a.drop (j+1))) r (B+(u1-u)+(u2-u1)) u2 n (gY _) VW (F.mono _ VW) g3 VW;rw[X,dQ];cases W with
     |true=>exact stop i u3 VW I|false=>
      obtain⟨k5,J⟩:=Y rfl;rw[dI,fh,O];rw[<-K,<-w] at J;obtain⟨Z,u4,o4,l1,l2,l3,l4⟩:=ih j i u3 (B+(u3-u)) VW (J.mono _ VW) VW VW I VW VW;exact⟨Z,u4,o4,l1,VW,l3,λh=>(l4 h).mono _ VW⟩
  |zero=>
   rw[K0 (.inl VW),dI,sj,dI,eB,Ms];exact⟨r,u,false,rfl,gY _,hu,λ_=>F.mono _ VW⟩
end Go.fD
set_option maxRecDepth 20000
set_option maxHeartbeats 1000000
namespace Go.fD
open Go
def acL{g:List Ty}{b c:Tm}{s:Ty}(a:ef g b s)(d:(Tm.mk 9 0 s [b,c,.mk 7 0 .z []]).ok=true):FF (.mk 9 0 s [b,c,.mk 7 0 .z []]) b:=.star d (.step (.CH 0 s 0 .z _ (l_.refl b a.ok)) (.refl b))
def afw{b c n t:Tm}{s:Ty}(a:b.ok=true)(d:c.ok=true)(hn:n.ok=true)(f:t.ok=true)(h:(Tm.mk 9 0 s [b,c,.mk 8 0 .z [n,t]]).ok=true):FF (.mk 9 0 s [b,c,.mk 8 0 .z [n,t]]) (zT c n t (.mk 9 0 s [b,c,t])):=.star h (.step (.CC 0 s 0 .z (l_.refl b a) (l_.refl c d) (l_.refl n hn) (l_.refl t f)) (.refl _))
abbrev Wt(b f:Tm):Fm:=.mk 4 .fS [] [Am (w6 b f v0)]
abbrev S1(b f:Tm):Pf:=.mk 8 0 .fS [] [] [.mk 17 0 .z [v0] [Am (w6 b f v0)] [MA (w6 b f (.mk 7 0 .z [])) b (O4 b),ag' (hyS 0) (MA (w6 b f (.mk 8 0 .z [v2,v1])) (zT f v2 v1 v0) (XA (MD (zT f v3 v2 v1) (zT f v3 v2 v0)) (hyS 0) (O4 (zT f v2 v1 v0))))]]
def ajd{b f:Tm}(d:ef [] b .nat)(q:ef [] f (.fn .nat (.fn .fS (.fn .nat .nat))))(L:List Fm)(g:List Ty)(hs:List Fm):Tk L g hs (S1 b f) (Wt b f):=by
 have B:=d.cl;have F:=q.cl;have R:∀{g:List Ty} {n:Tm},ef g n .fS->ef g (w6 b f n) .nat:=λh=>.fold Ty.gR (d.cls _) (q.cls _) h;have A:∀{g:List Ty} {x y z:Tm},ef g x .nat->ef g y .fS->ef g z .nat->ef g (zT f x y z) .nat:=λh G H=>.app (.app (.app (q.cls _) h) G) H;have I:ef (g++[.fS]) v0 .fS:=kG;have c:ef (g++[.fS]++[.fS]) v0 .fS:=kG;have j:ef (g++[.fS]++[.nat]++[.fS]) v0 .fS:=kG;have r:ef (g++[.fS]++[.nat]++[.fS]) v1 .nat:=sQ;have v:ef (g++[.fS]++[.nat]++[.fS]++[.nat]) v0 .nat:=kG;have l:ef (g++[.fS]++[.nat]++[.fS]++[.nat]) v1 .fS:=sQ;have k2:ef (g++[.fS]++[.nat]++[.fS]++[.nat]) v2 .nat:=Cq;refine Tk.allI Ty.mv ?_
 have J:Fm.gJ 0 (Am (w6 b f v0)) v0=Am (w6 b f v0):=by
  simp[Fm.fO,Tm.fJ,Tm.fO,v0,Tm.nj,fE,qB,j4,B.up,B.gJ,F.up,F.gJ]
 refine Eq.mp (congrArg (Tk L (g++[.fS]) (hs.map (Fm.up 0 1)) _) J) (Tk.lists (F:=Am (w6 b f v0)) (CQ (R c)) I ?_ ?_)
 ·have K:Fm.gJ 0 (Am (w6 b f v0)) (.mk 7 0 .z [])=Am (w6 b f (.mk 7 0 .z [])):=by
   simp[Fm.fO,Tm.fJ,Tm.fO,v0,Tm.nj,fE,qB,j4,B.up,B.gJ,F.up,F.gJ]
  rw[K];have C:ef (g++[.fS]) (w6 b f (.mk 7 0 .z [])) .nat:=R .nil;exact Tk.shown C (d.cls _) (Tk.cv (Tk.refl (d.cls _)) (.eq (.refl d.ok) (acL d C.ok).symm))
 ·have M:Fm.gJ 0 ((Am (w6 b f v0)).up 1 2) (.mk 8 0 .z [v1,v0])=Am (w6 b f (.mk 8 0 .z [v1,v0])):=by
   simp[Fm.fO,Fm.fJ,Tm.fJ,Tm.fO,v0,v1,Tm.nj,fE,qB,j4,B.up,B.gJ,F.up,F.gJ]
  have w:(Am (w6 b f v0)).up 1 1=Am (w6 b f v0):=by
   simp[Fm.fJ,Tm.fJ,v0,fE,qB,j4,B.up,F.up]
  rw[M,w];refine Tk.exE (s:=.nat) Ty.gR (x:=MD v0 ((w6 b f v0).up 0 1)) (Tk.hyp (i:=0) aa2 (.refl (CQ (R j)))) (CQ (R (.cons r j))) λN D U=>?_
  have O:(Am (w6 b f (.mk 8 0 .z [v1,v0]))).up 0 1=Am (w6 b f (.mk 8 0 .z [v2,v1])):=by
   simp[Fm.fJ,Tm.fJ,v0,v1,v2,fE,qB,j4,B.up,F.up]
  have P:MD v0 ((w6 b f v0).up 0 1)=MD v0 (w6 b f v1):=by
   simp[Tm.fJ,v0,v1,fE,B.up,F.up]
  rw[P] at D;rw[O];have o:ef (g++[.fS]++[.nat]++[.fS]++[.nat]) (w6 b f (.mk 8 0 .z [v2,v1])) .nat:=R (.cons k2 l);refine Tk.shown o (A k2 l v) ?_;have Q:iQ (g++[.fS]++[.nat]++[.fS]++[.nat]++[.nat]) (MD (zT f v3 v2 v1) (zT f v3 v2 v0)):=.eq (A Of Cq sQ) (A Of Cq kG)
  have S:Fm.gJ 0 (MD (zT f v3 v2 v1) (zT f v3 v2 v0)) v0=MD (zT f v2 v1 v0) (zT f v2 v1 v0):=by
   simp[Fm.fO,Tm.fO,v0,v1,v2,v3,Tm.nj,fE,B.gJ,F.gJ,gC,zj]
  have T:Fm.gJ 0 (MD (zT f v3 v2 v1) (zT f v3 v2 v0)) (w6 b f v1)=MD (zT f v2 v1 v0) (zT f v2 v1 (w6 b f v1)):=by
   simp[Fm.fO,Tm.fO,v0,v1,v2,v3,Tm.nj,fE,B.gJ,F.gJ,gC,zj]
  have k:=Tk.subst (L:=L) (hs:=List.map (Fm.up 0 1) (List.map (Fm.up 0 2) (List.map (Fm.up 0 1) hs)++[Am (w6 b f v0)])++[N]) Q (a:=hyS 0) (b:=O4 (zT f v2 v1 v0)) (t:=v0) (u:=w6 b f v1) (Tk.hyp (i:=0) aa2 D) (by rw[S];exact Tk.refl (A k2 l v));rw[T] at k;exact k.cv (.eq (.refl (A k2 l v).ok) (afw d.ok q.ok k2.ok l.ok o.ok).symm)
end Go.fD
set_option maxRecDepth 20000
set_option maxHeartbeats 1000000
namespace Go.fD
open Go
section
variable{b c f:Tm}
end
end Go.fD
set_option maxRecDepth 20000
set_option maxHeartbeats 1000000
namespace Go.fD
open Go
def CG:∀(n:Nat) (t:Tm) (f:Int),t.ak7<=n->t.ok=true->t.ak7<=1000000000->0<=f->f+t.ak7<=10000000000->t.ak' 1000000000000=true->lA n t f 1=some (t.up f 1):=by
 intro n
 induction n with
 |zero=>intro t f h;have:=t.eM;omega
 |succ n ih=>
  intro t f h y o C q hi;cases t with
  |mk k i s l=>
   rw[Tm.dP] at h o q;rw[Tm.fH] at hi;simp only[hD,oy,k_] at hi;have D:=Tm.fV l;have F:=jl k;have b:=y;rw[Tm.hH] at b;simp only[hD,k_] at b
   have A:0<=i:=by
    have:=b.1;simp only[Tm.node,hD,oy] at this;exact this.1.1.2
   rw[lA,dK aak,Tm.fJ];simp only[Tm.eH,Tm.iC,Tm.eL,Tm.fK,fZ]
   by_cases r:k=1
   ·subst r
    have d:l=[]:=by
     have:=b.1;simp only[Tm.node,gU,hD,oy] at this;cases l with
     |nil=>rfl|cons a l=>simp at this;omega
    subst d;rw[dR rfl]
    by_cases c:f<=i
    ·rw[fX VW VW,dR ⟨rfl,c⟩,show pd i f=true by rw[jk];exact c];rfl
    ·rw[dK (λh=>c h.2),show pd i f=false by
      cases u:pd i f with
      |false=>rfl|true=>exact absurd ((jk _ _).1 u) c];rfl
   ·rw[dK r,dK (λh=>r h.1)];simp only[eg,et (l:=l) VW,ec];rw[kq (Tm.up (f+fE k) 1) l 0 [] acx]
    ·simp only[dI,eB,nT]
    ·intro j x v w B;have:=eG Tm.ak7 w
     have e:fv (eo k 2) (eS .i64 f 1) f=f+fE k:=by
      unfold fE
      by_cases c:k=2
      ·rw[dR c,show eo k 2=true by rw[fZ];exact c,fX VW VW];rfl
      ·rw[dK c,show eo k 2=false by
        cases u:eo k 2 with
        |false=>rfl|true=>exact absurd ((fZ _ _).1 u) c,uQ];rfl
     rw[e,ih x (f+fE k) VW (b.2 x w) VW VW VW (hi.2 x w)];simp[fg (l:=v) (m:=[x.up (f+fE k) 1]) (by simpa using B)]
def exists_eq{g:List Ty}{s:Tm}(h:ef g s .nat)(hg:g.length<=1000)(hn:s.ak7<=1000000):gb s=some (Am s):=by
 unfold gb;have e:lA FU s 0 1=some (s.up 0 1):=CG FU s 0 (by rw[fB];omega) h.ok VW VW VW (h.ak' _ VW);rw[e];rfl
def VX{g:List Ty}{s:Tm}{t:Ty}(h:ef g s t)(hg:g.length<=1000)(hn:s.ak7<=1000000):lA FU s 0 1=some (s.up 0 1):=
 CG FU s 0 (by rw[fB];omega) h.ok VW VW VW (h.ak' _ VW)
def Hr{t:Tm}{s:Ty}(h:ef [] t s)(hn:t.ak7<=4096)(hs:s.ak7<=64):r7 [] t=some (s,0):=by
 have he:t.err=0:=Tm.oT h.ok hn;have hw:=t.jr h.ok
 have a:iT []:=λs hs=>by simp at hs
 unfold r7;rw[Gb [] aa2 aa2,dI,show xy []=0 from rfl,dK nz,JQ VW,dI,he,dK nz,H7 a aa2,dI,F3 h.ok a acx,nb h a acx,tF,dQ,dK nz];show dH (ki FU s) _=_;rw[xM VW,dI]
def KL{t:Tm}{s:Ty}(h:ef [] t s)(hn:t.ak7<=4096)(hs:s.ak7<=64):jc t s=some 0:=by
 unfold jc;rw[Hr h hn hs,dQ,eg,dR aak];unfold zm;rw[sO VW,tx];rfl
def ac7:gw=some .nat:=rfl
def adZ:tj=some .fS:=rfl
def Zj:rb .nat [.nat,.fS,.nat]=some (.fn .nat (.fn .fS (.fn .nat .nat))):=by kernel_rfl
def ahd:fa 0=some v0:=rfl
def agR:fa 1=some v1:=rfl
def ag6:fa 2=some v2:=rfl
def ahs:fa 3=some v3:=rfl
def Wh(f x y z:Tm):hX f [x,y,z]=some (zT f x y z):=by
 cases f with|mk k i s l=>cases s;rfl
def ahV(a b:Tm):mJ a b=some (MD a b):=rfl
def ajA(k:Int)(s:Ty)(f:Fm):px k s f=some (.mk k s [] [f]):=rfl
def Z7(t:Tm):kC t=some (O4 t):=rfl
def XF(f:Fm)(t:Tm)(p:Pf):jJ f t p=some (.mk 10 0 .z [t] [f] [p]):=rfl
def adX(s:Ty)(p:Pf):py s p=some (.mk 8 0 s [] [] [p]):=rfl
def adf(i:Int):kh i=some (hyS i):=rfl
def Zc(f:Fm)(p q:Pf):jM f p q=some (XA f p q):=rfl
def ajq(k:Int)(l:List Pf):mg k l=some (.mk k 0 .z [] [] l):=rfl
def afl(k:Int)(f:Fm)(t:Tm)(p q:Pf):l' k f t p q=some (.mk k 0 .z [t] [f] [p,q]):=rfl
def agr(n b f:Tm):jO n b f=some (w6 b f n):=rfl
abbrev aiV:Pf:=.mk 0 0 .z [] [] []
def Z3{f:Fm}{P:Pf}(c:f.wt<=1000000000)(d:P.wt<=1000000000):kD f P=some (if f.err=0/\P.err=0 then(f,P,0)else(.mk 0 .z [] [],aiV,4)):=by
 unfold kD;rw[F1 c,dI,eg]
 by_cases a:f.err=0
 ·rw[a,dR aak,I3 d,dI];dsimp only
  by_cases b:P.err=0
  ·rw[b,dK nz,dR ⟨rfl,rfl⟩]
  ·rw[dR (by rw[ez];exact b),dK (λh=>b h.2)];rfl
 ·rw[dK (by rw[fZ];exact a)];dsimp only;rw[dR (by rw[ez];exact a),dK (λh=>a h.1)];rfl
section
variable{b c f h:Tm}
def MH(d:ef [] b .nat)(a:ef [] f (.fn .nat (.fn .fS (.fn .nat .nat))))(c:b.ak7<=4096)(hn:f.ak7<=4096):ma b f=kD (Wt b f) (S1 b f):=by
 have R:∀{g:List Ty} {n:Tm},ef g n .fS->ef g (w6 b f n) .nat:=λh=>.fold Ty.gR (d.cls _) (a.cls _) h;have F:=a.cl
 have n1:∀{n:Tm},n.ak7<=10->(w6 b f n).ak7<=1000000:=λ{n} h=>by rw[Tm.dP];simp only[ei];omega
 have i:gb (w6 b f (.mk 8 0 .z [v2,v1]))=some (Am (w6 b f (.mk 8 0 .z [v2,v1]))):=exists_eq (g:=[.nat,.fS,.nat]) (R (.cons (Cq (g:=[])) (sQ (g:=[.nat])))) aa2 (n1 aak);have j:gb (w6 b f (.mk 7 0 .z []))=some (Am (w6 b f (.mk 7 0 .z []))):=exists_eq (g:=[]) (R .nil) aa2 (n1 aak);have k:gb (w6 b f v0)=some (Am (w6 b f v0)):=exists_eq (g:=[.fS]) (R (kG (g:=[]))) aa2 (n1 aak)
 have l:lA FU (zT f v2 v1 v0) 0 1=some (zT f v3 v2 v1):=by
  rw[VX (s:=zT f v2 v1 v0) (g:=[.nat,.fS,.nat]) (t:=.nat) (.app (.app (.app (a.cls _) (Cq (g:=[]))) (sQ (g:=[.nat]))) (kG (g:=[.nat,.fS]))) aa2 (by simp only[gC,Tm.dP,ei];rw[show v0.ak7=1 from rfl,show v1.ak7=1 from rfl,show v2.ak7=1 from rfl];omega)];simp[Tm.fJ,v0,v1,v2,v3,fE,F.up,gC]
 unfold ma;simp only[ac7,adZ,dI,KL d c aak,dK nz,Zj,KL a hn aak,ahd,agR,ag6,ahs,Wh,show∀x y,lO 8 [x,y]=some (.mk 8 0 .z [x,y])fromλ_ _=>rfl,show lO 7 []=some (.mk 7 0 .z [])from rfl,agr,i,j,k,l,ahV,adf,Z7,Zc,XF,ajq,afl,ajA,adX];cases hm:kD (Wt b f) (S1 b f)with
 |none=>rfl|some r=>rfl
end
end Go.fD
set_option maxRecDepth 20000
set_option maxHeartbeats 2000000
namespace Go.fD
open Go
end Go.fD
namespace Go.fD
open Go
structure PfP (k j:Int) (u:Ty) (us:List Tm) (gs:List Fm) (ps:List Pf):Prop where
 s:u.ak7<=64
 n:ps.length<=2
 i:0<=j
 ts:∀t∈us,t.ok=true
 fs:∀f∈gs,f.ok=true
 l:∀p∈ps,p.ok=true
 hyp:k=1->u=.z/\us=[]/\gs=[]/\ps=[]
def Pf.okP{k i:Int}{s:Ty}{ts:List Tm}{fs:List Fm}{l:List Pf}(h:(Pf.mk k i s ts fs l).ok=true):PfP k i s ts fs l:=by
 rw[Pf.hH] at h;simp only[hD,k_] at h;obtain⟨⟨⟨f,o⟩,q⟩,t⟩:=h;cases d:Pf.sig k with
 |none=>unfold Pf.node at f;rw[d] at f;cases f
 |some r=>
  obtain⟨A,ty,a,b,c⟩:=r;obtain⟨q1,u,v,w,B,x,j⟩:=jA f d
  have y:c<=2/\(k=1->a=0/\b=0/\c=0/\ty=false):=by
   unfold Pf.sig at d
   repeat' split at d
   all_goals first
    |(cases d;done)
    |(simp only[B9,TH] at d
      obtain⟨rfl,rfl,rfl,rfl,rfl⟩:=d;refine⟨VW,λn=>?_⟩
      first|(refine⟨rfl,rfl,rfl,rfl⟩;done)|omega)
  refine⟨?_,VW,w,o,q,t,λn=>?_⟩
  ·cases ty with
   |true=>exact fc (x rfl)|false=>rw[j rfl];decide
  ·obtain⟨rfl,rfl,rfl,rfl⟩:=y.2 n;exact⟨j rfl,gq.1 q1,gq.1 u,gq.1 v⟩
def Pf.jr(P:Pf):P.ok=true->P.wt<=65*P.ak7:=by
 induction P using Pf.ind with
 |h k i s ts fs l ih=>
  intro d;have b:=Pf.okP d;rw[Pf.iA,Pf.dP];have j:=wh (f:=Tm.wt) (g:=Tm.ak7) (c:=65) (l:=ts) λx a=>x.jr (b.ts x a);have n:=wh (f:=Fm.wt) (g:=Fm.ak7) (c:=65) (l:=fs) λx a=>x.jr (b.fs x a);have o:=wh (f:=Pf.wt) (g:=Pf.ak7) (c:=65) (l:=l) λx a=>ih x a (b.l x a);have:=b.s;omega
end Go.fD
set_option maxRecDepth 20000
set_option maxHeartbeats 2000000
namespace Go.fD
open Go
def CV{k i:Int}{s:Ty}{ts:List Tm}{fs:List Fm}{l:List Pf}(hn:Pf.node k i s ts.length fs.length l.length=true)(a:∀t∈ts,t.ok=true/\t.ak7<=4096)(b:∀f∈fs,f.ok=true/\f.ak7<=4096)(c:∀p∈l,p.ok=true/\p.small=true):(Pf.mk k i s ts fs l).ok=true/\(Pf.mk k i s ts fs l).small=true:=by
 rw[Pf.hH,Pf.AF];simp only[hD,k_,Tg,Te,oy];exact⟨⟨⟨⟨hn,λt h=>(a t h).1⟩,λf h=>(b f h).1⟩,λp h=>(c p h).1⟩,⟨λt h=>(a t h).2,λf h=>(b f h).2⟩,λp h=>(c p h).2⟩
def LG{P:Pf}(h:P.ok=true/\P.small=true)(hn:P.ak7<=16384):P.err=0:=by
 unfold Pf.err;rw[dR h.1,dR ⟨h.2,hn⟩]
def Ff{α:Type}{p:α->Prop}:∀x∈([]:List α),p x:=λx h=>by simp at h
def Jq{α:Type}{p:α->Prop}{a:α}(h:p a):∀x∈[a],p x:=λx b=>by rw[DB] at b;subst b;exact h
def qw{α:Type}{p:α->Prop}{a b:α}(h:p a)(d:p b):∀x∈[a,b],p x:=λx c=>by
 simp only[lQ,uU,tO] at c;rcases c with rfl|rfl
 ·exact h
 ·exact d
def M6(P:Pf):Prop:=P.ok=true/\P.small=true
def TC(f:Fm):Prop:=f.ok=true/\f.ak7<=4096
def Okt(t:Tm):Prop:=t.ok=true/\t.ak7<=4096
def Pm{t:Tm}(h:Okt t):M6 (O4 t):=CV rfl (Jq h) Ff Ff
def Si{i:Nat}:M6 (hyS i):=CV (by simp[Pf.node,Pf.sig,Ty.p3]) Ff Ff Ff
def U4{s:Fm}{t:Tm}{p:Pf}(h:TC s)(a:Okt t)(b:M6 p):M6 (.mk 10 0 .z [t] [s] [p]):=CV rfl (Jq a) (Jq h) (Jq b)
def Xk{f:Fm}{p q:Pf}(h:TC f)(a:M6 p)(b:M6 q):M6 (XA f p q):=CV rfl Ff (Jq h) (qw a b)
def aaR{p q:Pf}(a:M6 p)(b:M6 q):M6 (ag' p q):=CV rfl Ff Ff (qw a b)
def ZB{k:Int}(a:k=16\/k=17){f:Fm}{t:Tm}{p q:Pf}(h:TC f)(b:Okt t)(c:M6 p)(d:M6 q):M6 (.mk k 0 .z [t] [f] [p,q]):=by
 rcases a with rfl|rfl<;>exact CV rfl (Jq b) (Jq h) (qw c d)
def aaa{s:Ty}(hs:s.err=0){p:Pf}(h:M6 p):M6 (.mk 8 0 s [] [] [p]):=CV (by simp[Pf.node,Pf.sig,hs]) Ff Ff (Jq h)
def okt{g:List Ty}{t:Tm}{s:Ty}(h:ef g t s)(hn:t.ak7<=4000):Okt t:=⟨h.ok,VW⟩
def MF{g:List Ty}{t:Tm}(h:ef g t .nat)(hn:t.ak7<=4000):TC (Am t):=⟨(CQ h).ok,by
 have:=Tm.pj t 0 1
 simp only[Fm.dP,ei,this];rw[show v0.ak7=1 from rfl];omega⟩
def ae7{g:List Ty}{a b:Tm}(h:ef g a .nat)(c:ef g b .nat)(hn:a.ak7+b.ak7<=4000):TC (MD a b):=⟨(iQ.eq h c).ok,by simp only[Fm.dP,ei];omega⟩
def aaA{g:List Ty}{s:Ty}(hs:s.err=0){t:Tm}(h:ef (g++[s]) t .nat)(hn:t.ak7<=4000):TC (.mk 4 s [] [Am t]):=⟨(iQ.q (g:=g) (.inl rfl) hs (CQ h)).ok,by
 have:=Tm.pj t 0 1
 simp only[Fm.dP,ei,this];rw[show v0.ak7=1 from rfl];omega⟩
def nv0:v0.ak7=1:=rfl
def nv1:v1.ak7=1:=rfl
def nv2:v2.ak7=1:=rfl
def nv3:v3.ak7=1:=rfl
def aaM{f:Fm}{P:Pf}(h:TC f)(a:M6 P)(hn:P.ak7<=16000):kD f P=some (f,P,0):=by
 have w:=f.jr h.1;have b:=P.jr a.1;have e:=h.2;rw[Z3 VW VW,dR ⟨Fm.oT h.1 h.2,LG a VW⟩]
section
variable{b c f h:Tm}
def ael(a:ef [] b .nat)(j:ef [] f (.fn .nat (.fn .fS (.fn .nat .nat))))(r:b.ak7<=1000)(hn:f.ak7<=1000):TC (Wt b f)/\M6 (S1 b f)/\(S1 b f).ak7<=16000:=by
 have R:∀{g:List Ty} {n:Tm},ef g n .fS->ef g (w6 b f n) .nat:=λh=>.fold Ty.gR (a.cls _) (j.cls _) h;have A:∀{g:List Ty} {x y z:Tm},ef g x .nat->ef g y .fS->ef g z .nat->ef g (zT f x y z) .nat:=λh k l=>.app (.app (.app (j.cls _) h) k) l
 have n1:∀{n:Tm},n.ak7<=10->(w6 b f n).ak7<=4000:=λ{n} h=>by rw[Tm.dP];simp only[ei];omega
 have n2:∀{x y z:Tm},x.ak7<=10->y.ak7<=10->z.ak7<=10->(zT f x y z).ak7<=1500:=λ{x y z} h k l=>by simp only[gC,Tm.dP,ei];omega
 have a0:ef [.fS] v0 .fS:=kG (g:=[]);have c:ef [.nat,.fS,.nat] v2 .nat:=Cq (g:=[]);have d:ef [.nat,.fS,.nat] v1 .fS:=sQ (g:=[.nat]);have o:ef [.nat,.fS,.nat] v0 .nat:=kG (g:=[.nat,.fS]);have c3:ef [.nat,.fS,.nat,.nat] v3 .nat:=Of (g:=[]);have q:ef [.nat,.fS,.nat,.nat] v2 .fS:=Cq (g:=[.nat]);have s:ef [.nat,.fS,.nat,.nat] v1 .nat:=sQ (g:=[.nat,.fS]);have t:ef [.nat,.fS,.nat,.nat] v0 .nat:=kG (g:=[.nat,.fS,.nat])
 refine⟨aaA (g:=[]) Ty.mv (R a0) (n1 aak),aaa Ty.mv (ZB (.inr rfl) (MF (R a0) (n1 aak)) (okt a0 aak) (U4 (MF (R (g:=[]) .nil) (n1 aak)) (okt a VW) (Pm (okt a VW)))
  (aaR (Si (i:=0)) (U4 (MF (R (.cons c d)) (n1 aak)) (okt (A c d o) ?_) (Xk (ae7 (A c3 q s) (A c3 q t) ?_) (Si (i:=0)) (Pm (okt (A c d o) ?_)))))),?_⟩
 ·have:=n2 (x:=v2) (y:=v1) (z:=v0) aak aak aak;omega
 ·have:=n2 (x:=v3) (y:=v2) (z:=v1) aak aak aak;have:=n2 (x:=v3) (y:=v2) (z:=v0) aak aak aak;omega
 ·have:=n2 (x:=v2) (y:=v1) (z:=v0) aak aak aak;omega
 ·simp only[Pf.dP,Fm.dP,Tm.dP,Tm.pj,gC,ru,rA,ei,nv0,nv1,nv2,nv3];omega
end
end Go.fD
set_option maxRecDepth 20000
set_option maxHeartbeats 2000000
namespace Go.fD
open Go
def ltO{M u:Nat}(h:u<M):(fv false true (eo (u:Int) (M:Int)))=false:=by
 rw[lU,Vb];cases a:eo (u:Int) (M:Int)with
 |false=>rfl|true=>rw[fZ] at a;omega
def Is(n M:Nat)(t:Tm)(env:List vi):fu (n+1) (mc M M false) t env=some (zRs,mc M M true):=by
 rw[fu,dR (by rw[lU];simp[eo])]
def T5{n M u:Nat}{k i:Int}{s:Ty}{l:List Tm}{env:List vi}(hu:u<M)(d:M<=65536)(a:k≠1)(b:k≠2)(f:l.length<=3):fu (n+1) (mc M u false) (.mk k i s l) env=dH (fk (ZY n env) l 0 ([],mc M (u+1) false)) (fL (xm (Vf n k)) (λr=>some r)):=by
 have c:eS .i64 (u:Int) 1=((u+1:Nat):Int):=by rw[fX VW VW];omega
 rw[fu,dK (by rw[ltO hu];decide),dK (by rw[fZ];exact a),dK (by rw[fZ];exact b),show(Tm.mk k i s l).ak6=l from rfl,et VW,ec,eg,c];rfl
def sG{M n u B:Nat}{ρ:List Vw}{env:List vi}{k i:Int}{s:Ty}{l:List Tm}{K:vi->Nat->Prop}(hu:u<=M)(f:M<=65536)(h:k≠1)(j:k≠2)(o:l.length<=3)
  (q:u<M->∀a∈l,∀b,u+1<=b->b<=M->Oc M (fu n (mc M b false) a env) b (B+(b-(u+1))) (RV M (a.val ρ)))
  (t:∀rs b,u+1<=b->b<=M->rs.length=l.length->(∀(i:Nat) a r,l[i]?=some a->rs[i]?=some r->RV M (a.val ρ) r (B+(b-(u+1))))->∃d c out,Vf n k rs (mc M b false)=some (d,mc M c out)/\b<=c/\c<=M/\(out=false->K d (B+(c-u)))):Oc M (fu (n+1) (mc M u false) (.mk k i s l) env) u B K:=by
 by_cases hm:u<M
 ·rw[T5 hm f h j o];rcases RX (M:=M) (n:=n) (env:=env) (ρ:=ρ) (xm (Vf n k)) l 0 [] (u+1) B VW acx (q hm)with⟨b,a1,a2,a3⟩|⟨rs,b,a1,a2,a3,a4,a5⟩
  ·rw[a3];exact .out VW a2
  ·rw[a3,nT,kp];obtain⟨d,c,out,v,A,w,x⟩:=t rs b a1 a2 a4 a5;rw[v];exact⟨d,c,out,rfl,VW,w,λy=>⟨VW,x y⟩⟩
 ·have:u=M:=VW
  subst this;rw[Is];exact .out (gY _) (gY _)
def RV.abI{M:Nat}{v:Vw}{s:DI}{r:vi}{B:Nat}(h:RT M s (v.at s) r B)(hs:v.s=s):RV M v r B:=by
 subst hs;cases v;rw[Vw.zK] at h;exact h
def ln1{α:Type}{l:List α}(h:l.length=1):∃a,l=[a]:=by
 match l,h with
 |[a],_=>exact⟨a,rfl⟩
def ln2{α:Type}{l:List α}(h:l.length=2):∃a b,l=[a,b]:=by
 match l,h with
 |[a,b],_=>exact⟨a,b,rfl⟩
def ln3{α:Type}{l:List α}(h:l.length=3):∃a b c,l=[a,b,c]:=by
 match l,h with
 |[a,b,c],_=>exact⟨a,b,c,rfl⟩
def mf{k i:Int}{s:Ty}{l:List Tm}(a:k≠1)(b:k≠2)(ρ:List Vw):(Tm.mk k i s l).val ρ=opV k (l.map λt=>t.val ρ):=by rw[Tm.val_mk,dK a,dK b]
def ajI{M:Nat}(N:M<=65536){g:List Ty}{t:Tm}{T:Ty}(h:ef g t T):∀(ρ:List Vw) (env:List vi) (B u n:Nat),yz ρ g->RE M ρ env B->g.length+t.ak7<=1000000->B+(M-u)<=100000000->u<=M->2*(M-u)+1<=n->Oc M (fu n (mc M u false) t env) u B (RV M (t.val ρ)):=by
 induction h with
 |@var g t i hi hg=>
  intro ρ env B u n he j o K hu hn;obtain⟨n,rfl⟩:∃m,n=m+1:=⟨n-1,VW⟩
  by_cases hm:u<M
  ·have hlen:ρ.length=g.length:=by have:=congrArg List.length he;simpa using this
   have e1:eS .i64 (u:Int) 1=((u+1:Nat):Int):=by rw[fX VW VW];omega
   have ah:g.length-1-i<env.length:=by rw[<-j.1,hlen];omega
   have e2:dW env (fA .i64 (fA .i64 (eA env) 1) (i:Int))=some env[g.length-1-i]:=by
    have:=j.1;rw[fM,fT (a:=(env.length:Int)) (b:=1) VW VW,fT VW VW,show(env.length:Int)-1-(i:Int)=((g.length-1-i:Nat):Int) by omega,gX];simp[ah]
   rw[fu,dK (by rw[ltO hm];decide),dR ac8,show(Tm.mk 1 (i:Int) Ty.z []).ak8=(i:Int)from rfl,e2,dI,e1];refine .is VW VW ?_;rw[Tm.val_mk,dR rfl,show((i:Nat):Int).toNat=i from rfl,adN VW,hlen]
   have R:g.length-1-i<ρ.length:=VW
   rw[o9 R];exact(j.2 _ _ _ (o9 R) (o9 ah)).mono VW
  ·have:u=M:=VW
   subst this;rw[Is];exact .out (gY _) (gY _)
 |@lam g s b t hs U ih=>
  intro ρ env B u n he j o K hu hn;obtain⟨n,rfl⟩:∃m,n=m+1:=⟨n-1,VW⟩;rw[Tm.dP] at o;simp only[ei] at o
  by_cases hm:u<M
  ·have e1:eS .i64 (u:Int) 1=((u+1:Nat):Int):=by rw[fX VW VW];omega
   rw[fu,dK (by rw[ltO hm];decide),dK (by show¬eo 2 1=true;decide),dR ac8,show dW (Tm.mk 2 0 s [b]).ak6 0=some b from rfl,dI,e1];refine .is VW VW ?_;rw[Tm.val_mk,dK aak,dR rfl];have ai:∀x,(b.val (ρ++[⟨s.S,x⟩])).s=t.S:=λx=>nd U _ (he.app rfl);show RT M (.f s.S (b.val (ρ++[⟨s.S,s.S.YR⟩])).s) _ _ _;intro x A B' c n' C d D w h5;obtain⟨n',rfl⟩:∃m,n'=m+1:=⟨n'-1,VW⟩
   have hlen:ρ.length=g.length:=by have:=congrArg List.length he;simpa using this
   have an:=j.1;rw[eJ,show(dJ.mk 0 [] [] b env).env=env from rfl,show(dJ.mk 0 [] [] b env).body=b from rfl,fg acx,ec,ij];have k:=ih (ρ++[⟨s.S,x⟩]) (env++[A]) B' c n' (he.app rfl) ((j.mono VW).app (v:=⟨s.S,x⟩) D) acx d w VW;obtain⟨r,J,out,H,k2,L,X⟩:=k;rw[H,dQ];refine⟨r,J,out,rfl,k2,L,λV=>⟨(X V).1,?_⟩⟩;have k5:=(X V).2;show RT M _ (((b.val (ρ++[⟨s.S,x⟩]))).at (b.val (ρ++[⟨s.S,s.S.YR⟩])).s) r _;exact k5.at (by rw[ai,ai])
  ·have:u=M:=VW
   subst this;rw[Is];exact .out (gY _) (gY _)
 |@app g f a s t hf P F G=>
  intro ρ env B u n he j o K hu hn;obtain⟨n,rfl⟩:∃m,n=m+1:=⟨n-1,VW⟩;rw[Tm.dP] at o;simp only[ei] at o
  have hF:(f.val ρ).s=.f s.S t.S:=by rw[<-xN];exact nd hf ρ he
  have hA:(a.val ρ).s=s.S:=nd P ρ he;obtain⟨φ,Q⟩:=H_ hF;refine sG hu N aak aak aa2 (λhm=>qw (λc C d=>F ρ env _ c n he (j.mono VW) VW VW d VW) (λc C d=>G ρ env _ c n he (j.mono VW) VW VW d VW)) λrs c C d D w=>?_;obtain⟨rf,A,rfl⟩:=ln2 D;have H:=w 0 f rf rfl rfl;have k2:=(w 1 a A rfl rfl).at hA;rw[Q] at H;obtain⟨r,J,out,c1,c2,c3,c4⟩:=H ((a.val ρ).at s.S) A _ c n (gY _) VW k2 d VW;refine⟨r,J,out,?_,c2,c3,λV=>?_⟩
  ·show dU (eJ n (mc M c false) rf A) _=_;rw[c1];rfl
  ·rw[mf aak aak];show RV M (ot (f.val ρ) (a.val ρ)) r _;rw[Q];exact((c4 V).2).mono _ VW
 |@zero g=>
  intro ρ env B u n he j o K hu hn;obtain⟨n,rfl⟩:∃m,n=m+1:=⟨n-1,VW⟩;refine sG (ρ:=ρ) hu N aak aak aa2 (λ_=>Ff) λrs c C d D w=>⟨_,c,false,rfl,gY _,d,λ_=>?_⟩;rw[mf aak aak];exact(⟨rfl,Pd _⟩:Rnm 0 zRs _)
 |@succ g a P ih=>
  intro ρ env B u n he j o K hu hn;obtain⟨n,rfl⟩:∃m,n=m+1:=⟨n-1,VW⟩;rw[Tm.dP] at o;simp only[ei] at o
  have hA:(a.val ρ).s=.n:=by rw[<-wH];exact nd P ρ he
  refine sG hu N aak aak aa2 (λhm=>Jq (λc C d=>ih ρ env _ c n he (j.mono VW) VW VW d VW)) λrs c C d D w=>?_;obtain⟨A,rfl⟩:=ln1 D;obtain⟨H,k2⟩:Rnm (rj (a.val ρ)) A _:=(w 0 a A rfl rfl).at hA;refine⟨_,c,false,rfl,gY _,d,λ_=>?_⟩;rw[mf aak aak];refine⟨?_,?_⟩
  ·show eS .i64 A.num 1=((rj (a.val ρ)+1:Nat):Int);rw[H,fX VW VW];omega
  ·show rj (a.val ρ)+1<=_;omega
 |@rZ g t b s m ht U hs Y F G Z=>
  intro ρ env B u n he j o K hu hn;obtain⟨n,rfl⟩:∃m,n=m+1:=⟨n-1,VW⟩;rw[Tm.dP] at o;simp only[ei] at o;have O:(b.val ρ).s=t.S:=nd U ρ he
  have ad:(s.val ρ).s=.f .n (.f t.S t.S):=by have:=nd hs ρ he;rwa [xN,xN,wH] at this
  have ae:(m.val ρ).s=.n:=by rw[<-wH];exact nd Y ρ he
  obtain⟨φ,Q⟩:=H_ ad;refine sG (ρ:=ρ) hu N aak aak aa2 (λhm=>?_) λrs c C d D w=>?_
  ·intro a hx c C d;simp only[lQ,uU,tO] at hx;rcases hx with rfl|rfl|rfl
   ·exact F ρ env _ c n he (j.mono VW) VW VW d VW
   ·exact G ρ env _ c n he (j.mono VW) VW VW d VW
   ·exact Z ρ env _ c n he (j.mono VW) VW VW d VW
  obtain⟨I,rf,W,rfl⟩:=ln3 D;have H:=(w 0 b I rfl rfl).at O;have k2:=w 1 s rf rfl rfl;obtain⟨L,X⟩:Rnm (rj (m.val ρ)) W _:=(w 2 m W rfl rfl).at ae;rw[Q] at k2
  have af:∀k,(P5 (b.val ρ) (s.val ρ) k).s=t.S:=λk=>by
   cases k with
   |zero=>exact O|succ k=>rw[Q];rfl
  obtain⟨r,J,out,c1,c2,c3,c4⟩:=WV (n:=n) (b:=I) (s:=rf) (nn:=W) (σ:=t.S) (φ:=φ) k2 L X (λk=>(P5 (b.val ρ) (s.val ρ) k).at t.S) (λk=>by
   show(ot (ot (s.val ρ) ⟨.n,k⟩) (P5 (b.val ρ) (s.val ρ) k)).at t.S=_;rw[Q];show(Vw.mk t.S (φ ((Vw.mk DI.n k).at .n) ((P5 (b.val ρ) ⟨.f .n (.f t.S t.S),φ⟩ k).at t.S))).at t.S=_;rw[Vw.zK]
   exact congrArg (λz=>φ z _) (Vw.zK .n k)) FU 0 I c _ (Pd _) H (gY _) VW d VW (by rw[fB];omega)
  refine⟨r,J,out,?_,c2,c3,λV=>?_⟩
  ·exact c1
  ·rw[mf aak aak];exact RV.abI ((c4 V).mono _ VW) (af _)
 |@nil g=>
  intro ρ env B u n he j o K hu hn;obtain⟨n,rfl⟩:∃m,n=m+1:=⟨n-1,VW⟩;refine sG (ρ:=ρ) hu N aak aak aa2 (λ_=>Ff) λrs c C d D w=>⟨_,c,false,rfl,gY _,d,λ_=>?_⟩;rw[mf aak aak];exact(⟨rfl,Pd _,λx hx=>by simp at hx⟩:Rls [] zRs _)
 |@cons g a b P U F G=>
  intro ρ env B u n he j o K hu hn;obtain⟨n,rfl⟩:∃m,n=m+1:=⟨n-1,VW⟩;rw[Tm.dP] at o;simp only[ei] at o
  have hA:(a.val ρ).s=.n:=by rw[<-wH];exact nd P ρ he
  have ak:(b.val ρ).s=.l:=by rw[<-z8];exact nd U ρ he
  refine sG hu N aak aak aa2 (λhm=>qw (λc C d=>F ρ env _ c n he (j.mono VW) VW VW d VW) (λc C d=>G ρ env _ c n he (j.mono VW) VW VW d VW)) λrs c C d D w=>?_;obtain⟨A,I,rfl⟩:=ln2 D;obtain⟨H,k2⟩:Rnm (rj (a.val ρ)) A _:=(w 0 a A rfl rfl).at hA;obtain⟨L,X,k5⟩:Rls (JD (b.val ρ)) I _:=(w 1 b I rfl rfl).at ak;refine⟨.mk 0 (A.num::I.list) [] (Tm.mk 0 0 (Ty.mk 0 []) []) [],c,false,?_,gY _,d,λ_=>?_⟩
  ·show gB (fI [A.num] I.list) _=_;rw[fg (by rw[L];simp;omega),ec];rfl
  rw[mf aak aak];refine⟨?_,?_,?_⟩
  ·show A.num::I.list=(rj (a.val ρ)::JD (b.val ρ)).map _;rw[H,L];rfl
  ·show(rj (a.val ρ)::JD (b.val ρ)).length<=_;rw[mz];omega
  ·intro x hx;rcases lQ.1 hx with rfl|hx
   ·show rj (a.val ρ)<=_;omega
   ·have:=k5 x hx;omega
 |@fold g t b s m ht U hs Y F G Z=>
  intro ρ env B u n he j o K hu hn;obtain⟨n,rfl⟩:∃m,n=m+1:=⟨n-1,VW⟩;rw[Tm.dP] at o;simp only[ei] at o;have O:(b.val ρ).s=t.S:=nd U ρ he
  have ad:(s.val ρ).s=.f .n (.f .l (.f t.S t.S)):=by have:=nd hs ρ he;rwa [xN,xN,xN,wH,z8] at this
  have ae:(m.val ρ).s=.l:=by rw[<-z8];exact nd Y ρ he
  obtain⟨φ,Q⟩:=H_ ad;refine sG (ρ:=ρ) hu N aak aak aa2 (λhm=>?_) λrs c C d D w=>?_
  ·intro a hx c C d;simp only[lQ,uU,tO] at hx;rcases hx with rfl|rfl|rfl
   ·exact F ρ env _ c n he (j.mono VW) VW VW d VW
   ·exact G ρ env _ c n he (j.mono VW) VW VW d VW
   ·exact Z ρ env _ c n he (j.mono VW) VW VW d VW
  obtain⟨I,rf,W,rfl⟩:=ln3 D;have H:=(w 0 b I rfl rfl).at O;have k2:=w 1 s rf rfl rfl;obtain⟨L,X⟩:Rls (JD (m.val ρ)) W _:=(w 2 m W rfl rfl).at ae;rw[Q] at k2
  have af:∀k,(mM (b.val ρ) (s.val ρ) k).s=t.S:=λk=>by
   cases k with
   |nil=>exact O|cons h k=>rw[Q];rfl
  obtain⟨r,J,out,c1,c2,c3,c4⟩:=Uk (n:=n) (b:=I) (s:=rf) (nn:=W) (σ:=t.S) (φ:=φ) k2 L X (λk=>(mM (b.val ρ) (s.val ρ) k).at t.S) (λh k=>by
   show(ot (ot (ot (s.val ρ) ⟨.n,h⟩) ⟨.l,k⟩) (mM (b.val ρ) (s.val ρ) k)).at t.S=_;rw[Q];show(Vw.mk t.S (φ ((Vw.mk DI.n h).at .n) ((Vw.mk DI.l k).at .l) ((mM (b.val ρ) ⟨.f .n (.f .l (.f t.S t.S)),φ⟩ k).at t.S))).at t.S=_;rw[Vw.zK]
   exact congrFun (congr (congrArg φ (Vw.zK .n h)) (Vw.zK .l k)) _) FU (JD (m.val ρ)).length I c _ (gY _) (by rw[adE];exact H) (gY _) VW d VW (by rw[fB];omega)
  refine⟨r,J,out,?_,c2,c3,λV=>?_⟩
  ·have e:fA .i64 (eA W.list) 1=((JD (m.val ρ)).length:Int)-1:=by
    rw[fM,L,Dh,fT VW VW]
   rw[<-e] at c1;exact c1
  ·rw[mf aak aak];exact RV.abI ((c4 V).mono _ VW) (af _)
 |@pair g a b s t ao P U F G=>
  intro ρ env B u n he j o K hu hn;obtain⟨n,rfl⟩:∃m,n=m+1:=⟨n-1,VW⟩;rw[Tm.dP] at o;simp only[ei] at o;refine sG hu N aak aak aa2 (λhm=>qw (λc C d=>F ρ env _ c n he (j.mono VW) VW VW d VW) (λc C d=>G ρ env _ c n he (j.mono VW) VW VW d VW)) λrs c C d D w=>?_;obtain⟨A,I,rfl⟩:=ln2 D;refine⟨_,c,false,rfl,gY _,d,λ_=>?_⟩;rw[mf aak aak];exact⟨A,I,rfl,(w 0 a A rfl rfl).mono VW,(w 1 b I rfl rfl).mono VW⟩
 |@fst g a s t P ih=>
  intro ρ env B u n he j o K hu hn;obtain⟨n,rfl⟩:∃m,n=m+1:=⟨n-1,VW⟩;rw[Tm.dP] at o;simp only[ei] at o;obtain⟨x,y,ep⟩:=HK (v:=a.val ρ) (by rw[<-Wv];exact nd P ρ he);refine sG hu N aak aak aa2 (λhm=>Jq (λc C d=>ih ρ env _ c n he (j.mono VW) VW VW d VW)) λrs c C d D w=>?_;obtain⟨A,rfl⟩:=ln1 D;have k:=w 0 a A rfl rfl;rw[ep] at k;obtain⟨p,q,H,k2,L⟩:=k;refine⟨p,c,false,?_,gY _,d,λ_=>?_⟩
  ·show dH (dW A.pair 0) _=_;rw[H];rfl
  ·rw[mf aak aak];show RV M (aeZ (a.val ρ)) p _;rw[ep];exact k2.mono _ VW
 |@snd g a s t P ih=>
  intro ρ env B u n he j o K hu hn;obtain⟨n,rfl⟩:∃m,n=m+1:=⟨n-1,VW⟩;rw[Tm.dP] at o;simp only[ei] at o;obtain⟨x,y,ep⟩:=HK (v:=a.val ρ) (by rw[<-Wv];exact nd P ρ he);refine sG hu N aak aak aa2 (λhm=>Jq (λc C d=>ih ρ env _ c n he (j.mono VW) VW VW d VW)) λrs c C d D w=>?_;obtain⟨A,rfl⟩:=ln1 D;have k:=w 0 a A rfl rfl;rw[ep] at k;obtain⟨p,q,H,k2,L⟩:=k;refine⟨q,c,false,?_,gY _,d,λ_=>?_⟩
  ·show dH (dW A.pair 1) _=_;rw[H];rfl
  ·rw[mf aak aak];show RV M (aft (a.val ρ)) q _;rw[ep];exact L.mono _ VW
 |@unit g=>
  intro ρ env B u n he j o K hu hn;obtain⟨n,rfl⟩:∃m,n=m+1:=⟨n-1,VW⟩;refine sG (ρ:=ρ) hu N aak aak aa2 (λ_=>Ff) λrs c C d D w=>⟨_,c,false,rfl,gY _,d,λ_=>?_⟩;rw[mf aak aak];exact trivial
def tmT{g:List Ty}(hg:g.length<=10)(h:∀s∈g,s=.nat\/s=.fS)(k:Nat)(n:k<=2){d:eF}(i:d.wf):∃x b,ie FU d g .nat (k:Int)=some (x,b)/\b.wf/\ef g x .nat/\x.ak7<=200:=by
 have a:CN 1 g:=⟨λs hs=>by
  rcases h s hs with rfl|rfl
  ·exact⟨Ty.gR,aak⟩
  ·exact⟨Ty.mv,aak⟩⟩
 have e:(k:Int).toNat=k:=aa2
 obtain⟨x,b,j,l,f⟩:=Qo 1 VW VW FU (k:Int) g .nat d (by rw[fB,e,Ty.ig];omega) VW (by rw[Ty.ig];omega) (by rw[e,Ty.ig];omega) a Ty.gR (by rw[Ty.ig];omega) i;refine⟨x,b,j,l,f.ty,?_⟩;have:=f.ak7;rw[e,Ty.ig] at this
 have c:k=0\/k=1\/k=2:=VW
 rcases c with rfl|rfl|rfl<;>simp[tb] at this<;>omega
def XP:Tm:=w_ .nat (w_ .nat (ap2 ME (ap2 Nl (kB 1) (kB 0)) (ap2 Nl (kB 0) (kB 1))))
def Eh:sd=some XP:=by kernel_rfl
def TV(g:List Ty):ef g XP (.fn .nat (.fn .nat .nat)):=
 .lam BX (.lam tz (.app (.app (Gl _) (.app (.app (Jy _) sQ) kG)) (.app (.app (Jy _) kG) sQ)))
def Ig:(Ty.fn .nat (.fn .fS (.fn .nat .nat))).err=0:=aak
def L6:(Ty.fn .fS (.fn .nat .nat)).err=0:=aak
def HL{x:Tm}(h:ef [.nat,.fS,.nat] x .nat):ef [] (.mk 2 0 .nat [.mk 2 0 .fS [.mk 2 0 .nat [x]]]) (.fn .nat (.fn .fS (.fn .nat .nat))):=.lam Ig (.lam (g:=[.nat]) L6 (.lam (g:=[.nat,.fS]) tz h))
def Qi{x:Tm}(h:x.ak7<=300):(Tm.mk 2 0 .nat [.mk 2 0 .fS [.mk 2 0 .nat [x]]]).ak7<=400:=by simp only[Tm.dP,ei];omega
def Ml{d:eF}(f:d.wf):∃x b,pU d=some (x,b)/\b.wf/\ef [] x (.fn .nat (.fn .fS (.fn .nat .nat)))/\x.ak7<=400:=by
 have w0:ef [.nat,.fS,.nat] (kB 0) .nat:=kG (g:=[.nat,.fS]);have c:ef [.nat,.fS,.nat] (kB 2) .nat:=Cq (g:=[]);have q0:fl 0=some (kB 0):=rfl;have h:fl 2=some (kB 2):=rfl;have i:∀s x,mD s x=some (.mk 2 0 s [x]):=λ_ _=>rfl;have j:∀x,gP 5 [x]=some (.mk 5 0 .z [x]):=λ_=>rfl;obtain⟨k,d1,l,n,o,a⟩:=qV d f 4 VW VW;unfold pU;rw[show Et=some .nat from rfl,dI,q0,dI,j,dI,eg,l,dQ];simp only[fZ,q0,h,dI,i,Ty.gE,Tm.gE,show kU=some .fS from rfl]
 split
 ·rw[Ct,dI,HU aak aak aak,dI];exact⟨_,_,rfl,a,HL (.app (.app (Gl _) w0) c),aak⟩
 split
 ·rw[Eh,dI,HU aak aak aak,dI];exact⟨_,_,rfl,a,HL (.app (.app (TV _) w0) c),aak⟩
 split
 ·obtain⟨x,b,a1,a2,a3,a4⟩:=tmT (g:=[.nat,.fS,.nat]) aa2 aa2 1 VW a;rw[show ie FU d1 [.nat,.fS,.nat] .nat 1=_ from a1,dQ];exact⟨_,_,rfl,a2,HL a3,Qi VW⟩
 ·exact⟨_,_,rfl,a,HL (.succ w0),aak⟩
def Xs:uJ=some true:=by decide+kernel
def ahL{e:Int}(h:pI e):kr e=some true:=by rcases h with rfl|rfl|rfl<;>decide
def Z1:kr 0=some false:=aak
end Go.fD
set_option maxRecDepth 20000
namespace Go.fD
open Go
def WC{g:List Ty}{f:Fm}(h:Hg g f)(hg:g.length<=16):oF f 0 1=some (f.up 0 1,0):=
 CO (by have:=h.wt;omega) h.err VW VW VW VW (h.ak' hg VW)
def OS{g:List Ty}{ρ:Type}(hg:g.length<=16):∀(l p:List Fm) (n:Nat),(∀f∈l,Hg g f)->(p++l).length<=1000000->l.length<n->js (ρ:=ρ) (xm λ(v117:Int) (a:List Fm)=>
   if(o7 v117 (eA (p++l))) then(
   dH (dW (p++l) v117) λc=>
   dU (oF c 0 1) λb d=>
   gB (fI a [b])<|some (.next ((eS .i64 v117 1),(fR a [b]))))
   else(some (.yd (v117,a)))) n ((p.length:Int),p.map (Fm.up 0 1))=some (.inl (((p++l).length:Int),(p++l).map (Fm.up 0 1)))
 |[],p,n,h,i,hn=>by
  obtain⟨n,rfl⟩:∃m,n=m+1:=⟨n-1,VW⟩;rw[hI,Ac];simp only[xm];rw[dK (by rw[j3,fM];omega)];rfl
 |x::l,p,n,h,i,hn=>by
  obtain⟨n,rfl⟩:∃m,n=m+1:=⟨n-1,VW⟩;simp only[mz] at hn;simp only[ni,mz] at i;have ih:=OS (ρ:=ρ) hg l (p++[x]) n (λf j=>h f (by simp[j])) acx VW;rw[show p++[x]++l=p++x::l by simp] at ih;rw[hI];simp only[xm] at ih|-;rw[dR (by rw[j3,fM];simp;omega),gX,show(p++x::l)[p.length]?=some x by simp,dI,WC (h x aa2) hg,dQ,fg acx,ec,dI,fh,ij,fX VW VW];rw[show((p.length:Int)+1,p.map (Fm.up 0 1)++[x.up 0 1])=(((p++[x]).length:Int),(p++[x]).map (Fm.up 0 1)) by simp];exact ih
def uA{L:List Fm}{g:List Ty}{hs:List Fm}(a:uR L ⟨g,hs⟩)(s:Ty)(t:Tm)(vars c:List Tm)(hw:vars.length<=900000000):hY ⟨⟨g,hs⟩,vars,c⟩ s t=some ⟨⟨g++[s],hs.map (Fm.up 0 1)⟩,vars++[t],c⟩:=by
 have b:g.length<=16:=a.nv;have d:hs.length<=16:=a.nh;have loop:=OS (ρ:=er) b hs [] FU a.ala acx (by rw[fB];omega);rw[show(([]:List Fm).length:Int)=0 from rfl,show([]:List Fm).map (Fm.up 0 1)=[] from rfl,nT] at loop;unfold hY ov;simp only[];rw[fg acx,ec,fg acx,ec,dI,fg acx,ec,fg acx,ec,eg,loop,dI,eB];simp only[xm,ij,nT]
end Go.fD
namespace Go.fD
open Go
mutual
def Tm.sb(σ:List Tm):Tm->Tm
 |.mk k i s l=>if k=1 then σ.getD (σ.length-1-i.toNat) Tm.z else .mk k 0 s (Tm.sbL (if k=2 then σ.map (Tm.up 0 1)++[kB 0] else σ) l)
def Tm.sbL(σ:List Tm):List Tm->List Tm
 |[]=>[]|t::l=>Tm.sb σ t::Tm.sbL σ l
end
def Tm.aem(σ l:List Tm):Tm.sbL σ l=l.map (Tm.sb σ):=by
 induction l with
 |nil=>rfl|cons a l ih=>rw[Tm.sbL,ih];rfl
def Tm.IP(σ:List Tm)(k i:Int)(s:Ty)(l:List Tm):(Tm.mk k i s l).sb σ=if k=1 then σ.getD (σ.length-1-i.toNat) Tm.z else .mk k 0 s (l.map (Tm.sb (if k=2 then σ.map (Tm.up 0 1)++[kB 0] else σ))):=by rw[Tm.sb,Tm.aem]
def FI(σ:List Tm)(i:Nat):(Tm.mk 1 (i:Int) .z []).sb σ=σ.getD (σ.length-1-i) Tm.z:=by rw[Tm.IP,dR rfl,DS]
def P_(σ:List Tm)(s:Ty)(b:Tm):(Tm.mk 2 0 s [b]).sb σ=.mk 2 0 s [b.sb (σ.map (Tm.up 0 1)++[kB 0])]:=by rw[Tm.IP,dK aak,dR rfl];rfl
theorem QB(σ:List Tm){k:Int}(s:Ty)(a:k≠1)(b:k≠2):(Tm.mk k 0 s []).sb σ=.mk k 0 s []:=by rw[Tm.IP,dK a,dK b];rfl
def QP(σ:List Tm){k:Int}(s:Ty)(a:Tm)(b:k≠1)(c:k≠2):(Tm.mk k 0 s [a]).sb σ=.mk k 0 s [a.sb σ]:=by rw[Tm.IP,dK b,dK c];rfl
def J5(σ:List Tm){k:Int}(s:Ty)(a b:Tm)(c:k≠1)(d:k≠2):(Tm.mk k 0 s [a,b]).sb σ=.mk k 0 s [a.sb σ,b.sb σ]:=by rw[Tm.IP,dK c,dK d];rfl
def Vc(σ:List Tm){k:Int}(s:Ty)(a b c:Tm)(d:k≠1)(f:k≠2):(Tm.mk k 0 s [a,b,c]).sb σ=.mk k 0 s [a.sb σ,b.sb σ,c.sb σ]:=by rw[Tm.IP,dK d,dK f];rfl
def aja(f b:Int){k:Int}(s:Ty)(a:k≠1):(Tm.mk k 0 s []).up f b=.mk k 0 s []:=by rw[Tm.fJ,dK (λh=>a h.1)];rfl
def ajo(f b:Int){k:Int}(s:Ty)(a:Tm)(c:k≠1)(d:k≠2):(Tm.mk k 0 s [a]).up f b=.mk k 0 s [a.up f b]:=by
 rw[Tm.fJ,dK (λh=>c h.1),show fE k=0 from dK d,uQ];rfl
def aiQ(f b:Int){k:Int}(s:Ty)(x y:Tm)(a:k≠1)(c:k≠2):(Tm.mk k 0 s [x,y]).up f b=.mk k 0 s [x.up f b,y.up f b]:=by
 rw[Tm.fJ,dK (λh=>a h.1),show fE k=0 from dK c,uQ];rfl
def ajR(f b:Int){k:Int}(s:Ty)(x y z:Tm)(a:k≠1)(c:k≠2):(Tm.mk k 0 s [x,y,z]).up f b=.mk k 0 s [x.up f b,y.up f b,z.up f b]:=by
 rw[Tm.fJ,dK (λh=>a h.1),show fE k=0 from dK c,uQ];rfl
def agE(f b:Int)(s:Ty)(x:Tm):(Tm.mk 2 0 s [x]).up f b=.mk 2 0 s [x.up (f+1) b]:=by
 rw[Tm.fJ,dK (λh=>absurd h.1 aak)];rfl
def V9(f b:Int)(i:Nat):(kB i).up f b=if f<=(i:Int)then .mk 1 (i+b) .z [] else kB i:=by
 unfold kB;rw[Tm.fJ]
 by_cases h:f<=(i:Int)
 ·rw[dR ⟨rfl,h⟩,dR h];rfl
 ·rw[dK (λx=>h x.2),dK h];rfl
def getD_map{α β:Type}(f:α->β)(l:List α)(i:Nat)(d:α)(e:β)(h:i<l.length):(l.map f).getD i e=f (l.getD i d):=by
 rw[Aq,Aq,yZ,o9 h];rfl
def L3{α:Type}(l m:List α)(i:Nat)(d:α)(h:i<l.length):(l++m).getD i d=l.getD i d:=by
 rw[Aq,Aq,vE h]
theorem FH{α:Type}(l:List α)(a:α)(i:Nat)(d:α)(h:i=l.length):(l++[a]).getD i d=a:=by
 subst h;rw[Aq,tE (gY _)];simp
inductive Lk:List Int->Int->Nat->Prop
 |here {R i}:Lk (i::R) i 0|next {R i v j}:v≠i->Lk R i j->Lk (v::R) i (j+1)
theorem Lk.put{A:List Int}{i v:Int}(a:v≠i):∀{B:List Int} {j:Nat},Lk (B++A) i j->Lk (B++v::A) i (if B.length<=j then j+1 else j)
 |[],j,h=>by rw[dR (show([]:List Int).length<=j from Pd _)];exact .next a h|b::B,_,.here=>by rw[dK aa2];exact .here|b::B,_,.next (j:=j) c h=>by
  have:=Lk.put a (B:=B) h
  by_cases d:B.length<=j
  ·rw[dR d] at this;rw[dR acx];exact .next c this
  ·rw[dK d] at this;rw[dK acx];exact .next c this
inductive z':List Int->Tm->Tm->Prop
 |var {R i j}:Lk R i j->z' R (.mk 1 i .z []) (kB j)|lam {R v s b d}:z' (v::R) b d->z' R (.mk 2 v s [b]) (.mk 2 0 s [d])|n0 {R k s}:k≠1->k≠2->z' R (.mk k 0 s []) (.mk k 0 s [])|n1 {R k s a a'}:k≠1->k≠2->z' R a a'->z' R (.mk k 0 s [a]) (.mk k 0 s [a'])|n2 {R k s a a' b b'}:k≠1->k≠2->z' R a a'->z' R b b'->z' R (.mk k 0 s [a,b]) (.mk k 0 s [a',b'])|n3 {R k s a a' b b' c c'}:k≠1->k≠2->z' R a a'->z' R b b'->z' R c c'->z' R (.mk k 0 s [a,b,c]) (.mk k 0 s [a',b',c'])
def z'.zero{R:List Int}:z' R Tm.z Tm.z:=.n0 aak aak
def z'.ak7{R:List Int}{t d:Tm}(h:z' R t d):t.ak7=d.ak7:=by
 induction h with
 |var _=>rw[kB,Tm.dP,Tm.dP]|lam _ ih=>rw[Tm.dP,Tm.dP];simp[ei,ih]|n0=>rfl|n1 _ _ _ i1=>rw[Tm.dP,Tm.dP];simp[ei,i1]|n2 _ _ _ _ i1 i2=>rw[Tm.dP,Tm.dP];simp[ei,i1,i2]|n3 _ _ _ _ _ i1 i2 i3=>rw[Tm.dP,Tm.dP];simp[ei,i1,i2,i3]
theorem z'.put{A:List Int}{v c:Int}(o:c<v){R:List Int}{t d:Tm}(h:z' R t d):∀B:List Int,R=B++A->t.ak' c=true->z' (B++v::A) t (d.up B.length 1):=by
 induction h with
 |@var R i j h=>
  intro B f a;subst f;rw[Tm.fH] at a;simp at a;have:=h.put (A:=A) (v:=v) VW;rw[V9]
  by_cases n:B.length<=j
  ·rw[dR n] at this;rw[dR VW];exact .var this
  ·rw[dK n] at this;rw[dK VW];exact .var this
 |@lam R w s b d _ ih=>
  intro B f a;subst f;rw[Tm.fH] at a;simp at a;rw[agE];have:=ih (w::B) rfl a.2;rw[mz] at this;exact .lam this
 |n0 k l=>intro B f a;rw[aja _ _ _ k];exact .n0 k l|n1 k l _ i1=>
  intro B f a;rw[Tm.fH] at a;simp at a;rw[ajo _ _ _ _ k l];exact .n1 k l (i1 B f a.2)
 |n2 k l _ _ i1 i2=>
  intro B f a;rw[Tm.fH] at a;simp at a;rw[aiQ _ _ _ _ _ k l];exact .n2 k l (i1 B f a.2.1) (i2 B f a.2.2)
 |n3 k l _ _ _ i1 i2 i3=>
  intro B f a;rw[Tm.fH] at a;simp at a;rw[ajR _ _ _ _ _ _ k l];exact .n3 k l (i1 B f a.2.1) (i2 B f a.2.2.1) (i3 B f a.2.2.2)
def z'.up{R:List Int}{t d:Tm}(h:z' R t d){v c:Int}(a:c<v)(b:t.ak' c=true):z' (v::R) t (d.up 0 1):=h.put a [] rfl b
def KG(R:List Int)(c:Int)(e σ:List Tm):Prop:=e.length=σ.length/\∀i,i<e.length->z' R (e.getD i Tm.z) (σ.getD i Tm.z)/\(e.getD i Tm.z).ak' c=true
def KG.up{R:List Int}{c:Int}{e σ:List Tm}(h:KG R c e σ){v:Int}(b:c<v):KG (v::R) c e (σ.map (Tm.up 0 1)):=by
 refine⟨by rw[Dh];exact h.1,λi hi=>?_⟩;obtain⟨d,a⟩:=h.2 i hi;rw[getD_map _ _ _ Tm.z _ (by rw[<-h.1];exact hi)];exact⟨d.up b a,a⟩
theorem KG.mono{R:List Int}{c a:Int}{e σ:List Tm}(h:KG R c e σ)(b:c<=a):KG R a e σ:=⟨h.1,λi hi=>⟨(h.2 i hi).1,Tm.ml _ b (h.2 i hi).2⟩⟩
def KG.add{R:List Int}{c:Int}{e σ:List Tm}(h:KG R c e σ){t d:Tm}(a:z' R t d)(b:t.ak' c=true):KG R c (e++[t]) (σ++[d]):=by
 refine⟨by simp[h.1],λi hi=>?_⟩;rw[ni,Rt] at hi;rcases vh i e.length with h'|h'
 ·rw[L3 _ _ _ _ h',L3 _ _ _ _ (by rw[<-h.1];exact h')];exact h.2 i h'
 ·obtain rfl:i=e.length:=VW
  rw[FH _ _ _ _ rfl,FH _ _ _ _ h.1];exact⟨a,b⟩
def KG.nil{R:List Int}{c:Int}:KG R c [] []:=⟨rfl,λi hi=>by simp at hi⟩
end Go.fD
set_option maxRecDepth 20000
namespace Go.fD
open Go
def jS{f:Fm}{m:Nat}(h:f.err=0):se (.inl (f,m))=.inl (f,fin f m):=by rw[HJ h];rfl
theorem ri{x:Fm}{t:Tm}(hn:(Fm.gJ 0 x t).ak7<=4096):kA x t=(Fm.gJ 0 x t,0):=by unfold kA;rw[dK VW]
def tS{g a:List Ty}{r:PR}{F f:Fm}{t:Tm}{m:Nat}(b:r=.inl (f,m))(hn:(Fm.gJ 0 F t).ak7<=4096)(d:Hg g (Fm.gJ 0 F t))(h:Hg a f)(hg:g.length<=1000000)(c:a.length<=1000000)(hm:(Fm.gJ 0 F t).Dz f=0):B1 r F t=.inl (f,m):=by
 subst b;show jC (kA F t).2 (jC (Ai (kA F t).1 f) (.inl (f,m)))=_
 grind[ri,jC,DO]
def uF{L:List Fm}{g:List Ty}{hs:List Fm}(h:uR L ⟨g,hs⟩):g.length<=16:=h.nv
def Dv.inf{L:List Fm}{g:List Ty}{hs:List Fm}{P:Pf}{f:Fm}{m:Nat}(h:Dv L g hs P f m):uR L ⟨g,hs⟩->P.inf L g hs=.inl (f,m):=by
 induction h with
 |@hyp g hs i f N q A r=>
  intro c;rw[Pf.hE,R6,g_ VW,Aq,A,ad3,jS r.err,yA]
 |@mm g hs i f N q A=>
  intro c;have:=(sY.1 q).1;rw[Pf.hE,X0,g_ VW,Aq,q,ad3,jS A.err,yA]
 |Pu _ _ r i1 i2=>intro c;rw[Pf.hE,RB,i1 c,i2 c];exact jS r.err|ZG _ h i1=>intro c;rw[Pf.hE,Qn,i1 c,vg (Fm.eL _ _ _ _)];exact jS h.err|ZH _ h i1=>intro c;rw[Pf.hE,Qm,i1 c,vg (Fm.eL _ _ _ _)];exact jS h.err|@Nn g hs F a y m hF B _ D i1=>
  intro c;have:=hF.ak7;have:=uF c;rw[Pf.hE,Rs,fP (k4 hF.ty c.ctx VW),g_ VW,i1 (c.with hF (by show hs.length+1<=16;omega))];exact jS D.err
 |@OB g hs a b x y f m n _ _ v l hm D i1 i2=>
  intro c;have:=uF c;rw[Pf.hE,PZ,i1 c,vg (Fm.eL _ _ _ _),fo,i2 c,fo];show se (jC (Ai x f) _)=_;rw[DO v l VW VW,fP hm];exact jS D.err
 |@all g hs k k' s a f m j w B _ l i1=>
  intro c;rcases j with⟨rfl,rfl⟩|⟨rfl,rfl,J⟩
  ·rw[Pf.hE,Fv,g_ VW,i1 (c.qv w B)];exact jS l.err
  ·rw[Pf.hE,Mi,g_ VW,i1 (c.qv w B),fo,g_ (by rw[J];decide)];exact jS l.err
 |@Yh g hs k k' t s a x m u j d he _ v hn i1=>
  intro c;have:=uF c;obtain⟨I,C⟩:=iR he;have G:=jE v.ty d hn;rcases j with⟨rfl,rfl,rfl⟩|⟨rfl,rfl,rfl⟩
  ·rw[Pf.hE,WT,nb d c.ctx VW,fP rfl,i1 c,vg (Fm.eL _ _ _ _),fo,g_ (by show¬s.jY s=false;rw[tx];decide)];show se (jC (kA x t).2 (.inl ((kA x t).1,_)))=_;rw[ri hn];exact jS G.err
  ·rw[Pf.hE,Qc,nb d c.ctx VW,fP rfl,i1 c,vg (Fm.eL _ _ _ _),fo,g_ (by show¬s.jY s=false;rw[tx];decide)];show se (jC (kA x t).2 (.inl ((kA x t).1,_)))=_;rw[ri hn];exact jS G.err
 |@ex g hs k k' t s a x f m u j hF d he v _ l hn hm i1=>
  intro c;have:=uF c;have:=hF.ak7;obtain⟨I,C⟩:=iR he;have G:=jE v.ty d hn;rcases j with⟨rfl,rfl,rfl⟩|⟨rfl,rfl,rfl⟩
  ·rw[Pf.hE,MK,fP (k4 hF.ty c.ctx VW),g_ aa2,nb d c.ctx VW,fP rfl,g_ (by show¬s.jY s=false;rw[tx];decide)];show se (pbind (B1 (a.inf L g hs) x t) _)=_;rw[tS (i1 c) hn G l VW VW hm];exact jS hF.err
  ·rw[Pf.hE,Qw,fP (k4 hF.ty c.ctx VW),g_ aa2,nb d c.ctx VW,fP rfl,g_ (by show¬s.jY s=false;rw[tx];decide)];show se (pbind (B1 (a.inf L g hs) x t) _)=_;rw[tS (i1 c) hn G l VW VW hm];exact jS hF.err
 |@Yx g hs k k' s a b x f m n j _ w B M v _ l hw G i1 i2=>
  intro c;have o:uR L ⟨g++[s],hs.map (Fm.up 0 1)++[x]⟩:=(c.qv w B).with v (by show(hs.map (Fm.up 0 1)).length+1<=16;simp;omega);rcases j with⟨rfl,rfl⟩|⟨rfl,rfl,J⟩
  ·rw[Pf.hE,Es,i1 c,vg (Fm.eL _ _ _ _),fo,g_ VW];show se (pbind (b.inf L (g++[s]) (hs.map (Fm.up 0 1)++[x])) _)=_;rw[i2 o,fo,fP hw];exact jS G.err
  ·rw[Pf.hE,JR,i1 c,vg (Fm.eL _ _ _ _),fo,g_ VW];show se (pbind (b.inf L (g++[s]) (hs.map (Fm.up 0 1)++[x])) _)=_;rw[i2 o,fo,fP hw,g_ (by rw[J];decide)];exact jS G.err
 |@ind g hs t F a b x y m n hF d he _ v q A B M _ D r K H i1 i2=>
  intro c;have:=uF c;have:=hF.ak7;obtain⟨I,C⟩:=iR he;have j:=yk d c.ctx VW;rw[show Ty.nat.ak5=1 from rfl] at j;have o:uR L ⟨g++[.nat],hs.map (Fm.up 0 1)++[F]⟩:=(c.qv Ty.gR B).with hF (by show(hs.map (Fm.up 0 1)).length+1<=16;simp;omega)
  rw[Pf.hE,Mn,fP (k4 hF.ty c.ctx.nat (by simp only[ni,mz,B4];omega)),fP j,tS (i1 c) q (jE hF.ty .zero q) v VW VW A,fo,g_ VW,tS (i2 o) r (jE hF.VP.ty (.succ kG) r) D acx acx K,fo,ri H]
  exact jS (jE hF.ty d H).err
 |@lists g hs t F a b x y m n hF d he _ v q A B M _ D r K H i1 i2=>
  intro c;have:=uF c;have:=hF.ak7;obtain⟨I,C⟩:=iR he;have j:=yk d c.ctx VW;rw[show Ty.fS.ak5=2 from rfl] at j;have o:uR L ⟨g++[.nat]++[.fS],hs.map (Fm.up 0 2)++[F.up 1 1]⟩:=(c.IM B).with hF.upl (by show(hs.map (Fm.up 0 2)).length+1<=16;simp;omega)
  rw[Pf.hE,HM,fP (k4 hF.ty c.ctx.fS (by simp only[ni,mz,B4];omega)),fP j,tS (i1 c) q (jE hF.ty .nil q) v VW VW A,fo,g_ VW,tS (i2 o) r (jE hF.Um.ty (.cons sQ kG) r) D acx acx K,fo,ri H]
  exact jS (jE hF.ty d H).err
 |@refl g hs t d he l=>
  intro c;have:=uF c;obtain⟨I,C⟩:=iR he;have j:=yk d c.ctx VW;rw[show Ty.nat.ak5=1 from rfl] at j;rw[Pf.hE,MB,fP j,jS l.err,yA]
 |@subst g hs F a b t u f m n hF _ d hu het O _ l q A r i1 i2=>
  intro c;have:=uF c;have:=hF.ak7;rw[Pf.hE,HS,fP (k4 hF.ty c.ctx.nat (by simp only[ni,mz,B4];omega)),i1 c,vg (Fm.eL _ _ _ _),fo];show se (pbind (B1 (b.inf L g hs) F t) λ_ n=>jC (kA F u).2 (.inl ((kA F u).1,n)))=_;rw[tS (i2 c) q (jE hF.ty d q) l VW VW A,fo,ri r];exact jS (jE hF.ty hu r).err
 |@choice g hs a s u y m _ w hu D he hn l i1=>
  intro c;rw[Pf.hE,Jg,i1 c,vg (Fm.eL _ _ _ _),fo,g_ (by simp[Fm.eH,Fm.eL])];show se (vP ((Ty.fn s u).err≠0) 4 (vP ((kA (y.up 2 1) (gC v1 v0)).2≠0) 4 (.inl (.mk 5 (Ty.fn s u) [] [.mk 4 s [] [(kA (y.up 2 1) (gC v1 v0)).1]],m))))=_;rw[g_ (by rw[he];decide),ri hn,g_ (λh=>h rfl)];exact jS l.err
mutual
def Fm.uv:Fm->Ty
 |.mk k s _ l=>
  if k=2 then(if Fm.zD l then(if Fm.lT l then .mk 3 [Fm.xx l,Fm.oR l] else Fm.xx l)else Fm.oR l)
  else if k=3 then(if Fm.zD l then .mk 4 [Fm.xx l,Fm.oR l] else Fm.oR l)
  else if k=4 then .mk 4 [s,Fm.oR l]
  else if k=5 then(if Fm.lT l then .mk 3 [s,Fm.oR l] else s)
  else Fm.oR l
def Fm.xx:List Fm->Ty
 |[]=>.mk 5 []|f::_=>f.uv
def Fm.oR:List Fm->Ty
 |[]=>.mk 5 []|[f]=>f.uv|_::f::l=>Fm.oR (f::l)
def Fm.zD:List Fm->Bool
 |[]=>false|f::_=>f.has
end
def aaN(x y:Fm)(s:Ty)(ts:List Tm):(Fm.mk 2 s ts [x,y]).uv=if x.has then(if y.has then .pr x.uv y.uv else x.uv)else y.uv:=by
 rw[Fm.uv];simp only[Fm.zD,Fm.lT,Fm.xx,Fm.oR];rfl
def aas(x y:Fm)(s:Ty)(ts:List Tm):(Fm.mk 3 s ts [x,y]).uv=if x.has then .fn x.uv y.uv else y.uv:=by
 rw[Fm.uv];simp only[Fm.zD,Fm.lT,Fm.xx,Fm.oR];rfl
def aaT(x:Fm)(s:Ty)(ts:List Tm):(Fm.mk 4 s ts [x]).uv=.fn s x.uv:=by
 rw[Fm.uv];rfl
def WG(x:Fm)(s:Ty)(ts:List Tm):(Fm.mk 5 s ts [x]).uv=if x.has then .pr s x.uv else s:=by
 rw[Fm.uv];simp only[Fm.lT,Fm.oR];rfl
def ah9{k:Int}(a:k=6\/k=7)(x:Fm)(s:Ty)(ts:List Tm):(Fm.mk k s ts [x]).uv=x.uv:=by grind[Fm.uv,Fm.oR]
def HH(x y:Fm)(s:Ty)(ts:List Tm):(Fm.mk 2 s ts [x,y]).has=(x.has||y.has):=by rw[Fm.zp];rfl
def L'(x y:Fm)(s:Ty)(ts:List Tm):(Fm.mk 3 s ts [x,y]).has=y.has:=by rw[Fm.zp];rfl
def Rz(x:Fm)(s:Ty)(ts:List Tm):(Fm.mk 5 s ts [x]).has=true:=by rw[Fm.y'];rfl
def AG{k:Int}(a:k=4\/k=6\/k=7)(x:Fm)(s:Ty)(ts:List Tm):(Fm.mk k s ts [x]).has=x.has:=by grind[Fm.y']
def csF(f:Fm):Nat:=if f.has then f.uv.ak7 else 0
def DJ{k:Int}{a b:Ty}(h:(Ty.mk k [a,b]).err=0):vk k a b=(.mk k [a,b],true,0):=by grind[vk]
def HR{f:Fm}(a:f.ok=true)(h:f.has=false):f.ct=(f.ct.1,false,0):=by
 have c:=Gq f a;have b:=c.n h;have d:=c.h b
 grind
theorem adg(f:Fm)(t:f.ok=true):f.has=true->f.uv.ak7<=64->f.ct=(f.uv,true,0)/\f.uv.err=0:=by
 refine Fm.qS (p:=λf=>f.has=true->f.uv.ak7<=64->f.ct=(f.uv,true,0)/\f.uv.err=0) ?_ ?_ ?_ f t
 ·intro a b _ _ h;rw[Fm.has_eq] at h;cases h
 ·intro k a b q n u j o h hn;rw[Fm.Rf,dK VW];rcases q with rfl|rfl
  ·rw[HH] at h;rw[aaN] at hn|-;cases c:a.has<;>cases i:b.has<;>simp only[c,i,if_true,oz,iU,Bool.or_self] at h hn|-
   ·obtain⟨e,he⟩:=o i hn;refine⟨?_,he⟩;unfold ql Ls;rw[e,HR n c];simp
   ·obtain⟨e,he⟩:=j c hn;refine⟨?_,he⟩;unfold ql Ls;rw[e,HR u i];simp
   ·rw[Ty.oH] at hn;obtain⟨e,he⟩:=j c VW;obtain⟨r,l⟩:=o i VW;have d:=Ty.Js he l VW;refine⟨?_,d⟩;unfold ql Ls;rw[e,r];simp only[];simp;exact DJ d
  ·rw[L'] at h;rw[aas] at hn|-;cases c:a.has<;>simp only[c,if_true,oz,iU] at hn|-
   ·obtain⟨e,he⟩:=o h hn;refine⟨?_,he⟩;unfold ql OP;rw[e,HR n c];simp
   ·rw[Ty.iz] at hn;obtain⟨e,he⟩:=j c VW;obtain⟨r,l⟩:=o h VW;have d:=Ty.wZ he l VW;refine⟨?_,d⟩;unfold ql OP;rw[e,r];simp only[];simp;exact DJ d
 ·intro k s a q hs n j h hn;rw[Fm.Qs,dK VW];rcases q with rfl|rfl|rfl|rfl
  ·rw[AG (.inl rfl)] at h;rw[aaT] at hn|-;rw[Ty.iz] at hn;obtain⟨e,he⟩:=j h VW;have d:=Ty.wZ hs he VW;refine⟨?_,d⟩;unfold ql;rw[e];simp only[];simp;exact DJ d
  ·rw[WG] at hn|-;cases c:a.has<;>simp only[c,if_true,oz,iU] at hn|-
   ·refine⟨?_,hs⟩;unfold ql;rw[HR n c];simp
   ·rw[Ty.oH] at hn;obtain⟨e,he⟩:=j c VW;have d:=Ty.Js hs he VW;refine⟨?_,d⟩;unfold ql;rw[e];simp only[];simp;exact DJ d
  all_goals
   rw[AG VW] at h;rw[ah9 VW] at hn|-;obtain⟨e,he⟩:=j h hn;refine⟨?_,he⟩;unfold ql;rw[e];simp
def aa8{f:Fm}(a:f.err=0)(b:f.has=true)(hn:f.uv.ak7<=64):f.J0=(f.uv,0):=by grind[adg,Fm.ia,Fm.J0]
def EF(r:PR):Fm:=match r with|.inl p=>p.1|.inr _=>iH
@[simp] theorem vy(f:Fm)(m:Nat):EF (.inl (f,m))=f:=rfl
def H0(r:Option Tm):Option Tm:=r.bind λt=>if t.ak7<=4096 then some t else none
def U'{r:Option Tm}{d:Tm}(h:H0 r=some d):r=some d/\d.ak7<=4096:=by
 unfold H0 at h;cases r with
 |none=>cases h
 |some t=>grind
def FA{d:Tm}(h:d.ak7<=4096):H0 (some d)=some d:=by grind[H0]
def KX(f:Fm)(k:Ty->Option Tm):Option Tm:=if f.J0.2=0 then k f.J0.1 else none
noncomputable def IH (s:Ty):Tm:=(k6 FU s).getD Tm.z
def mL(σ:List Tm):List Tm:=σ.map (Tm.up 0 1)
noncomputable def exR (Ts:List Tm) (k i:Int) (s:Ty) (ts:List Tm) (fs:List Fm) (inf:Nat->List Ty->List Fm->PR) (sub:Nat->List Ty->List Fm->List Tm->List Tm->Option Tm) (g:List Ty) (hs:List Fm) (σ τ:List Tm):Option Tm:=
 let t:=(ts.getD 0 Tm.z).sb σ
 let F:=fs.getD 0 iH
 let f:=EF (inf 0 g hs)
 let a:=f.ak6.getD 0 iH
 if k=1 then some (τ.getD (τ.length-1-i.toNat) Tm.z)
 else if k=2 then some (Ts.getD i.toNat Tm.z)
 else if k=3 then(if f.has then(sub 0 g hs σ τ).bind λx=>if(EF (inf 1 g hs)).has then(sub 1 g hs σ τ).bind λy=>some (.mk 10 0 .z [x,y])else some x else sub 1 g hs σ τ)
 else if k=4 then(sub 0 g hs σ τ).bind λx=>some (if a.has=true/\(f.ak6.getD 1 iH).has then .mk 11 0 .z [x] else x)
 else if k=5 then(sub 0 g hs σ τ).bind λx=>some (if a.has=true/\(f.ak6.getD 1 iH).has then .mk 12 0 .z [x] else x)
 else if k=6 then(if F.has then KX F λu=>(sub 0 g (hs++[F]) (mL σ) (mL τ++[kB 0])).bind λx=>some (.mk 2 0 u [x])else sub 0 g (hs++[F]) σ (τ++[Tm.z]))
 else if k=7 then(sub 0 g hs σ τ).bind λx=>if a.has then(sub 1 g hs σ τ).bind λy=>some (gC x y)else some x
 else if k=8 then(sub 0 (g++[s]) (hs.map (Fm.up 0 1)) (mL σ++[kB 0]) (mL τ)).bind λx=>some (.mk 2 0 s [x])
 else if k=9 then(sub 0 g hs σ τ).bind λx=>some (gC x t)
 else if k=10 then(if(F.ak6.getD 0 iH).has then(sub 0 g hs σ τ).bind λx=>some (.mk 10 0 .z [t,x])else some t)
 else if k=11 then(sub 0 g hs σ τ).bind λx=>
  if a.has then KX f λu=>(sub 1 (g++[f.dM]) (hs.map (Fm.up 0 1)++[a]) (mL σ++[.mk 11 0 .z [kB 0]]) (mL τ++[.mk 12 0 .z [kB 0]])).bind λy=>some (gC (.mk 2 0 u [y]) x)
  else(sub 1 (g++[f.dM]) (hs.map (Fm.up 0 1)++[a]) (mL σ++[kB 0]) (mL τ++[Tm.z])).bind λy=>some (gC (.mk 2 0 f.dM [y]) x)
 else if k=12 then sub 0 (g++[s]) (hs.map (Fm.up 0 1)) (σ++[IH s]) τ
 else if k=15 then(if f.has then(sub 0 g hs σ τ).bind λx=>KX f λu=>(sub 1 (g++[f.dM]) (hs.map (Fm.up 0 1)++[a]) (mL σ++[IH f.dM]) (mL τ++[kB 0])).bind λy=>some (gC (.mk 2 0 u [y]) x)
  else sub 1 (g++[f.dM]) (hs.map (Fm.up 0 1)++[a]) (σ++[IH f.dM]) (τ++[Tm.z]))
 else if k=16 then KX F λu=>(sub 0 g hs σ τ).bind λx=>(sub 1 (g++[.nat]) (hs.map (Fm.up 0 1)++[F]) (mL (mL σ++[kB 0])) (mL (mL τ)++[kB 0])).bind λy=>some (.mk 6 0 u [x,.mk 2 0 .nat [.mk 2 0 u [y]],t])
 else if k=17 then KX F λu=>(sub 0 g hs σ τ).bind λx=>(sub 1 (g++[.nat]++[.fS]) (hs.map (Fm.up 0 2)++[F.up 1 1]) (mL (mL (mL σ++[kB 0])++[kB 0])) (mL (mL (mL τ))++[kB 0])).bind λy=>some (.mk 9 0 u [x,.mk 2 0 .nat [.mk 2 0 .fS [.mk 2 0 u [y]]],t])
 else if k=19 then sub 1 g hs σ τ
 else if k=20 then(sub 0 g hs σ τ).bind λx=>if(a.ak6.getD 0 iH).has then KX f λu=>some (gC (.mk 2 0 u [.mk 10 0 .z [.mk 2 0 f.dM [.mk 11 0 .z [gC (kB 1) (kB 0)]],.mk 2 0 f.dM [.mk 12 0 .z [gC (kB 1) (kB 0)]]]]) x)else some x
 else sub 0 g hs σ τ
mutual
noncomputable def Pf.ex (L:List Fm) (Ts:List Tm):Pf->List Ty->List Fm->List Tm->List Tm->Option Tm
 |.mk k i s ts fs l,g,hs,σ,τ=>H0 (exR Ts k i s ts fs (Pf.u7 L l) (Pf.exL L Ts l) g hs σ τ)
noncomputable def Pf.exL (L:List Fm) (Ts:List Tm):List Pf->Nat->List Ty->List Fm->List Tm->List Tm->Option Tm
 |[],_,_,_,_,_=>none|p::_,0,g,hs,σ,τ=>p.ex L Ts g hs σ τ|_::l,n+1,g,hs,σ,τ=>Pf.exL L Ts l n g hs σ τ
end
def Fm.Vv{g:Fm->Fm}{k:Int}{s:Ty}{ts us:List Tm}{l:List Fm}(h:∀x∈l,(g x).uv=x.uv/\(g x).has=x.has):(Fm.mk k s us (l.map g)).uv=(Fm.mk k s ts l).uv:=by
 rw[Fm.uv,Fm.uv]
 have a:Fm.xx (l.map g)=Fm.xx l:=by cases l with|nil=>rfl|cons x l=>simp[Fm.xx,(h x aa2).1]
 have b:Fm.zD (l.map g)=Fm.zD l:=by cases l with|nil=>rfl|cons x l=>simp[Fm.zD,(h x aa2).2]
 have c:Fm.oR (l.map g)=Fm.oR l/\Fm.lT (l.map g)=Fm.lT l:=by
  clear a b
  induction l with
  |nil=>exact⟨rfl,rfl⟩|cons x l ih=>
   cases l with
   |nil=>simp[Fm.oR,Fm.lT,h x aa2]|cons y l=>grind[Fm.oR,Fm.lT]
 rw[a,c.1,c.2,b]
def Fm.afr(t:Fm):∀f b,(t.up f b).uv=t.uv:=by
 induction t using Fm.ind with
 |h k s ts l ih=>intro f b;rw[Fm.fJ];exact Fm.Vv λx a=>⟨ih x a _ _,(x.R7 _ _).2⟩
theorem td.uv{a b:Fm}(h:td a b):a.uv=b.uv:=by
 induction h with
 |eq _ _=>rw[Fm.uv,Fm.uv]|@two k a d b i c f i1 i2=>
  rw[Fm.uv,Fm.uv];simp only[Fm.xx,Fm.oR,Fm.zD,Fm.lT,i1,i2,c.has,f.has];rfl
 |@q k s a d c i1=>
  rw[Fm.uv,Fm.uv];simp only[Fm.xx,Fm.oR,Fm.zD,Fm.lT,i1,c.has];rfl
def TN{g:List Ty}{s:Ty}{f:Fm}(h:Hg (g++[s]) f)(hg:g.length<=1000)(a:(w4 f).2=0):(w4 f).1.has=f.has/\(w4 f).1.uv=f.uv:=by
 have c:=X3 h hg a;have b:=c.has;have d:=c.uv;rw[((w4 f).1.R7 0 1).2] at b;rw[(w4 f).1.afr 0 1] at d
 grind
mutual
def Pf.cs(B:Nat):Pf->Nat->Nat
 |.mk k _ s _ fs l,H=>
  if k=1 then H
  else if k=2 then B
  else if k=3 then 1+Pf.S3 B l 0 H+Pf.S3 B l 1 H
  else if k=6 then 1+csF (fs.getD 0 iH)+Pf.S3 B l 0 (max H (csF (fs.getD 0 iH)))
  else if k=8\/k=12 then 1+s.ak7+Pf.S3 B l 0 H
  else if k=11\/k=15 then 1+Pf.S3 B l 0 H+Pf.S3 B l 1 (max H (Pf.S3 B l 0 H))
  else if k=16\/k=17 then max (5+2*csF (fs.getD 0 iH)) (max (Pf.S3 B l 0 H) (Pf.S3 B l 1 (max H (csF (fs.getD 0 iH)))))
  else if k=20 then 1+3*Pf.S3 B l 0 H
  else max (csF (fs.getD 0 iH)) (max (Pf.S3 B l 0 H) (Pf.S3 B l 1 H))
def Pf.S3(B:Nat):List Pf->Nat->Nat->Nat
 |[],_,_=>0|p::_,0,H=>p.cs B H|_::l,n+1,H=>Pf.S3 B l n H
end
end Go.fD
set_option maxRecDepth 20000
namespace Go.fD
open Go
def TX:∀(n:Nat) (s:Ty),s.ak7<=n->s.err=0->∃x,k6 n s=some x/\(∀g,ef g x s)/\x.ak7<=s.ak7:=by
 intro n
 induction n with
 |zero=>intro s h;have:=s.eM;omega
 |succ n ih=>
  intro s h he;rw[k6]
  have i1:∀x y:Int,x≠y->eo x y=false:=λx y h=>by cases e:eo x y with|false=>rfl|true=>exact absurd ((fZ _ _).1 e) h
  have i2:∀x:Int,eo x x=true:=λx=>(fZ _ _).2 rfl;rcases Ty.pJ he with rfl|rfl|rfl|⟨a,b,rfl,i,d⟩|⟨a,b,rfl,i,d⟩
  ·exact⟨.mk 4 0 .z [],by simp only[show Ty.nat.ak5=1 from rfl,i2,if_true,AW,dI],λg=>.zero,aak⟩
  ·exact⟨.mk 7 0 .z [],by simp only[show Ty.fS.ak5=2 from rfl,i2,i1 2 1 aak,oz,iU,if_true,AW,dI],λg=>.nil,aak⟩
  ·exact⟨.mk 13 0 .z [],by simp only[show Ty.unit.ak5=5 from rfl,i1 5 1 aak,i1 5 2 aak,i1 5 3 aak,i1 5 4 aak,oz,iU,AW,dI],λg=>.unit,aak⟩
  ·rw[Ty.oH] at h;obtain⟨x,k,j,o⟩:=ih a VW i;obtain⟨y,f,c,y3⟩:=ih b VW d;have hn:=(Ty.gT he).2;rw[Ty.oH] at hn;have q:=x.jr (j []).ok;have l:=y.jr (c []).ok;refine⟨.mk 10 0 .z [x,y],?_,λg=>.pair he (j g) (c g),?_⟩
   ·simp only[show(Ty.pr a b).ak5=3 from rfl,i2,i1 3 1 aak,i1 3 2 aak,oz,iU,if_true,show dW (Ty.pr a b).ak6 0=some a from rfl,dI,k,show dW (Ty.pr a b).ak6 1=some b from rfl,f];rw[vV VW VW];rfl
   ·rw[Tm.dP,Ty.oH];simp only[ei];omega
  ·rw[Ty.iz] at h;obtain⟨y,f,c,y3⟩:=ih b VW d;have hn:=(Ty.gT he).2;rw[Ty.iz] at hn;have l:=y.jr (c []).ok;refine⟨.mk 2 0 a [y],?_,λg=>.lam he (c _),?_⟩
   ·simp only[show(Ty.fn a b).ak5=4 from rfl,i2,i1 4 1 aak,i1 4 2 aak,i1 4 3 aak,oz,iU,if_true,show dW (Ty.fn a b).ak6 0=some a from rfl,dI,show dW (Ty.fn a b).ak6 1=some b from rfl,f];rw[CK VW VW];rfl
   ·rw[Tm.dP,Ty.iz];simp only[ei];omega
def Fx{s:Ty}(he:s.err=0):k6 FU s=some (IH s)/\(∀g,ef g (IH s) s)/\(IH s).ak7<=64:=by
 obtain⟨x,a,b,c⟩:=TX FU s (by have:=(Ty.gT he).2;rw[fB];omega) he
 have e:IH s=x:=by unfold IH;rw[a];rfl
 rw[e];exact⟨a,b,AL c (Ty.gT he).2⟩
def aeS{s:Ty}(he:s.err=0){c:Int}(a:0<=c)(b:Int):(IH s).up c b=IH s:=(((Fx he).2.1 []).fix c (by simpa using a)).1 b
section
variable(L:List Fm) (Ts:List Tm) (g:List Ty) (hs:List Fm) (σ τ:List Tm)
def afh(i:Int):(Pf.mk 1 i .z [] [] []).ex L Ts g hs σ τ=H0 (some (τ.getD (τ.length-1-i.toNat) Tm.z)):=rfl
def abp(a b:Pf):(Pf.mk 3 0 .z [] [] [a,b]).ex L Ts g hs σ τ=H0 (if(EF (a.inf L g hs)).has then(a.ex L Ts g hs σ τ).bind λx=>if(EF (b.inf L g hs)).has then(b.ex L Ts g hs σ τ).bind λy=>some (.mk 10 0 .z [x,y])else some x else b.ex L Ts g hs σ τ):=rfl
def Zz(a:Pf):(Pf.mk 4 0 .z [] [] [a]).ex L Ts g hs σ τ=H0 ((a.ex L Ts g hs σ τ).bind λx=>some (if((EF (a.inf L g hs)).ak6.getD 0 iH).has=true/\((EF (a.inf L g hs)).ak6.getD 1 iH).has then .mk 11 0 .z [x] else x)):=rfl
def aax(a:Pf):(Pf.mk 5 0 .z [] [] [a]).ex L Ts g hs σ τ=H0 ((a.ex L Ts g hs σ τ).bind λx=>some (if((EF (a.inf L g hs)).ak6.getD 0 iH).has=true/\((EF (a.inf L g hs)).ak6.getD 1 iH).has then .mk 12 0 .z [x] else x)):=rfl
def ZX(a b:Pf):(Pf.mk 7 0 .z [] [] [a,b]).ex L Ts g hs σ τ=H0 ((a.ex L Ts g hs σ τ).bind λx=>if((EF (a.inf L g hs)).ak6.getD 0 iH).has then(b.ex L Ts g hs σ τ).bind λy=>some (gC x y)else some x):=rfl
def Y'(s:Ty)(a:Pf):(Pf.mk 8 0 s [] [] [a]).ex L Ts g hs σ τ=H0 ((a.ex L Ts (g++[s]) (hs.map (Fm.up 0 1)) (mL σ++[kB 0]) (mL τ)).bind λx=>some (.mk 2 0 s [x])):=rfl
def aa'(t:Tm)(F:Fm)(a:Pf):(Pf.mk 10 0 .z [t] [F] [a]).ex L Ts g hs σ τ=H0 (if(F.ak6.getD 0 iH).has then(a.ex L Ts g hs σ τ).bind λx=>some (.mk 10 0 .z [t.sb σ,x])else some (t.sb σ)):=rfl
def NJ(a b:Pf):(Pf.mk 11 0 .z [] [] [a,b]).ex L Ts g hs σ τ=H0 ((a.ex L Ts g hs σ τ).bind λx=>
 if((EF (a.inf L g hs)).ak6.getD 0 iH).has then KX (EF (a.inf L g hs)) λu=>(b.ex L Ts (g++[(EF (a.inf L g hs)).dM]) (hs.map (Fm.up 0 1)++[(EF (a.inf L g hs)).ak6.getD 0 iH]) (mL σ++[.mk 11 0 .z [kB 0]]) (mL τ++[.mk 12 0 .z [kB 0]])).bind λy=>some (gC (.mk 2 0 u [y]) x)
 else(b.ex L Ts (g++[(EF (a.inf L g hs)).dM]) (hs.map (Fm.up 0 1)++[(EF (a.inf L g hs)).ak6.getD 0 iH]) (mL σ++[kB 0]) (mL τ++[Tm.z])).bind λy=>some (gC (.mk 2 0 (EF (a.inf L g hs)).dM [y]) x)):=rfl
def Vs(a b:Pf):(Pf.mk 15 0 .z [] [] [a,b]).ex L Ts g hs σ τ=H0 (if(EF (a.inf L g hs)).has then(a.ex L Ts g hs σ τ).bind λx=>KX (EF (a.inf L g hs)) λu=>(b.ex L Ts (g++[(EF (a.inf L g hs)).dM]) (hs.map (Fm.up 0 1)++[(EF (a.inf L g hs)).ak6.getD 0 iH]) (mL σ++[IH (EF (a.inf L g hs)).dM]) (mL τ++[kB 0])).bind λy=>some (gC (.mk 2 0 u [y]) x)
 else b.ex L Ts (g++[(EF (a.inf L g hs)).dM]) (hs.map (Fm.up 0 1)++[(EF (a.inf L g hs)).ak6.getD 0 iH]) (σ++[IH (EF (a.inf L g hs)).dM]) (τ++[Tm.z])):=rfl
def XC(t:Tm)(F:Fm)(a b:Pf):(Pf.mk 17 0 .z [t] [F] [a,b]).ex L Ts g hs σ τ=H0 (KX F λu=>(a.ex L Ts g hs σ τ).bind λx=>(b.ex L Ts (g++[.nat]++[.fS]) (hs.map (Fm.up 0 2)++[F.up 1 1]) (mL (mL (mL σ++[kB 0])++[kB 0])) (mL (mL (mL τ))++[kB 0])).bind λy=>some (.mk 9 0 u [x,.mk 2 0 .nat [.mk 2 0 .fS [.mk 2 0 u [y]]],t.sb σ])):=rfl
def SP(a:Pf):(Pf.mk 20 0 .z [] [] [a]).ex L Ts g hs σ τ=H0 ((a.ex L Ts g hs σ τ).bind λx=>if((((EF (a.inf L g hs)).ak6.getD 0 iH)).ak6.getD 0 iH).has then KX (EF (a.inf L g hs)) λu=>
 some (gC (.mk 2 0 u [.mk 10 0 .z [.mk 2 0 (EF (a.inf L g hs)).dM [.mk 11 0 .z [gC (kB 1) (kB 0)]],.mk 2 0 (EF (a.inf L g hs)).dM [.mk 12 0 .z [gC (kB 1) (kB 0)]]]]) x)else some x):=rfl
end
def Oh{r:Option Tm}{k:Tm->Option Tm}{d:Tm}(h:r.bind k=some d):∃x,r=some x/\k x=some d:=by
 cases r with
 |none=>cases h
 |some x=>grind
end Go.fD
set_option maxRecDepth 20000
namespace Go.fD
open Go
theorem Mo(σ:List Tm):(mL σ).length=σ.length:=Dh _
theorem NQ{n:Int}(a:0<=n)(h:n<=4000000000000000000):eS .i64 n 1=n+1:=fX VW VW
def ky{t:Tm}{c a:Int}(h:t.ak' c=true)(b:c<=a):t.ak' a=true:=Tm.ml t b h
def BE{k:Int}{s:Ty}{a:Tm}{c:Int}(b:0<=c)(h:a.ak' c=true):(Tm.mk k 0 s [a]).ak' c=true:=by rw[Tm.fH];simp[b,h]
def q8{k:Int}{s:Ty}{a b:Tm}{c:Int}(d:0<=c)(h:a.ak' c=true)(f:b.ak' c=true):(Tm.mk k 0 s [a,b]).ak' c=true:=by rw[Tm.fH];simp[d,h,f]
def Mj{k:Int}{s:Ty}{a b d:Tm}{c:Int}(i:0<=c)(h:a.ak' c=true)(j:b.ak' c=true)(f:d.ak' c=true):(Tm.mk k 0 s [a,b,d]).ak' c=true:=by rw[Tm.fH];simp[i,h,j,f]
def lv{v:Int}{s:Ty}{a:Tm}{c:Int}(b:v<=c)(h:a.ak' c=true):(Tm.mk 2 v s [a]).ak' c=true:=by rw[Tm.fH];simp[b,h]
def BU{v c:Int}(a:v<=c):(Tm.mk 1 v .z []).ak' c=true:=by rw[Tm.fH];simp[a]
def HY{k:Int}{s:Ty}{c:Int}(a:0<=c):(Tm.mk k 0 s []).ak' c=true:=by rw[Tm.fH];simp[a]
inductive Run {β:Type} (E:β->Tm->Option (Tm×β)):List Tm->β->List Tm->β->Prop
 |nil {b}:Run E [] b [] b|cons {x y l m b b1 b2}:E b x=some (y,b1)->Run E l b1 m b2->Run E (x::l) b (y::m) b2
def Run.loop{β ρ:Type}{E:β->Tm->Option (Tm×β)}{ak6:List Tm}{F:Int×List Tm×β->Option (gm (Int×List Tm×β) ρ)}
  (hF:∀i out b,F (i,out,b)=if o7 i (eA ak6) then dH (dW ak6 i) λx=>dU (E b x) λy c=>gB (fI out [y]) (some (.next (eS .i64 i 1,fR out [y],c)))else some (.yd (i,out,b)))
  (j:ak6.length<=100000) {l:List Tm} {b:β} {m:List Tm} {c:β} (h:Run E l b m c):∀(pre out:List Tm) (n:Nat),ak6=pre++l->out.length<=pre.length->l.length<n->js F n ((pre.length:Int),out,b)=some (.inl ((ak6.length:Int),out++m,c)):=by
 induction h with
 |@nil b=>
  intro pre out n a d hn;obtain⟨n,rfl⟩:∃k,n=k+1:=⟨n-1,VW⟩
  have e:pre.length=ak6.length:=by rw[a];simp
  rw[hI,hF,e,dK (by rw[j3,fM];omega),dI,sj,Ac]
 |@cons x y l m b o q f _ ih=>
  intro pre out n a d hn;obtain⟨n,rfl⟩:∃k,n=k+1:=⟨n-1,VW⟩
  have e:ak6.length=pre.length+1+l.length:=by rw[a];simp;omega
  have hg:dW ak6 (pre.length:Int)=some x:=by rw[gX,a,tE (gY _)];simp
  rw[hI,hF,dR (by rw[j3,fM];omega),hg,dI,f,dQ,fg acx,ec,dI,fh,NQ VW VW,ij];have:=ih (pre++[x]) (out++[y]) n (by rw[a];simp) acx (by simp at hn;omega);rw[ni,Rt] at this;rw[show((pre.length:Int)+1)=((pre.length+1:Nat):Int) by omega,this];simp
def Ps{ρ:Type}{E:Tm->Option Tm}{ak6:List Tm}{F:Int×List Tm->Option (gm (Int×List Tm) ρ)}
  (hF:∀i out,F (i,out)=if o7 i (eA ak6) then dH (dW ak6 i) λx=>dH (E x) λy=>gB (fI out [y]) (some (.next (eS .i64 i 1,fR out [y])))else some (.yd (i,out)))
  (d:ak6.length<=100000):∀(l m pre out:List Tm) (n:Nat),l.map E=m.map some->ak6=pre++l->out.length<=pre.length->l.length<n->js F n ((pre.length:Int),out)=some (.inl ((ak6.length:Int),out++m)):=by
 intro l
 induction l with
 |nil=>
  intro m pre out n hm a b hn;obtain⟨n,rfl⟩:∃k,n=k+1:=⟨n-1,VW⟩
  obtain rfl:m=[]:=by cases m with|nil=>rfl|cons _ _=>simp at hm
  have e:pre.length=ak6.length:=by rw[a];simp
  rw[hI,hF,e,dK (by rw[j3,fM];omega),dI,sj,Ac]
 |cons x l ih=>
  intro m pre out n hm a b hn;obtain⟨n,rfl⟩:∃k,n=k+1:=⟨n-1,VW⟩
  obtain⟨y,m,rfl⟩:∃y c,m=y::c:=by cases m with|nil=>simp at hm|cons y m=>exact⟨y,m,rfl⟩
  simp only[oe,Pw] at hm
  have e:ak6.length=pre.length+1+l.length:=by rw[a];simp;omega
  have hg:dW ak6 (pre.length:Int)=some x:=by rw[gX,a,tE (gY _)];simp
  rw[hI,hF,dR (by rw[j3,fM];omega),hg,dI,hm.1,dI,fg acx,ec,dI,fh,NQ VW VW,ij];have:=ih m (pre++[x]) (out++[y]) n hm.2 (by rw[a];simp) acx (by simp at hn;omega);rw[ni,Rt] at this;rw[show((pre.length:Int)+1)=((pre.length+1:Nat):Int) by omega,this];simp
def SE{l:List Tm}{t:Tm}(h:l.length<=900000000):ov l t=some (l++[t]):=by
 unfold ov;rw[fg acx,ec,fg acx,ec];simp
structure NmR (b b':dT) (R:List Int) (t d:Tm) (k:Nat):Prop where
 mm:b'.lemmas=b.lemmas
 pW:b'.eh=b.eh
 lo:b.next<=b'.next
 hi:b'.next<=b.next+k
 nm:z' R t d
 le:t.ak' b'.next=true
def Ie(n:Nat)(b:dT)(k i:Int)(s:Ty)(l e:List Tm):eK (n+1) b (.mk k i s l) e=if(eo k 1) then(dH (dW e (fA .i64 (fA .i64 (eA e) 1) i)) λt=>some (t,b))
 else(if(eo k 2) then(dU (eE b) λd d57=>dH (dW l 0) λh=>dH (fl d) λj=>dH (ov e j) λo=>dU (eK n d57 h o) λq d93=>some ((Tm.mk k d s [q]),d93))
 else(dH (js (ρ:=Tm×dT) (PE λ(v210:Int) (a:List Tm) (v212:dT)=>if(o7 v210 (eA l)) then(dH (dW l v210) λf=>dU (eK n v212 f e) λc d241=>gB (fI a [c])<|some (.next ((eS .i64 v210 1),(fR a [c]),d241)))else(some (.yd (v210,a,v212)))) FU (0,[],b))
  (fL (PE λ(v210:Int) (a:List Tm) (v212:dT)=>some ((Tm.mk k 0 s a),v212)) (λr=>some r)))):=by rw[eK];rfl
def BJ{n:Nat}{k:Int}{s:Ty}{l m:List Tm}{b f:dT}{e:List Tm}(j:k≠1)(o:k≠2)(q:l.length<=3)(h:Run (λb x=>eK n b x e) l b m f):eK (n+1) b (.mk k 0 s l) e=some (.mk k 0 s m,f):=by
 rw[Ie,dK (by rw[fZ];exact j),dK (by rw[fZ];exact o)]
 have:=h.loop (ρ:=Tm×dT) (ak6:=l) (F:=PE λ(v210:Int) (a:List Tm) (v212:dT)=>if(o7 v210 (eA l)) then(dH (dW l v210) λd=>dU (eK n v212 d e) λc d241=>gB (fI a [c])<|some (.next ((eS .i64 v210 1),(fR a [c]),d241)))else(some (.yd (v210,a,v212))))
  (λi out b=>rfl) VW [] [] FU rfl aa2 (by rw[fB];omega)
 rw[show(([]:List Tm).length:Int)=0 from rfl] at this;rw[this,dI,eB,nT];rfl
def vZ(g:List Ty)(t:Tm):Prop:=∀(n:Nat) (b:dT) (R:List Int) (e σ:List Tm),t.ak7<=n->KG R b.next e σ->e.length=g.length->g.length+t.ak7<=1000000->0<=b.next->b.next+t.ak7<=4000000000000000000->∃a c,eK n b t e=some (a,c)/\NmR b c R a (t.sb σ) t.ak7
def vZ.none{g:List Ty}{k:Int}{s:Ty}(a:k≠1)(c:k≠2):vZ g (.mk k 0 s []):=by
 intro n b R e σ hn he f hg d h;obtain⟨n,rfl⟩:∃k,n=k+1:=⟨n-1,by have:=(Tm.mk k 0 s []).eM;omega⟩;exact⟨_,b,BJ a c aa2 .nil,rfl,rfl,Ke _,VW,by rw[QB _ _ a c];exact .n0 a c,HY d⟩
def vZ.one{g:List Ty}{k:Int}{s:Ty}{x:Tm}(c:k≠1)(d:k≠2)(f:vZ g x):vZ g (.mk k 0 s [x]):=by
 intro n b R e σ hn he h hg i j
 have l:(Tm.mk k 0 s [x]).ak7=1+x.ak7:=by rw[Tm.dP];simp[ei]
 rw[l] at hn hg j|-;obtain⟨n,rfl⟩:∃k,n=k+1:=⟨n-1,VW⟩;obtain⟨q,o,q1,a⟩:=f n b R e σ VW he h VW i VW;have:=a.lo;have:=a.hi;exact⟨_,o,BJ c d aa2 (.cons q1 .nil),a.mm,a.pW,VW,VW,by rw[QP _ _ _ c d];exact .n1 c d a.nm,BE VW a.le⟩
def vZ.two{g:List Ty}{k:Int}{s:Ty}{x y:Tm}(d:k≠1)(f:k≠2)(i:vZ g x)(j:vZ g y):vZ g (.mk k 0 s [x,y]):=by
 intro n b R e σ hn he h hg l o
 have q:(Tm.mk k 0 s [x,y]).ak7=1+x.ak7+y.ak7:=by rw[Tm.dP];simp[ei];omega
 rw[q] at hn hg o|-;obtain⟨n,rfl⟩:∃k,n=k+1:=⟨n-1,VW⟩;obtain⟨v,r,q1,a⟩:=i n b R e σ VW he h VW l VW;have:=a.lo;have:=a.hi;obtain⟨w,t,u,c⟩:=j n r R e σ VW (he.mono VW) h VW VW VW;have:=c.lo;have:=c.hi;exact⟨_,t,BJ d f aa2 (.cons q1 (.cons u .nil)),c.mm.trans a.mm,c.pW.trans a.pW,VW,VW,by rw[J5 _ _ _ _ d f];exact .n2 d f a.nm c.nm,q8 VW (ky a.le VW) c.le⟩
def vZ.three{g:List Ty}{k:Int}{s:Ty}{x y z:Tm}(f:k≠1)(h:k≠2)(j:vZ g x)(l:vZ g y)(o:vZ g z):vZ g (.mk k 0 s [x,y,z]):=by
 intro n b R e σ hn he i hg q r
 have t:(Tm.mk k 0 s [x,y,z]).ak7=1+x.ak7+y.ak7+z.ak7:=by rw[Tm.dP];simp[ei];omega
 rw[t] at hn hg r|-;obtain⟨n,rfl⟩:∃k,n=k+1:=⟨n-1,VW⟩;obtain⟨C,u,q1,a⟩:=j n b R e σ VW he i VW q VW;have:=a.lo;have:=a.hi;obtain⟨D,v,w,c⟩:=l n u R e σ VW (he.mono VW) i VW VW VW;have:=c.lo;have:=c.hi;obtain⟨F,A,B,d⟩:=o n v R e σ VW (he.mono VW) i VW VW VW;have:=d.lo;have:=d.hi;exact⟨_,A,BJ f h aa2 (.cons q1 (.cons w (.cons B .nil))),d.mm.trans (c.mm.trans a.mm),d.pW.trans (c.pW.trans a.pW),VW,VW,by rw[Vc _ _ _ _ _ f h];exact .n3 f h a.nm c.nm d.nm,Mj VW (ky a.le VW) (ky c.le VW) d.le⟩
def ZT{g:List Ty}{t:Tm}{s:Ty}(h:ef g t s):vZ g t:=by
 induction h with
 |@var g t i f c=>
  intro n b R e σ hn he j hg l o;obtain⟨n,rfl⟩:∃k,n=k+1:=⟨n-1,by have:=(Tm.mk 1 (i:Int) .z []).eM;omega⟩;obtain⟨a1,a2⟩:=he.2 (e.length-1-i) VW;refine⟨e.getD (e.length-1-i) Tm.z,b,?_,rfl,rfl,Ke _,VW,?_,a2⟩
  ·rw[Ie]
   have q:fA .i64 (fA .i64 (eA e) 1) (i:Int)=((e.length-1-i:Nat):Int):=by
    rw[fM,fT (a:=(e.length:Int)) (b:=1) VW VW,fT VW VW];omega
   rw[dR aak,q,gX,o9 VW,dI,Aq,o9 VW];rfl
  ·rw[FI,<-he.1];exact a1
 |@lam g s x t r A ih=>
  intro n b R e σ hn he j hg l o
  have u:(Tm.mk 2 0 s [x]).ak7=1+x.ak7:=by rw[Tm.dP];simp[ei]
  rw[u] at hn hg o|-;obtain⟨n,rfl⟩:∃k,n=k+1:=⟨n-1,VW⟩;have w:KG ((b.next+1)::R) (b.next+1) (e++[.mk 1 (b.next+1) .z []]) (σ.map (Tm.up 0 1)++[kB 0]):=((he.up (v:=b.next+1) VW).mono VW).add (.var .here) (BU (Ke _));obtain⟨y,d,f,c⟩:=ih n ⟨b.lemmas,b.eh,b.next+1⟩ ((b.next+1)::R) _ _ VW w (by simp[j]) acx (by show 0<=b.next+1;omega) (by show b.next+1+_<=_;omega)
  have B:b.next+1<=d.next:=c.lo
  have C:d.next<=b.next+1+x.ak7:=c.hi
  refine⟨.mk 2 (b.next+1) s [y],d,?_,c.mm,c.pW,VW,VW,?_,lv VW c.le⟩
  ·rw[Ie,dK aak,dR aak];unfold eE fl;rw[dQ,NQ l VW,show dW [x] 0=some x from rfl,dI,dI,SE VW,dI];show dU (eK n ⟨b.lemmas,b.eh,b.next+1⟩ x (e++[.mk 1 (b.next+1) .z []])) _=_;rw[f,dQ]
  ·rw[P_];exact .lam c.nm
 |app _ _ i1 i2=>exact .two aak aak i1 i2|zero=>exact .none aak aak|succ _ i1=>exact .one aak aak i1|rZ _ _ _ _ i1 i2 i3=>exact .three aak aak i1 i2 i3|nil=>exact .none aak aak|cons _ _ i1 i2=>exact .two aak aak i1 i2|fold _ _ _ _ i1 i2 i3=>exact .three aak aak i1 i2 i3|pair _ _ _ i1 i2=>exact .two aak aak i1 i2|fst _ i1=>exact .one aak aak i1|snd _ i1=>exact .one aak aak i1|unit=>exact .none aak aak
def FN(n:Nat)(k i:Int)(s:Ty)(l:List Tm)(a1:List Int):jt (n+1) (.mk k i s l) a1=if(eo k 1) then(dH (js (ρ:=Tm) (λ(v212:Int)=>if(pd v212 0) then(dH (dW a1 v212) λd=>if(eo d i) then(dH (fl (fA .i64 (fA .i64 (eA a1) 1) v212)) λf=>some (.ret f))else(some (.next (fA .i64 v212 1))))else(some (.yd v212))) FU (fA .i64 (eA a1) 1)) (fL (λ(v212:Int)=>some (.mk k i s l)) (λr=>some r)))
 else ej (λ(h:List Int)=>dH (js (ρ:=Tm) (xm λ(a:Int) (b:List Tm)=>if(o7 a (eA l)) then(dH (dW l a) λj=>dH (jt n j h) λc=>gB (fI b [c])<|some (.next ((eS .i64 a 1),(fR b [c]))))else(some (.yd (a,b)))) FU (0,[])) (fL (xm λ(a:Int) (b:List Tm)=>some (Tm.mk k 0 s b)) (λr=>some r))) λj252=>
  if(eo k 2) then(gB (fI [] a1)<|gB (fI (fR [] a1) [i])<|j252 (fR (fR [] a1) [i]))else(j252 a1):=by rw[jt];rfl
def RF{i:Int}{a1:List Int}(hlen:a1.length<=1000000):∀{R:List Int} {j:Nat},Lk R i j->∀(q:List Int) (n:Nat),a1=R.reverse++q->R.length<n->js (ρ:=Tm) (λ(v212:Int)=>if(pd v212 0) then(dH (dW a1 v212) λd=>if(eo d i) then(dH (fl (fA .i64 (fA .i64 (eA a1) 1) v212)) λf=>some (.ret f))else(some (.next (fA .i64 v212 1))))else(some (.yd v212))) n ((R.length:Int)-1)=some (.inr (kB (q.length+j))):=by
 intro R j h
 induction h with
 |@here R i=>
  intro q n c hn;obtain⟨n,rfl⟩:∃k,n=k+1:=⟨n-1,VW⟩
  have el:a1.length=R.length+1+q.length:=by rw[c];simp;omega
  have e:(((i::R).length:Int)-1)=((R.length:Nat):Int):=by rw[mz];omega
  have hg:dW a1 ((R.length:Nat):Int)=some i:=by rw[gX,c,acD,th,tE aa2];simp
  rw[e,hI,dR (by unfold pd;simp),hg,dI,dR (by rw[fZ]),fM,fT (a:=(a1.length:Int)) (b:=1) VW VW,fT VW VW];show some (Sum.inr _)=_;unfold kB;rw[show(a1.length:Int)-1-(R.length:Int)=((q.length+0:Nat):Int) by omega];rfl
 |@next R i v j l _ ih=>
  intro q n c hn;obtain⟨n,rfl⟩:∃k,n=k+1:=⟨n-1,VW⟩
  have el:a1.length=R.length+1+q.length:=by rw[c];simp;omega
  have e:(((v::R).length:Int)-1)=((R.length:Nat):Int):=by rw[mz];omega
  have hg:dW a1 ((R.length:Nat):Int)=some v:=by rw[gX,c,acD,th,tE aa2];simp
  have:=ih (v::q) n (by rw[c];simp) (by simp at hn;omega);rw[e,hI,dR (by unfold pd;simp),hg,dI,dK (by rw[fZ];exact l),dI,fh,fT (a:=(R.length:Int)) (b:=1) VW VW,this,mz];rw[show q.length+1+j=q.length+(j+1) by omega]
def zA{n:Nat}{k:Int}{s:Ty}{l m:List Tm}{sc:List Int}(f:k≠1)(j:k≠2)(o:l.length<=3)(h:l.map (λx=>jt n x sc)=m.map some):jt (n+1) (.mk k 0 s l) sc=some (.mk k 0 s m):=by
 rw[FN,dK (by rw[fZ];exact f),eg,dK (by rw[fZ];exact j)]
 have:=Ps (ρ:=Tm) (ak6:=l) (E:=λx=>jt n x sc) (F:=xm λ(a:Int) (b:List Tm)=>if(o7 a (eA l)) then(dH (dW l a) λd=>dH (jt n d sc) λc=>gB (fI b [c])<|some (.next ((eS .i64 a 1),(fR b [c]))))else(some (.yd (a,b))))
  (λi out=>rfl) VW l m [] [] FU h rfl aa2 (by rw[fB];omega)
 rw[show(([]:List Tm).length:Int)=0 from rfl] at this
 refine(congrArg (dH · _) this).trans ?_
 rw[dI,eB,nT];rfl
def XN{R:List Int}{t d:Tm}(h:z' R t d):∀n,t.ak7<=n->R.length+t.ak7<=1000000->jt n t R.reverse=some d:=by
 have pos:=λt:Tm=>t.eM
 induction h with
 |@var R i j h=>
  intro n hn o;obtain⟨n,rfl⟩:∃k,n=k+1:=⟨n-1,by have:=pos (.mk 1 i .z []);omega⟩
  have e:fA .i64 (eA R.reverse) 1=(R.length:Int)-1:=by rw[fM,List.length_reverse,fT VW VW]
  have A:=RF (a1:=R.reverse) acx h [] FU aa2 (by rw[fB];omega);rw[<-e] at A;rw[FN,dR aak,A,dI];simp[fL]
 |@lam R v s b d _ ih=>
  intro n hn o
  have r:(Tm.mk 2 v s [b]).ak7=1+b.ak7:=by rw[Tm.dP];simp[ei]
  rw[r] at hn o;obtain⟨n,rfl⟩:∃k,n=k+1:=⟨n-1,VW⟩;have hi:=ih n VW acx;rw[acD] at hi;rw[FN,dK aak,eg,dR aak,fg acx,ec,fg acx,ec,ij,ij,nT]
  have:=Ps (ρ:=Tm) (ak6:=[b]) (E:=λx=>jt n x (R.reverse++[v])) (F:=xm λ(f:Int) (l:List Tm)=>if(o7 f (eA [b])) then(dH (dW [b] f) λy=>dH (jt n y (R.reverse++[v])) λq=>gB (fI l [q])<|some (.next ((eS .i64 f 1),(fR l [q]))))else(some (.yd (f,l))))
   (λi out=>rfl) aa2 [b] [d] [] [] FU (by simp[hi]) rfl aa2 (by rw[fB];simp)
  rw[show(([]:List Tm).length:Int)=0 from rfl] at this
  refine(congrArg (dH · _) this).trans ?_
  rw[dI,eB];rfl
 |@n0 R k s u w=>intro n hn o;obtain⟨n,rfl⟩:∃k,n=k+1:=⟨n-1,by have:=pos (.mk k 0 s []);omega⟩;exact zA u w aa2 rfl
 |@n1 R k s a B u w _ i1=>
  intro n hn o
  have r:(Tm.mk k 0 s [a]).ak7=1+a.ak7:=by rw[Tm.dP];simp[ei]
  rw[r] at hn o;obtain⟨n,rfl⟩:∃k,n=k+1:=⟨n-1,VW⟩;exact zA u w aa2 (by simp[i1 n VW VW])
 |@n2 R k s a B b C u w _ _ i1 i2=>
  intro n hn o
  have r:(Tm.mk k 0 s [a,b]).ak7=1+a.ak7+b.ak7:=by rw[Tm.dP];simp[ei];omega
  rw[r] at hn o;obtain⟨n,rfl⟩:∃k,n=k+1:=⟨n-1,VW⟩;exact zA u w aa2 (by simp[i1 n VW VW,i2 n VW VW])
 |@n3 R k s a B b C c D u w _ _ _ i1 i2 i3=>
  intro n hn o
  have r:(Tm.mk k 0 s [a,b,c]).ak7=1+a.ak7+b.ak7+c.ak7:=by rw[Tm.dP];simp[ei];omega
  rw[r] at hn o;obtain⟨n,rfl⟩:∃k,n=k+1:=⟨n-1,VW⟩;exact zA u w aa2 (by simp[i1 n VW VW,i2 n VW VW,i3 n VW VW])
def Tp{n:Nat}{ak6:List Tm}(j:ei Tm.ak7 ak6<=1000000000)(h:∀x∈ak6,pz n x=some (x.ak7:Int)):∀(l pre:List Tm) (m:Nat),ak6=pre++l->l.length<m->js (ρ:=Int) (xm λ(b:Int) (v46:Int)=>if(o7 v46 (eA ak6)) then(dH (dW ak6 v46) λc=>dH (pz n c) λd=>some (.next ((eS .i64 b d),(eS .i64 v46 1))))else(some (.yd (b,v46)))) m (1+(ei Tm.ak7 pre:Nat),(pre.length:Int))=some (.inl (1+(ei Tm.ak7 ak6:Nat),(ak6.length:Int))):=by
 intro l
 induction l with
 |nil=>
  intro pre m a hm;obtain⟨m,rfl⟩:∃k,m=k+1:=⟨m-1,VW⟩
  have e:pre=ak6:=by rw[a];simp
  subst e;rw[hI,kp,dK (by rw[j3,fM];omega),dI,sj]
 |cons x l ih=>
  intro pre m a hm;obtain⟨m,rfl⟩:∃k,m=k+1:=⟨m-1,VW⟩
  have e:ak6.length=pre.length+1+l.length:=by rw[a];simp;omega
  have hg:dW ak6 (pre.length:Int)=some x:=by rw[gX,a,tE (gY _)];simp
  have f:x∈ak6:=by rw[a];simp
  have hs:ei Tm.ak7 ak6=ei Tm.ak7 pre+x.ak7+ei Tm.ak7 l:=by rw[a,GV];simp[ei];omega
  have i:=Tm.fV ak6;have:=ih (pre++[x]) m (by rw[a];simp) (by simp at hm;omega);rw[GV,ni,Rt] at this;simp only[ei,F2] at this;rw[hI,kp,dR (by rw[j3,fM];omega),hg,dI,h x f,dI,dI,fh,fX VW VW,NQ VW VW];rw[show(1+((ei Tm.ak7 pre:Nat):Int)+(x.ak7:Int))=1+((ei Tm.ak7 pre+x.ak7:Nat):Int) by omega,show((pre.length:Int)+1)=((pre.length+1:Nat):Int) by omega,this]
def TB:∀(n:Nat) (t:Tm),t.ak7<=n->t.ak7<=1000000000->pz n t=some (t.ak7:Int):=by
 intro n
 induction n with
 |zero=>intro t h;have:=t.eM;omega
 |succ n ih=>
  intro t h a;obtain⟨k,i,s,l⟩:=t;rw[Tm.dP] at h a|-;have:=Tp (n:=n) (ak6:=l) VW (λx b=>by have:=eG Tm.ak7 b;exact ih x VW VW) l [] FU rfl (by have:=Tm.fV l;rw[fB];omega);rw[show(1+((ei Tm.ak7 ([]:List Tm):Nat):Int))=1 from rfl,show(([]:List Tm).length:Int)=0 from rfl] at this;rw[pz,eg]
  refine(congrArg (dH · _) this).trans ?_
  rw[dI,eB,kp];exact congrArg some VW
def Zl{t:Tm}(h:t.ak7<=1000000000):mR t 0=some (if t.ak7<=4096 then(t,0)else(.mk 0 0 (.mk 0 []) [],4)):=by
 unfold mR;rw[dK nz,TB FU t (by rw[fB];omega) h,dI]
 by_cases hn:t.ak7<=4096
 ·rw[dK (by unfold oQ;simp;omega),dR hn]
 ·rw[dR (by unfold oQ;simp;omega),dK hn]
def Qf{t:Tm}{e:Int}(h:e≠0):mR t e=some (.mk 0 0 (.mk 0 []) [],e):=by
 unfold mR;rw[dR (by rw[ez];exact h)]
def Ch(i:Int):fl i=some (.mk 1 i .z []):=rfl
def Gi(k:Int)(l:List Tm):gP k l=some (.mk k 0 .z l):=rfl
def Lm(x y:Tm):jQ x y=some (gC x y):=rfl
def Bg(s:Ty)(v:Int)(x:Tm):iy s v x=some (.mk 2 v s [x]):=rfl
def p4(b:dT)(a:0<=b.next)(h:b.next<=4000000000000000000):eE b=some (b.next+1,⟨b.lemmas,b.eh,b.next+1⟩):=by grind[eE,NQ]
def rB{q:Sq}{vars a:List Tm}(F:Fm)(t:Tm)(c:q.ala.length<=900000000)(b:a.length<=900000000):iu ⟨q,vars,a⟩ F t=some ⟨⟨q.ak9,q.ala++[F]⟩,vars,a++[t]⟩:=by
 unfold iu;rw[SE b,dI,fg acx,ec,fg acx,ec];simp
def Ba{g:List Ty}{f:Fm}(h:Hg g f):gu f=some f.has:=ow f (by have:=h.wt;omega) h.err
def Fk{g:List Ty}{f:Fm}(h:Hg g f):ji f=some f.J0:=J4 f (by have:=h.wt;omega)
def BI{g:List Ty}{f:Fm}(h:Hg g f):f.J0.2=0\/f.J0.2=4:=by
 unfold Fm.J0;rw[dK (λx=>x h.err)];have:=(Gq f h.ok).e
 grind
def LB{s:Ty}(h:s.err=0):l0 s=some (IH s):=by
 unfold l0 tT;rw[km (by have:=(Ty.gT h).2;omega),dI,h,dK nz,(Fx h).1,dI,dQ]
def CY{L:List Fm}{g:List Ty}{hs:List Fm}{P:Pf}{f:Fm}{m:Nat}(c:Dv L g hs P f m)(a:uR L ⟨g,hs⟩)(hw:P.wt<=1000000000)(he:P.err=0){b:dT}(h:b.lemmas=L)(vars d:List Tm):eY b ⟨⟨g,hs⟩,vars,d⟩ P=some (f,b):=by
 unfold eY;obtain⟨l,i,_⟩:=XD a hw he (c.inf a)
 grind[dQ]
structure OfR (b b':dT) (R:List Int) (t:Tm) (e:Int) (r:Option Tm) (k:Nat):Prop where
 mm:b'.lemmas=b.lemmas
 pW:b'.eh=b.eh
 lo:b.next<=b'.next
 hi:b'.next<=b.next+k
 yes:∀d,r=some d->e=0/\z' R t d/\t.ak' b'.next=true/\d.ak7<=4096
 no:r=none->e=4
structure Xh (b b':dT) (R:List Int) (t:Tm) (e:Int) (r:Option Tm) (k:Nat):Prop where
 mm:b'.lemmas=b.lemmas
 pW:b'.eh=b.eh
 lo:b.next<=b'.next
 hi:b'.next<=b.next+k
 yes:∀d,r=some d->e=0/\z' R t d/\t.ak' b'.next=true/\d.ak7<=1000000
 no:r=none->e=4
def OfR.q{b f:dT}{R:List Int}{t:Tm}{e:Int}{r:Option Tm}{k k':Nat}(h:OfR b f R t e r k)(j:k<=k'):Xh b f R t e r k':=
 ⟨h.mm,h.pW,h.lo,by have:=h.hi;omega,λd i=>by obtain⟨a,b,c,d⟩:=h.yes d i;exact⟨a,b,c,VW⟩,h.no⟩
theorem Xh.H0{b c:dT}{R:List Int}{t:Tm}{e:Int}{r:Option Tm}{k:Nat}(h:Xh b c R t e r k):∃f i,mR t e=some (f,i)/\OfR b c R f i (H0 r) k:=by
 cases r with
 |none=>
  obtain rfl:=h.no rfl;exact⟨_,4,Qf aak,h.mm,h.pW,h.lo,h.hi,λd a=>(by cases a),λ_=>rfl⟩
 |some d=>
  obtain⟨rfl,j,l,s⟩:=h.yes d rfl;have hn:=j.ak7;rw[Zl VW]
  by_cases hs:d.ak7<=4096
  ·rw[dR VW,FA hs];exact⟨t,0,rfl,h.mm,h.pW,h.lo,h.hi,λn a=>by obtain rfl:=kR a;exact⟨rfl,j,l,hs⟩,λa=>by cases a⟩
  ·rw[dK VW];refine⟨_,4,rfl,h.mm,h.pW,h.lo,h.hi,λn a=>?_,λ_=>rfl⟩;obtain⟨o,q⟩:=U' a;obtain rfl:=kR o;exact absurd q hs
def NS(σ:List Tm):Prop:=∀x∈σ,x.ak7<=64
def NS.getD{σ:List Tm}(h:NS σ)(i:Nat):(σ.getD i Tm.z).ak7<=64:=by
 rw[Aq];cases a:σ[i]?with
 |none=>rw[Option.getD_none];decide|some x=>exact h x (Hb a)
def NS.up{σ:List Tm}(h:NS σ):NS (mL σ):=λx a=>by obtain⟨y,b,rfl⟩:=qp.1 a;rw[Tm.pj];exact h y b
def NS.add{σ:List Tm}(h:NS σ){x:Tm}(a:x.ak7<=64):NS (σ++[x]):=λy hy=>by rcases sU.1 hy with hy|hy;exact h y hy;rw[DB.1 hy];exact a
def NS.var{σ:List Tm}(h:NS σ):NS (mL σ++[kB 0]):=h.up.add aak
def E0(t:Tm):∀{σ:List Tm},NS σ->(t.sb σ).ak7<=64*t.ak7:=by
 induction t using Tm.ind with
 |h k i s l ih=>
  intro σ a;rw[Tm.IP]
  by_cases b:k=1
  ·rw[dR b];have:=a.getD (σ.length-1-i.toNat);have:=(Tm.mk k i s l).eM;omega
  ·rw[dK b,Tm.dP,Tm.dP,mo]
   have d:NS (if k=2 then σ.map (Tm.up 0 1)++[kB 0] else σ):=by split;exact a.var;exact a
   have:=wh (c:=64) (f:=λx=>(Tm.sb (if k=2 then σ.map (Tm.up 0 1)++[kB 0] else σ) x).ak7) (g:=Tm.ak7) (l:=l) λx j=>ih x j d;omega
theorem OfR.fin{b f a:dT}{R j:List Int}{t i:Tm}{e:Int}{r:Option Tm}{k K:Nat}(h:OfR f a R t e r k)(l:f.lemmas=b.lemmas)(n:f.eh=b.eh)(lo:b.next<=f.next)(hi:a.next<=b.next+K){G:Tm->Tm}
  (hG:∀d,z' R t d->t.ak' a.next=true->d.ak7<=4096->z' j i (G d)/\i.ak' a.next=true/\(G d).ak7<=1000000):Xh b a j i e (r.bind λd=>some (G d)) K:=by
 refine⟨h.mm.trans l,h.pW.trans n,Int.le_trans lo h.lo,hi,λd c=>?_,λc=>?_⟩
 ·obtain⟨x,o,c⟩:=Oh c;obtain rfl:=kR c;obtain⟨rfl,q,s,y3⟩:=h.yes x o
  grind
 ·refine h.no ?_;cases r with
  |none=>rfl|some x=>cases c
def Xh.bad{b a:dT}{R:List Int}{t:Tm}{K:Nat}(c:a.lemmas=b.lemmas)(f:a.eh=b.eh)(lo:b.next<=a.next)(hi:a.next<=b.next+K):Xh b a R t 4 none K:=⟨c,f,lo,hi,λd h=>(by cases h),λ_=>rfl⟩
theorem Xh.Ho{b a:dT}{R:List Int}{t d:Tm}{K:Nat}(f:a.lemmas=b.lemmas)(h:a.eh=b.eh)(lo:b.next<=a.next)(hi:a.next<=b.next+K)(i:z' R t d)(j:t.ak' a.next=true)(k:d.ak7<=1000000):Xh b a R t 0 (some d) K:=
 ⟨f,h,lo,hi,λl c=>(by obtain rfl:=kR c;exact⟨rfl,i,j,k⟩),λc=>(by cases c)⟩
def s5(L:List Fm)(Ts:List Tm)(g:List Ty)(hs:List Fm)(P:Pf):Prop:=∀(n:Nat) (b:dT) (R:List Int) (e η σ τ:List Tm),3*P.ak7+3<=n->b.lemmas=L->b.eh=Ts->KG R b.next e σ->KG R b.next η τ->NS σ->NS τ->e.length=g.length->η.length=hs.length->0<=b.next->b.next+10000*P.ak7<=4000000000000000000->∃t a c,ed n b ⟨⟨g,hs⟩,e,η⟩ P=some (t,a,c)/\OfR b c R t a (P.ex L Ts g hs σ τ) (10000*P.ak7)
theorem adM(n:Nat)(b:dT)(x:er)(P:Pf):ed (n+1) b x P=eZ (jR n b x P) λd f d7=>dU (mR d f) λa c=>some (a,c,d7):=by rw[ed]
def s5.of{L:List Fm}{Ts:List Tm}{g:List Ty}{hs:List Fm}{P:Pf}{r:List Tm->List Tm->Option Tm}(v:∀σ τ,P.ex L Ts g hs σ τ=H0 (r σ τ))
  (h:∀(n:Nat) (b:dT) (R:List Int) (e η σ τ:List Tm),3*P.ak7+1<=n->b.lemmas=L->b.eh=Ts->KG R b.next e σ->KG R b.next η τ->NS σ->NS τ->e.length=g.length->η.length=hs.length->0<=b.next->b.next+10000*P.ak7<=4000000000000000000->∃t a c,jR (n+1) b ⟨⟨g,hs⟩,e,η⟩ P=some (t,a,c)/\Xh b c R t a (r σ τ) (10000*P.ak7)):s5 L Ts g hs P:=by
 intro n b R e η σ τ hn d f i j s1 s2 l o q s;obtain⟨n,rfl⟩:∃k,n=k+2:=⟨n-2,VW⟩;obtain⟨t,a,c,q1,u⟩:=h n b R e η σ τ VW d f i j s1 s2 l o q s;obtain⟨w,x,y,A⟩:=u.H0
 grind[adM,gz,dQ]
def Nb(n:Nat)(a0:dT)(a1:er)(k i:Int)(s:Ty)(ts:List Tm)(fs:List Fm)(l:List Pf):jR (n+1) a0 a1 (.mk k i s ts fs l)=(if(eo k 1) then(
 dH (dW a1.ala (fA .i64 (fA .i64 (eA a1.ala) 1) i)) λaC=>
 some (aC,0,a0))
 else(if(eo k 2) then(
 dH (dW a0.eh i) λaD=>
 dU (eK FU a0 aD []) λaE aF=>
 some (aE,0,aF))
 else(if(eo k 3) then(
 dH (dW l 0) λy=>
 dU (eY a0 a1 y) λaG aH=>
 dH (gu aG) λaI=>
 dH (dW l 1) λt=>
 dU (eY aH a1 t) λaJ A=>
 dH (gu aJ) λaK=>
 if aI then(
 eZ (ed n A a1 y) λB C D=>
 if(fv (eP C 0) true (lJ aK)) then(
 some (B,C,D))
 else(eZ (ed n D a1 t) λaL aM aN=>
 dH (gP 10 [B,aL]) λaO=>
 some (aO,aM,aN)))
 else(eZ (ed n A a1 t) λaP aQ aR=>
 some (aP,aQ,aR)))
 else(if(fv (eo k 4) true (eo k 5)) then(
 dH (dW l 0) λF=>
 dU (eY a0 a1 F) λG aS=>
 eZ (ed n aS a1 F) λb H aT=>
 ej (λ(aU:Int) (aV:Int) (aW:Int) (aX:List Ty) (aY:List Tm)=>
 some ((Tm.mk aU aV (Ty.mk aW aX) aY),H,aT)) λI=>
 ej (λ(aZ:Bool)=>
 if aZ then(
 dH (gP (fv (eo k 5) 12 11) [b]) λd=>
 I d.ak5 d.ak8 d.dM.ak5 d.dM.ak6 d.ak6)
 else(I b.ak5 b.ak8 b.dM.ak5 b.dM.ak6 b.ak6)) λu=>
 if(eo H 0) then(
 dH (dW G.ak6 0) λa6=>
 dH (gu a6) λa7=>
 if a7 then(
 dH (dW G.ak6 1) λa8=>
 dH (gu a8) λa_=>
 u a_)
 else(u false))
 else(u false))
 else(if(eo k 6) then(
 dH (dW fs 0) λo=>
 dH (gu o) λa'=>
 if a' then(
 dU (ji o) λba J=>
 if(eP J 0) then(
 some ((Tm.mk 0 0 (Ty.mk 0 []) []),J,a0))
 else(dU (eE a0) λK bb=>
 dH (fl K) λbc=>
 dH (iu a1 o bc) λbd=>
 dH (dW l 0) λbf=>
 eZ (ed n bb bd bf) λbg bh bj=>
 dH (iy ba K bg) λbk=>
 some (bk,bh,bj)))
 else(dH (iu a1 o (Tm.mk 0 0 (Ty.mk 0 []) [])) λbl=>
 dH (dW l 0) λbm=>
 eZ (ed n a0 bl bm) λbn bo bp=>
 some (bn,bo,bp)))
 else(if(eo k 7) then(
 dH (dW l 0) λL=>
 eZ (ed n a0 a1 L) λM N O=>
 ej (λ(bq:Bool) (P:dT)=>
 if bq then(
 some (M,N,P))
 else(dH (dW l 1) λbr=>
 eZ (ed n P a1 br) λbs bt bu=>
 dH (jQ M bs) λbw=>
 some (bw,bt,bu))) λQ=>
 if(eP N 0) then(
 Q true O)
 else(dU (eY O a1 L) λbz bA=>
 dH (dW bz.ak6 0) λbB=>
 dH (gu bB) λbC=>
 Q (lJ bC) bA))
 else(if(eo k 8) then(
 dU (eE a0) λR bD=>
 dH (fl R) λbE=>
 dH (hY a1 s bE) λbF=>
 dH (dW l 0) λbG=>
 eZ (ed n bD bF bG) λbH bI bJ=>
 dH (iy s R bH) λbK=>
 some (bK,bI,bJ))
 else(if(eo k 9) then(
 dH (dW l 0) λbL=>
 eZ (ed n a0 a1 bL) λbM bN bO=>
 dH (dW ts 0) λbP=>
 dU (eK FU bO bP a1.vars) λbQ bR=>
 dH (jQ bM bQ) λbS=>
 some (bS,bN,bR))
 else(if(eo k 10) then(
 dH (dW ts 0) λbT=>
 dU (eK FU a0 bT a1.vars) λS T=>
 dH (dW fs 0) λbU=>
 dH (dW bU.ak6 0) λbV=>
 dH (gu bV) λbW=>
 if bW then(
 dH (dW l 0) λbX=>
 eZ (ed n T a1 bX) λbY bZ b0=>
 dH (gP 10 [S,bY]) λb1=>
 some (b1,bZ,b0))
 else(some (S,0,T)))
 else(if(eo k 11) then(
 dH (dW l 0) λU=>
 dU (eY a0 a1 U) λc b2=>
 eZ (ed n b2 a1 U) λb3 V W=>
 if(eP V 0) then(
 some ((Tm.mk 0 0 (Ty.mk 0 []) []),V,W))
 else(dU (eE W) λq X=>
 dH (fl q) λf=>
 ej (λ(b4:Int) (b5:List Ty) (b6:Int) (b7:Int) (b8:Int) (b9:List Ty) (b_:List Tm) (b':Int) (ca:Int) (cb:Int) (cc:List Ty) (cd:List Tm)=>
 dH (hY a1 c.dM (Tm.mk b6 b7 (Ty.mk b8 b9) b_)) λcf=>
 dH (dW c.ak6 0) λcg=>
 dH (iu cf cg (Tm.mk b' ca (Ty.mk cb cc) cd)) λch=>
 dH (dW l 1) λcj=>
 eZ (ed n X ch cj) λck cm cn=>
 dH (iy (Ty.mk b4 b5) q ck) λcp=>
 dH (jQ cp b3) λcq=>
 some (cq,cm,cn)) λY=>
 dH (dW c.ak6 0) λcr=>
 dH (gu cr) λcu=>
 if cu then(
 dU (ji c) λZ ad=>
 if(eP ad 0) then(
 some ((Tm.mk 0 0 (Ty.mk 0 []) []),ad,X))
 else(dH (fl q) λcw=>
 dH (gP 11 [cw]) λh=>
 dH (fl q) λcx=>
 dH (gP 12 [cx]) λj=>
 Y Z.ak5 Z.ak6 h.ak5 h.ak8 h.dM.ak5 h.dM.ak6 h.ak6 j.ak5 j.ak8 j.dM.ak5 j.dM.ak6 j.ak6))
 else(Y c.dM.ak5 c.dM.ak6 f.ak5 f.ak8 f.dM.ak5 f.dM.ak6 f.ak6 0 0 0 [] [])))
 else(if(eo k 12) then(
 dH (l0 s) λcy=>
 dU (eK FU a0 cy []) λcz cA=>
 dH (hY a1 s cz) λcB=>
 dH (dW l 0) λcD=>
 eZ (ed n cA cB cD) λcE cF cG=>
 some (cE,cF,cG))
 else(if(eo k 15) then(
 dH (dW l 0) λae=>
 dU (eY a0 a1 ae) λa cH=>
 dH (l0 a.dM) λcI=>
 dU (eK FU cH cI []) λaf ah=>
 dH (gu a) λcJ=>
 if cJ then(
 eZ (ed n ah a1 ae) λcK ai v=>
 if(eP ai 0) then(
 some ((Tm.mk 0 0 (Ty.mk 0 []) []),ai,v))
 else(dU (ji a) λcL ak=>
 if(eP ak 0) then(
 some ((Tm.mk 0 0 (Ty.mk 0 []) []),ak,v))
 else(dU (eE v) λan cM=>
 dH (hY a1 a.dM af) λcN=>
 dH (dW a.ak6 0) λcO=>
 dH (fl an) λcP=>
 dH (iu cN cO cP) λcQ=>
 dH (dW l 1) λcR=>
 eZ (ed n cM cQ cR) λcS cT cU=>
 dH (iy cL an cS) λcV=>
 dH (jQ cV cK) λcW=>
 some (cW,cT,cU))))
 else(dH (hY a1 a.dM af) λcX=>
 dH (dW a.ak6 0) λcY=>
 dH (iu cX cY (Tm.mk 0 0 (Ty.mk 0 []) [])) λcZ=>
 dH (dW l 1) λc0=>
 eZ (ed n ah cZ c0) λc1 c2 c4=>
 some (c1,c2,c4)))
 else(if(fv (eo k 16) true (eo k 17)) then(
 Pe (jU n a0 a1 (.mk k i s ts fs l)) λc6 c7 c8 ao aq=>
 if(eP ao 0) then(
 some ((Tm.mk 0 0 (Ty.mk 0 []) []),ao,aq))
 else(dH (dW ts 0) λc9=>
 dU (eK FU aq c9 a1.vars) λc_ c'=>
 dH (tp (.mk k i s ts fs l) c6 c7 c8 c_) λda=>
 some (da,0,c')))
 else(if(eo k 19) then(
 dH (dW l 1) λdb=>
 eZ (ed n a0 a1 db) λdc dd de=>
 some (dc,dd,de))
 else(if(eo k 20) then(
 dH (dW l 0) λar=>
 eZ (ed n a0 a1 ar) λaw ax df=>
 dU (eY df a1 ar) λr w=>
 ej (λ(dg:Bool)=>
 if dg then(
 some (aw,ax,w))
 else(dU (ji r) λdh ay=>
 if(eP ay 0) then(
 some ((Tm.mk 0 0 (Ty.mk 0 []) []),ay,w))
 else(dU (eE w) λx di=>
 dU (eE di) λaz dj=>
 dU (eE dj) λaA dk=>
 dH (fl x) λdm=>
 dH (fl az) λdn=>
 dH (jQ dm dn) λdp=>
 dH (gP 11 [dp]) λdq=>
 dH (iy r.dM az dq) λdr=>
 dH (fl x) λds=>
 dH (fl aA) λdt=>
 dH (jQ ds dt) λdu=>
 dH (gP 12 [du]) λdv=>
 dH (iy r.dM aA dv) λdw=>
 dH (gP 10 [dr,dw]) λdx=>
 dH (iy dh x dx) λdy=>
 dH (jQ dy aw) λdz=>
 some (dz,0,dk)))) λaB=>
 if(eP ax 0) then(
 aB true)
 else(dH (dW r.ak6 0) λdA=>
 dH (dW dA.ak6 0) λdB=>
 dH (gu dB) λdC=>
 aB (lJ dC)))
 else(dH (dW l 0) λdD=>
 eZ (ed n a0 a1 dD) λdE dF dG=>
 some (dE,dF,dG))))))))))))))))):=by rw[jR];rfl
def R2(n:Nat)(a0:dT)(a1:er)(k i:Int)(s:Ty)(ts:List Tm)(fs:List Fm)(l:List Pf):jU (n+1) a0 a1 (.mk k i s ts fs l)=(dH (dW fs 0) λI=>
 dU (ji I) λG H=>
 if(eP H 0) then(
 some ((Ty.mk 0 []),(Tm.mk 0 0 (Ty.mk 0 []) []),(Tm.mk 0 0 (Ty.mk 0 []) []),H,a0))
 else(dH (dW l 0) λy=>
 eZ (ed n a0 a1 y) λA d d33=>
 if(eP d 0) then(
 some ((Ty.mk 0 []),(Tm.mk 0 0 (Ty.mk 0 []) []),(Tm.mk 0 0 (Ty.mk 0 []) []),d,d33))
 else(dU (eE d33) λf d45=>
 dU (eE d45) λh d48=>
 dU (eE d48) λj d51=>
 dH (fl j) λB=>
 dH (pt a1 (.mk k i s ts fs l) [f,h] B) λC=>
 dH (dW l 1) λD=>
 eZ (ed n d51 C D) λF o d91=>
 if(eP o 0) then(
 some ((Ty.mk 0 []),(Tm.mk 0 0 (Ty.mk 0 []) []),(Tm.mk 0 0 (Ty.mk 0 []) []),o,d91))
 else(dH (iy G j F) λb=>
 ej (λ(q:Int) (v109:Int) (r:Int) (t:List Ty) (u:List Tm)=>
 dH (oK) λv=>
 dH (iy v f (Tm.mk q v109 (Ty.mk r t) u)) λw=>
 some (G,A,w,0,d91)) λc=>
 if(eo k 17) then(
 dH (kU) λx=>
 dH (iy x h b) λa=>
 c a.ak5 a.ak8 a.dM.ak5 a.dM.ak6 a.ak6)
 else(c b.ak5 b.ak8 b.dM.ak5 b.dM.ak6 b.ak6))))):=by rw[jU];rfl
end Go.fD
set_option maxRecDepth 20000
namespace Go.fD
open Go
theorem Gs{k i:Int}{s:Ty}{ts:List Tm}{fs:List Fm}{l:List Pf}(h:(Pf.mk k i s ts fs l).err=0){p:Pf}(a:p∈l):p.err=0:=by
 obtain⟨b,c,d⟩:=gT h;obtain⟨_,_,wp⟩:=Pf.Ws.parts (⟨b,c⟩:(Pf.mk k i s ts fs l).Ws);obtain⟨f,j⟩:=wp p a
 grind[Pf.dP,eG,Pf.err]
def sH{k i:Int}{s:Ty}{ts:List Tm}{fs:List Fm}{a:Pf}(hw:(Pf.mk k i s ts fs [a]).wt<=1000000000)(he:(Pf.mk k i s ts fs [a]).err=0):a.wt<=1000000000/\a.err=0/\(Pf.mk k i s ts fs [a]).ak7=1+ei Tm.ak7 ts+ei Fm.ak7 fs+a.ak7:=by grind[Pf.iA,ei,Gs,Pf.dP]
def u6{k i:Int}{s:Ty}{ts:List Tm}{fs:List Fm}{a b:Pf}(hw:(Pf.mk k i s ts fs [a,b]).wt<=1000000000)(he:(Pf.mk k i s ts fs [a,b]).err=0):a.wt<=1000000000/\a.err=0/\b.wt<=1000000000/\b.err=0/\(Pf.mk k i s ts fs [a,b]).ak7=1+ei Tm.ak7 ts+ei Fm.ak7 fs+(a.ak7+b.ak7):=by grind[Pf.iA,ei,Gs,Pf.dP]
def s5.pass{L:List Fm}{Ts:List Tm}{g:List Ty}{hs:List Fm}{P a:Pf}(k:s5 L Ts g hs a)(hn:a.ak7+1<=P.ak7)(l:∀σ τ,P.ex L Ts g hs σ τ=H0 (a.ex L Ts g hs σ τ))
  (h:∀n b x,jR (n+1) b x P=eZ (ed n b x a) λx y d=>some (x,y,d)):s5 L Ts g hs P:=by
 refine s5.of (r:=λσ τ=>a.ex L Ts g hs σ τ) l ?_;intro n b R e η σ τ o c f s t u v i j w B;obtain⟨t1,C,D,q1,A⟩:=k n b R e η σ τ VW c f s t u v i j w VW;rw[h,q1];exact⟨_,_,_,rfl,A.q VW⟩
def FD{f:Fm}{k:Ty->Option Tm}(h:f.J0.2=0):KX f k=k f.J0.1:=dR h
def BA{f:Fm}{k:Ty->Option Tm}(h:f.J0.2≠0):KX f k=none:=dK h
def ajS(x:Bool):fv (eP 4 0) true x=true:=rfl
def ajj(x:Bool):fv (eP 0 0) true x=x:=rfl
def PJ(k:Int)(s:Ty)(a:Tm):(Tm.mk k 0 s [a]).ak7=1+a.ak7:=by grind[Tm.dP,ei]
def nd2(k:Int)(s:Ty)(a b:Tm):(Tm.mk k 0 s [a,b]).ak7=1+a.ak7+b.ak7:=by grind[Tm.dP,ei]
def nd3(k:Int)(s:Ty)(a b c:Tm):(Tm.mk k 0 s [a,b,c]).ak7=1+a.ak7+b.ak7+c.ak7:=by grind[Tm.dP,ei]
def ndA(x y:Tm):(gC x y).ak7=1+x.ak7+y.ak7:=nd2 _ _ _ _
theorem KG.new{R:List Int}{c v:Int}{e σ:List Tm}(h:KG R c e σ)(a:c<v):KG (v::R) v (e++[.mk 1 v .z []]) (mL σ++[kB 0]):=((h.up a).mono VW).add (.var .here) (BU (Ke _))
def KQ{g:List Ty}{t:Tm}{s:Ty}(d:ef g t s)(hg:g.length<=16)(hn:t.ak7<=4096){b:dT}{R:List Int}{e σ:List Tm}(he:KG R b.next e σ)(f:e.length=g.length)(h:0<=b.next)(i:b.next+t.ak7<=4000000000000000000):∃a c,eK FU b t e=some (a,c)/\NmR b c R a (t.sb σ) t.ak7:=ZT d FU b R e σ (by rw[fB];omega) he f VW h i
section
variable{L:List Fm} {Ts:List Tm} {g:List Ty} {hs:List Fm}
def ZD:Nat->List Tm
 |0=>[]|n+1=>mL (ZD n)++[kB 0]
theorem Ea:∀n,(ZD n).length=n
 |0=>rfl|n+1=>by rw[ZD,ni,Mo,Ea n];rfl
def RU:∀(n i:Nat),i<n->(ZD n).getD (n-1-i) Tm.z=kB i
 |0,_,h=>by omega|n+1,0,_=>by grind[ZD,FH,Mo,Ea]|n+1,i+1,h=>by
  rw[ZD,show n+1-1-(i+1)=n-1-i by omega,L3 _ _ _ _ (by rw[Mo,Ea];omega)];unfold mL;rw[getD_map _ _ _ Tm.z _ (by rw[Ea];omega),RU n i VW,V9,dR VW];rfl
def acu{g:List Ty}{t:Tm}{s:Ty}(h:ef g t s):t.sb (ZD g.length)=t:=by
 induction h with
 |@var g t i a c=>rw[FI,Ea,RU _ _ a];rfl|@lam g s b t he _ ih=>
  rw[P_];rw[ni,Rt] at ih;have:(ZD g.length).map (Tm.up 0 1)++[kB 0]=ZD (g.length+1):=rfl;rw[this,ih]
 |app _ _ i1 i2=>rw[J5 _ _ _ _ aak aak,i1,i2]|zero=>grind[QB]|succ _ i1=>rw[QP _ _ _ aak aak,i1]|rZ he _ _ _ i1 i2 i3=>rw[Vc _ _ _ _ _ aak aak,i1,i2,i3]|nil=>rw[QB _ _ aak aak]|cons _ _ i1 i2=>rw[J5 _ _ _ _ aak aak,i1,i2]|fold he _ _ _ i1 i2 i3=>rw[Vc _ _ _ _ _ aak aak,i1,i2,i3]|pair he _ _ i1 i2=>rw[J5 _ _ _ _ aak aak,i1,i2]|fst _ i1=>rw[QP _ _ _ aak aak,i1]|snd _ i1=>rw[QP _ _ _ aak aak,i1]|unit=>rw[QB _ _ aak aak]
def adT{i:Int}(l:0<=i)(o:i<(hs.length:Int))(q:hs.length<=16):s5 L Ts g hs (.mk 1 i .z [] [] []):=by
 refine s5.of (r:=λσ τ=>some (τ.getD (τ.length-1-i.toNat) Tm.z)) (λσ τ=>rfl) ?_;intro n b R e η σ τ hn c d s a t f h j k u;obtain⟨a1,a2⟩:=a.2 (η.length-1-i.toNat) VW;have a3:=f.getD (η.length-1-i.toNat);refine⟨η.getD (η.length-1-i.toNat) Tm.z,0,b,?_,?_⟩
 ·have v:fA .i64 (fA .i64 (eA η) 1) i=((η.length-1-i.toNat:Nat):Int):=by
   grind[fM,fT]
  rw[Nb,dR aak]
  grind[dH,dW,fA,eA,gX,dI]
 ·rw[<-a.1]
  grind[Xh.Ho,Tm.z]
def ae1{i:Int}{s:Ty}(w:0<=i)(x:i.toNat<Ts.length)(j:ef [] (Ts.getD i.toNat Tm.z) s)(c:(Ts.getD i.toNat Tm.z).ak7<=4096):s5 L Ts g hs (.mk 2 i .z [] [] []):=by
 refine s5.of (r:=λσ τ=>some (Ts.getD i.toNat Tm.z)) (λσ τ=>rfl) ?_;intro n k R e η σ τ hn l d y A B C o q f D;have t:=(Pf.mk 2 i .z [] [] []).eM;obtain⟨u,v,q1,a⟩:=KQ j aa2 c (R:=R) (b:=k) .nil rfl f VW;have h:(Ts.getD i.toNat Tm.z).sb []=Ts.getD i.toNat Tm.z:=acu j;rw[h] at a;have:=a.lo;have:=a.hi
 have hg:dW Ts i=some (Ts.getD i.toNat Tm.z):=by grind[gX]
 refine⟨u,0,v,?_,.Ho a.mm a.pW VW VW a.nm a.le VW⟩;rw[Nb,dK aak,dR aak,d,hg,dI,q1,dQ]
def Zb{a b:Pf}{x y:Fm}{m n:Nat}(w:Dv L g hs a x m)(A:Dv L g hs b y n)(s:uR L ⟨g,hs⟩)(hw:(Pf.mk 3 0 .z [] [] [a,b]).wt<=1000000000)(he:(Pf.mk 3 0 .z [] [] [a,b]).err=0)(Z:(x.has||y.has)=true)
  (i1:x.has=true->s5 L Ts g hs a) (i2:y.has=true->s5 L Ts g hs b):s5 L Ts g hs (.mk 3 0 .z [] [] [a,b]):=by
 obtain⟨O,P,Q,S,I⟩:=u6 hw he;simp only[ei] at I;refine s5.of (r:=λσ τ=>if x.has then(a.ex L Ts g hs σ τ).bind λu=>if y.has then(b.ex L Ts g hs σ τ).bind λv=>some (.mk 10 0 .z [u,v])else some u else b.ex L Ts g hs σ τ) (λσ τ=>by rw[abp,w.inf s,A.inf s,vy,vy]) ?_;intro n J R e η σ τ hn f h B C D F i j k T;rw[I] at hn T|-;have f1:=CY w s O P f e η;have f2:=CY A s Q S f e η;rw[Nb,dK aak,dK aak,dR aak,show dW [a,b] 0=some a from rfl,dI,f1,dQ,Ba w.hg,dI,show dW [a,b] 1=some b from rfl,dI,f2,dQ,Ba A.hg,dI]
 by_cases l:x.has=true
 ·rw[dR l];simp only[dR l];obtain⟨t1,e1,U,q1,c⟩:=i1 l n J R e η σ τ VW f h B C D F i j k VW;rw[q1,gz];have l1:=c.lo;have l2:=c.hi;cases K:a.ex L Ts g hs σ τ with
  |none=>
   obtain rfl:=c.no K;rw[ajS,dR rfl];exact⟨_,_,_,rfl,.bad c.mm c.pW VW VW⟩
  |some d1=>
   obtain⟨rfl,M,N,y3⟩:=c.yes d1 K;rw[ajj,Em]
   by_cases t:y.has=true
   ·rw[t,dK aak,dR rfl];obtain⟨t2,V,W,G,o⟩:=i2 t n U R e η σ τ VW (c.mm.trans f) (c.pW.trans h) (B.mono VW) (C.mono VW) D F i j VW VW;have l3:=o.lo;have l4:=o.hi;rw[G,gz,Gi,dI];exact⟨_,_,_,rfl,o.fin c.mm c.pW VW VW λd X z2 z3=>⟨.n2 aak aak M X,q8 VW (ky N VW) z2,by rw[nd2];omega⟩⟩
   ·have H:y.has=false:=by cases Y:y.has<;>simp_all
    rw[H,dR aak,dK aak];exact⟨_,_,_,rfl,.Ho c.mm c.pW VW VW M N VW⟩
 ·rw[dK l];simp only[dK l]
  have t:y.has=true:=by cases Y:x.has<;>simp_all
  obtain⟨t2,V,W,G,o⟩:=i2 t n J R e η σ τ VW f h B C D F i j k VW;rw[G,gz];exact⟨_,_,_,rfl,o.q VW⟩
def Zx{F:Fm}{a:Pf}(C:uR L ⟨g,hs⟩)(hF:Hg g F)(hw:(Pf.mk 6 0 .z [] [F] [a]).wt<=1000000000)(he:(Pf.mk 6 0 .z [] [F] [a]).err=0)(i1:s5 L Ts g (hs++[F]) a):s5 L Ts g hs (.mk 6 0 .z [] [F] [a]):=by
 obtain⟨I,J,t⟩:=sH hw he;simp only[ei] at t;have D:hs.length<=16:=C.nh;refine s5.of (r:=λσ τ=>if F.has then KX F λu=>(a.ex L Ts g (hs++[F]) (mL σ) (mL τ++[kB 0])).bind λx=>some (.mk 2 0 u [x])else a.ex L Ts g (hs++[F]) σ (τ++[Tm.z])) (λσ τ=>rfl) ?_;intro n c R e η σ τ hn h i v w y A j k f G;rw[t] at hn G|-;rw[Nb,dK aak,dK aak,dK aak,dK aak,dR aak,show dW [F] 0=some F from rfl,dI,Ba hF,dI]
 by_cases o:F.has=true
 ·rw[dR o,Fk hF,dQ];simp only[dR o];rcases BI hF with hc|hc
  ·rw[hc,dK nz,p4 c f VW,dQ,Ch,dI,rB F _ (by show hs.length<=_;omega) VW,dI,show dW [a] 0=some a from rfl,dI,FD hc];obtain⟨t1,B,s,q1,l⟩:=i1 n ⟨c.lemmas,c.eh,c.next+1⟩ ((c.next+1)::R) e (η++[.mk 1 (c.next+1) .z []]) (mL σ) (mL τ++[kB 0]) VW h i ((v.up VW).mono (by show _<=c.next+1;omega)) (w.new VW) y.up A.var j (by simp[k]) (by show 0<=c.next+1;omega) (by show c.next+1+_<=_;omega)
   have K:c.next+1<=s.next:=l.lo
   have M:s.next<=c.next+1+_:=l.hi
   rw[q1,gz,Bg,dI];exact⟨_,_,_,rfl,l.fin (b:=c) rfl rfl (by show c.next<=c.next+1;omega) VW λd H z2 z3=>⟨.lam H,lv VW z2,by rw[PJ];omega⟩⟩
  ·rw[hc,dR aak,BA (by rw[hc];decide)];exact⟨_,_,_,rfl,.bad rfl rfl VW VW⟩
 ·rw[dK o,rB F _ (by show hs.length<=_;omega) VW,dI,show dW [a] 0=some a from rfl,dI];simp only[dK o];obtain⟨t1,B,s,q1,l⟩:=i1 n c R e (η++[Tm.z]) σ (τ++[Tm.z]) VW h i v (w.add .zero (HY f)) y (A.add aak) j (by simp[k]) f VW;refine⟨t1,B,s,?_,l.q VW⟩;rw[show(Tm.mk 0 0 (Ty.mk 0 []) [])=Tm.z from rfl];show eZ (ed n c ⟨⟨g,hs++[F]⟩,e,η++[Tm.z]⟩ a) _=_;rw[q1,gz]
def VK{k q:Int}(j:k=4/\q=11\/k=5/\q=12){a:Pf}{x y:Fm}{m:Nat}(l:Dv L g hs a (.mk 2 .z [] [x,y]) m)(J:Hg g x)(K:Hg g y)(o:uR L ⟨g,hs⟩)(hw:(Pf.mk k 0 .z [] [] [a]).wt<=1000000000)(he:(Pf.mk k 0 .z [] [] [a]).err=0)(i1:s5 L Ts g hs a):s5 L Ts g hs (.mk k 0 .z [] [] [a]):=by
 obtain⟨M,N,F⟩:=sH hw he;simp only[ei] at F
 refine s5.of (r:=λσ τ=>(a.ex L Ts g hs σ τ).bind λu=>some (if x.has=true/\y.has then .mk q 0 .z [u] else u)) (λσ τ=>by
  rcases j with⟨rfl,rfl⟩|⟨rfl,rfl⟩
  ·rw[Zz,l.inf o,vy];rfl
  ·rw[aax,l.inf o,vy];rfl) ?_
 intro n O R e η σ τ hn i s P Q S T t v w U;rw[F] at hn U|-;have f1:=CY l o M N i e η;obtain⟨t1,V,G,q1,b⟩:=i1 n O R e η σ τ VW i s P Q S T t v w VW;have W:=b.lo;have X:=b.hi
 have A:fv (eo k 4) true (eo k 5)=true:=by rcases j with⟨rfl,_⟩|⟨rfl,_⟩<;>decide
 have B:fv (eo k 5) (12:Int) 11=q:=by rcases j with⟨rfl,rfl⟩|⟨rfl,rfl⟩<;>decide
 have H:q≠1/\q≠2:=VW
 have f:¬eo k 1=true/\¬eo k 2=true/\¬eo k 3=true:=by rcases j with⟨rfl,_⟩|⟨rfl,_⟩<;>decide
 rw[Nb,dK f.1,dK f.2.1,dK f.2.2,dR A,show dW [a] 0=some a from rfl,dI,f1,dQ,q1,gz,B];simp only[eg,show(Fm.mk 2 .z [] [x,y]).ak6=[x,y] from rfl,show dW [x,y] 0=some x from rfl,show dW [x,y] 1=some y from rfl,dI,Ba J,Ba K,Gi];cases I:a.ex L Ts g hs σ τ with
 |none=>
  obtain rfl:=b.no I;rw[dK aak,dK aak];exact⟨_,_,_,rfl,.bad b.mm b.pW VW VW⟩
 |some d1=>
  obtain⟨rfl,C,D,y3⟩:=b.yes d1 I;rw[dR aak,Em]
  by_cases c:x.has=true
  ·rw[dR c]
   by_cases d:y.has=true
   ·rw[dR d,dR ⟨c,d⟩];exact⟨_,_,_,rfl,.Ho b.mm b.pW VW VW (.n1 H.1 H.2 C) (BE VW D) (by rw[PJ];omega)⟩
   ·rw[dK d,dK (λh=>d h.2)];refine⟨t1,0,G,?_,.Ho b.mm b.pW VW VW C D VW⟩;rw[Ty.gE,Tm.gE]
  ·rw[dK c,dK aak,dK (λh=>c h.1)];refine⟨t1,0,G,?_,.Ho b.mm b.pW VW VW C D VW⟩;rw[Ty.gE,Tm.gE]
def aaG{a b:Pf}{x y:Fm}{m:Nat}(s:Dv L g hs a (.mk 3 .z [] [x,y]) m)(I:Hg g x)(t:uR L ⟨g,hs⟩)(hw:(Pf.mk 7 0 .z [] [] [a,b]).wt<=1000000000)(he:(Pf.mk 7 0 .z [] [] [a,b]).err=0)
  (i1:s5 L Ts g hs a) (i2:x.has=true->s5 L Ts g hs b):s5 L Ts g hs (.mk 7 0 .z [] [] [a,b]):=by
 obtain⟨J,K,S,T,w⟩:=u6 hw he;simp only[ei] at w;refine s5.of (r:=λσ τ=>(a.ex L Ts g hs σ τ).bind λu=>if x.has then(b.ex L Ts g hs σ τ).bind λv=>some (gC u v)else some u) (λσ τ=>by rw[ZX,s.inf t,vy];rfl) ?_;intro n M R e η σ τ hn h i A B C D j k l N;rw[w] at hn N|-;obtain⟨t1,U,O,q1,c⟩:=i1 n M R e η σ τ VW h i A B C D j k l VW;have V:=c.lo;have W:=c.hi;have f1:=CY s t J K (c.mm.trans h) e η;rw[Nb,dK aak,dK aak,dK aak,dK aak,dK aak,dR aak,show dW [a,b] 0=some a from rfl,dI,q1,gz];simp only[eg,f1,dQ,show(Fm.mk 3 .z [] [x,y]).ak6=[x,y] from rfl,show dW [x,y] 0=some x from rfl,dI,Ba I,show dW [a,b] 1=some b from rfl];cases F:a.ex L Ts g hs σ τ with
 |none=>
  obtain rfl:=c.no F;rw[dR aak,dR trivial];exact⟨_,_,_,rfl,.bad c.mm c.pW VW VW⟩
 |some d1=>
  obtain⟨rfl,G,H,y3⟩:=c.yes d1 F;rw[dK nz,Em]
  by_cases f:x.has=true
  ·rw[dR f,dK (by rw[f];decide)];obtain⟨t2,X,Y,P,o⟩:=i2 f n O R e η σ τ VW (c.mm.trans h) (c.pW.trans i) (A.mono VW) (B.mono VW) C D j k VW VW;have Z:=o.lo;have l4:=o.hi;rw[P,gz,Lm,dI];exact⟨_,_,_,rfl,o.fin c.mm c.pW VW VW λd Q z2 z3=>⟨.n2 aak aak G Q,q8 VW (ky H VW) z2,by rw[ndA];omega⟩⟩
  ·have q:x.has=false:=by cases hh:x.has<;>simp_all
   rw[dK f,q,dR aak];exact⟨_,_,_,rfl,.Ho c.mm c.pW VW VW G H VW⟩
def Zy{s:Ty}{a:Pf}(o:uR L ⟨g,hs⟩)(hw:(Pf.mk 8 0 s [] [] [a]).wt<=1000000000)(he:(Pf.mk 8 0 s [] [] [a]).err=0)(i1:s5 L Ts (g++[s]) (hs.map (Fm.up 0 1)) a):s5 L Ts g hs (.mk 8 0 s [] [] [a]):=by
 obtain⟨C,D,q⟩:=sH hw he;simp only[ei] at q;have hg:=uF o;refine s5.of (r:=λσ τ=>(a.ex L Ts (g++[s]) (hs.map (Fm.up 0 1)) (mL σ++[kB 0]) (mL τ)).bind λx=>some (.mk 2 0 s [x])) (λσ τ=>rfl) ?_;intro n c R e η σ τ hn f h u v w y i j k A;rw[q] at hn A|-;rw[Nb,dK aak,dK aak,dK aak,dK aak,dK aak,dK aak,dR aak,p4 c k VW,dQ,Ch,dI,uA o s _ e η VW,dI,show dW [a] 0=some a from rfl,dI];obtain⟨t1,F,t,q1,l⟩:=i1 n ⟨c.lemmas,c.eh,c.next+1⟩ ((c.next+1)::R) (e++[.mk 1 (c.next+1) .z []]) η (mL σ++[kB 0]) (mL τ) VW f h (u.new VW) ((v.up VW).mono (by show _<=c.next+1;omega)) w.var y.up (by simp[i]) (by simp[j]) (by show 0<=c.next+1;omega) (by show c.next+1+_<=_;omega)
 have G:c.next+1<=t.next:=l.lo
 have H:t.next<=c.next+1+_:=l.hi
 rw[q1,gz,Bg,dI];exact⟨_,_,_,rfl,l.fin (b:=c) rfl rfl (by show c.next<=c.next+1;omega) VW λd B z2 z3=>⟨.lam B,lv VW z2,by rw[PJ];omega⟩⟩
def OT{s:Ty}(d:s.err=0)(b:dT)(R:List Int)(h:0<=b.next)(i:b.next+64<=4000000000000000000):∃a c,eK FU b (IH s) []=some (a,c)/\NmR b c R a (IH s) 64:=by
 obtain⟨_,f,j⟩:=Fx d;obtain⟨a,c,q,r⟩:=KQ (f []) aa2 VW (R:=R) (b:=b) .nil rfl h VW;have e:(IH s).sb []=IH s:=acu (f []);rw[e] at r;exact⟨a,c,q,r.mm,r.pW,r.lo,by have:=r.hi;omega,r.nm,r.le⟩
def V1{s:Ty}{a:Pf}(b:s.err=0)(k:uR L ⟨g,hs⟩)(hw:(Pf.mk 12 0 s [] [] [a]).wt<=1000000000)(he:(Pf.mk 12 0 s [] [] [a]).err=0)(i1:s5 L Ts (g++[s]) (hs.map (Fm.up 0 1)) a):s5 L Ts g hs (.mk 12 0 s [] [] [a]):=by
 obtain⟨B,C,l⟩:=sH hw he;simp only[ei] at l;have hg:=uF k;refine s5.of (r:=λσ τ=>a.ex L Ts (g++[s]) (hs.map (Fm.up 0 1)) (σ++[IH s]) τ) (λσ τ=>rfl) ?_;intro n o R e η σ τ hn d f t u v w h i j x;rw[l] at hn x|-;obtain⟨y,A,q,r⟩:=OT b o R j VW;have D:=r.lo;have F:=r.hi;rw[Nb,dK aak,dK aak,dK aak,dK aak,dK aak,dK aak,dK aak,dK aak,dK aak,dK aak,dR aak,LB b,dI,q,dQ,uA k s _ e η VW,dI,show dW [a] 0=some a from rfl,dI];obtain⟨t1,G,H,q1,c⟩:=i1 n A R (e++[y]) η (σ++[IH s]) τ VW (r.mm.trans d) (r.pW.trans f) ((t.mono VW).add r.nm r.le) (u.mono VW) (v.add (Fx b).2.2) w (by simp[h]) (by simp[i]) VW VW;have I:=c.lo;have J:=c.hi;rw[q1,gz];have:=c.q (k':=10000*a.ak7) (gY _);exact⟨_,_,_,rfl,c.mm.trans r.mm,c.pW.trans r.pW,VW,VW,this.yes,this.no⟩
def afb{t:Tm}{s:Ty}{a:Pf}(A:ef g t s)(i:t.ak7<=4096)(B:uR L ⟨g,hs⟩)(hw:(Pf.mk 9 0 .z [t] [] [a]).wt<=1000000000)(he:(Pf.mk 9 0 .z [t] [] [a]).err=0)(i1:s5 L Ts g hs a):s5 L Ts g hs (.mk 9 0 .z [t] [] [a]):=by
 obtain⟨O,P,q⟩:=sH hw he;simp only[ei] at q;have hg:=uF B;refine s5.of (r:=λσ τ=>(a.ex L Ts g hs σ τ).bind λx=>some (gC x (t.sb σ))) (λσ τ=>rfl) ?_;intro n v R e η σ τ hn j k w C y D h l o F;rw[q] at hn F|-;obtain⟨t1,Q,G,q1,b⟩:=i1 n v R e η σ τ VW j k w C y D h l o VW;have S:=b.lo;have T:=b.hi;obtain⟨u,U,H,c⟩:=KQ A hg i (w.mono (by omega:v.next<=G.next)) h VW VW;have V:=c.lo;have W:=c.hi;have I:=E0 t y;rw[Nb,dK aak,dK aak,dK aak,dK aak,dK aak,dK aak,dK aak,dR aak,show dW [a] 0=some a from rfl,dI,q1,gz,show dW [t] 0=some t from rfl,dI,H,dQ,Lm,dI];refine⟨_,_,_,rfl,c.mm.trans b.mm,c.pW.trans b.pW,VW,VW,λd f=>?_,λf=>?_⟩
 ·obtain⟨x,J,f⟩:=Oh f;obtain rfl:=kR f;obtain⟨rfl,K,M,y3⟩:=b.yes x J;exact⟨rfl,.n2 aak aak K c.nm,q8 VW (ky M VW) c.le,by rw[ndA];omega⟩
 ·refine b.no ?_;cases N:a.ex L Ts g hs σ τ with
  |none=>rfl|some x=>rw[N] at f;cases f
def aaB{t:Tm}{s:Ty}{x:Fm}{a:Pf}(w:ef g t s)(h:t.ak7<=4096)(A:Hg (g++[s]) x)(B:uR L ⟨g,hs⟩)(hw:(Pf.mk 10 0 .z [t] [.mk 5 s [] [x]] [a]).wt<=1000000000)(he:(Pf.mk 10 0 .z [t] [.mk 5 s [] [x]] [a]).err=0)(i1:x.has=true->s5 L Ts g hs a):s5 L Ts g hs (.mk 10 0 .z [t] [.mk 5 s [] [x]] [a]):=by
 obtain⟨M,N,o⟩:=sH hw he;simp only[ei] at o;have hg:=uF B;refine s5.of (r:=λσ τ=>if x.has then(a.ex L Ts g hs σ τ).bind λy=>some (.mk 10 0 .z [t.sb σ,y])else some (t.sb σ)) (λσ τ=>rfl) ?_;intro n O R e η σ τ hn i j q C v D f k F G;rw[o] at hn G|-;obtain⟨u,H,I,b⟩:=KQ w hg h q f VW VW;have P:=b.lo;have Q:=b.hi;have J:=E0 t v;rw[Nb,dK aak,dK aak,dK aak,dK aak,dK aak,dK aak,dK aak,dK aak,dR aak,show dW [t] 0=some t from rfl,dI,I,dQ,show dW [Fm.mk 5 s [] [x]] 0=some (.mk 5 s [] [x])from rfl,dI,show dW (Fm.mk 5 s [] [x]).ak6 0=some x from rfl,dI,Ba A,dI]
 by_cases c:x.has=true
 ·rw[dR c,show dW [a] 0=some a from rfl,dI];simp only[dR c];obtain⟨t1,S,T,q1,l⟩:=i1 c n H R e η σ τ VW (b.mm.trans i) (b.pW.trans j) (q.mono VW) (C.mono VW) v D f k VW VW;have U:=l.lo;have V:=l.hi;rw[q1,gz,Gi,dI];exact⟨_,_,_,rfl,l.fin b.mm b.pW VW VW λd K z2 z3=>⟨.n2 aak aak b.nm K,q8 VW (ky b.le VW) z2,by rw[nd2];omega⟩⟩
 ·rw[dK c];simp only[dK c];exact⟨_,_,_,rfl,.Ho b.mm b.pW VW VW b.nm b.le VW⟩
def Xr{s:Ty}{a b:Pf}{x:Fm}{m:Nat}(G:Dv L g hs a (.mk 5 s [] [x]) m)(hx:Hg (g++[s]) x)(B:uR L ⟨g,hs⟩)(hw:(Pf.mk 11 0 .z [] [] [a,b]).wt<=1000000000)(he:(Pf.mk 11 0 .z [] [] [a,b]).err=0)
  (i1:s5 L Ts g hs a) (i2:s5 L Ts (g++[s]) (hs.map (Fm.up 0 1)++[x]) b):s5 L Ts g hs (.mk 11 0 .z [] [] [a,b]):=by
 obtain⟨wa,ea,wb,eb,T⟩:=u6 hw he;simp only[ei] at T;have hg:=uF B;have ad:hs.length<=16:=B.nh
 refine s5.of (r:=λσ τ=>(a.ex L Ts g hs σ τ).bind λu=>
  if x.has then KX (.mk 5 s [] [x]) λw=>(b.ex L Ts (g++[s]) (hs.map (Fm.up 0 1)++[x]) (mL σ++[.mk 11 0 .z [kB 0]]) (mL τ++[.mk 12 0 .z [kB 0]])).bind λy=>some (gC (.mk 2 0 w [y]) u)
  else(b.ex L Ts (g++[s]) (hs.map (Fm.up 0 1)++[x]) (mL σ++[kB 0]) (mL τ++[Tm.z])).bind λy=>some (gC (.mk 2 0 s [y]) u)) (λσ τ=>by rw[NJ,G.inf B,vy];rfl) ?_
 intro n o R e η σ τ hn q C U V W X D F I hb;rw[T] at hn hb|-;have f1:=CY G B wa ea q e η;obtain⟨t1,e1,c,q1,f⟩:=i1 n o R e η σ τ VW q C U V W X D F I VW;have Y:=f.lo;have l2:=f.hi;rw[Nb,dK aak,dK aak,dK aak,dK aak,dK aak,dK aak,dK aak,dK aak,dK aak,dR aak,show dW [a,b] 0=some a from rfl,dI,f1,dQ,q1,gz];cases Z:a.ex L Ts g hs σ τ with
 |none=>
  obtain rfl:=f.no Z;rw[dR aak];exact⟨_,_,_,rfl,.bad f.mm f.pW VW VW⟩
 |some d1=>
  obtain⟨rfl,y1,y2,y3⟩:=f.yes d1 Z;have k:=λv:Tm=>uA B s v e η VW
  have h:=λ(J K M N:Tm) (O:z' ((c.next+1)::R) J M) (P:z' ((c.next+1)::R) K N) (k1:J.ak' (c.next+1)=true) (k2:K.ak' (c.next+1)=true) (m1:M.ak7<=64) (m2:N.ak7<=64)=>
   i2 n ⟨c.lemmas,c.eh,c.next+1⟩ ((c.next+1)::R) (e++[J]) (η++[K]) (mL σ++[M]) (mL τ++[N]) VW (f.mm.trans q) (f.pW.trans C)
    ((((U.mono Y).up (v:=c.next+1) VW).mono (by show _<=c.next+1;omega)).add O k1) ((((V.mono Y).up (v:=c.next+1) VW).mono (by show _<=c.next+1;omega)).add P k2) (W.up.add m1) (X.up.add m2) (by simp[D]) (by simp[F]) (by show 0<=c.next+1;omega) (by show c.next+1+_<=_;omega)
  rw[dK nz,p4 c VW VW,dQ,Ch,dI,Em,eg,show dW (Fm.mk 5 s [] [x]).ak6 0=some x from rfl,dI,Ba hx,dI];have i:z' ((c.next+1)::R) (.mk 1 (c.next+1) .z []) (kB 0):=.var .here;have t:(Tm.mk 1 (c.next+1) .z []).ak' (c.next+1)=true:=BU (Ke _)
  by_cases j:x.has=true
  ·rw[dR j,dR j,Fk G.hg,dQ];rcases BI G.hg with hc|hc
   ·rw[hc,dK nz,FD hc,dI,Gi,dI,dI,Gi,dI];obtain⟨t2,H,l,Q,A⟩:=h (.mk 11 0 .z [.mk 1 (c.next+1) .z []]) (.mk 12 0 .z [.mk 1 (c.next+1) .z []]) (.mk 11 0 .z [kB 0]) (.mk 12 0 .z [kB 0]) (.n1 aak aak i) (.n1 aak aak i) (BE VW t) (BE VW t) aak aak
    have l3:c.next+1<=l.next:=A.lo
    have l4:l.next<=c.next+1+_:=A.hi
    refine⟨gC (.mk 2 (c.next+1) (Fm.mk 5 s [] [x]).J0.1 [t2]) t1,H,l,?_,A.fin (b:=o) f.mm f.pW (by show o.next<=c.next+1;omega) VW λd S z2 z3=>⟨.n2 aak aak (.lam S) y1,q8 VW (lv VW z2) (ky y2 VW),by rw[ndA,PJ];omega⟩⟩;show dH (hY ⟨⟨g,hs⟩,e,η⟩ s (.mk 11 0 .z [.mk 1 (c.next+1) .z []])) _=_;rw[k,dI,dI,rB x _ acx VW,dI,show dW [a,b] 1=some b from rfl,dI];show eZ (ed n ⟨c.lemmas,c.eh,c.next+1⟩ ⟨⟨g++[s],hs.map (Fm.up 0 1)++[x]⟩,e++[.mk 11 0 .z [.mk 1 (c.next+1) .z []]],η++[.mk 12 0 .z [.mk 1 (c.next+1) .z []]]⟩ b) _=_;rw[Q,gz,Bg,dI,Lm,dI,Ty.gE]
   ·rw[hc,dR aak,BA (by rw[hc];decide)];exact⟨_,_,_,rfl,.bad (b:=o) f.mm f.pW (by show o.next<=c.next+1;omega) (by show c.next+1<=_;omega)⟩
  ·rw[dK j,dK j];obtain⟨t2,H,l,Q,A⟩:=h (.mk 1 (c.next+1) .z []) Tm.z (kB 0) Tm.z i .zero t (HY VW) aak aak
   have l3:c.next+1<=l.next:=A.lo
   have l4:l.next<=c.next+1+_:=A.hi
   refine⟨gC (.mk 2 (c.next+1) s [t2]) t1,H,l,?_,A.fin (b:=o) f.mm f.pW (by show o.next<=c.next+1;omega) VW λd S z2 z3=>⟨.n2 aak aak (.lam S) y1,q8 VW (lv VW z2) (ky y2 VW),by rw[ndA,PJ];omega⟩⟩;show dH (hY ⟨⟨g,hs⟩,e,η⟩ s (.mk 1 (c.next+1) .z [])) _=_;rw[k,dI,dI,rB x _ acx VW,dI,show dW [a,b] 1=some b from rfl,dI];show eZ (ed n ⟨c.lemmas,c.eh,c.next+1⟩ ⟨⟨g++[s],hs.map (Fm.up 0 1)++[x]⟩,e++[.mk 1 (c.next+1) .z []],η++[Tm.z]⟩ b) _=_;rw[Q,gz,Bg,dI,Lm,dI];exact congrArg (λz=>some (gC (Tm.mk 2 (c.next+1) z [t2]) t1,H,l)) (Ty.gE s)
def Vx{s:Ty}{a b:Pf}{x:Fm}{m:Nat}(h:s.err=0)(B:Dv L g hs a (.mk 7 s [] [x]) m)(hx:Hg (g++[s]) x)(A:uR L ⟨g,hs⟩)(hw:(Pf.mk 15 0 .z [] [] [a,b]).wt<=1000000000)(he:(Pf.mk 15 0 .z [] [] [a,b]).err=0)
  (i1:x.has=true->s5 L Ts g hs a) (i2:s5 L Ts (g++[s]) (hs.map (Fm.up 0 1)++[x]) b):s5 L Ts g hs (.mk 15 0 .z [] [] [a,b]):=by
 obtain⟨T,U,wb,eb,N⟩:=u6 hw he;simp only[ei] at N;have hg:=uF A;have V:hs.length<=16:=A.nh;have O:(Fm.mk 7 s [] [x]).has=x.has:=AG (.inr (.inr rfl)) _ _ _
 refine s5.of (r:=λσ τ=>if x.has then(a.ex L Ts g hs σ τ).bind λu=>KX (.mk 7 s [] [x]) λw=>(b.ex L Ts (g++[s]) (hs.map (Fm.up 0 1)++[x]) (mL σ++[IH s]) (mL τ++[kB 0])).bind λy=>some (gC (.mk 2 0 w [y]) u)
  else b.ex L Ts (g++[s]) (hs.map (Fm.up 0 1)++[x]) (σ++[IH s]) (τ++[Tm.z])) (λσ τ=>by rw[Vs,B.inf A,vy,O];rfl) ?_
 intro n C R e η σ τ hn j l F G H I o t J W;rw[N] at hn W|-;have f1:=CY B A T U j e η;obtain⟨P,Q,q,r⟩:=OT h C R J VW;have l1:=r.lo;have l2:=r.hi
 rw[Nb,dK aak,dK aak,dK aak,dK aak,dK aak,dK aak,dK aak,dK aak,dK aak,dK aak,dK aak,dR aak,show dW [a,b] 0=some a from rfl,dI,f1,dQ,show(Fm.mk 7 s [] [x]).dM=s from rfl,LB h,dI,q,dQ,Ba B.hg,dI,O]
 by_cases i:x.has=true
 ·rw[dR i];simp only[dR i];obtain⟨t1,e1,c,q1,f⟩:=i1 i n Q R e η σ τ VW (r.mm.trans j) (r.pW.trans l) (F.mono VW) (G.mono VW) H I o t VW VW;have X:=f.lo;have Y:=f.hi;rw[q1,gz];cases S:a.ex L Ts g hs σ τ with
  |none=>
   obtain rfl:=f.no S;rw[dR aak];exact⟨_,_,_,rfl,.bad (f.mm.trans r.mm) (f.pW.trans r.pW) VW VW⟩
  |some d1=>
   obtain⟨rfl,Z,y2,y3⟩:=f.yes d1 S;rw[dK nz,Fk B.hg,dQ,Em];rcases BI B.hg with hc|hc
   ·rw[hc,dK nz,FD hc,p4 c VW VW,dQ,uA A s _ e η VW,dI,show dW (Fm.mk 7 s [] [x]).ak6 0=some x from rfl,dI,Ch,dI,rB x _ acx VW,dI,show dW [a,b] 1=some b from rfl,dI]
    obtain⟨t2,K,D,M,k⟩:=i2 n ⟨c.lemmas,c.eh,c.next+1⟩ ((c.next+1)::R) (e++[P]) (η++[.mk 1 (c.next+1) .z []]) (mL σ++[IH s]) (mL τ++[kB 0]) VW (f.mm.trans (r.mm.trans j)) (f.pW.trans (r.pW.trans l))
     ((((F.mono (by omega:C.next<=c.next)).up (v:=c.next+1) VW).mono (by show _<=c.next+1;omega)).add (by have:=r.nm.up (v:=c.next+1) VW r.le;rwa [aeS h (Ke 0)] at this) (ky r.le (by show _<=c.next+1;omega)))
     ((G.mono (by omega:C.next<=c.next)).new VW) (H.up.add (Fx h).2.2) I.var (by simp[o]) (by simp[t]) (by show 0<=c.next+1;omega) (by show c.next+1+_<=_;omega)
    have l5:c.next+1<=D.next:=k.lo
    have l6:D.next<=c.next+1+_:=k.hi
    refine⟨gC (.mk 2 (c.next+1) (Fm.mk 7 s [] [x]).J0.1 [t2]) t1,K,D,?_,k.fin (b:=C) (f.mm.trans r.mm) (f.pW.trans r.pW) (by show C.next<=c.next+1;omega) VW λd z1 z2 z3=>⟨.n2 aak aak (.lam z1) Z,q8 VW (lv VW z2) (ky y2 VW),by rw[ndA,PJ];omega⟩⟩
    refine(congrArg (eZ · _) M).trans ?_
    rw[gz,Bg,dI,Lm,dI]
   ·rw[hc,dR aak,BA (by rw[hc];decide)];exact⟨_,_,_,rfl,.bad (f.mm.trans r.mm) (f.pW.trans r.pW) VW VW⟩
 ·rw[dK i,uA A s _ e η VW,dI,show dW (Fm.mk 7 s [] [x]).ak6 0=some x from rfl,dI,rB x _ acx VW,dI,show dW [a,b] 1=some b from rfl,dI];simp only[dK i];obtain⟨t2,K,D,M,k⟩:=i2 n Q R (e++[P]) (η++[Tm.z]) (σ++[IH s]) (τ++[Tm.z]) VW (r.mm.trans j) (r.pW.trans l) ((F.mono VW).add r.nm r.le) ((G.mono VW).add .zero (HY VW)) (H.add (Fx h).2.2) (I.add aak) (by simp[o]) (by simp[t]) VW VW;have X:=k.lo;have Y:=k.hi;have:=k.q (k':=10000*b.ak7) (gY _);refine⟨t2,K,D,?_,k.mm.trans r.mm,k.pW.trans r.pW,VW,VW,this.yes,this.no⟩
  refine(congrArg (eZ · _) M).trans ?_
  rw[gz]
def TJ{s u:Ty}{a:Pf}{y:Fm}{m:Nat}(j:Dv L g hs a (.mk 4 s [] [.mk 5 u [] [y]]) m)(J:Hg (g++[s]++[u]) y)(C:uR L ⟨g,hs⟩)(hw:(Pf.mk 20 0 .z [] [] [a]).wt<=1000000000)(he:(Pf.mk 20 0 .z [] [] [a]).err=0)(i1:s5 L Ts g hs a):s5 L Ts g hs (.mk 20 0 .z [] [] [a]):=by
 obtain⟨K,M,D⟩:=sH hw he;simp only[ei] at D;refine s5.of (r:=λσ τ=>(a.ex L Ts g hs σ τ).bind λx=>if y.has then KX (.mk 4 s [] [.mk 5 u [] [y]]) λw=>some (gC (.mk 2 0 w [.mk 10 0 .z [.mk 2 0 s [.mk 11 0 .z [gC (kB 1) (kB 0)]],.mk 2 0 s [.mk 12 0 .z [gC (kB 1) (kB 0)]]]]) x)else some x) (λσ τ=>by rw[SP,j.inf C,vy];rfl) ?_;intro n l R e η σ τ hn i o N O P Q q t A S;rw[D] at hn S|-;obtain⟨t1,V,c,q1,d⟩:=i1 n l R e η σ τ VW i o N O P Q q t A VW;have W:=d.lo;have X:=d.hi;have f1:=CY j C K M (d.mm.trans i) e η;rw[Nb,dK aak,dK aak,dK aak,dK aak,dK aak,dK aak,dK aak,dK aak,dK aak,dK aak,dK aak,dK aak,dK aak,dK aak,dR aak,show dW [a] 0=some a from rfl,dI,q1,gz,f1,dQ];simp only[eg];cases F:a.ex L Ts g hs σ τ with
 |none=>
  obtain rfl:=d.no F;rw[dR aak,dR trivial];exact⟨_,_,_,rfl,.bad d.mm d.pW VW VW⟩
 |some d1=>
  obtain⟨rfl,G,H,y3⟩:=d.yes d1 F;rw[dK nz,Em,show dW (Fm.mk 4 s [] [.mk 5 u [] [y]]).ak6 0=some (.mk 5 u [] [y])from rfl,dI,show dW (Fm.mk 5 u [] [y]).ak6 0=some y from rfl,dI,Ba J,dI]
  by_cases f:y.has=true
  ·rw[dR f,show lJ y.has=false by rw[f];rfl,dK aak,Fk j.hg,dQ];rcases BI j.hg with hc|hc
   ·rw[hc,dK nz,FD hc,p4 c VW VW,dQ,p4 _ (by show 0<=c.next+1;omega) (by show c.next+1<=_;omega),dQ,p4 _ (by show 0<=c.next+1+1;omega) (by show c.next+1+1<=_;omega),dQ];simp only[Ch,Lm,Gi,Bg,dI];have T:z' ((c.next+1)::R) (.mk 1 (c.next+1) .z []) (kB 0):=.var .here
    have I:∀v:Int,c.next+1<v->z' (v::(c.next+1)::R) (gC (.mk 1 (c.next+1) .z []) (.mk 1 v .z [])) (gC (kB 1) (kB 0)):=λv U=>.n2 aak aak (.var (.next VW .here)) (.var .here)
    refine⟨_,_,_,rfl,Xh.Ho (b:=l) d.mm d.pW (by show l.next<=c.next+1+1+1;omega) (by show c.next+1+1+1<=_;omega)
     (.n2 aak aak (.lam (.n2 aak aak (.lam (.n1 aak aak (I _ VW))) (.lam (.n1 aak aak (I _ VW))))) G) ?_ ?_⟩
    ·have k:∀v:Int,v<=c.next+1+1+1->(Tm.mk 1 v .z []).ak' (c.next+1+1+1)=true:=λv h=>BU h
     refine q8 (by show 0<=c.next+1+1+1;omega) (lv (by show c.next+1<=c.next+1+1+1;omega) (q8 (by show 0<=c.next+1+1+1;omega) ?_ ?_)) (ky H (by show _<=c.next+1+1+1;omega))
     ·exact lv (by show c.next+1+1<=c.next+1+1+1;omega) (BE (by show 0<=c.next+1+1+1;omega) (q8 (by show 0<=c.next+1+1+1;omega) (k _ VW) (k _ VW)))
     ·exact lv (by show c.next+1+1+1<=c.next+1+1+1;omega) (BE (by show 0<=c.next+1+1+1;omega) (q8 (by show 0<=c.next+1+1+1;omega) (k _ VW) (k _ VW)))
    ·rw[ndA,PJ,nd2,PJ,PJ,PJ,PJ,ndA];have:(kB 1).ak7=1:=rfl;have:(kB 0).ak7=1:=rfl;omega
   ·rw[hc,dR aak,BA (by rw[hc];decide)];exact⟨_,_,_,rfl,.bad d.mm d.pW VW VW⟩
  ·have B:y.has=false:=by cases T:y.has<;>simp_all
   rw[dK f,show lJ y.has=true by rw[B];rfl,dR rfl];exact⟨_,_,_,rfl,.Ho d.mm d.pW VW VW G H VW⟩
def aeq(i:Int)(s:Ty)(ts:List Tm)(fs:List Fm)(l:List Pf)(u:Ty)(x y z:Tm):tp (.mk 16 i s ts fs l) u x y z=some (.mk 6 0 u [x,y,z]):=rfl
def adx(i:Int)(s:Ty)(ts:List Tm)(fs:List Fm)(l:List Pf)(u:Ty)(x y z:Tm):tp (.mk 17 i s ts fs l) u x y z=some (.mk 9 0 u [x,y,z]):=rfl
def U6{t:Tm}{F:Fm}{a b:Pf}(O:ef g t .nat)(q:t.ak7<=4096)(hF:Hg (g++[.nat]) F)(s:uR L ⟨g,hs⟩)(Y:g.length+1<=16)(hw:(Pf.mk 16 0 .z [t] [F] [a,b]).wt<=1000000000)(he:(Pf.mk 16 0 .z [t] [F] [a,b]).err=0)
  (i1:s5 L Ts g hs a) (i2:s5 L Ts (g++[.nat]) (hs.map (Fm.up 0 1)++[F]) b):s5 L Ts g hs (.mk 16 0 .z [t] [F] [a,b]):=by
 obtain⟨Z,ea,wb,eb,G⟩:=u6 hw he;simp only[ei] at G;have hg:=uF s;have P:hs.length<=16:=s.nh;refine s5.of (r:=λσ τ=>KX F λu=>(a.ex L Ts g hs σ τ).bind λx=>(b.ex L Ts (g++[.nat]) (hs.map (Fm.up 0 1)++[F]) (mL (mL σ++[kB 0])) (mL (mL τ)++[kB 0])).bind λy=>some (.mk 6 0 u [x,.mk 2 0 .nat [.mk 2 0 u [y]],t.sb σ])) (λσ τ=>rfl) ?_;intro n H R e η σ τ hn j l w I A J h o B Q;rw[G] at hn Q|-;obtain⟨n,rfl⟩:∃k,n=k+1:=⟨n-1,VW⟩;have S:=E0 t A;rw[Nb,dK aak,dK aak,dK aak,dK aak,dK aak,dK aak,dK aak,dK aak,dK aak,dK aak,dK aak,dK aak,dR aak,R2,show dW [F] 0=some F from rfl,dI,Fk hF,dQ];rcases BI hF with hc|hc
 ·rw[hc,dK nz,show dW [a,b] 0=some a from rfl,dI,FD hc];obtain⟨t1,e1,c,q1,d⟩:=i1 n H R e η σ τ VW j l w I A J h o B VW;have K:=d.lo;have l2:=d.hi;rw[q1,gz];cases M:a.ex L Ts g hs σ τ with
  |none=>
   obtain rfl:=d.no M;rw[dR aak,uK,dR aak];exact⟨_,_,_,rfl,.bad d.mm d.pW VW VW⟩
  |some d1=>
   obtain⟨rfl,T,U,y3⟩:=d.yes d1 M
   have C:pt ⟨⟨g,hs⟩,e,η⟩ (.mk 16 0 .z [t] [F] [a,b]) [c.next+1,c.next+1+1] (.mk 1 (c.next+1+1+1) .z [])=some ⟨⟨g++[.nat],hs.map (Fm.up 0 1)++[F]⟩,e++[.mk 1 (c.next+1) .z []],η++[.mk 1 (c.next+1+1+1) .z []]⟩:=by
    unfold pt;rw[show(Pf.mk 16 0 .z [t] [F] [a,b]).ak5=16 from rfl,dR aak];show dH (some Ty.nat) _=_;rw[dI,show dW [c.next+1,c.next+1+1] 0=some (c.next+1)from rfl,dI,Ch,dI,uA s .nat _ e η VW,dI];show dH (some F) _=_;rw[dI,rB F _ acx VW,dI]
   rw[dK nz,p4 c VW VW,dQ,p4 _ (by show 0<=c.next+1;omega) (by show c.next+1<=_;omega),dQ,p4 _ (by show 0<=c.next+1+1;omega) (by show c.next+1+1<=_;omega),dQ,Ch,dI,Em]
   obtain⟨t2,e2,D,V,f⟩:=i2 n ⟨c.lemmas,c.eh,c.next+1+1+1⟩ ((c.next+1+1+1)::(c.next+1)::R) (e++[.mk 1 (c.next+1) .z []]) (η++[.mk 1 (c.next+1+1+1) .z []]) (mL (mL σ++[kB 0])) (mL (mL τ)++[kB 0]) VW (d.mm.trans j) (d.pW.trans l)
    ((((w.mono K).new (v:=c.next+1) VW).up (v:=c.next+1+1+1) VW).mono (by show _<=c.next+1+1+1;omega)) (((I.mono K).up (v:=c.next+1) VW).new VW) A.var.up J.up.var (by simp[h]) (by simp[o]) (by show 0<=c.next+1+1+1;omega) (by show c.next+1+1+1+_<=_;omega)
   have l3:c.next+1+1+1<=D.next:=f.lo
   have l4:D.next<=c.next+1+1+1+_:=f.hi
   rw[C,dI,show dW [a,b] 1=some b from rfl,dI,V,gz];cases N:b.ex L Ts (g++[.nat]) (hs.map (Fm.up 0 1)++[F]) (mL (mL σ++[kB 0])) (mL (mL τ)++[kB 0])with
   |none=>
    obtain rfl:=f.no N;rw[dR aak,uK,dR aak];exact⟨_,_,_,rfl,.bad (f.mm.trans d.mm) (f.pW.trans d.pW) VW VW⟩
   |some d2=>
    obtain⟨rfl,W,z2,z3⟩:=f.yes d2 N;obtain⟨u,b3,X,i⟩:=KQ O hg q (w.mono (by omega:H.next<=D.next)) h VW VW;have l5:=i.lo;have l6:=i.hi;rw[dK nz,Bg,dI,eg,dK aak];simp only[Tm.eL,Tm.iC,Tm.fK,Tm.eH,Ty.gE];rw[show oK=some Ty.nat from rfl,dI,Bg,dI,uK,dK nz,show dW [t] 0=some t from rfl,dI,X,dQ,aeq,dI];refine⟨_,_,_,rfl,.Ho (i.mm.trans (f.mm.trans d.mm)) (i.pW.trans (f.pW.trans d.pW)) VW VW (.n3 aak aak T (.lam (.lam W)) i.nm) (Mj VW (ky U VW) (lv VW (lv VW (ky z2 VW))) i.le) (by rw[nd3,PJ,PJ];omega)⟩
 ·rw[hc,dR aak,uK,dR aak,BA (by rw[hc];decide)];exact⟨_,_,_,rfl,.bad rfl rfl VW VW⟩
def XB{t:Tm}{F:Fm}{a b:Pf}(S:ef g t .fS)(s:t.ak7<=4096)(hF:Hg (g++[.fS]) F)(q:uR L ⟨g,hs⟩)(hl:g.length+2<=16)(hw:(Pf.mk 17 0 .z [t] [F] [a,b]).wt<=1000000000)(he:(Pf.mk 17 0 .z [t] [F] [a,b]).err=0)
  (i1:s5 L Ts g hs a) (i2:s5 L Ts (g++[.nat]++[.fS]) (hs.map (Fm.up 0 2)++[F.up 1 1]) b):s5 L Ts g hs (.mk 17 0 .z [t] [F] [a,b]):=by
 obtain⟨wa,ea,wb,eb,J⟩:=u6 hw he;simp only[ei] at J;have hg:=uF q;have T:hs.length<=16:=q.nh;refine s5.of (r:=λσ τ=>KX F λu=>(a.ex L Ts g hs σ τ).bind λx=>(b.ex L Ts (g++[.nat]++[.fS]) (hs.map (Fm.up 0 2)++[F.up 1 1]) (mL (mL (mL σ++[kB 0])++[kB 0])) (mL (mL (mL τ))++[kB 0])).bind λy=>some (.mk 9 0 u [x,.mk 2 0 .nat [.mk 2 0 .fS [.mk 2 0 u [y]]],t.sb σ])) (λσ τ=>rfl) ?_;intro n K R e η σ τ hn j l w M A N h o B U;rw[J] at hn U|-;obtain⟨n,rfl⟩:∃k,n=k+1:=⟨n-1,VW⟩;have V:=E0 t A;rw[Nb,dK aak,dK aak,dK aak,dK aak,dK aak,dK aak,dK aak,dK aak,dK aak,dK aak,dK aak,dK aak,dR aak,R2,show dW [F] 0=some F from rfl,dI,Fk hF,dQ];rcases BI hF with hc|hc
 ·rw[hc,dK nz,show dW [a,b] 0=some a from rfl,dI,FD hc];obtain⟨t1,e1,c,q1,d⟩:=i1 n K R e η σ τ VW j l w M A N h o B VW;have O:=d.lo;have l2:=d.hi;rw[q1,gz];cases P:a.ex L Ts g hs σ τ with
  |none=>
   obtain rfl:=d.no P;rw[dR aak,uK,dR aak];exact⟨_,_,_,rfl,.bad d.mm d.pW VW VW⟩
  |some d1=>
   obtain⟨rfl,W,X,y3⟩:=d.yes d1 P
   have C:oF F 1 1=some (F.up 1 1,0):=by
    have:=hF.ak7;exact CO (by have:=hF.wt;omega) hF.err VW VW VW VW (hF.ty.ak' _ acx)
   have D:(hs.map (Fm.up 0 1)).map (Fm.up 0 1)=hs.map (Fm.up 0 2):=by
    rw[Bp];exact tQ λx _=>Fm.adn x VW
   have G:=q.qv Ty.gR VW
   have H:pt ⟨⟨g,hs⟩,e,η⟩ (.mk 17 0 .z [t] [F] [a,b]) [c.next+1,c.next+1+1] (.mk 1 (c.next+1+1+1) .z [])=some ⟨⟨g++[.nat]++[.fS],hs.map (Fm.up 0 2)++[F.up 1 1]⟩,e++[.mk 1 (c.next+1) .z []]++[.mk 1 (c.next+1+1) .z []],η++[.mk 1 (c.next+1+1+1) .z []]⟩:=by
    unfold pt;rw[show(Pf.mk 17 0 .z [t] [F] [a,b]).ak5=17 from rfl,dK aak];show dH (some F) _=_
    rw[dI,C,dQ,show oK=some Ty.nat from rfl,dI,show dW [c.next+1,c.next+1+1] 0=some (c.next+1)from rfl,dI,Ch,dI,uA q .nat _ e η VW,dI,show kU=some Ty.fS from rfl,dI,show dW [c.next+1,c.next+1+1] 1=some (c.next+1+1)from rfl,dI,Ch,dI,uA G .fS _ _ η acx,dI,rB (F.up 1 1) _ acx VW,dI,D]
   rw[dK nz,p4 c VW VW,dQ,p4 _ (by show 0<=c.next+1;omega) (by show c.next+1<=_;omega),dQ,p4 _ (by show 0<=c.next+1+1;omega) (by show c.next+1+1<=_;omega),dQ,Ch,dI,Em]
   obtain⟨t2,e2,I,Y,f⟩:=i2 n ⟨c.lemmas,c.eh,c.next+1+1+1⟩ ((c.next+1+1+1)::(c.next+1+1)::(c.next+1)::R) (e++[.mk 1 (c.next+1) .z []]++[.mk 1 (c.next+1+1) .z []]) (η++[.mk 1 (c.next+1+1+1) .z []]) (mL (mL (mL σ++[kB 0])++[kB 0])) (mL (mL (mL τ))++[kB 0]) VW (d.mm.trans j) (d.pW.trans l)
    (((((w.mono O).new (v:=c.next+1) VW).new (v:=c.next+1+1) VW).up (v:=c.next+1+1+1) VW).mono (by show _<=c.next+1+1+1;omega)) ((((M.mono O).up (v:=c.next+1) VW).up (v:=c.next+1+1) VW).new VW) A.var.var.up N.up.up.var (by simp[h]) (by simp[o]) (by show 0<=c.next+1+1+1;omega) (by show c.next+1+1+1+_<=_;omega)
   have l3:c.next+1+1+1<=I.next:=f.lo
   have l4:I.next<=c.next+1+1+1+_:=f.hi
   rw[H,dI,show dW [a,b] 1=some b from rfl,dI,Y,gz];cases Q:b.ex L Ts (g++[.nat]++[.fS]) (hs.map (Fm.up 0 2)++[F.up 1 1]) (mL (mL (mL σ++[kB 0])++[kB 0])) (mL (mL (mL τ))++[kB 0])with
   |none=>
    obtain rfl:=f.no Q;rw[dR aak,uK,dR aak];exact⟨_,_,_,rfl,.bad (f.mm.trans d.mm) (f.pW.trans d.pW) VW VW⟩
   |some d2=>
    obtain⟨rfl,Z,z2,z3⟩:=f.yes d2 Q;obtain⟨u,b3,q3,i⟩:=KQ S hg s (w.mono (by omega:K.next<=I.next)) h VW VW;have l5:=i.lo;have l6:=i.hi;rw[dK nz,Bg,dI,eg,dR aak,show kU=some Ty.fS from rfl,dI,Bg,dI];simp only[Tm.eL,Tm.iC,Tm.fK,Tm.eH,Ty.gE];rw[show oK=some Ty.nat from rfl,dI,Bg,dI,uK,dK nz,show dW [t] 0=some t from rfl,dI,q3,dQ,adx,dI];refine⟨_,_,_,rfl,.Ho (i.mm.trans (f.mm.trans d.mm)) (i.pW.trans (f.pW.trans d.pW)) VW VW (.n3 aak aak W (.lam (.lam (.lam Z))) i.nm) (Mj VW (ky X VW) (lv VW (lv (by show c.next+1+1<=_;omega) (lv (by show c.next+1+1+1<=_;omega) (ky z2 VW)))) i.le) (by rw[nd3,PJ,PJ,PJ];omega)⟩
 ·rw[hc,dR aak,uK,dR aak,BA (by rw[hc];decide)];exact⟨_,_,_,rfl,.bad rfl rfl VW VW⟩
end
end Go.fD
set_option maxRecDepth 20000
namespace Go.fD
open Go
def Zw(L:List Fm)(Ts:List Tm):Prop:=Ts.length=L.length/\∀i f,L[i]?=some f->f.has=true->ef [] (Ts.getD i Tm.z) f.uv/\(Ts.getD i Tm.z).ak7<=4096
def Zw.nil:Zw [] []:=⟨rfl,λi f h=>by simp at h⟩
def Dv.run{L:List Fm}{Ts:List Tm}(V:Zw L Ts){g:List Ty}{hs:List Fm}{P:Pf}{f:Fm}{m:Nat}(h:Dv L g hs P f m):uR L ⟨g,hs⟩->P.wt<=1000000000->P.err=0->f.has=true->s5 L Ts g hs P:=by
 induction h with
 |@hyp g hs i f S K N Q=>intro j hw he r;exact adT S K j.nh|@mm g hs i f S K N=>
  intro j hw he r;have:=(sY.1 K).1;obtain⟨a,b⟩:=V.2 _ f K r;exact ae1 S (by rw[V.1];exact this) a b
 |@Pu g hs a b x y m n q R Q i1 i2=>
  intro j hw he r;obtain⟨l,o,C,D,_⟩:=u6 hw he;rw[HH] at r;exact Zb q R j hw he r (i1 j l o) (i2 j C D)
 |@ZG g hs a x y m q h i1=>
  intro j hw he r;obtain⟨l,o,_⟩:=sH hw he;obtain⟨Y,Z,e,w,G⟩:=q.hg.ty.GI (Fm.eL _ _ _ _) (.inl rfl);simp at e;obtain⟨rfl,rfl⟩:=e;exact VK (.inl ⟨rfl,rfl⟩) q (q.hg.sub aa2 w) (q.hg.sub aa2 G) j hw he (i1 j l o (by rw[HH,r];rfl))
 |@ZH g hs a x y m q h i1=>
  intro j hw he r;obtain⟨l,o,_⟩:=sH hw he;obtain⟨Y,Z,e,w,G⟩:=q.hg.ty.GI (Fm.eL _ _ _ _) (.inl rfl);simp at e;obtain⟨rfl,rfl⟩:=e;exact VK (.inr ⟨rfl,rfl⟩) q (q.hg.sub aa2 w) (q.hg.sub aa2 G) j hw he (i1 j l o (by rw[HH,r];simp))
 |@Nn g hs F a y m hF M q G i1=>
  intro j hw he r;obtain⟨l,o,_⟩:=sH hw he;rw[L'] at r;exact Zx j hF hw he (i1 (j.with hF (by show hs.length+1<=16;omega)) l o r)
 |@OB g hs a b x y f m n q R w r hm G i1 i2=>
  intro j hw he d;obtain⟨l,o,C,D,_⟩:=u6 hw he;have c:=wo w.ty r.ty hm;exact aaG q w j hw he (i1 j l o (by rw[L'];exact d)) λh=>i2 j C D (by rw[<-c.has];exact h)
 |@all g hs k k' s a f m O B M q r i1=>
  intro j hw he d;obtain⟨l,o,_⟩:=sH hw he;have v:=j.qv B M;rcases O with⟨rfl,rfl⟩|⟨rfl,rfl,_⟩
  ·rw[AG (.inl rfl)] at d;exact Zy j hw he (i1 v l o d)
  ·rw[AG (.inr (.inl rfl))] at d;exact V1 B j hw he (i1 v l o d)
 |@Yh g hs k k' t s a x m u O H A q w hn i1=>
  intro j hw he d;obtain⟨l,o,W⟩:=sH hw he;rw[(x.xR t 0).2] at d;rcases O with⟨rfl,rfl,_⟩|⟨rfl,rfl,_⟩
  ·exact afb H (iR A).2 j hw he (i1 j l o (by rw[AG (.inl rfl)];exact d))
  ·refine(i1 j l o (by rw[AG (.inr (.inl rfl))];exact d)).pass VW (λσ τ=>rfl) λn b x=>?_;rw[Nb,dK aak,dK aak,dK aak,dK aak,dK aak,dK aak,dK aak,dK aak,dK aak,dK aak,dK aak,dK aak,dK aak,dK aak,dK aak,show dW [a] 0=some a from rfl,dI]
 |@ex g hs k k' t s a x f m u O hF H A w q r hn hm i1=>
  intro j hw he d;obtain⟨l,o,W⟩:=sH hw he;have c:=(wo (jE w.ty H hn).ty r.ty hm).has;rw[(x.xR t 0).2] at c;rcases O with⟨rfl,rfl,_⟩|⟨rfl,rfl,_⟩
  ·exact aaB H (iR A).2 w j hw he λh=>i1 j l o (by rw[<-c];exact h)
  ·rw[AG (.inr (.inr rfl))] at d;refine(i1 j l o (by rw[<-c];exact d)).pass VW (λσ τ=>rfl) λn b x=>?_;rw[Nb,dK aak,dK aak,dK aak,dK aak,dK aak,dK aak,dK aak,dK aak,dK aak,dK aak,dK aak,dK aak,dK aak,dK aak,dK aak,show dW [a] 0=some a from rfl,dI]
 |@Yx g hs k k' s a b x f m n O q B M X w R r T hq i1 i2=>
  intro j hw he d;have hg:=uF j;obtain⟨l,o,C,D,_⟩:=u6 hw he;obtain⟨e1,e2⟩:=TN r VW T;rw[e1] at d;have v:uR L ⟨g++[s],hs.map (Fm.up 0 1)++[x]⟩:=(j.qv B M).with w (by show(hs.map (Fm.up 0 1)).length+1<=16;simp;omega);rcases O with⟨rfl,rfl⟩|⟨rfl,rfl,_⟩
  ·exact Xr q w j hw he (i1 j l o (Rz _ _ _)) (i2 v C D d)
  ·exact Vx B q w j hw he (λh=>i1 j l o (by rw[AG (.inr (.inr rfl))];exact h)) (i2 v C D d)
 |@ind g hs t F a b x y m n hF H A q w K N M X R G Q U h5 i1 i2=>
  intro j hw he d;obtain⟨l,o,C,D,_⟩:=u6 hw he;rw[(F.xR t 0).2] at d;have I:=(wo (jE hF.ty .zero K).ty w.ty N).has;rw[(F.xR _ 0).2] at I;have J:=(wo (jE hF.VP.ty (.succ kG) Q).ty G.ty U).has;rw[((F.up 1 1).xR _ 0).2,(F.R7 1 1).2] at J;have v:uR L ⟨g++[.nat],hs.map (Fm.up 0 1)++[F]⟩:=(j.qv Ty.gR M).with hF (by show(hs.map (Fm.up 0 1)).length+1<=16;simp;omega);exact U6 H (iR A).2 hF j M hw he (i1 j l o (by rw[<-I];exact d)) (i2 v C D (by rw[<-J];exact d))
 |@lists g hs t F a b x y m n hF H A q w K N M X R G Q U h5 i1 i2=>
  intro j hw he d;obtain⟨l,o,C,D,_⟩:=u6 hw he;rw[(F.xR t 0).2] at d;have I:=(wo (jE hF.ty .nil K).ty w.ty N).has;rw[(F.xR _ 0).2] at I;have J:=(wo (jE hF.Um.ty (.cons sQ kG) Q).ty G.ty U).has;rw[((F.up 1 2).xR _ 0).2,(F.R7 1 2).2] at J;have v:uR L ⟨g++[.nat]++[.fS],hs.map (Fm.up 0 2)++[F.up 1 1]⟩:=(j.IM M).with hF.upl (by show(hs.map (Fm.up 0 2)).length+1<=16;simp;omega);exact XB H (iR A).2 hF j M hw he (i1 j l o (by rw[<-I];exact d)) (i2 v C D (by rw[<-J];exact d))
 |@refl g hs t H he r=>intro j hw he d;rw[Fm.has_eq] at d;cases d
 |@subst g hs F a b t u f m n hF q H hu het ad R r K N Q i1 i2=>
  intro j hw he d;obtain⟨l,o,C,D,W⟩:=u6 hw he;rw[(F.xR u 0).2] at d;have c:=(wo (jE hF.ty H K).ty r.ty N).has;rw[(F.xR t 0).2] at c;refine(i2 j C D (by rw[<-c];exact d)).pass VW (λσ τ=>rfl) λn b0 x=>?_;rw[Nb,dK aak,dK aak,dK aak,dK aak,dK aak,dK aak,dK aak,dK aak,dK aak,dK aak,dK aak,dK aak,dK aak,dR aak,show dW [a,b] 1=some b from rfl,dI]
 |@choice g hs a s u y m q B hu G ae hn r i1=>
  intro j hw he d;obtain⟨l,o,_⟩:=sH hw he;exact TJ q G j hw he (i1 j l o (by rw[AG (.inl rfl),Rz]))
def abe(b:dT):lI b ⟨[],[]⟩=some (⟨⟨[],[]⟩,[],[]⟩,[],b):=by
 obtain⟨m,hm⟩:∃m,FU=m+1:=⟨FU-1,by rw[fB]⟩;unfold lI;rw[eg,hm,hI,zk,dK aak,dI,sj,dI,eB,zk,eg,hI,zk,dK aak,dI,sj,dI,eB];rfl
def ae_{L:List Fm}{Ts:List Tm}(o:Zw L Ts)(q:vx L Ts=some 0){P:Pf}{f:Fm}{m:Nat}(h:Dv L [] [] P f m)(b:uR L ⟨[],[]⟩)(hw:P.wt<=1000000000)(he:P.err=0):oh L Ts ⟨[],[]⟩ P=some (if f.has then(match P.ex L Ts [] [] [] [] with|some d=>(d,(0:Int))|none=>(.mk 0 0 (.mk 0 []) [],4))else(.mk 0 0 (.mk 0 []) [],40)):=by
 obtain⟨l,r,_⟩:=XD b hw he (h.inf b);unfold oh;rw[r,dQ,dK nz,q,dI,dK nz,Ba h.hg,dI]
 by_cases a:f.has=true
 ·rw[dR a,dR a,abe,gz];have s:P.ak7<=16384:=(gT he).2.2;obtain⟨t,u,v,q1,i⟩:=h.run o b hw he a FU ⟨L,Ts,0⟩ [] [] [] [] [] (by rw[fB];omega) rfl rfl .nil .nil (λx c=>by simp at c) (λx c=>by simp at c) rfl rfl (Ke 0) (by show(0:Int)+_<=_;omega);rw[q1,gz];cases j:P.ex L Ts [] [] [] [] with
  |none=>
   obtain rfl:=i.no j;rw[dR aak]
  |some d=>
   obtain⟨rfl,k,_,y3⟩:=i.yes d j;have hn:=k.ak7;have n:=XN k FU (by rw[fB];omega) acx;rw[List.reverse_nil] at n;rw[dK nz,n,dI]
 ·rw[dK a,dK a]
end Go.fD
set_option maxRecDepth 20000
set_option maxHeartbeats 2000000
namespace Go.fD
open Go
def ae0{g:List Ty}{t:Tm}{s:Ty}(h:ef g t s):∀σ:List Tm,(∀i,i<g.length->i<σ.length/\σ[σ.length-1-i]?=some (kB i))->t.sb σ=t:=by
 induction h with
 |@var g t i hi hg=>
  intro σ a;obtain⟨k,j⟩:=a i hi;rw[FI,Aq,j];rfl
 |@lam g s b t hs l ih=>
  intro σ a;rw[P_,ih];intro i hi;rw[ni,Dh,Rt];simp only[ni,Rt] at hi;cases i with
  |zero=>
   refine⟨VW,?_⟩;rw[tE (by rw[Dh];omega)];simp
  |succ i=>
   obtain⟨k,j⟩:=a i VW;refine⟨VW,?_⟩;rw[vE acx,yZ,show σ.length+1-1-(i+1)=σ.length-1-i by omega,j];simp[kB,Tm.fJ]
 |app _ _ c d=>intro σ a;rw[J5 _ _ _ _ aak aak,c σ a,d σ a]|zero=>intro σ _;rw[QB _ _ aak aak]|succ _ ih=>intro σ a;rw[QP _ _ _ aak aak,ih σ a]|rZ _ _ _ _ c d f=>intro σ a;rw[Vc _ _ _ _ _ aak aak,c σ a,d σ a,f σ a]|nil=>intro σ _;rw[QB _ _ aak aak]|cons _ _ c d=>intro σ a;rw[J5 _ _ _ _ aak aak,c σ a,d σ a]|fold _ _ _ _ c d f=>intro σ a;rw[Vc _ _ _ _ _ aak aak,c σ a,d σ a,f σ a]|pair _ _ _ c d=>intro σ a;rw[J5 _ _ _ _ aak aak,c σ a,d σ a]|fst _ ih=>intro σ a;rw[QP _ _ _ aak aak,ih σ a]|snd _ ih=>intro σ a;rw[QP _ _ _ aak aak,ih σ a]|unit=>intro σ _;rw[QB _ _ aak aak]
def ef.sbc{t:Tm}{s:Ty}(h:ef [] t s)(σ:List Tm):t.sb σ=t:=ae0 h σ λi hi=>by simp at hi
def adR{P:Pf}{f:Fm}(a:M6 P)(hn:P.ak7<=16000)(k:f.has=true)(h:Tk [] [] [] P f):(∃e t,pI e/\oh [] [] ⟨[],[]⟩ P=some (t,e))\/∃b m,Dv [] [] [] P b m/\oh [] [] ⟨[],[]⟩ P=some (match P.ex [] [] [] [] [] [] with|some d=>(d,(0:Int))|none=>(.mk 0 0 (.mk 0 []) [],4)):=by
 have hw:=P.jr a.1;have he:=LG a VW;rcases h Xl a with⟨e,c,i⟩|⟨b,m,c,i,l⟩
 ·refine .inl ⟨e,.mk 0 0 (.mk 0 []) [],c,?_⟩;unfold oh;rw[agp Xl VW he i,dQ,dR (by rw[ez];exact Rh c)]
 ·have j:=(Dv.of (P.w a.1 a.2) [] [] b m Xl c).1;refine .inr ⟨b,m,j,?_⟩;rw[ae_ .nil acS j Xl VW he,dR (by rw[i.has];exact k)]<;>rfl
def Xa(s:Tm):(Am s).has=true:=Rz _ _ _
def Qg(a b:Tm):(MD a b).has=false:=Fm.has_eq _ _ _
def adV{s:Tm}(h:TC (Am s)):(Am s).J0=(.nat,0):=by
 have e:(Am s).uv=.nat:=by rw[WG,dK (by rw[Qg];decide)]
 have:=aa8 (Fm.oT h.1 h.2) (Xa s) (by rw[e];decide)
 rwa [e] at this
def ac0{s:Tm}(h:TC (Am s))(k:Ty->Option Tm):KX (Am s) k=k .nat:=by unfold KX;rw[adV h];rfl
def OU(s t:Tm)(p:Pf)(L:List Fm)(Ts:List Tm)(g:List Ty)(hs:List Fm)(σ τ:List Tm)(hn:(t.sb σ).ak7<=4096):(MA s t p).ex L Ts g hs σ τ=some (t.sb σ):=by
 rw[aa',dK (by show¬(MD v0 (s.up 0 1)).has=true;rw[Qg];decide),FA hn]
def TC.hg{g:List Ty}{f:Fm}(h:TC f)(a:iQ g f):Hg g f:=⟨Fm.oT h.1 h.2,a⟩
abbrev QC(b f:Tm):Tm:=.mk 2 0 .fS [.mk 9 0 .nat [b,.mk 2 0 .nat [.mk 2 0 .fS [.mk 2 0 .nat [gC (.mk 2 0 .nat [zT f v3 v2 v0]) v0]]],v0]]
section
variable{b c f:Tm}
def vn(σ:List Tm):v0.sb σ=σ.getD (σ.length-1-0) Tm.z:=FI σ 0
def zE(σ:List Tm):v1.sb σ=σ.getD (σ.length-1-1) Tm.z:=FI σ 1
def sv2(σ:List Tm):v2.sb σ=σ.getD (σ.length-1-2) Tm.z:=FI σ 2
def u0:v0.up 0 1=v1:=by simp[Tm.fJ,v0,v1]
def u1:v1.up 0 1=v2:=by simp[Tm.fJ,v1,v2]
def u2:v2.up 0 1=v3:=by simp[Tm.fJ,v2,v3]
def ut:(kB 0)=v0:=rfl
def acZ(c:ef [] b .nat)(d:ef [] f (.fn .nat (.fn .fS (.fn .nat .nat))))(k:b.ak7<=400)(hn:f.ak7<=400):(S1 b f).ex [] [] [] [] [] []=some (QC b f):=by
 have F:=d.cl;have B:=c.cl;have R:∀{g:List Ty} {n:Tm},ef g n .fS->ef g (w6 b f n) .nat:=λh=>.fold Ty.gR (c.cls _) (d.cls _) h;have a0:ef [.fS,.fS] v0 .fS:=kG (g:=[.fS]);have a1:ef [.fS,.nat,.fS] v0 .fS:=kG (g:=[.fS,.nat])
 have n1:(w6 b f v0).ak7<=4000:=by simp only[Tm.dP,ei,nv0];omega
 have o1:TC (Am (w6 b f v0)):=MF (R a0) n1
 have l:(Am (w6 b f v0)).up 1 1=Am (w6 b f v0):=by
  simp[Fm.fJ,Tm.fJ,v0,fE,qB,j4,B.up,F.up]
 have o:uR [] ⟨[]++[.fS]++[.nat]++[.fS],List.map (Fm.up 0 2) (List.map (Fm.up 0 1) [])++[Am (w6 b f v0)]⟩:=((Xl.qv Ty.mv aa2).IM aa2).with (o1.hg (CQ (R a1))) aa2;have hi:(hyS 0).inf [] ([]++[.fS]++[.nat]++[.fS]) (List.map (Fm.up 0 2) (List.map (Fm.up 0 1) [])++[Am (w6 b f v0)])=.inl (Am (w6 b f v0),0):=RO (i:=0) o aa2;rw[Y',XC,ac0 o1,OU _ _ _ _ _ _ _ _ _ (by rw[c.sbc];omega),c.sbc,Em,l,NJ,hi,vy]
 have a:¬((Am (w6 b f v0)).ak6.getD 0 iH).has=true:=by show¬(MD v0 _).has=true;rw[Qg];decide
 rw[afh];simp only[dK a];simp only[mL,ry,nT,oe,aeX,ut,u0,u1,u2,mz,B4];rw[show([v0]:List Tm).getD (0+1-1-(0:Int).toNat) Tm.z=v0 from rfl,FA aak,Em]
 have j:∀x,(zT f v2 v1 v0).sb [x,v3,v2,v0]=zT f v3 v2 v0:=λx=>by
  simp only[gC];rw[J5 _ _ _ _ aak aak,J5 _ _ _ _ aak aak,J5 _ _ _ _ aak aak,d.sbc,sv2,zE,vn];rfl
 have n2:(zT f v3 v2 v0).ak7<=500:=by simp only[gC,Tm.dP,ei,nv0,nv2,nv3];omega
 rw[OU _ _ _ _ _ _ _ _ _ (by rw[j];omega),j,Em]
 have n3:(gC (.mk 2 0 .nat [zT f v3 v2 v0]) v0).ak7<=600:=by
  generalize zT f v3 v2 v0=z at n2;simp only[gC,Tm.dP,ei,nv0];omega
 show H0 ((H0 ((H0 (some (gC (.mk 2 0 .nat [zT f v3 v2 v0]) v0))).bind λy=>some (.mk 9 0 .nat [b,.mk 2 0 .nat [.mk 2 0 .fS [.mk 2 0 .nat [y]]],v0.sb [v0]]))).bind λx=>some (.mk 2 0 .fS [x]))=_;rw[FA VW,Em,vn];generalize q:gC (.mk 2 0 .nat [zT f v3 v2 v0]) v0=z at n3|-;rw[FA (by simp only[Tm.dP,ei];rw[show(List.getD [v0] ([v0].length-1-0) Tm.z)=v0 from rfl,nv0];omega),Em,FA (by simp only[Tm.dP,ei];rw[show(List.getD [v0] ([v0].length-1-0) Tm.z)=v0 from rfl,nv0];omega)];subst q;rfl
end
end Go.fD
set_option maxRecDepth 20000
set_option maxHeartbeats 2000000
namespace Go.fD
open Go
def Zr:Int->Vl->(Int×(List Ty))->(Option (gm (Int×(List Ty)) (Vl×Int×Int))):=
 λ(n:Int) (f:Vl)=>(xm λ(h:Int) (a:List Ty)=>
 dU (og f) λi b=>
 if(eP b 0) then(
 some (.ret ((Vl.mk 0 0 [] []),0,b)))
 else(ej (λ(j:Bool)=>
 if j then(
 some (.ret ((Vl.mk 0 0 [] []),0,7)))
 else(dH (dW a 1) λc=>
 some (.next (c.ak5,c.ak6)))) λd=>
 if(eP h 4) then(
 d true)
 else(dH (dW a 0) λk=>
 dH (fm FU k i) λl=>
 d (lJ l))))
def MU:Int->Vl->(Int×(List Int)×(List dJ)×Int×Int×Int×(List Ty)×(List Tm)×(List dJ)×Int×Int×Bool)->(Option (gm (Int×(List Int)×(List dJ)×Int×Int×Int×(List Ty)×(List Tm)×(List dJ)×Int×Int×Bool) (Vl×Int×Int))):=
 λ(J:Int) (t:Vl)=>(XE λ(d:Int) (f:List Int) (h:List dJ) (i:Int) (j:Int) (k:Int) (l:List Ty) (n:List Tm) (o:List dJ) (q:Int) (r:Int) (b:Bool)=>
 ej (λ(u:Int) (v:List Int) (w:List dJ) (x:Int) (y:Int) (A:Int) (B:List Ty) (C:List Tm) (D:List dJ) (F:Int) (G:Int) (H:Bool)=>
 some (.next (u,v,w,x,y,A,B,C,D,F,G,H))) λs=>
 if b then(
 s d f h i j k l n o q r b)
 else(dH (yr FU t) λI=>
 dU (eJ FU (dV.mk q r b) (dJ.mk d f h (Tm.mk i j (Ty.mk k l) n) o) I) λa c=>
 s a.num a.list a.pair a.body.ak5 a.body.ak8 a.body.dM.ak5 a.body.dM.ak6 a.body.ak6 a.env c.used c.qQ c.out))
abbrev CSt:=Int×(List Int)×(List dJ)×Int×Int×Int×(List Ty)×(List Tm)×(List dJ)×Int×Int×Bool
def ZA(r:vi)(M u:Nat)(o:Bool):CSt:=(r.num,r.list,r.pair,r.body.ak5,r.body.ak8,r.body.dM.ak5,r.body.dM.ak6,r.body.ak6,r.env,(u:Int),(M:Int),o)
def XQ(M B:Nat)(v:Vl)(s:Ty)(w:Vw):Prop:=s.ak7<=64/\og v=some (s,0)/\w.s=s.S/\∃r,yr FU v=some r/\RV M w r B
inductive sK (M B:Nat):List Vl->List Ty->List Vw->Prop
 |nil:sK M B [] [] []|cons {v s w l ss ws}:XQ M B v s w->sK M B l ss ws->sK M B (v::l) (s::ss) (w::ws)
theorem sK.mono{M B B':Nat}{l:List Vl}{ss:List Ty}{ws:List Vw}(h:sK M B l ss ws)(a:B<=B'):sK M B' l ss ws:=by
 induction h with
 |nil=>exact .nil|cons b h ih=>
  obtain⟨q0,q1,c,q,d,f⟩:=b;exact .cons ⟨q0,q1,c,q,d,f.mono a⟩ ih
def Ku(T:Ty):List Ty->Ty
 |[]=>T|s::ss=>.fn s (Ku T ss)
noncomputable def E4:Vw->List Vw->Vw
 |f,[]=>f|f,w::ws=>E4 (ot f w) ws
def aah{M B:Nat}{T:Ty}{l:List Vl}{ss:List Ty}{ws:List Vw}(h:sK M B l ss ws):∀j:Nat,fk Zr l j ((Ku T ss).ak5,(Ku T ss).ak6)=some (.inl (T.ak5,T.ak6)):=by
 induction h with
 |nil=>intro j;rfl|@cons v s w l ss ws a h ih=>
  intro j;obtain⟨hs,b,_⟩:=a
  have e:Zr (j:Int) v ((Ku T (s::ss)).ak5,(Ku T (s::ss)).ak6)=some (.next ((Ku T ss).ak5,(Ku T ss).ak6)):=by
   unfold Zr;rw[kp,b,dQ,dK nz,eg,dK (by show¬eP 4 4=true;decide),show dW (Ku T (s::ss)).ak6 0=some s from rfl,dI,iB VW,dI,(Ty.kv s s).2 rfl];dsimp only;rw[dK aak,show dW (Ku T (s::ss)).ak6 1=some (Ku T ss)from rfl,dI]
  rw[gf,e,dI,fh];exact ih (j+1)
def Fp{M:Nat}{T:Ty}:∀(l:List Vl) (ss:List Ty) (ws:List Vw) (j:Nat) (r:vi) (u B:Nat) (o:Bool) (w:Vw),sK M B l ss ws->w.s=(Ku T ss).S->u<=M->M<=65536->B+(M-u)<=100000000->(o=false->RV M w r B)->∃b a o',fk MU l j (ZA r M u o)=some (.inl (ZA b M a o'))/\u<=a/\a<=M/\(o'=false->RV M (E4 w ws) b (B+(a-u)))
 |_,_,_,j,r,u,B,o,w,.nil,hw,hu,c,d,i=>⟨r,u,o,rfl,gY u,hu,λh=>(i h).mono VW⟩|_,_,_,j,r,u,B,o,w,@sK.cons _ _ v s x l ss ws y h,hw,hu,c,d,i=>by
  obtain⟨_,_,A,q,C,D⟩:=y;rw[show Ku T (s::ss)=.fn s (Ku T ss)from rfl,xN] at hw;rw[gf];cases o with
  |true=>
   have e:MU (j:Int) v (ZA r M u true)=some (.next (ZA r M u true)):=rfl;rw[e,dI,fh];obtain⟨b,a,o',a1,a2,a3,a4⟩:=Fp (T:=T) l ss ws (j+1) r u B true (ot w x) h (xl hw) hu c d (λh=>by cases h);exact⟨b,a,o',a1,a2,a3,a4⟩
  |false=>
   obtain⟨φ,rfl⟩:=H_ hw;have F:=i rfl;obtain⟨t,u1,o1,G,I,c3,H⟩:=F (x.at s.S) q B u FU (gY _) d (D.at A) hu (by rw[fB];omega)
   have e:MU (j:Int) v (ZA r M u false)=some (.next (ZA t M u1 o1)):=by
    unfold MU ZA;rw[HF,eg,dK aak,C,dI,Ty.gE,Tm.gE,dJ.gE];rw[show eJ FU (dV.mk (u:Int) (M:Int) false) r q=_ from G,dQ]
   rw[e,dI,fh];have k:sK M (B+(u1-u)) l ss ws:=h.mono VW;obtain⟨b,a,o',a1,a2,a3,a4⟩:=Fp (T:=T) l ss ws (j+1) t u1 (B+(u1-u)) o1 (ot ⟨.f s.S (Ku T ss).S,φ⟩ x) k rfl c3 c VW (λn=>(H n).2);exact⟨b,a,o',a1,VW,a3,λn=>(a4 n).mono VW⟩
def Ot{f:Tm}{ss:List Ty}{l:List Vl}{ws:List Vw}{M B:Nat}(a:ef [] f (Ku .nat ss))(hn:f.ak7<=4096)(G:sK M B l ss ws)(hl:l.length<=1000)(J:M<=65536)(hB:B<=90000000):∃v k e,mi f l (M:Int)=some (v,k,e)/\(e=5\/e=0/\v.num=((rj (E4 (f.val []) ws):Nat):Int)/\rj (E4 (f.val []) ws)<=B+M):=by
 have he:f.err=0:=Tm.oT a.ok hn
 have K:iT []:=λs hs=>by simp at hs
 have O:iO [] f=some (Ku .nat ss,0):=by rw[(rI K aa2 he),nb a K acx]
 have I:yz [] []:=rfl;obtain⟨r,u,o,P,e2,Q,R⟩:=ajI (M:=M) J a [] [] B 0 FU I ⟨rfl,λi v r h=>by simp at h⟩ acx VW (Pd _) (by rw[fB];omega);obtain⟨H,U,o',V,c2,c3,W⟩:=Fp (T:=.nat) l ss ws 0 r u (B+u) o (f.val []) (G.mono VW) (nd a [] I) Q J VW (λX=>by simpa using(R X).2)
 have hu:mi f l (M:Int)=dH (some (.inl (ZA H M U o'))) (fL (XE λ(b:Int) (c:List Int) (d:List dJ) (j:Int) (q:Int) (t:Int) (x:List Ty) (y:List Tm) (A:List dJ) (C:Int) (N:Int) (D:Bool)=>
   if D then some ((Vl.mk 0 0 [] []),0,5)else dH (n8 FU (dJ.mk b c d (Tm.mk j q (Ty.mk t x) y) A) .nat) λF=>some (F,C,0)) (λr=>some r)):=by
  rw[<-V];unfold mi;rw[O,dQ,dK nz,et VW,ec,eg];have L:=aah (T:=.nat) G 0;show dH (fk Zr l 0 ((Ku .nat ss).ak5,(Ku .nat ss).ak6)) _=_;rw[L,dI,eB,kp];rw[show yW (Ty.mk Ty.nat.ak5 Ty.nat.ak6)=some (true,0) by kernel_rfl,dQ,dR rfl];rw[dK (by rw[lU,tR,j3,iD];omega)];rw[show fu FU (dV.mk 0 (M:Int) false) f []=_ from P,dQ,ec,eg];rfl
 rw[hu,dI,eB];unfold ZA;rw[HF];cases o' with
 |true=>exact⟨_,_,5,rfl,.inl rfl⟩|false=>
  have k:=W rfl
  have hs:(E4 (f.val []) ws).s=.n:=by
   have:∀(ws:List Vw) (ss:List Ty) (l:List Vl) (w:Vw),sK M B l ss ws->w.s=(Ku .nat ss).S->(E4 w ws).s=.n:=by
    intro ws ss l w h
    induction h generalizing w with
    |nil=>intro h;rw[<-wH];exact h|cons G h ih=>intro hw;rw[show Ku Ty.nat (_::_)=.fn _ (Ku .nat _)from rfl,xN] at hw;exact ih _ (xl hw)
   exact this ws ss l _ G (nd a [] I)
  obtain⟨Y,k2⟩:Rnm (rj (E4 (f.val []) ws)) H _:=k.at hs;rw[dK aak,Ty.gE,Tm.gE,dJ.gE]
  have Z:n8 FU H .nat=some (Vl.mk 1 H.num [] []):=by
   obtain⟨m,hm⟩:∃m,FU=m+1:=⟨FU-1,by rw[fB]⟩;rw[hm,n8,dR ac8]
  rw[Z,dI];exact⟨_,_,0,rfl,.inr ⟨rfl,Y,VW⟩⟩
end Go.fD
set_option maxRecDepth 20000
set_option maxHeartbeats 2000000
namespace Go.fD
open Go
def WY{t:Tm}{s:Ty}(h:ef [] t s)(ρ:List Vw):t.val ρ=t.val []:=by
 have:=VM t [] ρ h.ok
 rwa [h.cl.up 0 _ VW,nT] at this
def DR{g:List Ty}{s t:Ty}{b:Tm}(h:ef (g++[s]) b t){ρ:List Vw}(he:yz ρ g){v:Vw}(a:v.s=s.S):ot ((Tm.mk 2 0 s [b]).val ρ) v=b.val (ρ++[v]):=by
 rw[Tm.val_mk,dK aak,dR rfl]
 rw[V4 a (λx=>by
  have c:=nd h (ρ++[⟨s.S,x⟩]) (he.app rfl);have d:=nd h (ρ++[⟨s.S,s.S.YR⟩]) (he.app rfl)
  exact c.trans d.symm)]
 show b.val (ρ++[⟨s.S,v.at s.S⟩])=_;rw[Vw.eta a]
def HI(f a:Tm)(ρ:List Vw):(gC f a).val ρ=ot (f.val ρ) (a.val ρ):=mf aak aak ρ
def QA(ρ:List Vw)(v:Vw):v0.val (ρ++[v])=v:=by
 unfold v0;rw[Tm.val_mk,dR rfl];simp
def aeI(ρ:List Vw)(v w x:Vw):v2.val (ρ++[v]++[w]++[x])=v:=by
 unfold v2;rw[Tm.val_mk,dR rfl];simp
def ad0(ρ:List Vw)(v w x y:Vw):v3.val (ρ++[v]++[w]++[x]++[y])=v:=by
 unfold v3;rw[Tm.val_mk,dR rfl];simp
abbrev nV(k:Nat):Vw:=⟨.n,k⟩
abbrev lV(l:List Nat):Vw:=⟨.l,l⟩
def afk{v:Vw}(h:v.s=.n):nV (rj v)=v:=Vw.eta h
def G6{σ:DI}{B S F:Vw}(b:B.s=σ)(hF:F.s=.f .n (.f .l (.f σ σ)))(h:∀a t r,r.s=σ->ot (ot (ot S (nV a)) (lV t)) r=ot (ot (ot F (nV a)) (lV t)) r):∀l,mM B S l=mM B F l/\(mM B F l).s=σ
 |[]=>⟨rfl,b⟩|a::l=>by
  obtain⟨c,d⟩:=G6 b hF h l;refine⟨?_,xl (xl (xl hF))⟩;show ot (ot (ot S (nV a)) (lV l)) (mM B S l)=ot (ot (ot F (nV a)) (lV l)) (mM B F l);rw[c];exact h a l _ d
section
variable{b c f:Tm}
def Xy(o:ef [] b .nat)(q:ef [] f (.fn .nat (.fn .fS (.fn .nat .nat))))(c:List Nat):ot ((QC b f).val []) (lV c)=mM (b.val []) (f.val []) c:=by
 have B:(b.val []).s=.n:=by rw[<-wH];exact nd o [] rfl
 have hF:(f.val []).s=.f .n (.f .l (.f .n .n)):=by have:=nd q [] rfl;rwa [xN,xN,xN,wH,z8] at this
 have w0:ef [.fS,.nat,.fS,.nat] v0 .nat:=kG (g:=[.fS,.nat,.fS]);have C:ef [.fS,.nat,.fS,.nat,.nat] v3 .nat:=Of (g:=[.fS]);have D:ef [.fS,.nat,.fS,.nat,.nat] v2 .fS:=Cq (g:=[.fS,.nat]);have F:ef [.fS,.nat,.fS,.nat,.nat] v0 .nat:=kG (g:=[.fS,.nat,.fS,.nat]);have h:ef ([.fS,.nat,.fS,.nat]++[.nat]) (zT f v3 v2 v0) .nat:=.app (.app (.app (q.cls _) C) D) F;have i:ef ([.fS,.nat,.fS]++[.nat]) (gC (.mk 2 0 .nat [zT f v3 v2 v0]) v0) .nat:=.app (.lam tz h) w0;have j:ef ([.fS,.nat]++[.fS]) (.mk 2 0 .nat [gC (.mk 2 0 .nat [zT f v3 v2 v0]) v0]) (.fn .nat .nat):=.lam tz i;have k:ef ([.fS]++[.nat]) (.mk 2 0 .fS [.mk 2 0 .nat [gC (.mk 2 0 .nat [zT f v3 v2 v0]) v0]]) (.fn .fS (.fn .nat .nat)):=.lam L6 j;have u:ef [.fS] (.mk 2 0 .nat [.mk 2 0 .fS [.mk 2 0 .nat [gC (.mk 2 0 .nat [zT f v3 v2 v0]) v0]]]) (.fn .nat (.fn .fS (.fn .nat .nat))):=.lam Ig k;have a0:ef ([]++[.fS]) v0 .fS:=kG;have v:ef ([]++[.fS]) (.mk 9 0 .nat [b,.mk 2 0 .nat [.mk 2 0 .fS [.mk 2 0 .nat [gC (.mk 2 0 .nat [zT f v3 v2 v0]) v0]]],v0]) .nat:=.fold Ty.gR (o.cls _) u a0;have w:yz [] []:=rfl;rw[DR v w (by rw[z8])];rw[mf aak aak];show mM (b.val ([]++[lV c])) ((Tm.mk 2 0 .nat [.mk 2 0 .fS [.mk 2 0 .nat [gC (.mk 2 0 .nat [zT f v3 v2 v0]) v0]]]).val ([]++[lV c])) (JD (v0.val ([]++[lV c])))=_;rw[QA,WY o,show JD (lV c)=c from Vw.zK .l c];refine(G6 B hF (λa t r G=>?_) c).1;have x:yz ([]++[lV c]) [.fS]:=w.app (s:=.fS) (by rw[z8]);have y:yz ([]++[lV c]++[nV a]) [.fS,.nat]:=x.app (s:=.nat) (by rw[wH]);have A:yz ([]++[lV c]++[nV a]++[lV t]) [.fS,.nat,.fS]:=y.app (s:=.fS) (by rw[z8])
 have d:r.s=Ty.nat.S:=by rw[wH];exact G
 have H:yz ([]++[lV c]++[nV a]++[lV t]++[r]) [.fS,.nat,.fS,.nat]:=A.app (s:=.nat) d;rw[DR k x (by rw[wH]),DR j y (by rw[z8]),DR i A d,HI,QA,DR h H d,HI,HI,HI,WY q,QA,ad0,aeI]
end
def arg_num{M B k:Nat}(h:k<=B):XQ M B (.mk 1 (k:Int) [] []) .nat (nV k):=by
 obtain⟨m,hm⟩:∃m,FU=m+1:=⟨FU-1,by rw[fB]⟩;refine⟨aak,?_,by rw[wH],.mk (k:Int) [] [] (Tm.mk 0 0 (Ty.mk 0 []) []) [],?_,(⟨rfl,h⟩:Rnm k _ B)⟩
 ·unfold og uI;rw[hm,pw,dR ac8];show dH (dH (some (fv (pd (k:Int) 0) (fv true true false) false)) _) _=_;rw[show pd (k:Int) 0=true by rw[jk];omega];rfl
 ·rw[hm];rfl
def Sk{M B:Nat}{l:List Nat}(h:l.length<=B/\∀x∈l,x<=B)(d:l.length<=1000):XQ M B (.mk 2 0 (l.map (λ(x:Nat)=>(x:Int))) []) .fS (lV l):=by
 obtain⟨m,hm⟩:∃m,FU=m+1:=⟨FU-1,by rw[fB]⟩;refine⟨aak,?_,by rw[z8],.mk 0 (l.map (λ(x:Nat)=>(x:Int))) [] (Tm.mk 0 0 (Ty.mk 0 []) []) [],?_,(⟨rfl,h.1,h.2⟩:Rls l _ B)⟩
 ·have loop:∀(l:List Nat) (j:Nat),fk (ρ:=Bool) (λ(c:Int) (b:Int)=>(λ(_:Unit)=>if(o7 b 0) then some (.ret false)else some (.next ()))) (l.map (λ(x:Nat)=>(x:Int))) j ()=some (.inl ()):=by
   intro l
   induction l with
   |nil=>intro j;rfl|cons a l ih=>
    intro j;rw[oe,gf,dK (by rw[j3];omega),dI,fh];exact ih (j+1)
  unfold og uI;rw[hm,pw,dK (by show¬eo 2 1=true;decide),dR ac8,et (by show(l.map _).length<=_;rw[Dh];omega),ec,eg];show dH (dH (dH (fk _ (l.map (λ(x:Nat)=>(x:Int))) 0 ()) _) _) _=_;rw[loop l 0];rfl
 ·rw[hm];rfl
def Y9:∀k:Nat,k<3->∃x,uX (k:Int)=some x/\(∀g,ef g x .nat)/\x.ak7<=5/\x.val []=nV k:=by
 intro k a;have z:rA.val []=nV 0:=mf aak aak _
 have s:∀{x:Tm} {n:Nat},x.val []=nV n->(ru x).val []=nV (n+1):=λ{x n} h=>by
  unfold ru;rw[mf aak aak];show nV (rj (x.val [])+1)=_;rw[h,show rj (nV n)=n from Vw.zK .n n]
 match k,a with
 |0,_=>exact⟨rA,by kernel_rfl,λ_=>.zero,aak,z⟩|1,_=>exact⟨ru rA,by kernel_rfl,λ_=>.succ .zero,aak,s z⟩|2,_=>exact⟨ru (ru rA),by kernel_rfl,λ_=>.succ (.succ .zero),aak,s (s z)⟩
end Go.fD
set_option maxRecDepth 20000
set_option maxHeartbeats 2000000
namespace Go.fD
open Go
def Wg:∀(n:Nat) (k:Nat) (l:List Nat) (d:eF),k<n->k+l.length<=10->(∀x∈l,x<=10)->d.wf->∃(j:List Nat) (i:eF),js (ρ:=Vl×eF) (PE λ(a:Int) (b:List Int) (c:eF)=>
   if(oQ a 0) then(
   dU (hJ c 4) λf d261=>
   gB (fI b [f])<|some (.next ((fA .i64 a 1),(fR b [f]),d261)))
   else(some (.yd (a,b,c)))) n ((k:Int),l.map (λ(x:Nat)=>(x:Int)),d)=some (.inl (0,j.map (λ(x:Nat)=>(x:Int)),i))/\j.length<=10/\(∀x∈j,x<=10)/\i.wf:=by
 intro n
 induction n with
 |zero=>intro k l d h;omega|succ n ih=>
  intro k l d u v o q;rw[hI,xP];cases k with
  |zero=>
   rw[dK aak];exact⟨l,d,rfl,VW,o,q⟩
  |succ k=>
   obtain⟨x,i,r,w,A,s⟩:=qV d q 4 VW VW;obtain⟨y,rfl⟩:∃y:Nat,x=y:=⟨x.toNat,VW⟩;rw[dR (by rw[iD];omega),r,dQ,fg acx,ec,dI,fh]
   have e:fA .i64 ((k+1:Nat):Int) 1=(k:Int):=by rw[fT VW VW];omega
   have t:fR (l.map (λ(x:Nat)=>(x:Int))) [(y:Int)]=(l++[y]).map (λ(x:Nat)=>(x:Int)):=by simp[ij]
   rw[e,t]
   exact ih k (l++[y]) i VW acx (λz hz=>by
    rcases sU.1 hz with hz|hz
    ·exact o z hz
    ·rw[DB.1 hz];omega) s
def TE{d:eF}(b:d.wf):∃(l:List Nat) (a:eF),qF FU d .fS=some (.mk 2 0 (l.map (λ(x:Nat)=>(x:Int))) [],a)/\a.wf/\l.length<=10/\∀x∈l,x<=10:=by
 obtain⟨m,hm⟩:∃m,FU=m+1:=⟨FU-1,by rw[fB]⟩;obtain⟨k,d1,c,h,i,f⟩:=qV d b 4 VW VW;obtain⟨k,rfl⟩:∃y:Nat,k=y:=⟨k.toNat,VW⟩;obtain⟨l,a,a1,a2,a3,a4⟩:=Wg FU k [] d1 (by rw[fB];omega) acx aa2 f;refine⟨l,a,?_,a4,a2,a3⟩;rw[show qF FU d .fS=qF (m+1) d .fS by rw[hm]];rw[qF,dK aak,dR ac8,c,dQ,eg];rw[ry] at a1;rw[a1,dI,eB,xP]
def lsF(g:Tm)(l:List Int):Int×Int->Option (gm (Int×Int) Bool):=xm λ(b:Int) (a:Int)=>
 if(pd a 0) then(
 dH (dW l a) λd=>
 dH (pF l (eS .i64 a 1) (eA l)) λf=>
 eZ (mi g [(Vl.mk 1 d [] []),(Vl.mk 2 0 f []),(Vl.mk 1 b [] [])] 20000) λh j c=>
 if(eP c 0) then(
 dH (kr c) λi=>
 some (.ret i))
 else(some (.next (h.num,(fA .i64 a 1)))))
 else(some (.yd (b,a)))
def Z0{g:Tm}(hg:ef [] g (.fn .nat (.fn .fS (.fn .nat .nat))))(hn:g.ak7<=4096){B:Vw}(r:B.s=.n){b:List Nat}(q:b.length<=10/\∀x∈b,x<=10):∀(n j:Nat),j<n->j<=b.length->rj (mM B (g.val []) (b.drop j))<=10+20000*(b.length-j)->js (lsF g (b.map (λ(x:Nat)=>(x:Int)))) n ((rj (mM B (g.val []) (b.drop j)):Nat),(j:Int)-1)=some (.inr true)\/js (lsF g (b.map (λ(x:Nat)=>(x:Int)))) n ((rj (mM B (g.val []) (b.drop j)):Nat),(j:Int)-1)=some (.inl ((rj (mM B (g.val []) b):Nat),-1)):=by
 have hF:(g.val []).s=.f .n (.f .l (.f .n .n)):=by have:=nd hg [] rfl;rwa [xN,xN,xN,wH,z8] at this
 have hs:∀l,(mM B (g.val []) l).s=.n:=λl=>by
  cases l with
  |nil=>exact r|cons a l=>exact xl (xl (xl hF))
 intro n
 induction n with
 |zero=>intro j h;omega|succ n ih=>
  intro j F t d;rw[hI];unfold lsF;rw[kp];cases j with
  |zero=>
   right;rw[dK aak];rfl
  |succ j=>
   have c:j<b.length:=VW
   have i:b.drop j=b[j]::b.drop (j+1):=Kd c
   have u:dW (b.map (λ(x:Nat)=>(x:Int))) (j:Int)=some ((b[j]:Nat):Int):=by rw[gX];simp[c]
   have o:pF (b.map (λ(x:Nat)=>(x:Int))) (eS .i64 (j:Int) 1) (eA (b.map (λ(x:Nat)=>(x:Int))))=some ((b.drop (j+1)).map (λ(x:Nat)=>(x:Int))):=by
    rw[fX VW VW,fM];unfold pF;rw[dR acx]
    have e:((j:Int)+1).toNat=j+1:=VW
    simp[aeH,e,ac1]
   rw[show(((j+1:Nat):Int)-1)=(j:Int) by omega,dR (by rw[jk];omega),u,dI,o,dI];have w:b[j]<=10:=q.2 _ (B7 c)
   have y:sK 20000 (10+20000*(b.length-(j+1))) [Vl.mk 1 ((b[j]:Nat):Int) [] [],Vl.mk 2 0 ((b.drop (j+1)).map (λ(x:Nat)=>(x:Int))) [],Vl.mk 1 ((rj (mM B (g.val []) (b.drop (j+1))):Nat):Int) [] []] [.nat,.fS,.nat] [nV b[j],lV (b.drop (j+1)),nV (rj (mM B (g.val []) (b.drop (j+1))))]:=
    .cons (arg_num VW) (.cons (Sk ⟨by rw[ON];omega,λx d=>by have:=q.2 x (Fj d);omega⟩ (by rw[ON];omega)) (.cons (arg_num d) .nil))
   obtain⟨v,k,e,A,C⟩:=Ot (M:=20000) (ss:=[.nat,.fS,.nat]) hg hn y aa2 VW VW;rw[show mi g _ 20000=_ from A,gz];rcases C with rfl|⟨rfl,c3,D⟩
   ·left;rw[dR aak,show kr 5=some true by decide,dI,dI];rfl
   ·rw[dK nz,dI,fh]
    have ev:E4 (g.val []) [nV b[j],lV (b.drop (j+1)),nV (rj (mM B (g.val []) (b.drop (j+1))))]=mM B (g.val []) (b.drop j):=by
     rw[i];show ot (ot (ot (g.val []) (nV b[j])) (lV (b.drop (j+1)))) (nV (rj (mM B (g.val []) (b.drop (j+1)))))=ot (ot (ot (g.val []) (nV b[j])) (lV (b.drop (j+1)))) (mM B (g.val []) (b.drop (j+1)));rw[afk (hs _)]
    rw[ev] at c3 D;rw[c3,fT VW VW];exact ih j VW VW VW
def He(l:List Int):oY l=some true:=by
 unfold oY;rw[eg,Xs,dI,dR rfl,T7,dI]
 by_cases u:500<l.length
 ·rw[Ni VW];rfl
 have w:l.length<=500:=VW
 rw[z_ w];dsimp only;rw[dK aak,show Rj l=some ⟨l,0⟩from rfl,dI];have A:eF.wf ⟨l,0⟩:=⟨by show l.length<=1000;omega,aa2,aa2⟩;obtain⟨b,d1,B,U,V,C⟩:=qV _ A 3 VW VW;obtain⟨b,rfl⟩:∃y:Nat,b=y:=⟨b.toNat,VW⟩;obtain⟨f,D,h,W,F⟩:=Y9 b VW;obtain⟨g,d2,G,H,d,X⟩:=Ml C;obtain⟨I,q,r⟩:=ael (h []) d VW VW;rw[B,dQ,G,dQ,D,dI,MH (h []) d VW VW,aaM I q r,gz,dK nz]
 have J:(Wt f g).has=true:=by rw[AG (.inl rfl),Xa]
 rcases adR q r J (ajd (h []) d [] [] [])with⟨e,t,he,i⟩|⟨Y,m,_,i⟩
 ·rw[i,dQ,dR (by rw[ez];exact Rh he),ahL he];rfl
 rw[i,acZ (h []) d VW VW];dsimp only;rw[dQ,dK nz,show kU=some .fS from rfl,dI];obtain⟨a,d3,v1,v2,v3,v4⟩:=TE H;rw[v1,dQ,eg];have K:(nV b).s=.n:=rfl
 have j:ef [] (QC f g) (.fn .fS .nat):=by
  have w0:ef [.fS,.nat,.fS,.nat] v0 .nat:=kG (g:=[.fS,.nat,.fS]);have N:ef [.fS,.nat,.fS,.nat,.nat] Go.fD.v3 .nat:=Of (g:=[.fS]);have O:ef [.fS,.nat,.fS,.nat,.nat] Go.fD.v2 .fS:=Cq (g:=[.fS,.nat]);have P:ef [.fS,.nat,.fS,.nat,.nat] v0 .nat:=kG (g:=[.fS,.nat,.fS,.nat]);exact .lam aak (.fold Ty.gR ((h []).cls _) (.lam Ig (.lam (g:=[.fS,.nat]) L6 (.lam (g:=[.fS,.nat,.fS]) tz (.app (.lam (g:=[.fS,.nat,.fS,.nat]) tz (.app (.app (.app (d.cls _) N) O) P)) w0)))) (kG (g:=[])))
 have hlen:(eA (a.map (λ(x:Nat)=>(x:Int))))=(a.length:Int):=by rw[fM,Dh]
 have c:fA .i64 (eA (Vl.mk 2 0 (a.map (λ(x:Nat)=>(x:Int))) []).list) 1=(a.length:Int)-1:=by
  show fA .i64 (eA (a.map _)) 1=_;rw[hlen,fT VW VW]
 rw[c];have L:=Z0 d VW K ⟨v3,v4⟩ FU a.length (by rw[fB];omega) (gY _) (by rw[adE];show rj (nV b)<=_;rw[show rj (nV b)=b from Vw.zK .n b];omega);rw[adE,show rj (mM (nV b) (g.val []) [])=b from Vw.zK .n b] at L;show dH (js (lsF g (a.map (λ(x:Nat)=>(x:Int)))) FU ((b:Int),(a.length:Int)-1)) _=_;rcases L with L|L
 ·rw[L];rfl
 ·rw[L,dI,eB,kp];have Q:sK 20000 (10+20000*20) [Vl.mk 2 0 (a.map (λ(x:Nat)=>(x:Int))) []] [.fS] [lV a]:=.cons (Sk ⟨VW,λx R=>by have:=v4 x R;omega⟩ VW) .nil
  have o:(QC f g).ak7<=4096:=by simp only[gC,Tm.dP,ei,nv0,nv2,nv3];omega
  obtain⟨v,k,e,S,T⟩:=Ot (M:=20000) (ss:=[.fS]) j o Q aa2 VW VW;rw[show mi (QC f g) _ 20000=_ from S,gz,eg];rcases T with rfl|⟨rfl,c3,_⟩
  ·rw[show kr 5=some true by decide,dI,dR rfl]
  ·rw[Z1,dI,dK aak,dR aak]
   have ev:E4 ((QC f g).val []) [lV a]=mM (nV b) (g.val []) a:=by
    show ot ((QC f g).val []) (lV a)=_;rw[Xy (h []) d,F]
   rw[ev] at c3;rw[c3,show eo ((rj (mM (nV b) (g.val []) a):Nat):Int) ((rj (mM (nV b) (g.val []) a):Nat):Int)=true by rw[fZ]]
end Go.fD
