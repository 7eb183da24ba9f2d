/- Part of the proof of SchemeComputes: plain facts. -/
import Derived.KernelRfl
import Derived.Test.YtpgdkkomegalnaaGreatDoorCPC2
set_option linter.all false
set_option maxRecDepth 20000
set_option maxHeartbeats 2000000
namespace Go.fF
open Go
def QP(n:Nat)(v105:List dJ):(Int×Int×(List Int)×(List dJ)×Int×Int×Int×(List Ty)×(List Tm)×(List dJ)×dW)->(Option (gq (Int×Int×(List Int)×(List dJ)×Int×Int×Int×(List Ty)×(List Tm)×(List dJ)×dW) (dJ×dW))):=
 ((Lz λ(b:Int) (c:Int) (d:List Int) (f:List dJ) (h:Int) (i:Int) (j:Int) (k:List Ty) (l:List Tm) (o:List dJ) (q:dW)=>
 ej (λ(u:Bool)=>
 if u then(
 ej (λ(v:Int) (w:List Int) (x:List dJ) (y:Int) (A:Int) (B:Int) (C:List Ty) (D:List Tm) (F:List dJ) (G:dW)=>
 some (.next ((eW .i64 b 1),v,w,x,y,A,B,C,D,F,G))) λs=>
 dH (dX v105 1) λH=>
 dV (eI n q H (dJ.mk b [] [] (Tm.mk 0 0 (Ty.mk 0 []) []) [])) λI r=>
 if r.out then(
 s c d f h i j k l o r)
 else(dV (eI n r I (dJ.mk c d f (Tm.mk h i (Ty.mk j k) l) o)) λa J=>
 s a.num a.list a.pair a.body.alX a.body.al0 a.body.dN.alX a.body.dN.alY a.body.alY a.env J))
 else(some (.y7 (b,c,d,f,h,i,j,k,l,o,q)))) λt=>
 dH (dX v105 2) λK=>
 if(pg b K.num) then(
 t (lV q.out))
 else(t false)):(Int×Int×(List Int)×(List dJ)×Int×Int×Int×(List Ty)×(List Tm)×(List dJ)×dW)->(Option (gq (Int×Int×(List Int)×(List dJ)×Int×Int×Int×(List Ty)×(List Tm)×(List dJ)×dW) (dJ×dW))))
def Jj(n:Nat)(v105:List dJ)(f:dJ):(Int×Int×(List Int)×(List dJ)×Int×Int×Int×(List Ty)×(List Tm)×(List dJ)×dW)->(Option (gq (Int×Int×(List Int)×(List dJ)×Int×Int×Int×(List Ty)×(List Tm)×(List dJ)×dW) (dJ×dW))):=
 ((Lz λ(d:Int) (h:Int) (i:List Int) (j:List dJ) (k:Int) (l:Int) (o:Int) (q:List Ty) (r:List Tm) (s:List dJ) (t:dW)=>
 if(fp (qa d 0) (lV t.out) false) then(
 ej (λ(y:Int) (A:List Int) (B:List dJ) (C:Int) (D:Int) (F:Int) (G:List Ty) (H:List Tm) (I:List dJ) (J:dW)=>
 some (.next ((fL .i64 d 1),y,A,B,C,D,F,G,H,I,J))) λw=>
 dH (dX v105 1) λK=>
 dH (dX f.list d) λL=>
 dV (eI n t K (dJ.mk L [] [] (Tm.mk 0 0 (Ty.mk 0 []) []) [])) λa u=>
 ej (λ(M:Int) (N:List Int) (O:List dJ) (P:Int) (Q:Int) (R:Int) (S:List Ty) (T:List Tm) (U:List dJ) (v:dW)=>
 if v.out then(
 w h i j k l o q r s v)
 else(dV (eI n v (dJ.mk M N O (Tm.mk P Q (Ty.mk R S) T) U) (dJ.mk h i j (Tm.mk k l (Ty.mk o q) r) s)) λb V=>
 w b.num b.list b.pair b.body.alX b.body.al0 b.body.dN.alX b.body.dN.alY b.body.alY b.env V)) λx=>
 if u.out then(
 x a.num a.list a.pair a.body.alX a.body.al0 a.body.dN.alX a.body.dN.alY a.body.alY a.env u)
 else(dH (tv f.list (eW .i64 d 1) (eA f.list)) λW=>
 dV (eI n u a (dJ.mk 0 W [] (Tm.mk 0 0 (Ty.mk 0 []) []) [])) λc X=>
 x c.num c.list c.pair c.body.alX c.body.al0 c.body.dN.alX c.body.dN.alY c.body.alY c.env X))
 else(some (.y7 (d,h,i,j,k,l,o,q,r,s,t)))):(Int×Int×(List Int)×(List dJ)×Int×Int×Int×(List Ty)×(List Tm)×(List dJ)×dW)->(Option (gq (Int×Int×(List Int)×(List dJ)×Int×Int×Int×(List Ty)×(List Tm)×(List dJ)×dW) (dJ×dW))))
def YG(n:Nat)(k:Int)(v105:List dJ)(c:dW):Option (dJ×dW):=
 if(eo k 3) then(
 dH (dX v105 0) λi=>
 dH (dX v105 1) λj=>
 dV (eI n c i j) λl o=>
 some (l,o))
 else(if(eo k 5) then(
 dH (dX v105 0) λq=>
 some ((dJ.mk (eW .i64 q.num 1) [] [] (Tm.mk 0 0 (Ty.mk 0 []) []) []),c))
 else(if(eo k 6) then(
 dH (dX v105 0) λa=>
 ej (QP n v105) λs=>
 dH (j0 s FU (0,a.num,a.list,a.pair,a.body.alX,a.body.al0,a.body.dN.alX,a.body.dN.alY,a.body.alY,a.env,c)) (fO (Lz λ(U:Int) (t:Int) (u:List Int) (v:List dJ) (w:Int) (x:Int) (y:Int) (A:List Ty) (B:List Tm) (C:List dJ) (D:dW)=>
 some ((dJ.mk t u v (Tm.mk w x (Ty.mk y A) B) C),D)) (λr=>some r)))
 else(if(eo k 8) then(
 dH (dX v105 0) λd=>
 dH (dX v105 1) λf=>
 gG (fN [d.num] f.list)<|some ((dJ.mk 0 (fU [d.num] f.list) [] (Tm.mk 0 0 (Ty.mk 0 []) []) []),c))
 else(if(eo k 9) then(
 dH (dX v105 0) λb=>
 dH (dX v105 2) λh=>
 ej (Jj n v105 h) λF=>
 dH (j0 F FU ((fL .i64 (eA h.list) 1),b.num,b.list,b.pair,b.body.alX,b.body.al0,b.body.dN.alX,b.body.dN.alY,b.body.alY,b.env,c)) (fO (Lz λ(V:Int) (G:Int) (H:List Int) (I:List dJ) (J:Int) (K:Int) (L:Int) (M:List Ty) (N:List Tm) (O:List dJ) (P:dW)=>
 some ((dJ.mk G H I (Tm.mk J K (Ty.mk L M) N) O),P)) (λr=>some r)))
 else(if(eo k 10) then(
 some ((dJ.mk 0 [] v105 (Tm.mk 0 0 (Ty.mk 0 []) []) []),c))
 else(if(eo k 11) then(
 dH (dX v105 0) λQ=>
 dH (dX Q.pair 0) λR=>
 some (R,c))
 else(if(eo k 12) then(
 dH (dX v105 0) λS=>
 dH (dX S.pair 1) λT=>
 some (T,c))
 else(some ((dJ.mk 0 [] [] (Tm.mk 0 0 (Ty.mk 0 []) []) []),c)))))))))
abbrev LSt:=Int×Int×(List Int)×(List dJ)×Int×Int×Int×(List Ty)×(List Tm)×(List dJ)×dW
def pk(j:Int)(r:vy)(m:S1):LSt:=(j,r.num,r.list,r.pair,r.body.alX,r.body.al0,r.body.dN.alX,r.body.dN.alY,r.body.alY,r.env,m)
def pkE:LSt->Option (vy×S1):=Lz λ(_:Int) (a:Int) (b:List Int) (c:List dJ) (d:Int) (f:Int) (h:Int) (i:List Ty) (j:List Tm) (k:List dJ) (l:dW)=>some ((dJ.mk a b c (Tm.mk d f (Ty.mk h i) j) k),l)
def Nq(j:Int)(r:vy)(m:S1):pkE (pk j r m)=some (r,m):=by
 unfold pkE pk;rw[vS,Ty.gM,Tm.gM,dJ.gM]
abbrev Yy(k:Int):vy:=.mk k [] [] (Tm.mk 0 0 (Ty.mk 0 []) []) []
abbrev agh(l:List Int):vy:=.mk 0 l [] (Tm.mk 0 0 (Ty.mk 0 []) []) []
def aaL{n:Nat}{b s nn r:vy}{j:Int}{m:S1}(h:pg j nn.num=true)(a:m.out=false):QP n [b,s,nn] (pk j r m)=dV (eI n m s (Yy j)) λf d=>if d.out then some (.next (pk (eW .i64 j 1) r d))else dV (eI n d f r) λc i=>some (.next (pk (eW .i64 j 1) c i)):=by
 unfold QP
 conv=>lhs;unfold pk
 rw[vS,ef,show dX [b,s,nn] 2=some nn from rfl,dI,dR h,a];dsimp only;rw[dR abD,ef,show dX [b,s,nn] 1=some s from rfl,dI,Ty.gM,Tm.gM,dJ.gM];rfl
def PI{n:Nat}{b s nn r:vy}{j:Int}{m:S1}(h:pg j nn.num=false\/m.out=true):QP n [b,s,nn] (pk j r m)=some (.y7 (pk j r m)):=by
 unfold QP
 conv=>lhs;unfold pk
 rw[vS,ef,show dX [b,s,nn] 2=some nn from rfl,dI];rcases h with h|h
 ·rw[h,dK aar];dsimp only;rw[dK aar];rfl
 ·by_cases a:pg j nn.num=true
  ·rw[dR a,h];dsimp only;rw[dK aar];rfl
  ·rw[dK a];dsimp only;rw[dK aar];rfl
def Xy{n:Nat}{b s nn r:vy}{i:Int}{m:S1}{h:Int}(hi:0<=i)(l:m.out=false)(o:dX nn.list i=some h):Jj n [b,s,nn] nn (pk i r m)=dV (eI n m s (Yy h)) λf d=>if d.out then some (.next (pk (fL .i64 i 1) r d))else dH (tv nn.list (eW .i64 i 1) (eA nn.list)) λj=>dV (eI n d f (agh j)) λf2 d2=>if d2.out then some (.next (pk (fL .i64 i 1) r d2))else dV (eI n d2 f2 r) λq t=>some (.next (pk (fL .i64 i 1) q t)):=by
 unfold Jj
 conv=>lhs;unfold pk
 rw[vS,dR (by rw[vL,l];simp[hi,lV]),ef,show dX [b,s,nn] 1=some s from rfl,dI,o,dI];cases v:eI n m s (Yy h)with
 |none=>rfl|some fd=>
  obtain⟨f,d⟩:=fd;rw[dQ,dQ,ef]
  by_cases c:d.out=true
  ·rw[dR c,dR c];dsimp only;rw[dR c];rfl
  ·rw[dK c,dK c];cases hs:tv nn.list (eW .i64 i 1) (eA nn.list)with
   |none=>rfl|some j=>
    rw[dI,dI];cases u:eI n d f (agh j)with
    |none=>rfl|some k=>
     obtain⟨f2,d2⟩:=k;rw[dQ,dQ]
     by_cases a:d2.out=true
     ·rw[dR a];dsimp only;rw[dR a];rfl
     ·rw[dK a];dsimp only;rw[dK a];simp only[Ty.gM,Tm.gM,dJ.gM];rfl
def L7{n:Nat}{b s nn r:vy}{i:Int}{m:S1}(h:i<0\/m.out=true):Jj n [b,s,nn] nn (pk i r m)=some (.y7 (pk i r m)):=by
 unfold Jj
 conv=>lhs;unfold pk
 rw[vS,dK (by
  rw[vL,hE,jW];rintro⟨c,a⟩;rcases h with h|h
  ·omega
  ·rw[h] at a;exact absurd a aar)]
 rfl
def W'{M n:Nat}{b s nn:vy}{σ:B3}{φ:Nat->σ.D->σ.D}{B0 d:Nat}(hs:RT M (.f .n (.f σ σ)) φ s B0)(hn:nn.num=(d:Int))(R:d<=B0)(V:Nat->σ.D)(w:∀k,V (k+1)=φ k (V k)):∀(q j:Nat) (r:vy) (u B:Nat),j<=d->RT M σ (V j) r B->B0<=B->B+(M-u)<=100000000->u<=M->2*(M-u)+2<=n->(M-u)+2<=q->∃i a out,dH (j0 (QP n [b,s,nn]) q (pk (j:Int) r (mc M u false))) (fO pkE (λr=>some r))=some (i,mc M a out)/\u<=a/\a<=M/\(out=false->RT M σ (V d) i (B+(a-u))):=by
 intro q
 induction q with
 |zero=>intro j r u B _ _ _ _ _ _ h;omega|succ q ih=>
  intro j r u B S t x l hu o T;rw[hS]
  by_cases y:j<d
  ·rw[aaL (by rw[jR,hn];omega) rfl]
   have A:eW .i64 (j:Int) 1=((j+1:Nat):Int):=by rw[gd VW VW];omega
   have stop:∀(r:vy) (a:Nat),u<=a->a<=M->∃i c out,dH (dH (some (gq.next (pk (eW .i64 (j:Int) 1) r (mc M a true)))) (KV (j0 (QP n [b,s,nn]) q))) (fO pkE (λr=>some r))=some (i,mc M c out)/\u<=c/\c<=M/\(out=false->RT M σ (V d) i (B+(c-u))):=λr a C F=>by
    obtain⟨v,rfl⟩:∃v,q=v+1:=⟨q-1,VW⟩;rw[dI,fk,hS,PI (.inr rfl),dI,sZ,dI,eC,Nq];exact⟨r,a,true,rfl,C,F,λh=>by cases h⟩
   obtain⟨f,u1,o1,G,H,c3,I⟩:=hs j (Yy (j:Int)) B u n x l ⟨rfl,VW⟩ hu o;rw[G,dQ];cases o1 with
   |true=>rw[dR rfl];exact stop r u1 H c3|false=>
    obtain⟨c5,J⟩:=I rfl;rw[dK aaA];obtain⟨i,u2,o2,g1,g2,g3,g4⟩:=J (V j) r (B+(u1-u)) u1 n (g_ _) VW (t.mono _ VW) c3 VW;rw[g1,dQ];cases o2 with
    |true=>exact stop i u2 VW g3|false=>
     obtain⟨g5,g6⟩:=g4 rfl;rw[dI,fk,A];rw[<-w j] at g6;obtain⟨K,u3,L,N,k2,O,P⟩:=ih (j+1) i u2 (B+(u2-u)) VW (g6.mono _ VW) VW VW g3 VW VW;exact⟨K,u3,L,N,VW,O,λh=>(P h).mono _ VW⟩
  ·have:j=d:=VW
   subst this
   have Q:pg (j:Int) nn.num=false:=by
    cases h:pg (j:Int) nn.num with
    |false=>rfl|true=>rw[jR,hn] at h;omega
   rw[PI (.inl Q),dI,sZ,dI,eC,Nq];exact⟨r,u,false,rfl,g_ _,hu,λ_=>t.mono _ VW⟩
def TV{M n:Nat}{b s nn:vy}{σ:B3}{φ:Nat->List Nat->σ.D->σ.D}{B0:Nat}{a:List Nat}(hs:RT M (.f .n (.f .l (.f σ σ))) φ s B0)(hn:nn.list=a.map (λ(x:Nat)=>(x:Int)))(C:a.length<=B0/\∀x∈a,x<=B0)(V:List Nat->σ.D)(K:∀h t,V (h::t)=φ h t (V t)):∀(q j:Nat) (r:vy) (u B:Nat),j<=a.length->RT M σ (V (a.drop j)) r B->B0<=B->B+(M-u)<=100000000->u<=M->2*(M-u)+2<=n->(M-u)+2<=q->∃i c out,dH (j0 (Jj n [b,s,nn] nn) q (pk ((j:Int)-1) r (mc M u false))) (fO pkE (λr=>some r))=some (i,mc M c out)/\u<=c/\c<=M/\(out=false->RT M σ (V a) i (B+(c-u))):=by
 intro q
 induction q with
 |zero=>intro j r u B _ _ _ _ _ _ h;omega|succ q ih=>
  intro j r u B hj F L o hu v hq;rw[hS];cases j with
  |succ j=>
   have k:j<a.length:=VW
   have w:a.drop j=a[j]::a.drop (j+1):=Nz k;rw[show(((j+1:Nat):Int)-1)=(j:Int) by omega]
   have N:dX nn.list (j:Int)=some ((a[j]:Nat):Int):=by rw[hJ,hn];simp[k]
   rw[Xy VW rfl N];have O:fL .i64 (j:Int) 1=(j:Int)-1:=gi VW VW
   have stop:∀(r:vy) (c:Nat),u<=c->c<=M->∃i d out,dH (dH (some (gq.next (pk (fL .i64 (j:Int) 1) r (mc M c true)))) (KV (j0 (Jj n [b,s,nn] nn) q))) (fO pkE (λr=>some r))=some (i,mc M d out)/\u<=d/\d<=M/\(out=false->RT M σ (V a) i (B+(d-u))):=λr c P Q=>by
    obtain⟨G,rfl⟩:∃G,q=G+1:=⟨q-1,VW⟩;rw[dI,fk,hS,L7 (.inr rfl),dI,sZ,dI,eC,Nq];exact⟨r,c,true,rfl,P,Q,λh=>by cases h⟩
   have H:a[j]<=B0:=C.2 _ (DL k);obtain⟨f,u1,o1,R,S,c3,T⟩:=hs a[j] (Yy ((a[j]:Nat):Int)) B u n L o ⟨rfl,VW⟩ hu v;rw[R,dQ];cases o1 with
   |true=>rw[dR rfl];exact stop r u1 S c3|false=>
    obtain⟨c5,U⟩:=T rfl;rw[dK aaA]
    have y:tv nn.list (eW .i64 (j:Int) 1) (eA nn.list)=some ((a.drop (j+1)).map (λ(x:Nat)=>(x:Int))):=by
     rw[gd VW VW,fQ,hn];unfold tv;rw[dR abu]
     have e:((j:Int)+1).toNat=j+1:=VW
     simp[List.map_drop,e,ahI]
    rw[y,dI]
    have A:RT M .l (a.drop (j+1)) (agh ((a.drop (j+1)).map (λ(x:Nat)=>(x:Int)))) (B+(u1-u)):=by
     refine⟨rfl,by rw[T6];omega,λx H=>?_⟩;have:=C.2 x (Ib H);omega
    obtain⟨f2,u2,o2,g1,g2,g3,g4⟩:=U (a.drop (j+1)) _ (B+(u1-u)) u1 n (g_ _) VW A c3 VW;rw[g1,dQ];cases o2 with
    |true=>rw[dR rfl];exact stop r u2 VW g3|false=>
     obtain⟨g5,g6⟩:=g4 rfl;rw[dK aaA];obtain⟨i,u3,W,X,k2,I,Y⟩:=g6 (V (a.drop (j+1))) r (B+(u1-u)+(u2-u1)) u2 n (g_ _) VW (F.mono _ VW) g3 VW;rw[X,dQ];cases W with
     |true=>exact stop i u3 VW I|false=>
      obtain⟨k5,J⟩:=Y rfl;rw[dI,fk,O];rw[<-K,<-w] at J;obtain⟨Z,u4,o4,l1,l2,l3,l4⟩:=ih j i u3 (B+(u3-u)) VW (J.mono _ VW) VW VW I VW VW;exact⟨Z,u4,o4,l1,VW,l3,λh=>(l4 h).mono _ VW⟩
  |zero=>
   rw[L7 (.inl VW),dI,sZ,dI,eC,Nq];exact⟨r,u,false,rfl,g_ _,hu,λ_=>F.mono _ VW⟩
end Go.fF
set_option maxRecDepth 20000
set_option maxHeartbeats 1000000
namespace Go.fF
open Go
def aiz{g:List Ty}{b c:Tm}{s:Ty}(a:dU g b s)(d:(Tm.mk 6 0 s [b,c,iF]).ok=true):Cv (.mk 6 0 s [b,c,iF]) b:=.star d (.step (.Km 0 s 0 .z _ (k4.refl b a.ok)) (.refl b))
def ahG{b c n:Tm}{s:Ty}(a:b.ok=true)(d:c.ok=true)(hn:n.ok=true)(f:(Tm.mk 6 0 s [b,c,gE n]).ok=true):Cv (.mk 6 0 s [b,c,gE n]) (qq c n (.mk 6 0 s [b,c,n])):=.star f (.step (.IL 0 s 0 .z (k4.refl b a) (k4.refl c d) (k4.refl n hn)) (.refl _))
abbrev X1(b f:Tm):Fm:=.mk 4 .nat [] [AI (yz b f v0)]
abbrev T2(b f:Tm):Pf:=.mk 8 0 .nat [] [] [.mk 16 0 .z [v0] [AI (yz b f v0)] [GP (yz b f iF) b (wT b),UW (NO 0) (GP (yz b f (gE v1)) (qq f v1 v0) (Fb (yk (qq f v2 v1) (qq f v2 v0)) (NO 0) (wT (qq f v1 v0))))]]
def aiC{b f:Tm}(c:dU [] b .nat)(q:dU [] f (.fn .nat (.fn .nat .nat)))(L:List Fm)(g:List Ty)(hs:List Fm):Tk L g hs (T2 b f) (X1 b f):=by
 have B:=c.cl;have F:=q.cl;have R:∀{g:List Ty} {n:Tm},dU g n .nat->dU g (yz b f n) .nat:=λh=>.oN Ty.fW (c.cls _) (q.cls _) h;have A:∀{g:List Ty} {x y:Tm},dU g x .nat->dU g y .nat->dU g (qq f x y) .nat:=λh w=>.app (.app (q.cls _) h) w;have C:dU (g++[.nat]) v0 .nat:=hU;have d:dU (g++[.nat]++[.nat]) v0 .nat:=hU;have l:dU (g++[.nat]++[.nat]++[.nat]) v1 .nat:=oe;have j:dU (g++[.nat]++[.nat]++[.nat]) v0 .nat:=hU;refine Tk.allI Ty.fW ?_
 have D:Fm.gp 0 (AI (yz b f v0)) v0=AI (yz b f v0):=by
  simp[Fm.eS,Tm.fu,Tm.eS,v0,Tm.kH,fq,qB,ki,B.up,B.gp,F.up,F.gp]
 refine Eq.mp (congrArg (Tk L (g++[.nat]) (hs.map (Fm.up 0 1)) _) D) (Tk.ind (F:=AI (yz b f v0)) (BL (R d)) C ?_ ?_)
 ·have G:Fm.gp 0 (AI (yz b f v0)) iF=AI (yz b f iF):=by
   simp[Fm.eS,Tm.fu,Tm.eS,v0,Tm.kH,fq,qB,ki,B.up,B.gp,F.up,F.gp,iF]
  rw[G];have r:dU (g++[.nat]) (yz b f iF) .nat:=R .zero;exact Tk.shown r (c.cls _) (Tk.cv (Tk.refl (c.cls _)) (.eq (.refl c.ok) (aiz c r.ok).symm))
 ·have H:Fm.gp 0 ((AI (yz b f v0)).up 1 1) (gE v0)=AI (yz b f (gE v0)):=by
   simp[Fm.eS,Fm.fu,Tm.fu,Tm.eS,v0,Tm.kH,fq,qB,ki,B.up,B.gp,F.up,F.gp,gE]
  rw[H];refine Tk.exE (s:=.nat) Ty.fW (x:=yk v0 ((yz b f v0).up 0 1)) (Tk.hyp (i:=0) aaA (.refl (BL (R d)))) (BL (R (.succ d))) λI v P=>?_
  have J:(AI (yz b f (gE v0))).up 0 1=AI (yz b f (gE v1)):=by
   simp[Fm.fu,Tm.fu,v0,v1,fq,qB,ki,B.up,F.up,gE]
  have K:yk v0 ((yz b f v0).up 0 1)=yk v0 (yz b f v1):=by
   simp[Tm.fu,v0,v1,fq,B.up,F.up]
  rw[K] at v;rw[J];have o:dU (g++[.nat]++[.nat]++[.nat]) (yz b f (gE v1)) .nat:=R (.succ l);refine Tk.shown o (A l j) ?_;have M:iW (g++[.nat]++[.nat]++[.nat]++[.nat]) (yk (qq f v2 v1) (qq f v2 v0)):=.eq (A Kp oe) (A Kp hU)
  have N:Fm.gp 0 (yk (qq f v2 v1) (qq f v2 v0)) v0=yk (qq f v1 v0) (qq f v1 v0):=by
   simp[Fm.eS,Tm.eS,v0,v1,v2,Tm.kH,fq,B.gp,F.gp,fi,rq]
  have O:Fm.gp 0 (yk (qq f v2 v1) (qq f v2 v0)) (yz b f v1)=yk (qq f v1 v0) (qq f v1 (yz b f v1)):=by
   simp[Fm.eS,Tm.eS,v0,v1,v2,Tm.kH,fq,B.gp,F.gp,fi,rq]
  have k:=Tk.subst (L:=L) (hs:=List.map (Fm.up 0 1) (List.map (Fm.up 0 1) (List.map (Fm.up 0 1) hs)++[AI (yz b f v0)])++[I]) M (a:=NO 0) (b:=wT (qq f v1 v0)) (t:=v0) (u:=yz b f v1) (Tk.hyp (i:=0) aaA v) (by rw[N];exact Tk.refl (A l j));rw[O] at k;exact k.cv (.eq (.refl (A l j).ok) (ahG c.ok q.ok l.ok o.ok).symm)
end Go.fF
set_option maxRecDepth 20000
set_option maxHeartbeats 1000000
namespace Go.fF
open Go
abbrev j2:Ty:=.pr .nat .nat
abbrev se(t:Tm):Tm:=.mk 11 0 .z [t]
abbrev uF(t:Tm):Tm:=.mk 12 0 .z [t]
abbrev NT(a b:Tm):Tm:=.mk 10 0 .z [a,b]
abbrev DP(f x:Tm):Tm:=NT (uF x) (qq f (se x) (uF x))
abbrev stT(f:Tm):Tm:=.mk 2 0 .nat [.mk 2 0 j2 [DP f v0]]
abbrev mo(b c f n:Tm):Tm:=.mk 6 0 j2 [NT b c,stT f,n]
abbrev Yq(s:Tm):Fm:=.mk 2 .z [] [yk (se v0) (se (s.up 0 1)),yk (uF v0) (uF (s.up 0 1))]
abbrev AL(s:Tm):Fm:=.mk 5 j2 [] [Yq s]
abbrev al9(x y:Pf):Pf:=.mk 3 0 .z [] [] [x,y]
abbrev Xn(x:Pf):Pf:=.mk 4 0 .z [] [] [x]
abbrev XX(x:Pf):Pf:=.mk 5 0 .z [] [] [x]
abbrev WW(b c f:Tm):Fm:=.mk 4 .nat [] [AI (se (mo b c f v0))]
abbrev RD(b c f:Tm):Pf:=
 .mk 8 0 .nat [] [] [UW
  (.mk 16 0 .z [v0] [AL (mo b c f v0)] [.mk 10 0 .z [NT b c] [AL (mo b c f iF)] [al9 (wT b) (wT c)],UW (NO 0) (.mk 10 0 .z [DP f v0] [AL (mo b c f (gE v1))] [al9
    (Fb (yk (uF v1) v0) (XX (NO 0)) (wT (uF v0)))
    (Fb (yk (qq f (se v1) (uF v1)) (qq f (se (mo b c f v2)) v0)) (XX (NO 0)) (Fb (yk (qq f (se v1) (uF v1)) (qq f v0 (uF v1))) (Xn (NO 0)) (wT (qq f (se v0) (uF v0)))))])])
  (GP (se (mo b c f v1)) (se v0) (Xn (NO 0)))]
def nG.aa1{k i:Int}{s:Ty}{a b:Tm}(h:nG a b):nG (.mk k i s [a]) (.mk k i s [b]):=by
 induction h with
 |refl t=>exact .refl _|step h _ ih=>exact .step (.n1 k i s h) ih
def uu:j2.err=0:=aar
def Gg:(Ty.fn j2 j2).err=0:=aar
def Sa:(Ty.fn .nat (.fn j2 j2)).err=0:=aar
section
variable{b c f:Tm}
def EU(b:dU [] f (.fn .nat (.fn .nat .nat))){g:List Ty}{x:Tm}(a:dU g x j2):dU g (DP f x) j2:=.pair uu (.snd a) (.app (.app (b.cls _) (.fst a)) (.snd a))
def ac_(a:dU [] f (.fn .nat (.fn .nat .nat))):dU [] (stT f) (.fn .nat (.fn j2 j2)):=.lam Sa (.lam Gg (EU a (hU (g:=[]++[.nat]))))
def G9(a:dU [] b .nat)(d:dU [] c .nat):dU [] (NT b c) j2:=.pair uu a d
def CZ(a:dU [] b .nat)(d:dU [] c .nat)(h:dU [] f (.fn .nat (.fn .nat .nat))){g:List Ty}{n:Tm}(hn:dU g n .nat):dU g (mo b c f n) j2:=.oN uu ((G9 a d).cls _) ((ac_ h).cls _) hn
def R7{g:List Ty}{s:Tm}(hs:dU g s j2):iW (g++[j2]) (Yq s):=.two (.inl rfl) (.eq (.fst hU) (.fst (hs.lift [j2]))) (.eq (.snd hU) (.snd (hs.lift [j2])))
def BH{g:List Ty}{s:Tm}(hs:dU g s j2):iW g (AL s):=.q (.inr (.inl rfl)) uu (R7 hs)
def Nw(t:Tm):Tm.gp 0 v0 t=t:=by
 unfold v0;rw[Tm.eS,dR rfl];unfold Tm.kH;rw[dR rfl,rq]
def To{g:List Ty}{s:Tm}(hs:dU g s j2)(t:Tm):Fm.gp 0 (Yq s) t=.mk 2 .z [] [yk (se t) (se s),yk (uF t) (uF s)]:=by
 simp[Fm.eS,Tm.eS,fq,qB,ki,Tq hs,Nw]
def Su(d:dU [] b .nat)(h:dU [] c .nat)(a:dU [] f (.fn .nat (.fn .nat .nat))){g:List Ty}{n:Tm}(hn:dU g n .nat):nG (mo b c f (gE n)) (DP f (mo b c f n)):=by
 have F:=a.cl;have i:=CZ d h a hn;have j:=(ac_ a).cls g;have k:(Tm.mk 2 0 j2 [DP f v0]).ok=true:=(dU.lam (g:=[]) Gg (EU a (hU (g:=[])))).ok;have l:(DP f v0).ok=true:=(EU a (hU (g:=[]))).ok;refine .step (.IL 0 _ 0 .z (k4.refl _ (G9 d h).ok) (k4.refl _ j.ok) (k4.refl _ hn.ok)) ?_;refine .step (.n2 3 0 _ (.beta 0 _ 0 _ (k4.refl _ k) (k4.refl _ hn.ok)) (k4.refl _ i.ok)) ?_
 have o:Tm.gp 0 (.mk 2 0 j2 [DP f v0]) n=.mk 2 0 j2 [DP f v0]:=by
  simp[Tm.eS,v0,Tm.kH,fq,F.gp,fi]
 rw[o];refine .step (.beta 0 _ 0 _ (k4.refl _ l) (k4.refl _ i.ok)) ?_
 have q:Tm.gp 0 (DP f v0) (mo b c f n)=DP f (mo b c f n):=by
  rw[Tm.eS,dK aar];simp only[kZ,mr,show fq 10=0 from rfl,sh,fi];simp[Tm.eS,fq,F.gp,Nw];rfl
 rw[q];exact .refl _
def afE(d:dU [] b .nat)(h:dU [] c .nat)(a:dU [] f (.fn .nat (.fn .nat .nat))){g:List Ty}{n:Tm}(hn:dU g n .nat):Cv (se (mo b c f (gE n))) (uF (mo b c f n)):=by
 have i:=CZ d h a hn;have hw:=EU a i;refine .star (dU.fst (CZ d h a (.succ hn))).ok (((Su d h a hn).aa1).trans (.step (.fst 0 _ 0 _ _ (k4.refl _ (dU.snd i).ok)) (.refl _)))
def afY(d:dU [] b .nat)(h:dU [] c .nat)(a:dU [] f (.fn .nat (.fn .nat .nat))){g:List Ty}{n:Tm}(hn:dU g n .nat):Cv (uF (mo b c f (gE n))) (qq f (se (mo b c f n)) (uF (mo b c f n))):=by
 have i:=CZ d h a hn;have hw:=EU a i;refine .star (dU.snd (CZ d h a (.succ hn))).ok (((Su d h a hn).aa1).trans (.step (.snd 0 _ 0 _ _ (k4.refl _ (dU.app (.app (a.cls g) (.fst i)) (.snd i)).ok)) (.refl _)))
def ac8{g:List Ty}{x y:Tm}(a:dU g x .nat)(b:dU g y .nat):Cv (se (NT x y)) x:=.star (dU.fst (dU.pair uu a b)).ok (.step (.fst 0 _ 0 _ _ (k4.refl _ a.ok)) (.refl _))
def acM{g:List Ty}{x y:Tm}(b:dU g x .nat)(a:dU g y .nat):Cv (uF (NT x y)) y:=.star (dU.snd (dU.pair uu b a)).ok (.step (.snd 0 _ 0 _ _ (k4.refl _ a.ok)) (.refl _))
def aaK(a:dU [] b .nat)(d:dU [] c .nat)(j:dU [] f (.fn .nat (.fn .nat .nat)))(g:List Ty):Cv (se (mo b c f iF)) b/\Cv (uF (mo b c f iF)) c:=by
 have h:nG (mo b c f iF) (NT b c):=.step (.Km 0 _ 0 .z _ (k4.refl _ (G9 a d).ok)) (.refl _);have i:=CZ a d j (g:=g) .zero;exact⟨.star (dU.fst i).ok (h.aa1.trans (.step (.fst 0 _ 0 _ _ (k4.refl _ a.ok)) (.refl _))),.star (dU.snd i).ok (h.aa1.trans (.step (.snd 0 _ 0 _ _ (k4.refl _ d.ok)) (.refl _)))⟩
end
def akK{b c f:Tm}(j:dU [] b .nat)(k:dU [] c .nat)(l:dU [] f (.fn .nat (.fn .nat .nat)))(L:List Fm)(g:List Ty)(hs:List Fm):Tk L g hs (RD b c f) (WW b c f):=by
 have B:=j.cl;have C:=k.cl;have F:=l.cl;have R:∀{g:List Ty} {n:Tm},dU g n .nat->dU g (mo b c f n) j2:=λh=>CZ j k l h;have A:∀{g:List Ty} {x y:Tm},dU g x .nat->dU g y .nat->dU g (qq f x y) .nat:=λh T=>.app (.app (l.cls _) h) T;have K:dU (g++[.nat]) v0 .nat:=hU;have w:dU (g++[.nat]++[.nat]) v0 .nat:=hU;have q:dU (g++[.nat]++[.nat]++[j2]) v0 j2:=hU;have t:dU (g++[.nat]++[.nat]++[j2]) v1 .nat:=oe;have U:dU (g++[.nat]++[j2]) v0 j2:=hU;have V:dU (g++[.nat]++[j2]) v1 .nat:=oe
 have r:∀(n n':Tm),n.up 0 1=n'->(mo b c f n).up 0 1=mo b c f n':=λn n' h=>by
  simp[Tm.fu,fq,B.up,C.up,F.up,h,v0,fi]
 have d:v0.up 0 1=v1:=by simp[Tm.fu,v0,v1]
 have us:∀{n n':Tm},n.up 0 1=n'->(gE n).up 0 1=gE n':=λh=>by simp[Tm.fu,fq,h,gE]
 have D:∀(a:Tm),Fm.gp 0 (AL (mo b c f v0)) a=AL (mo b c f a):=λa=>by
  rw[Fm.eS];simp only[kZ,mr,show qB 5=1 by decide];rw[Fm.eS];simp only[kZ,mr,show qB 2=0 by decide,sh,show(0:Int)+1=1 from rfl];rw[Fm.eS,Fm.eS,r v0 v1 d];simp only[kZ,mr];simp[Tm.fu,Tm.eS,v0,v1,Tm.kH,fq,B.up,C.up,F.up,B.gp,C.gp,F.gp,fi]
 refine Tk.allI Ty.fW (Tk.exE (s:=j2) uu (x:=Yq (mo b c f v0)) ?_ (BL (.fst (R K))) λz W tz=>?_)
 ·show Tk L _ _ _ (AL (mo b c f v0));refine Eq.mp (congrArg (Tk L (g++[.nat]) (hs.map (Fm.up 0 1)) _) (D v0)) (Tk.ind (F:=AL (mo b c f v0)) (BH (R w)) K ?_ ?_)
  ·rw[D];refine Tk.exI ((G9 j k).cls _) (BH (R (n:=iF) .zero)) (R7 (R (n:=iF) .zero)) ?_;rw[To (R (g:=g++[.nat]) (n:=iF) .zero)];have M:=aaK j k l [];exact(Tk.IT (Tk.refl (j.cls _)) (Tk.refl (k.cls _))).cv (.two (.eq (ac8 j k).symm M.1.symm) (.eq (acM j k).symm M.2.symm))
  ·have X:Fm.gp 0 ((AL (mo b c f v0)).up 1 1) (gE v0)=AL (mo b c f (gE v0)):=by
    rw[<-D (gE v0)]
    congr 1
    rw[Fm.fu];simp only[kZ,mr,show qB 5=1 by decide];rw[Fm.fu];simp only[kZ,mr,show qB 2=0 by decide,sh];rw[Fm.fu,Fm.fu,r v0 v1 d];simp only[kZ,mr];simp[Tm.fu,v0,v1,fq,B.up,C.up,F.up,fi]
   rw[X];refine Tk.exE (s:=j2) uu (x:=Yq (mo b c f v0)) (Tk.hyp (i:=0) aaA (.refl (BH (R w)))) (BH (R (.succ w))) λN Y hx=>?_
   have Z:(AL (mo b c f (gE v0))).up 0 1=AL (mo b c f (gE v1)):=by
    have v12:v1.up 0 1=v2:=by simp[Tm.fu,v1,v2]
    show(Fm.mk 5 j2 [] [.mk 2 .z [] [yk (se v0) (se ((mo b c f (gE v0)).up 0 1)),yk (uF v0) (uF ((mo b c f (gE v0)).up 0 1))]]).up 0 1=.mk 5 j2 [] [.mk 2 .z [] [yk (se v0) (se ((mo b c f (gE v1)).up 0 1)),yk (uF v0) (uF ((mo b c f (gE v1)).up 0 1))]];rw[r _ _ (us d),r _ _ (us v12)];simp[Fm.fu,qB,ki,Tm.fu,v0,v1,v2,fq,B.up,C.up,F.up,fi,gE]
   rw[Z];have ad:dU (g++[.nat]++[.nat]++[j2]) (mo b c f v1) j2:=R t;have o:dU (g++[.nat]++[.nat]++[j2]) (mo b c f (gE v1)) j2:=R (.succ t);refine Tk.exI (EU l q) (BH o) (R7 o) ?_;rw[To o]
   have G:rR N (.mk 2 .z [] [yk (se v0) (se (mo b c f v1)),yk (uF v0) (uF (mo b c f v1))]):=by
    have e:Yq (mo b c f v0)=.mk 2 .z [] [yk (se v0) (se (mo b c f v1)),yk (uF v0) (uF (mo b c f v1))]:=by rw[Yq,r v0 v1 d]
    rw[<-e];exact Y
   generalize hH:(List.map (Fm.up 0 1) (List.map (Fm.up 0 1) (List.map (Fm.up 0 1) hs)++[AL (mo b c f v0)])++[N])=H;have hyp:Tk L (g++[.nat]++[.nat]++[j2]) H (NO 0) _:=Tk.hyp (i:=0) (by rw[<-hH];simp) G;have hl:=Tk.ag8 hyp;have O:=Tk.aki hyp;have I:dU (g++[.nat]++[.nat]++[j2]) (qq f (se v0) (uF v0)) .nat:=A (.fst q) (.snd q);have u:dU (g++[.nat]++[.nat]++[j2]++[.nat]) v1 j2:=oe;have w0:dU (g++[.nat]++[.nat]++[j2]++[.nat]) v0 .nat:=hU;have w2:dU (g++[.nat]++[.nat]++[j2]++[.nat]) v2 .nat:=Kp;have P:dU (g++[.nat]++[.nat]++[j2]++[.nat]) (qq f (se v1) (uF v1)) .nat:=A (.fst u) (.snd u)
   have q1:∀a,Tm.gp 0 (uF v1) a=uF v0:=λa=>by simp[Tm.eS,v0,v1,Tm.kH,fq]
   have v:∀a,Tm.gp 0 (qq f (se v1) (uF v1)) a=qq f (se v0) (uF v0):=λa=>by simp[Tm.eS,v0,v1,Tm.kH,fq,F.gp,fi]
   have left:=Tk.subst (.eq (.snd u) w0) O (b:=wT (uF v0)) (by
    rw[Fm.eS];simp only[kZ,mr,q1,Nw]
    exact Tk.refl (.snd q))
   rw[Fm.eS] at left;simp only[kZ,mr,q1,Nw] at left
   have Q:∀a,Tm.gp 0 (qq f v0 (uF v1)) a=qq f a (uF v0):=λa=>by
    simp[Tm.eS,v0,v1,Tm.kH,fq,F.gp,fi,rq]
   have inner:=Tk.subst (.eq P (A w0 (.snd u))) hl (b:=wT (qq f (se v0) (uF v0))) (by
    rw[Fm.eS];simp only[kZ,mr,v,Q]
    exact Tk.refl I)
   rw[Fm.eS] at inner;simp only[kZ,mr,v,Q] at inner
   have S:∀a,Tm.gp 0 (qq f (se (mo b c f v2)) v0) a=qq f (se (mo b c f v1)) a:=λa=>by
    simp[Tm.eS,v0,v1,v2,Tm.kH,fq,F.gp,B.gp,C.gp,fi,rq]
   have right:=Tk.subst (.eq P (A (.fst (R w2)) w0)) O (by
    rw[Fm.eS];simp only[kZ,mr,v,S]
    exact inner)
   rw[Fm.eS] at right;simp only[kZ,mr,v,S] at right;refine(Tk.IT left right).cv (.two (.eq ?_ ?_) (.eq ?_ ?_))
   ·exact(ac8 (.snd q) I).symm
   ·exact(afE j k l t).symm
   ·exact(acM (.snd q) I).symm
   ·exact(afY j k l t).symm
 ·have e1:(AI (se (mo b c f v0))).up 0 1=AI (se (mo b c f v1)):=by
   have v12:v1.up 0 1=v2:=by simp[Tm.fu,v1,v2]
   rw[Fm.fu];simp only[kZ,mr,show qB 5=1 by decide,show(0:Int)+1=1 from rfl];rw[Fm.fu];simp only[kZ,mr];simp[Tm.fu,v0,v1,v2,fq,B.up,C.up,F.up,fi]
  rw[e1];refine Tk.shown (.fst (R V)) (.fst U) ?_
  have J:rR z (.mk 2 .z [] [yk (se v0) (se (mo b c f v1)),yk (uF v0) (uF (mo b c f v1))]):=by
   have e:Yq (mo b c f v0)=.mk 2 .z [] [yk (se v0) (se (mo b c f v1)),yk (uF v0) (uF (mo b c f v1))]:=by rw[Yq,r v0 v1 d]
   rw[<-e];exact W
  exact Tk.ag8 (Tk.hyp (i:=0) aaA J)
end Go.fF
set_option maxRecDepth 20000
set_option maxHeartbeats 1000000
namespace Go.fF
open Go
def CM:∀(n:Nat) (t:Tm) (f:Int),t.alZ<=n->t.ok=true->t.alZ<=1000000000->0<=f->f+t.alZ<=10000000000->t.al3 1000000000000=true->lJ n t f 1=some (t.up f 1):=by
 intro n
 induction n with
 |zero=>intro t f h;have:=t.eM;omega
 |succ n ih=>
  intro t f h y o C q hi;cases t with
  |mk k i s l=>
   rw[Tm.dM] at h o q;rw[Tm.fK] at hi;simp only[hE,oI,ll] at hi;have D:=Tm.fX l;have F:=ju k;have b:=y;rw[Tm.hI] at b;simp only[hE,ll] at b
   have A:0<=i:=by
    have:=b.1;simp only[Tm.node,hE,oI] at this;exact this.1.1.2
   rw[lJ,dK aar,Tm.fu];simp only[Tm.eG,Tm.iI,Tm.eK,Tm.fM,gh]
   by_cases r:k=1
   ·subst r
    have d:l=[]:=by
     have:=b.1;simp only[Tm.node,gX,hE,oI] at this;cases l with
     |nil=>rfl|cons a l=>simp at this;omega
    subst d;rw[dR rfl]
    by_cases c:f<=i
    ·rw[gd VW VW,dR ⟨rfl,c⟩,show qa i f=true by rw[jW];exact c];rfl
    ·rw[dK (λh=>c h.2),show qa i f=false by
      cases u:qa i f with
      |false=>rfl|true=>exact absurd ((jW _ _).1 u) c];rfl
   ·rw[dK r,dK (λh=>r h.1)];simp only[ef,et (l:=l) VW,ed];rw[kr (Tm.up (f+fq k) 1) l 0 [] abu]
    ·simp only[dI,eC,oa]
    ·intro j x v w B;have:=eF Tm.alZ w
     have e:fp (eo k 2) (eW .i64 f 1) f=f+fq k:=by
      unfold fq
      by_cases c:k=2
      ·rw[dR c,show eo k 2=true by rw[gh];exact c,gd VW VW];rfl
      ·rw[dK c,show eo k 2=false by
        cases u:eo k 2 with
        |false=>rfl|true=>exact absurd ((gh _ _).1 u) c,sh];rfl
     rw[e,ih x (f+fq k) VW (b.2 x w) VW VW VW (hi.2 x w)];simp[fm (l:=v) (m:=[x.up (f+fq k) 1]) (by simpa using B)]
def exists_eq{g:List Ty}{s:Tm}(h:dU g s .nat)(hg:g.length<=1000)(hn:s.alZ<=1000000):fR s=some (AI s):=by
 unfold fR;have e:lJ FU s 0 1=some (s.up 0 1):=CM FU s 0 (by rw[fI];omega) h.ok VW VW VW (h.al3 _ VW);rw[e];rfl
def Ps{g:List Ty}{s:Tm}{t:Ty}(h:dU g s t)(hg:g.length<=1000)(hn:s.alZ<=1000000):lJ FU s 0 1=some (s.up 0 1):=
 CM FU s 0 (by rw[fI];omega) h.ok VW VW VW (h.al3 _ VW)
def Ia{t:Tm}{s:Ty}(h:dU [] t s)(hn:t.alZ<=4096)(hs:s.alZ<=64):sn [] t=some (s,0):=by
 have he:t.err=0:=Tm.oJ h.ok hn;have hw:=t.js h.ok
 have a:jc []:=λs hs=>by simp at hs
 unfold sn;rw[GA [] aaA aaA,dI,show yc []=0 from rfl,dK nz,Ju VW,dI,he,dK nz,Je a aaA,dI,FM h.ok a abu,mX h a abu,tq,dQ,dK nz];show dH (kF FU s) _=_;rw[xP VW,dI]
def yR{t:Tm}{s:Ty}(h:dU [] t s)(hn:t.alZ<=4096)(hs:s.alZ<=64):iR t s=some 0:=by
 unfold iR;rw[Ia h hn hs,dQ,ef,dR aar];unfold zE;rw[sj VW,tL];rfl
def Sb:gA=some .nat:=rfl
def Tj:rH .nat [.nat,.nat]=some (.fn .nat (.fn .nat .nat)):=by kernel_rfl
def acy:fj 0=some v0:=rfl
def acm:fj 1=some v1:=rfl
def adv:fj 2=some v2:=rfl
def adt:lk 4 []=some iF:=rfl
def adC(x:Tm):lk 5 [x]=some (gE x):=rfl
def Pz(f x y:Tm):h7 f [x,y]=some (qq f x y):=by
 cases f with|mk k i s l=>cases s;rfl
def acW(a b:Tm):mR a b=some (yk a b):=rfl
def aif(k:Int)(s:Ty)(f:Fm):pz k s f=some (.mk k s [] [f]):=rfl
def SX(t:Tm):kS t=some (wT t):=rfl
def PH(f:Fm)(t:Tm)(p:Pf):jT f t p=some (.mk 10 0 .z [t] [f] [p]):=rfl
def V8(s:Ty)(p:Pf):p1 s p=some (.mk 8 0 s [] [] [p]):=rfl
def al8(i:Int):kz i=some (NO i):=rfl
def S0(f:Fm)(p q:Pf):jU f p q=some (Fb f p q):=rfl
def ahs(k:Int)(l:List Pf):mH k l=some (.mk k 0 .z [] [] l):=rfl
def XL(k:Int)(f:Fm)(t:Tm)(p q:Pf):mq k f t p q=some (.mk k 0 .z [t] [f] [p,q]):=rfl
def aiH(n b f:Tm):mE n b f=some (yz b f n):=rfl
abbrev aj_:Pf:=.mk 0 0 .z [] [] []
def abT{f:Fm}{P:Pf}(c:f.wt<=1000000000)(d:P.wt<=1000000000):jA f P=some (if f.err=0/\P.err=0 then(f,P,0)else(.mk 0 .z [] [],aj_,4)):=by
 unfold jA;rw[Gf c,dI,ef]
 by_cases a:f.err=0
 ·rw[a,dR aar,JA d,dI];dsimp only
  by_cases b:P.err=0
  ·rw[b,dK nz,dR ⟨rfl,rfl⟩]
  ·rw[dR (by rw[ez];exact b),dK (λh=>b h.2)];rfl
 ·rw[dK (by rw[gh];exact a)];dsimp only;rw[dR (by rw[ez];exact a),dK (λh=>a h.1)];rfl
section
variable{b c f h:Tm}
def X0(d:dU [] b .nat)(a:dU [] f (.fn .nat (.fn .nat .nat)))(c:b.alZ<=4096)(hn:f.alZ<=4096):qj b f=jA (X1 b f) (T2 b f):=by
 have R:∀{g:List Ty} {n:Tm},dU g n .nat->dU g (yz b f n) .nat:=λh=>.oN Ty.fW (d.cls _) (a.cls _) h;have F:=a.cl
 have n1:∀{n:Tm},n.alZ<=10->(yz b f n).alZ<=1000000:=λ{n} h=>by rw[Tm.dM];simp only[ee];omega
 have i:fR (yz b f (gE v1))=some (AI (yz b f (gE v1))):=exists_eq (g:=[.nat,.nat]) (R (.succ (oe (g:=[])))) aaA (n1 aar);have j:fR (yz b f iF)=some (AI (yz b f iF)):=exists_eq (g:=[]) (R .zero) aaA (n1 aar);have k:fR (yz b f v0)=some (AI (yz b f v0)):=exists_eq (g:=[.nat]) (R (hU (g:=[]))) aaA (n1 aar)
 have l:lJ FU (qq f v1 v0) 0 1=some (qq f v2 v1):=by
  rw[Ps (s:=qq f v1 v0) (g:=[.nat,.nat]) (t:=.nat) (.app (.app (a.cls _) (oe (g:=[]))) (hU (g:=[.nat]))) aaA (by simp only[fi,Tm.dM,ee];rw[show v0.alZ=1 from rfl,show v1.alZ=1 from rfl];omega)];simp[Tm.fu,v0,v1,v2,fq,F.up,fi]
 unfold qj;simp only[Sb,dI,yR d c aar,dK nz,Tj,yR a hn aar,acy,acm,adv,Pz,adC,adt,aiH,i,j,k,l,acW,al8,SX,S0,PH,ahs,XL,aif,V8];cases hm:jA (X1 b f) (T2 b f)with
 |none=>rfl|some r=>rfl
def V6{s:Ty}(q:dU [] f s)(r:dU [] h s)(j:f.alZ<=4096)(l:h.alZ<=4096)(hs:s.alZ<=64){n:Option Ty}(hn:n=some s)(k:Unit⊕(Fm×Pf×Int)->Option (Fm×Pf×Int)):dH (fw (λ(t:Int) (o:Tm) (_:Unit)=>dH n λb=>dH (iR o b) λa=>if(eL a 0) then eT (iP a) λc d i=>some (gq.ret (c,d,i))else some (.next ())) [f,h] 0 ()) k=k (.inl ()):=by
 subst hn;rw[fY,dI,yR q j hs,dI,dK nz,dI,fk,fY,dI,yR r l hs,dI,dK nz,dI,fk,pq,dI]
end
end Go.fF
set_option maxRecDepth 20000
set_option maxHeartbeats 2000000
namespace Go.fF
open Go
def ahF(x:Tm):iB x=some (se x):=rfl
def ahg(x:Tm):iA x=some (uF x):=rfl
def aiw(n b c f:Tm):jS n j2 b c (DP f v0)=some (mo b c f n):=rfl
def Xp{g:List Ty}{s:Tm}(h:dU g s j2)(hg:g.length<=1000)(hn:s.alZ<=1000000):jh s j2=some (AL s):=by
 unfold jh;rw[Ps h hg hn];rfl
def UT{b c f:Tm}(i:dU [] b .nat)(j:dU [] c .nat)(k:dU [] f (.fn .nat (.fn .nat .nat)))(a:b.alZ<=4096)(d:c.alZ<=4096)(hn:f.alZ<=4096):oV b c f=jA (WW b c f) (RD b c f):=by
 have R:∀{g:List Ty} {n:Tm},dU g n .nat->dU g (mo b c f n) j2:=λh=>CZ i j k h
 have n1:∀{n:Tm},n.alZ<=10->(mo b c f n).alZ<=100000:=λ{n} h=>by
  simp only[fi,Tm.dM,ee];rw[show v0.alZ=1 from rfl];omega
 have l:∀{n:Tm},n.alZ<=10->(se (mo b c f n)).alZ<=1000000:=λ{n} h=>by
  have:=n1 h;rw[Tm.dM];simp only[ee];omega
 have o:jh (mo b c f iF) j2=some (AL (mo b c f iF)):=Xp (g:=[]) (R .zero) aaA (by have:=n1 (n:=iF) aar;omega);have q:jh (mo b c f (gE v1)) j2=some (AL (mo b c f (gE v1))):=Xp (g:=[.nat,.nat]) (R (.succ (oe (g:=[])))) aaA (by have:=n1 (n:=gE v1) aar;omega);have c3:jh (mo b c f v0) j2=some (AL (mo b c f v0)):=Xp (g:=[.nat]) (R (hU (g:=[]))) aaA (by have:=n1 (n:=v0) aar;omega);have s:fR (se (mo b c f v1))=some (AI (se (mo b c f v1))):=exists_eq (g:=[.nat,.nat]) (.fst (R (oe (g:=[])))) aaA (l aar);have t:fR (se (mo b c f v0))=some (AI (se (mo b c f v0))):=exists_eq (g:=[.nat]) (.fst (R (hU (g:=[])))) aaA (l aar);unfold oV;rw[ef,et aaA,ed,ef,V6 i j a d aar Sb,eC];simp-implicitDefEqProofs only[Sb,dI,Tj,yR k hn aar,dK nz,acy,acm,adv,ahF,ahg,Pz,show Ty.mk 3 [Ty.nat,Ty.nat]=j2 from rfl,show∀x y,lk 10 [x,y]=some (NT x y)fromλ_ _=>rfl,adt,adC,aiw,o,q,c3,s,t,SX,ahs,PH,acW,al8,S0,XL,V8,aif];cases hm:jA (WW b c f) (RD b c f)with
 |none=>rfl|some r=>rfl
end Go.fF
namespace Go.fF
open Go
structure PfP (k j:Int) (u:Ty) (us:List Tm) (gs:List Fm) (ps:List Pf):Prop where
 s:u.alZ<=64
 n:ps.length<=2
 i:0<=j
 ts:∀t∈us,t.ok=true
 fs:∀f∈gs,f.ok=true
 l:∀p∈ps,p.ok=true
 hyp:k=1->u=.z/\us=[]/\gs=[]/\ps=[]
def Pf.okP{k i:Int}{s:Ty}{ts:List Tm}{fs:List Fm}{l:List Pf}(h:(Pf.mk k i s ts fs l).ok=true):PfP k i s ts fs l:=by
 rw[Pf.hI] at h;simp only[hE,ll] at h;obtain⟨⟨⟨f,o⟩,q⟩,t⟩:=h;cases d:Pf.sig k with
 |none=>unfold Pf.node at f;rw[d] at f;cases f
 |some r=>
  obtain⟨A,ty,a,b,c⟩:=r;obtain⟨q1,u,v,w,B,x,j⟩:=jG f d
  have y:c<=2/\(k=1->a=0/\b=0/\c=0/\ty=false):=by
   unfold Pf.sig at d
   repeat' split at d
   all_goals first
    |(cases d;done)
    |(simp only[CA,TN] at d
      obtain⟨rfl,rfl,rfl,rfl,rfl⟩:=d;refine⟨VW,λn=>?_⟩
      first|(refine⟨rfl,rfl,rfl,rfl⟩;done)|omega)
  refine⟨?_,VW,w,o,q,t,λn=>?_⟩
  ·cases ty with
   |true=>exact fg (x rfl)|false=>rw[j rfl];decide
  ·obtain⟨rfl,rfl,rfl,rfl⟩:=y.2 n;exact⟨j rfl,gv.1 q1,gv.1 u,gv.1 v⟩
def Pf.js(P:Pf):P.ok=true->P.wt<=65*P.alZ:=by
 induction P using Pf.ind with
 |h k i s ts fs l ih=>
  intro d;have b:=Pf.okP d;rw[Pf.iG,Pf.dM];have j:=w7 (f:=Tm.wt) (g:=Tm.alZ) (c:=65) (l:=ts) λx a=>x.js (b.ts x a);have n:=w7 (f:=Fm.wt) (g:=Fm.alZ) (c:=65) (l:=fs) λx a=>x.js (b.fs x a);have o:=w7 (f:=Pf.wt) (g:=Pf.alZ) (c:=65) (l:=l) λx a=>ih x a (b.l x a);have:=b.s;omega
end Go.fF
set_option maxRecDepth 20000
set_option maxHeartbeats 2000000
namespace Go.fF
open Go
def xN{k i:Int}{s:Ty}{ts:List Tm}{fs:List Fm}{l:List Pf}(hn:Pf.node k i s ts.length fs.length l.length=true)(a:∀t∈ts,t.ok=true/\t.alZ<=4096)(b:∀f∈fs,f.ok=true/\f.alZ<=4096)(c:∀p∈l,p.ok=true/\p.small=true):(Pf.mk k i s ts fs l).ok=true/\(Pf.mk k i s ts fs l).small=true:=by
 rw[Pf.hI,Pf.BE];simp only[hE,ll,T8,UR,oI];exact⟨⟨⟨⟨hn,λt h=>(a t h).1⟩,λf h=>(b f h).1⟩,λp h=>(c p h).1⟩,⟨λt h=>(a t h).2,λf h=>(b f h).2⟩,λp h=>(c p h).2⟩
def LS{P:Pf}(h:P.ok=true/\P.small=true)(hn:P.alZ<=16384):P.err=0:=by
 unfold Pf.err;rw[dR h.1,dR ⟨h.2,hn⟩]
def zA{α:Type}{p:α->Prop}:∀x∈([]:List α),p x:=λx h=>by simp at h
def Gi{α:Type}{p:α->Prop}{a:α}(h:p a):∀x∈[a],p x:=λx b=>by rw[EY] at b;subst b;exact h
def qF{α:Type}{p:α->Prop}{a b:α}(h:p a)(d:p b):∀x∈[a,b],p x:=λx c=>by
 simp only[mb,ve,tG] at c;rcases c with rfl|rfl
 ·exact h
 ·exact d
def Hy(P:Pf):Prop:=P.ok=true/\P.small=true
def N1(f:Fm):Prop:=f.ok=true/\f.alZ<=4096
def Okt(t:Tm):Prop:=t.ok=true/\t.alZ<=4096
def yH{t:Tm}(h:Okt t):Hy (wT t):=xN rfl (Gi h) zA zA
def zI{i:Nat}:Hy (NO i):=xN (by simp[Pf.node,Pf.sig,Ty.qe]) zA zA zA
def Jb{s:Fm}{t:Tm}{p:Pf}(h:N1 s)(a:Okt t)(b:Hy p):Hy (.mk 10 0 .z [t] [s] [p]):=xN rfl (Gi a) (Gi h) (Gi b)
def FH{f:Fm}{p q:Pf}(h:N1 f)(a:Hy p)(b:Hy q):Hy (Fb f p q):=xN rfl zA (Gi h) (qF a b)
def Mz{p q:Pf}(a:Hy p)(b:Hy q):Hy (UW p q):=xN rfl zA zA (qF a b)
def S7{p q:Pf}(a:Hy p)(b:Hy q):Hy (al9 p q):=xN rfl zA zA (qF a b)
def Sw{p:Pf}(a:Hy p):Hy (Xn p):=xN rfl zA zA (Gi a)
def S'{p:Pf}(a:Hy p):Hy (XX p):=xN rfl zA zA (Gi a)
def SP{k:Int}(a:k=16\/k=17){f:Fm}{t:Tm}{p q:Pf}(h:N1 f)(b:Okt t)(c:Hy p)(d:Hy q):Hy (.mk k 0 .z [t] [f] [p,q]):=by
 rcases a with rfl|rfl<;>exact xN rfl (Gi b) (Gi h) (qF c d)
def Te{s:Ty}(hs:s.err=0){p:Pf}(h:Hy p):Hy (.mk 8 0 s [] [] [p]):=xN (by simp[Pf.node,Pf.sig,hs]) zA zA (Gi h)
def T5{g:List Ty}{t:Tm}{s:Ty}(h:dU g t s)(hn:t.alZ<=4000):Okt t:=⟨h.ok,VW⟩
def Ki{g:List Ty}{t:Tm}(h:dU g t .nat)(hn:t.alZ<=4000):N1 (AI t):=⟨(BL h).ok,by
 have:=Tm.nd t 0 1
 simp only[Fm.dM,ee,this];rw[show v0.alZ=1 from rfl];omega⟩
def MI{g:List Ty}{a b:Tm}(h:dU g a .nat)(c:dU g b .nat)(hn:a.alZ+b.alZ<=4000):N1 (yk a b):=⟨(iW.eq h c).ok,by simp only[Fm.dM,ee];omega⟩
def S2{g:List Ty}{s:Ty}(hs:s.err=0){t:Tm}(h:dU (g++[s]) t .nat)(hn:t.alZ<=4000):N1 (.mk 4 s [] [AI t]):=⟨(iW.q (g:=g) (.inl rfl) hs (BL h)).ok,by
 have:=Tm.nd t 0 1
 simp only[Fm.dM,ee,this];rw[show v0.alZ=1 from rfl];omega⟩
def Is:v0.alZ=1:=rfl
def nv1:v1.alZ=1:=rfl
def nv2:v2.alZ=1:=rfl
def nv3:v3.alZ=1:=rfl
def Tu{f:Fm}{P:Pf}(h:N1 f)(a:Hy P)(hn:P.alZ<=16000):jA f P=some (f,P,0):=by
 have w:=f.js h.1;have b:=P.js a.1;have e:=h.2;rw[abT VW VW,dR ⟨Fm.oJ h.1 h.2,LS a VW⟩]
section
variable{b c f h:Tm}
def af_(d:dU [] b .nat)(k:dU [] f (.fn .nat (.fn .nat .nat)))(o:b.alZ<=1000)(hn:f.alZ<=1000):N1 (X1 b f)/\Hy (T2 b f)/\(T2 b f).alZ<=16000:=by
 have R:∀{g:List Ty} {n:Tm},dU g n .nat->dU g (yz b f n) .nat:=λh=>.oN Ty.fW (d.cls _) (k.cls _) h;have A:∀{g:List Ty} {x y:Tm},dU g x .nat->dU g y .nat->dU g (qq f x y) .nat:=λh l=>.app (.app (k.cls _) h) l
 have n1:∀{n:Tm},n.alZ<=10->(yz b f n).alZ<=4000:=λ{n} h=>by rw[Tm.dM];simp only[ee];omega
 have n2:∀{x y:Tm},x.alZ<=10->y.alZ<=10->(qq f x y).alZ<=1500:=λ{x y} h l=>by simp only[fi,Tm.dM,ee];omega
 have a0:dU [.nat] v0 .nat:=hU (g:=[]);have a1:dU [.nat,.nat] v1 .nat:=oe (g:=[]);have a:dU [.nat,.nat] v0 .nat:=hU (g:=[.nat]);have a2:dU [.nat,.nat,.nat] v2 .nat:=Kp (g:=[]);have j:dU [.nat,.nat,.nat] v1 .nat:=oe (g:=[.nat]);have c:dU [.nat,.nat,.nat] v0 .nat:=hU (g:=[.nat,.nat])
 refine⟨S2 (g:=[]) Ty.fW (R a0) (n1 aar),Te Ty.fW (SP (.inl rfl) (Ki (R a0) (n1 aar)) (T5 a0 aar) (Jb (Ki (R (g:=[]) .zero) (n1 aar)) (T5 d VW) (yH (T5 d VW)))
  (Mz (zI (i:=0)) (Jb (Ki (R (.succ a1)) (n1 aar)) (T5 (A a1 a) (by have:=n2 (x:=v1) (y:=v0) aar aar;omega)) (FH (MI (A a2 j) (A a2 c) ?_) (zI (i:=0)) (yH (T5 (A a1 a) ?_)))))),?_⟩
 ·have:=n2 (x:=v2) (y:=v1) aar aar;have:=n2 (x:=v2) (y:=v0) aar aar;omega
 ·have:=n2 (x:=v1) (y:=v0) aar aar;omega
 ·simp only[Pf.dM,Fm.dM,Tm.dM,Tm.nd,fi,gE,iF,ee,Is,nv1,nv2,nv3];omega
def adX(j:dU [] b .nat)(k:dU [] c .nat)(l:dU [] f (.fn .nat (.fn .nat .nat)))(q:b.alZ<=400)(r:c.alZ<=400)(hn:f.alZ<=400):N1 (WW b c f)/\Hy (RD b c f)/\(RD b c f).alZ<=16000:=by
 have R:∀{g:List Ty} {n:Tm},dU g n .nat->dU g (mo b c f n) j2:=λh=>CZ j k l h;have A:∀{g:List Ty} {x y:Tm},dU g x .nat->dU g y .nat->dU g (qq f x y) .nat:=λh s=>.app (.app (l.cls _) h) s
 have n1:∀{n:Tm},n.alZ<=10->(mo b c f n).alZ<=1600:=λ{n} h=>by simp only[fi,Tm.dM,ee,Is];omega
 have t:∀{n:Tm},n.alZ<=10->(AL (mo b c f n)).alZ<=4000:=λ{n} h=>by
  have:=n1 h;have e:=Tm.nd (mo b c f n) 0 1;generalize mo b c f n=z at*;simp only[Fm.dM,Tm.dM,ee,Is,e];omega
 have a:∀{g:List Ty} {n:Tm},dU g n .nat->n.alZ<=10->N1 (AL (mo b c f n)):=λh hn=>⟨(BH (R h)).ok,by have:=t hn;omega⟩
 have o:∀{n:Tm},n.alZ<=10->(se (mo b c f n)).alZ<=4000:=λ{n} h=>by
  have:=n1 h;rw[Tm.dM];simp only[ee];omega
 have a0:dU [.nat] v0 .nat:=hU (g:=[]);have a1:dU [.nat,.nat] v1 .nat:=oe (g:=[]);have d:dU [.nat,j2] v0 j2:=hU (g:=[.nat]);have u:dU [.nat,j2] v1 .nat:=oe (g:=[]);have v:dU [.nat,j2,.nat] v2 .nat:=Kp (g:=[]);have q1:dU [.nat,j2,.nat] v1 j2:=oe (g:=[.nat]);have q0:dU [.nat,j2,.nat] v0 .nat:=hU (g:=[.nat,j2])
 have w:(qq f (se v1) (uF v1)).alZ<=600:=by simp only[fi,Tm.dM,ee,nv1];omega
 have w0:(qq f (se v0) (uF v0)).alZ<=600:=by simp only[fi,Tm.dM,ee,Is];omega
 have B:(qq f v0 (uF v1)).alZ<=600:=by simp only[fi,Tm.dM,ee,Is,nv1];omega
 have C:(qq f (se (mo b c f v2)) v0).alZ<=2400:=by
  have:=n1 (n:=v2) aar;generalize mo b c f v2=z at*;simp only[fi,Tm.dM,ee,Is];omega
 have D:(DP f v0).alZ<=1000:=by simp only[fi,Tm.dM,ee,Is];omega
 have F:(NT b c).alZ<=2000:=by simp only[Tm.dM,ee];omega
 refine⟨S2 (g:=[]) Ty.fW (.fst (R a0)) (o aar),Te Ty.fW (Mz (SP (.inl rfl) (a a0 aar) (T5 a0 aar) (Jb (a (g:=[]) (n:=iF) .zero aar) (T5 (G9 j k) VW) (S7 (yH (T5 j VW)) (yH (T5 k VW))))
  (Mz (zI (i:=0)) (Jb (a (n:=gE v1) (.succ a1) aar) (T5 (EU l d) VW) (S7
   (FH (MI (.snd q1) q0 (by simp only[Tm.dM,ee,Is,nv1];omega)) (S' (zI (i:=0))) (yH (T5 (dU.snd d) aar)))
   (FH (MI (A (.fst q1) (.snd q1)) (A (.fst (R v)) q0) VW) (S' (zI (i:=0))) (FH (MI (A (.fst q1) (.snd q1)) (A q0 (.snd q1)) VW) (Sw (zI (i:=0))) (yH (T5 (A (.fst d) (.snd d)) VW))))))))
  (Jb (Ki (.fst (R u)) (o aar)) (T5 (dU.fst d) aar) (Sw (zI (i:=0))))),?_⟩
 simp only[Pf.dM,Fm.dM,Tm.dM,Tm.nd,fi,gE,iF,ee,Is,nv1,nv2,nv3];omega
end
end Go.fF
set_option maxRecDepth 20000
set_option maxHeartbeats 2000000
namespace Go.fF
open Go
def ltO{M u:Nat}(h:u<M):(fp false true (eo (u:Int) (M:Int)))=false:=by
 rw[l',WY];cases a:eo (u:Int) (M:Int)with
 |false=>rfl|true=>rw[gh] at a;omega
def I0(n M:Nat)(t:Tm)(env:List vy):fB (n+1) (mc M M false) t env=some (zRs,mc M M true):=by
 rw[fB,dR (by rw[l'];simp[eo])]
def TX{n M u:Nat}{k i:Int}{s:Ty}{l:List Tm}{env:List vy}(hu:u<M)(d:M<=65536)(a:k≠1)(b:k≠2)(f:l.length<=3):fB (n+1) (mc M u false) (.mk k i s l) env=dH (fw (aaG n env) l 0 ([],mc M (u+1) false)) (fO (yn (YG n k)) (λr=>some r)):=by
 have c:eW .i64 (u:Int) 1=((u+1:Nat):Int):=by rw[gd VW VW];omega
 rw[fB,dK (by rw[ltO hu];decide),dK (by rw[gh];exact a),dK (by rw[gh];exact b),show(Tm.mk k i s l).alY=l from rfl,et VW,ed,ef,c];rfl
def sO{M n u B:Nat}{ρ:List Vw}{env:List vy}{k i:Int}{s:Ty}{l:List Tm}{K:vy->Nat->Prop}(hu:u<=M)(f:M<=65536)(h:k≠1)(j:k≠2)(o:l.length<=3)
  (q:u<M->∀a∈l,∀b,u+1<=b->b<=M->Oc M (fB n (mc M b false) a env) b (B+(b-(u+1))) (RV M (a.val ρ)))
  (t:∀rs b,u+1<=b->b<=M->rs.length=l.length->(∀(i:Nat) a r,l[i]?=some a->rs[i]?=some r->RV M (a.val ρ) r (B+(b-(u+1))))->∃d c out,YG n k rs (mc M b false)=some (d,mc M c out)/\b<=c/\c<=M/\(out=false->K d (B+(c-u)))):Oc M (fB (n+1) (mc M u false) (.mk k i s l) env) u B K:=by
 by_cases hm:u<M
 ·rw[TX hm f h j o];rcases S6 (M:=M) (n:=n) (env:=env) (ρ:=ρ) (yn (YG n k)) l 0 [] (u+1) B VW abu (q hm)with⟨b,a1,a2,a3⟩|⟨rs,b,a1,a2,a3,a4,a5⟩
  ·rw[a3];exact .out VW a2
  ·rw[a3,oa,lS];obtain⟨d,c,out,v,A,w,x⟩:=t rs b a1 a2 a4 a5;rw[v];exact⟨d,c,out,rfl,VW,w,λy=>⟨VW,x y⟩⟩
 ·have:u=M:=VW
  subst this;rw[I0];exact .out (g_ _) (g_ _)
def RV.acQ{M:Nat}{v:Vw}{s:B3}{r:vy}{B:Nat}(h:RT M s (v.at s) r B)(hs:v.s=s):RV M v r B:=by
 subst hs;cases v;rw[Vw.xl] at h;exact h
def ln1{α:Type}{l:List α}(h:l.length=1):∃a,l=[a]:=by
 match l,h with
 |[a],_=>exact⟨a,rfl⟩
def ln2{α:Type}{l:List α}(h:l.length=2):∃a b,l=[a,b]:=by
 match l,h with
 |[a,b],_=>exact⟨a,b,rfl⟩
def ln3{α:Type}{l:List α}(h:l.length=3):∃a b c,l=[a,b,c]:=by
 match l,h with
 |[a,b,c],_=>exact⟨a,b,c,rfl⟩
def jO{k i:Int}{s:Ty}{l:List Tm}(a:k≠1)(b:k≠2)(ρ:List Vw):(Tm.mk k i s l).val ρ=opV k (l.map λt=>t.val ρ):=by rw[Tm.val_mk,dK a,dK b]
def akr{M:Nat}(N:M<=65536){g:List Ty}{t:Tm}{T:Ty}(h:dU g t T):∀(ρ:List Vw) (env:List vy) (B u n:Nat),vF ρ g->RE M ρ env B->g.length+t.alZ<=1000000->B+(M-u)<=100000000->u<=M->2*(M-u)+1<=n->Oc M (fB n (mc M u false) t env) u B (RV M (t.val ρ)):=by
 induction h with
 |@var g t i hi hg=>
  intro ρ env B u n he j o K hu hn;obtain⟨n,rfl⟩:∃m,n=m+1:=⟨n-1,VW⟩
  by_cases hm:u<M
  ·have hlen:ρ.length=g.length:=by have:=congrArg List.length he;simpa using this
   have e1:eW .i64 (u:Int) 1=((u+1:Nat):Int):=by rw[gd VW VW];omega
   have ah:g.length-1-i<env.length:=by rw[<-j.1,hlen];omega
   have e2:dX env (fL .i64 (fL .i64 (eA env) 1) (i:Int))=some env[g.length-1-i]:=by
    have:=j.1;rw[fQ,gi (a:=(env.length:Int)) (b:=1) VW VW,gi VW VW,show(env.length:Int)-1-(i:Int)=((g.length-1-i:Nat):Int) by omega,hJ];simp[ah]
   rw[fB,dK (by rw[ltO hm];decide),dR abD,show(Tm.mk 1 (i:Int) Ty.z []).al0=(i:Int)from rfl,e2,dI,e1];refine .is VW VW ?_;rw[Tm.val_mk,dR rfl,show((i:Nat):Int).toNat=i from rfl,aeH VW,hlen]
   have R:g.length-1-i<ρ.length:=VW
   rw[po R];exact(j.2 _ _ _ (po R) (po ah)).mono VW
  ·have:u=M:=VW
   subst this;rw[I0];exact .out (g_ _) (g_ _)
 |@lam g s b t hs U ih=>
  intro ρ env B u n he j o K hu hn;obtain⟨n,rfl⟩:∃m,n=m+1:=⟨n-1,VW⟩;rw[Tm.dM] at o;simp only[ee] at o
  by_cases hm:u<M
  ·have e1:eW .i64 (u:Int) 1=((u+1:Nat):Int):=by rw[gd VW VW];omega
   rw[fB,dK (by rw[ltO hm];decide),dK (by show¬eo 2 1=true;decide),dR abD,show dX (Tm.mk 2 0 s [b]).alY 0=some b from rfl,dI,e1];refine .is VW VW ?_;rw[Tm.val_mk,dK aar,dR rfl];have ai:∀x,(b.val (ρ++[⟨s.S,x⟩])).s=t.S:=λx=>lO U _ (he.app rfl);show RT M (.f s.S (b.val (ρ++[⟨s.S,s.S.ZH⟩])).s) _ _ _;intro x A B' c n' C d D w h5;obtain⟨n',rfl⟩:∃m,n'=m+1:=⟨n'-1,VW⟩
   have hlen:ρ.length=g.length:=by have:=congrArg List.length he;simpa using this
   have an:=j.1;rw[eI,show(dJ.mk 0 [] [] b env).env=env from rfl,show(dJ.mk 0 [] [] b env).body=b from rfl,fm abu,ed,iv];have k:=ih (ρ++[⟨s.S,x⟩]) (env++[A]) B' c n' (he.app rfl) ((j.mono VW).app (v:=⟨s.S,x⟩) D) abu d w VW;obtain⟨r,J,out,H,k2,L,X⟩:=k;rw[H,dQ];refine⟨r,J,out,rfl,k2,L,λV=>⟨(X V).1,?_⟩⟩;have k5:=(X V).2;show RT M _ (((b.val (ρ++[⟨s.S,x⟩]))).at (b.val (ρ++[⟨s.S,s.S.ZH⟩])).s) r _;exact k5.at (by rw[ai,ai])
  ·have:u=M:=VW
   subst this;rw[I0];exact .out (g_ _) (g_ _)
 |@app g f a s t hf P F G=>
  intro ρ env B u n he j o K hu hn;obtain⟨n,rfl⟩:∃m,n=m+1:=⟨n-1,VW⟩;rw[Tm.dM] at o;simp only[ee] at o
  have hF:(f.val ρ).s=.f s.S t.S:=by rw[<-x8];exact lO hf ρ he
  have hA:(a.val ρ).s=s.S:=lO P ρ he;obtain⟨φ,Q⟩:=Jk hF;refine sO hu N aar aar aaA (λhm=>qF (λc C d=>F ρ env _ c n he (j.mono VW) VW VW d VW) (λc C d=>G ρ env _ c n he (j.mono VW) VW VW d VW)) λrs c C d D w=>?_;obtain⟨rf,A,rfl⟩:=ln2 D;have H:=w 0 f rf rfl rfl;have k2:=(w 1 a A rfl rfl).at hA;rw[Q] at H;obtain⟨r,J,out,c1,c2,c3,c4⟩:=H ((a.val ρ).at s.S) A _ c n (g_ _) VW k2 d VW;refine⟨r,J,out,?_,c2,c3,λV=>?_⟩
  ·show dV (eI n (mc M c false) rf A) _=_;rw[c1];rfl
  ·rw[jO aar aar];show RV M (lU (f.val ρ) (a.val ρ)) r _;rw[Q];exact((c4 V).2).mono _ VW
 |@zero g=>
  intro ρ env B u n he j o K hu hn;obtain⟨n,rfl⟩:∃m,n=m+1:=⟨n-1,VW⟩;refine sO (ρ:=ρ) hu N aar aar aaA (λ_=>zA) λrs c C d D w=>⟨_,c,false,rfl,g_ _,d,λ_=>?_⟩;rw[jO aar aar];exact(⟨rfl,Pu _⟩:Rnm 0 zRs _)
 |@succ g a P ih=>
  intro ρ env B u n he j o K hu hn;obtain⟨n,rfl⟩:∃m,n=m+1:=⟨n-1,VW⟩;rw[Tm.dM] at o;simp only[ee] at o
  have hA:(a.val ρ).s=.n:=by rw[<-oQ];exact lO P ρ he
  refine sO hu N aar aar aaA (λhm=>Gi (λc C d=>ih ρ env _ c n he (j.mono VW) VW VW d VW)) λrs c C d D w=>?_;obtain⟨A,rfl⟩:=ln1 D;obtain⟨H,k2⟩:Rnm (oZ (a.val ρ)) A _:=(w 0 a A rfl rfl).at hA;refine⟨_,c,false,rfl,g_ _,d,λ_=>?_⟩;rw[jO aar aar];refine⟨?_,?_⟩
  ·show eW .i64 A.num 1=((oZ (a.val ρ)+1:Nat):Int);rw[H,gd VW VW];omega
  ·show oZ (a.val ρ)+1<=_;omega
 |@oN g t b s m ht U hs Y F G Z=>
  intro ρ env B u n he j o K hu hn;obtain⟨n,rfl⟩:∃m,n=m+1:=⟨n-1,VW⟩;rw[Tm.dM] at o;simp only[ee] at o;have O:(b.val ρ).s=t.S:=lO U ρ he
  have ad:(s.val ρ).s=.f .n (.f t.S t.S):=by have:=lO hs ρ he;rwa [x8,x8,oQ] at this
  have ae:(m.val ρ).s=.n:=by rw[<-oQ];exact lO Y ρ he
  obtain⟨φ,Q⟩:=Jk ad;refine sO (ρ:=ρ) hu N aar aar aaA (λhm=>?_) λrs c C d D w=>?_
  ·intro a hx c C d;simp only[mb,ve,tG] at hx;rcases hx with rfl|rfl|rfl
   ·exact F ρ env _ c n he (j.mono VW) VW VW d VW
   ·exact G ρ env _ c n he (j.mono VW) VW VW d VW
   ·exact Z ρ env _ c n he (j.mono VW) VW VW d VW
  obtain⟨I,rf,W,rfl⟩:=ln3 D;have H:=(w 0 b I rfl rfl).at O;have k2:=w 1 s rf rfl rfl;obtain⟨L,X⟩:Rnm (oZ (m.val ρ)) W _:=(w 2 m W rfl rfl).at ae;rw[Q] at k2
  have af:∀k,(uM (b.val ρ) (s.val ρ) k).s=t.S:=λk=>by
   cases k with
   |zero=>exact O|succ k=>rw[Q];rfl
  obtain⟨r,J,out,c1,c2,c3,c4⟩:=W' (n:=n) (b:=I) (s:=rf) (nn:=W) (σ:=t.S) (φ:=φ) k2 L X (λk=>(uM (b.val ρ) (s.val ρ) k).at t.S) (λk=>by
   show(lU (lU (s.val ρ) ⟨.n,k⟩) (uM (b.val ρ) (s.val ρ) k)).at t.S=_;rw[Q];show(Vw.mk t.S (φ ((Vw.mk B3.n k).at .n) ((uM (b.val ρ) ⟨.f .n (.f t.S t.S),φ⟩ k).at t.S))).at t.S=_;rw[Vw.xl]
   exact congrArg (λz=>φ z _) (Vw.xl .n k)) FU 0 I c _ (Pu _) H (g_ _) VW d VW (by rw[fI];omega)
  refine⟨r,J,out,?_,c2,c3,λV=>?_⟩
  ·exact c1
  ·rw[jO aar aar];exact RV.acQ ((c4 V).mono _ VW) (af _)
 |@nil g=>
  intro ρ env B u n he j o K hu hn;obtain⟨n,rfl⟩:∃m,n=m+1:=⟨n-1,VW⟩;refine sO (ρ:=ρ) hu N aar aar aaA (λ_=>zA) λrs c C d D w=>⟨_,c,false,rfl,g_ _,d,λ_=>?_⟩;rw[jO aar aar];exact(⟨rfl,Pu _,λx hx=>by simp at hx⟩:Rls [] zRs _)
 |@cons g a b P U F G=>
  intro ρ env B u n he j o K hu hn;obtain⟨n,rfl⟩:∃m,n=m+1:=⟨n-1,VW⟩;rw[Tm.dM] at o;simp only[ee] at o
  have hA:(a.val ρ).s=.n:=by rw[<-oQ];exact lO P ρ he
  have ak:(b.val ρ).s=.l:=by rw[<-Ph];exact lO U ρ he
  refine sO hu N aar aar aaA (λhm=>qF (λc C d=>F ρ env _ c n he (j.mono VW) VW VW d VW) (λc C d=>G ρ env _ c n he (j.mono VW) VW VW d VW)) λrs c C d D w=>?_;obtain⟨A,I,rfl⟩:=ln2 D;obtain⟨H,k2⟩:Rnm (oZ (a.val ρ)) A _:=(w 0 a A rfl rfl).at hA;obtain⟨L,X,k5⟩:Rls (NJ (b.val ρ)) I _:=(w 1 b I rfl rfl).at ak;refine⟨.mk 0 (A.num::I.list) [] (Tm.mk 0 0 (Ty.mk 0 []) []) [],c,false,?_,g_ _,d,λ_=>?_⟩
  ·show gG (fN [A.num] I.list) _=_;rw[fm (by rw[L];simp;omega),ed];rfl
  rw[jO aar aar];refine⟨?_,?_,?_⟩
  ·show A.num::I.list=(oZ (a.val ρ)::NJ (b.val ρ)).map _;rw[H,L];rfl
  ·show(oZ (a.val ρ)::NJ (b.val ρ)).length<=_;rw[mN];omega
  ·intro x hx;rcases mb.1 hx with rfl|hx
   ·show oZ (a.val ρ)<=_;omega
   ·have:=k5 x hx;omega
 |@fold g t b s m ht U hs Y F G Z=>
  intro ρ env B u n he j o K hu hn;obtain⟨n,rfl⟩:∃m,n=m+1:=⟨n-1,VW⟩;rw[Tm.dM] at o;simp only[ee] at o;have O:(b.val ρ).s=t.S:=lO U ρ he
  have ad:(s.val ρ).s=.f .n (.f .l (.f t.S t.S)):=by have:=lO hs ρ he;rwa [x8,x8,x8,oQ,Ph] at this
  have ae:(m.val ρ).s=.l:=by rw[<-Ph];exact lO Y ρ he
  obtain⟨φ,Q⟩:=Jk ad;refine sO (ρ:=ρ) hu N aar aar aaA (λhm=>?_) λrs c C d D w=>?_
  ·intro a hx c C d;simp only[mb,ve,tG] at hx;rcases hx with rfl|rfl|rfl
   ·exact F ρ env _ c n he (j.mono VW) VW VW d VW
   ·exact G ρ env _ c n he (j.mono VW) VW VW d VW
   ·exact Z ρ env _ c n he (j.mono VW) VW VW d VW
  obtain⟨I,rf,W,rfl⟩:=ln3 D;have H:=(w 0 b I rfl rfl).at O;have k2:=w 1 s rf rfl rfl;obtain⟨L,X⟩:Rls (NJ (m.val ρ)) W _:=(w 2 m W rfl rfl).at ae;rw[Q] at k2
  have af:∀k,(JS (b.val ρ) (s.val ρ) k).s=t.S:=λk=>by
   cases k with
   |nil=>exact O|cons h k=>rw[Q];rfl
  obtain⟨r,J,out,c1,c2,c3,c4⟩:=TV (n:=n) (b:=I) (s:=rf) (nn:=W) (σ:=t.S) (φ:=φ) k2 L X (λk=>(JS (b.val ρ) (s.val ρ) k).at t.S) (λh k=>by
   show(lU (lU (lU (s.val ρ) ⟨.n,h⟩) ⟨.l,k⟩) (JS (b.val ρ) (s.val ρ) k)).at t.S=_;rw[Q];show(Vw.mk t.S (φ ((Vw.mk B3.n h).at .n) ((Vw.mk B3.l k).at .l) ((JS (b.val ρ) ⟨.f .n (.f .l (.f t.S t.S)),φ⟩ k).at t.S))).at t.S=_;rw[Vw.xl]
   exact congrFun (congr (congrArg φ (Vw.xl .n h)) (Vw.xl .l k)) _) FU (NJ (m.val ρ)).length I c _ (g_ _) (by rw[List.drop_length];exact H) (g_ _) VW d VW (by rw[fI];omega)
  refine⟨r,J,out,?_,c2,c3,λV=>?_⟩
  ·have e:fL .i64 (eA W.list) 1=((NJ (m.val ρ)).length:Int)-1:=by
    rw[fQ,L,Gk,gi VW VW]
   rw[<-e] at c1;exact c1
  ·rw[jO aar aar];exact RV.acQ ((c4 V).mono _ VW) (af _)
 |@pair g a b s t ao P U F G=>
  intro ρ env B u n he j o K hu hn;obtain⟨n,rfl⟩:∃m,n=m+1:=⟨n-1,VW⟩;rw[Tm.dM] at o;simp only[ee] at o;refine sO hu N aar aar aaA (λhm=>qF (λc C d=>F ρ env _ c n he (j.mono VW) VW VW d VW) (λc C d=>G ρ env _ c n he (j.mono VW) VW VW d VW)) λrs c C d D w=>?_;obtain⟨A,I,rfl⟩:=ln2 D;refine⟨_,c,false,rfl,g_ _,d,λ_=>?_⟩;rw[jO aar aar];exact⟨A,I,rfl,(w 0 a A rfl rfl).mono VW,(w 1 b I rfl rfl).mono VW⟩
 |@fst g a s t P ih=>
  intro ρ env B u n he j o K hu hn;obtain⟨n,rfl⟩:∃m,n=m+1:=⟨n-1,VW⟩;rw[Tm.dM] at o;simp only[ee] at o;obtain⟨x,y,ep⟩:=zr (v:=a.val ρ) (by rw[<-Vt];exact lO P ρ he);refine sO hu N aar aar aaA (λhm=>Gi (λc C d=>ih ρ env _ c n he (j.mono VW) VW VW d VW)) λrs c C d D w=>?_;obtain⟨A,rfl⟩:=ln1 D;have k:=w 0 a A rfl rfl;rw[ep] at k;obtain⟨p,q,H,k2,L⟩:=k;refine⟨p,c,false,?_,g_ _,d,λ_=>?_⟩
  ·show dH (dX A.pair 0) _=_;rw[H];rfl
  ·rw[jO aar aar];show RV M (CC (a.val ρ)) p _;rw[ep];exact k2.mono _ VW
 |@snd g a s t P ih=>
  intro ρ env B u n he j o K hu hn;obtain⟨n,rfl⟩:∃m,n=m+1:=⟨n-1,VW⟩;rw[Tm.dM] at o;simp only[ee] at o;obtain⟨x,y,ep⟩:=zr (v:=a.val ρ) (by rw[<-Vt];exact lO P ρ he);refine sO hu N aar aar aaA (λhm=>Gi (λc C d=>ih ρ env _ c n he (j.mono VW) VW VW d VW)) λrs c C d D w=>?_;obtain⟨A,rfl⟩:=ln1 D;have k:=w 0 a A rfl rfl;rw[ep] at k;obtain⟨p,q,H,k2,L⟩:=k;refine⟨q,c,false,?_,g_ _,d,λ_=>?_⟩
  ·show dH (dX A.pair 1) _=_;rw[H];rfl
  ·rw[jO aar aar];show RV M (zS (a.val ρ)) q _;rw[ep];exact L.mono _ VW
 |@unit g=>
  intro ρ env B u n he j o K hu hn;obtain⟨n,rfl⟩:∃m,n=m+1:=⟨n-1,VW⟩;refine sO (ρ:=ρ) hu N aar aar aaA (λ_=>zA) λrs c C d D w=>⟨_,c,false,rfl,g_ _,d,λ_=>?_⟩;rw[jO aar aar];exact trivial
def tmT{g:List Ty}(hg:g.length<=10)(h:∀s∈g,s=.nat\/s=.lD)(k:Nat)(n:k<=2){d:eR}(i:d.wf):∃x b,ik FU d g .nat (k:Int)=some (x,b)/\b.wf/\dU g x .nat/\x.alZ<=200:=by
 have a:Da 1 g:=⟨λs hs=>by
  rcases h s hs with rfl|rfl
  ·exact⟨Ty.fW,aar⟩
  ·exact⟨Ty.ph,aar⟩⟩
 have e:(k:Int).toNat=k:=aaA
 obtain⟨x,b,j,l,f⟩:=QF 1 VW VW FU (k:Int) g .nat d (by rw[fI,e,Ty.il];omega) VW (by rw[Ty.il];omega) (by rw[e,Ty.il];omega) a Ty.fW (by rw[Ty.il];omega) i;refine⟨x,b,j,l,f.ty,?_⟩;have:=f.alZ;rw[e,Ty.il] at this
 have c:k=0\/k=1\/k=2:=VW
 rcases c with rfl|rfl|rfl<;>simp[tb] at this<;>omega
def Q9:Tm:=xK .nat (xK .nat (qq Nd (qq PD (kn 1) (kn 0)) (qq PD (kn 0) (kn 1))))
def FE:su=some Q9:=by kernel_rfl
def U7(g:List Ty):dU g Q9 (.fn .nat (.fn .nat .nat)):=
 .lam xB (.lam tm (.app (.app (F5 _) (.app (.app (E9 _) oe) hU)) (.app (.app (E9 _) hU) oe)))
def MR:Q9.alZ=53:=aar
def Cq{x:Tm}(h:dU [.nat,.nat] x .nat):dU [] (.mk 2 0 .nat [.mk 2 0 .nat [x]]) (.fn .nat (.fn .nat .nat)):=.lam xB (.lam (g:=[.nat]) tm h)
def Jd{x:Tm}(h:x.alZ<=300):(Tm.mk 2 0 .nat [.mk 2 0 .nat [x]]).alZ<=400:=by simp only[Tm.dM,ee];omega
def W1{d:eR}(h:d.wf):∃x b,wQ d=some (x,b)/\b.wf/\dU [] x (.fn .nat (.fn .nat .nat))/\x.alZ<=400:=by
 have w0:dU [.nat,.nat] (kn 0) .nat:=hU (g:=[.nat]);have c:dU [.nat,.nat] (kn 1) .nat:=oe (g:=[]);have q0:fc 0=some (kn 0):=rfl;have q1:fc 1=some (kn 1):=rfl;have i:∀x,iN .nat x=some (.mk 2 0 .nat [x]):=λ_=>rfl;have j:∀x,we x=some (.mk 5 0 .z [x]):=λ_=>rfl;obtain⟨k,d1,l,s,t,a⟩:=rm d h 6 VW VW;unfold wQ;rw[show EA=some .nat from rfl,dI,l,dQ];simp only[gh,q0,q1,dI,i,j]
 split
 ·exact⟨_,_,rfl,a,Cq (.succ w0),aar⟩
 split
 ·rw[Ek,dI,FF aar aar aar,dI];exact⟨_,_,rfl,a,Cq (.app (.app (E9 _) c) w0),aar⟩
 split
 ·obtain⟨m,d2,n,o,u,q⟩:=rm d1 a 3 VW VW;obtain⟨y,r,f⟩:=Gm m o VW;have v:=(f []).2;have w:=y.js (f []).1.ok;rw[FE,dI,n,dQ,r,dI,FF aar aar VW,dI];refine⟨_,_,rfl,q,Cq (.app (.app (U7 _) w0) (f _).1),Jd ?_⟩;simp only[Tm.dM,ee,MR,show(kn 0).alZ=1 from rfl];omega
 split
 ·exact⟨_,_,rfl,a,Cq (.succ (.succ c)),aar⟩
 split
 ·obtain⟨x,b,a1,a2,a3,a4⟩:=tmT (g:=[.nat,.nat]) aaA aaA 1 VW a;rw[show ik FU d1 [.nat,.nat] .nat 1=_ from a1,dQ];exact⟨_,_,rfl,a2,Cq a3,Jd VW⟩
 ·rw[CX,dI,FF aar aar aar,dI];exact⟨_,_,rfl,a,Cq (.app (.app (F5 _) w0) c),aar⟩
def YB:uU=some true:=by decide+kernel
def W5{e:Int}(h:pP e):hZ e=some true:=by rcases h with rfl|rfl|rfl<;>decide
def Nu:hZ 0=some false:=aar
end Go.fF
set_option maxRecDepth 20000
namespace Go.fF
open Go
def Wm{g:List Ty}{f:Fm}(h:Hg g f)(hg:g.length<=16):oL f 0 1=some (f.up 0 1,0):=
 Db (by have:=h.wt;omega) h.err VW VW VW VW (h.al3 hg VW)
def Pm{g:List Ty}{ρ:Type}(hg:g.length<=16):∀(l p:List Fm) (n:Nat),(∀f∈l,Hg g f)->(p++l).length<=1000000->l.length<n->j0 (ρ:=ρ) (yn λ(v117:Int) (a:List Fm)=>
   if(pg v117 (eA (p++l))) then(
   dH (dX (p++l) v117) λc=>
   dV (oL c 0 1) λb d=>
   gG (fN a [b])<|some (.next ((eW .i64 v117 1),(fU a [b]))))
   else(some (.y7 (v117,a)))) n ((p.length:Int),p.map (Fm.up 0 1))=some (.inl (((p++l).length:Int),(p++l).map (Fm.up 0 1)))
 |[],p,n,h,i,hn=>by
  obtain⟨n,rfl⟩:∃m,n=m+1:=⟨n-1,VW⟩;rw[hS,AE];simp only[yn];rw[dK (by rw[jR,fQ];omega)];rfl
 |x::l,p,n,h,i,hn=>by
  obtain⟨n,rfl⟩:∃m,n=m+1:=⟨n-1,VW⟩;simp only[mN] at hn;simp only[nB,mN] at i;have ih:=Pm (ρ:=ρ) hg l (p++[x]) n (λf j=>h f (by simp[j])) abu VW;rw[show p++[x]++l=p++x::l by simp] at ih;rw[hS];simp only[yn] at ih|-;rw[dR (by rw[jR,fQ];simp;omega),hJ,show(p++x::l)[p.length]?=some x by simp,dI,Wm (h x aaA) hg,dQ,fm abu,ed,dI,fk,iv,gd VW VW];rw[show((p.length:Int)+1,p.map (Fm.up 0 1)++[x.up 0 1])=(((p++[x]).length:Int),(p++[x]).map (Fm.up 0 1)) by simp];exact ih
def uT{L:List Fm}{g:List Ty}{hs:List Fm}(a:uc L ⟨g,hs⟩)(s:Ty)(t:Tm)(vars c:List Tm)(hw:vars.length<=900000000):h8 ⟨⟨g,hs⟩,vars,c⟩ s t=some ⟨⟨g++[s],hs.map (Fm.up 0 1)⟩,vars++[t],c⟩:=by
 have b:g.length<=16:=a.nv;have d:hs.length<=16:=a.nh;have loop:=Pm (ρ:=er) b hs [] FU a.al4 abu (by rw[fI];omega);rw[show(([]:List Fm).length:Int)=0 from rfl,show([]:List Fm).map (Fm.up 0 1)=[] from rfl,oa] at loop;unfold h8 oO;simp only[];rw[fm abu,ed,fm abu,ed,dI,fm abu,ed,fm abu,ed,ef,loop,dI,eC];simp only[yn,iv,oa]
end Go.fF
namespace Go.fF
open Go
mutual
def Tm.sb(σ:List Tm):Tm->Tm
 |.mk k i s l=>if k=1 then σ.getD (σ.length-1-i.toNat) Tm.z else .mk k 0 s (Tm.sbL (if k=2 then σ.map (Tm.up 0 1)++[kn 0] else σ) l)
def Tm.sbL(σ:List Tm):List Tm->List Tm
 |[]=>[]|t::l=>Tm.sb σ t::Tm.sbL σ l
end
def Tm.ad8(σ l:List Tm):Tm.sbL σ l=l.map (Tm.sb σ):=by
 induction l with
 |nil=>rfl|cons a l ih=>rw[Tm.sbL,ih];rfl
def Tm.JJ(σ:List Tm)(k i:Int)(s:Ty)(l:List Tm):(Tm.mk k i s l).sb σ=if k=1 then σ.getD (σ.length-1-i.toNat) Tm.z else .mk k 0 s (l.map (Tm.sb (if k=2 then σ.map (Tm.up 0 1)++[kn 0] else σ))):=by rw[Tm.sb,Tm.ad8]
def Ko(σ:List Tm)(i:Nat):(Tm.mk 1 (i:Int) .z []).sb σ=σ.getD (σ.length-1-i) Tm.z:=by rw[Tm.JJ,dR rfl,Ea]
def Ry(σ:List Tm)(s:Ty)(b:Tm):(Tm.mk 2 0 s [b]).sb σ=.mk 2 0 s [b.sb (σ.map (Tm.up 0 1)++[kn 0])]:=by rw[Tm.JJ,dK aar,dR rfl];rfl
theorem Qu(σ:List Tm){k:Int}(s:Ty)(a:k≠1)(b:k≠2):(Tm.mk k 0 s []).sb σ=.mk k 0 s []:=by rw[Tm.JJ,dK a,dK b];rfl
def Kw(σ:List Tm){k:Int}(s:Ty)(a:Tm)(b:k≠1)(c:k≠2):(Tm.mk k 0 s [a]).sb σ=.mk k 0 s [a.sb σ]:=by rw[Tm.JJ,dK b,dK c];rfl
def H6(σ:List Tm){k:Int}(s:Ty)(a b:Tm)(c:k≠1)(d:k≠2):(Tm.mk k 0 s [a,b]).sb σ=.mk k 0 s [a.sb σ,b.sb σ]:=by rw[Tm.JJ,dK c,dK d];rfl
def Xi(σ:List Tm){k:Int}(s:Ty)(a b c:Tm)(d:k≠1)(f:k≠2):(Tm.mk k 0 s [a,b,c]).sb σ=.mk k 0 s [a.sb σ,b.sb σ,c.sb σ]:=by rw[Tm.JJ,dK d,dK f];rfl
def ajO(f b:Int){k:Int}(s:Ty)(a:k≠1):(Tm.mk k 0 s []).up f b=.mk k 0 s []:=by rw[Tm.fu,dK (λh=>a h.1)];rfl
def akC(f b:Int){k:Int}(s:Ty)(a:Tm)(c:k≠1)(d:k≠2):(Tm.mk k 0 s [a]).up f b=.mk k 0 s [a.up f b]:=by
 rw[Tm.fu,dK (λh=>c h.1),show fq k=0 from dK d,sh];rfl
def ajY(f b:Int){k:Int}(s:Ty)(x y:Tm)(a:k≠1)(c:k≠2):(Tm.mk k 0 s [x,y]).up f b=.mk k 0 s [x.up f b,y.up f b]:=by
 rw[Tm.fu,dK (λh=>a h.1),show fq k=0 from dK c,sh];rfl
def akz(f b:Int){k:Int}(s:Ty)(x y z:Tm)(a:k≠1)(c:k≠2):(Tm.mk k 0 s [x,y,z]).up f b=.mk k 0 s [x.up f b,y.up f b,z.up f b]:=by
 rw[Tm.fu,dK (λh=>a h.1),show fq k=0 from dK c,sh];rfl
def ahN(f b:Int)(s:Ty)(x:Tm):(Tm.mk 2 0 s [x]).up f b=.mk 2 0 s [x.up (f+1) b]:=by
 rw[Tm.fu,dK (λh=>absurd h.1 aar)];rfl
def V0(f b:Int)(i:Nat):(kn i).up f b=if f<=(i:Int)then .mk 1 (i+b) .z [] else kn i:=by
 unfold kn;rw[Tm.fu]
 by_cases h:f<=(i:Int)
 ·rw[dR ⟨rfl,h⟩,dR h];rfl
 ·rw[dK (λx=>h x.2),dK h];rfl
def getD_map{α β:Type}(f:α->β)(l:List α)(i:Nat)(d:α)(e:β)(h:i<l.length):(l.map f).getD i e=f (l.getD i d):=by
 rw[x',x',zl,po h];rfl
def ML{α:Type}(l m:List α)(i:Nat)(d:α)(h:i<l.length):(l++m).getD i d=l.getD i d:=by
 rw[x',x',vV h]
theorem Gl{α:Type}(l:List α)(a:α)(i:Nat)(d:α)(h:i=l.length):(l++[a]).getD i d=a:=by
 subst h;rw[x',tQ (g_ _)];simp
inductive Lk:List Int->Int->Nat->Prop
 |here {R i}:Lk (i::R) i 0|next {R i v j}:v≠i->Lk R i j->Lk (v::R) i (j+1)
theorem Lk.put{A:List Int}{i v:Int}(a:v≠i):∀{B:List Int} {j:Nat},Lk (B++A) i j->Lk (B++v::A) i (if B.length<=j then j+1 else j)
 |[],j,h=>by rw[dR (show([]:List Int).length<=j from Pu _)];exact .next a h|b::B,_,.here=>by rw[dK aaA];exact .here|b::B,_,.next (j:=j) c h=>by
  have:=Lk.put a (B:=B) h
  by_cases d:B.length<=j
  ·rw[dR d] at this;rw[dR abu];exact .next c this
  ·rw[dK d] at this;rw[dK abu];exact .next c this
inductive Aw:List Int->Tm->Tm->Prop
 |var {R i j}:Lk R i j->Aw R (.mk 1 i .z []) (kn j)|lam {R v s b d}:Aw (v::R) b d->Aw R (.mk 2 v s [b]) (.mk 2 0 s [d])|n0 {R k s}:k≠1->k≠2->Aw R (.mk k 0 s []) (.mk k 0 s [])|n1 {R k s a a'}:k≠1->k≠2->Aw R a a'->Aw R (.mk k 0 s [a]) (.mk k 0 s [a'])|n2 {R k s a a' b b'}:k≠1->k≠2->Aw R a a'->Aw R b b'->Aw R (.mk k 0 s [a,b]) (.mk k 0 s [a',b'])|n3 {R k s a a' b b' c c'}:k≠1->k≠2->Aw R a a'->Aw R b b'->Aw R c c'->Aw R (.mk k 0 s [a,b,c]) (.mk k 0 s [a',b',c'])
def Aw.zero{R:List Int}:Aw R Tm.z Tm.z:=.n0 aar aar
def Aw.alZ{R:List Int}{t d:Tm}(h:Aw R t d):t.alZ=d.alZ:=by
 induction h with
 |var _=>rw[kn,Tm.dM,Tm.dM]|lam _ ih=>rw[Tm.dM,Tm.dM];simp[ee,ih]|n0=>rfl|n1 _ _ _ i1=>rw[Tm.dM,Tm.dM];simp[ee,i1]|n2 _ _ _ _ i1 i2=>rw[Tm.dM,Tm.dM];simp[ee,i1,i2]|n3 _ _ _ _ _ i1 i2 i3=>rw[Tm.dM,Tm.dM];simp[ee,i1,i2,i3]
theorem Aw.put{A:List Int}{v c:Int}(o:c<v){R:List Int}{t d:Tm}(h:Aw R t d):∀B:List Int,R=B++A->t.al3 c=true->Aw (B++v::A) t (d.up B.length 1):=by
 induction h with
 |@var R i j h=>
  intro B f a;subst f;rw[Tm.fK] at a;simp at a;have:=h.put (A:=A) (v:=v) VW;rw[V0]
  by_cases n:B.length<=j
  ·rw[dR n] at this;rw[dR VW];exact .var this
  ·rw[dK n] at this;rw[dK VW];exact .var this
 |@lam R w s b d _ ih=>
  intro B f a;subst f;rw[Tm.fK] at a;simp at a;rw[ahN];have:=ih (w::B) rfl a.2;rw[mN] at this;exact .lam this
 |n0 k l=>intro B f a;rw[ajO _ _ _ k];exact .n0 k l|n1 k l _ i1=>
  intro B f a;rw[Tm.fK] at a;simp at a;rw[akC _ _ _ _ k l];exact .n1 k l (i1 B f a.2)
 |n2 k l _ _ i1 i2=>
  intro B f a;rw[Tm.fK] at a;simp at a;rw[ajY _ _ _ _ _ k l];exact .n2 k l (i1 B f a.2.1) (i2 B f a.2.2)
 |n3 k l _ _ _ i1 i2 i3=>
  intro B f a;rw[Tm.fK] at a;simp at a;rw[akz _ _ _ _ _ _ k l];exact .n3 k l (i1 B f a.2.1) (i2 B f a.2.2.1) (i3 B f a.2.2.2)
def Aw.up{R:List Int}{t d:Tm}(h:Aw R t d){v c:Int}(a:c<v)(b:t.al3 c=true):Aw (v::R) t (d.up 0 1):=h.put a [] rfl b
def KO(R:List Int)(c:Int)(e σ:List Tm):Prop:=e.length=σ.length/\∀i,i<e.length->Aw R (e.getD i Tm.z) (σ.getD i Tm.z)/\(e.getD i Tm.z).al3 c=true
def KO.up{R:List Int}{c:Int}{e σ:List Tm}(h:KO R c e σ){v:Int}(b:c<v):KO (v::R) c e (σ.map (Tm.up 0 1)):=by
 refine⟨by rw[Gk];exact h.1,λi hi=>?_⟩;obtain⟨d,a⟩:=h.2 i hi;rw[getD_map _ _ _ Tm.z _ (by rw[<-h.1];exact hi)];exact⟨d.up b a,a⟩
theorem KO.mono{R:List Int}{c a:Int}{e σ:List Tm}(h:KO R c e σ)(b:c<=a):KO R a e σ:=⟨h.1,λi hi=>⟨(h.2 i hi).1,Tm.mu _ b (h.2 i hi).2⟩⟩
def KO.add{R:List Int}{c:Int}{e σ:List Tm}(h:KO R c e σ){t d:Tm}(a:Aw R t d)(b:t.al3 c=true):KO R c (e++[t]) (σ++[d]):=by
 refine⟨by simp[h.1],λi hi=>?_⟩;rw[nB,Qy] at hi;rcases vb i e.length with h'|h'
 ·rw[ML _ _ _ _ h',ML _ _ _ _ (by rw[<-h.1];exact h')];exact h.2 i h'
 ·obtain rfl:i=e.length:=VW
  rw[Gl _ _ _ _ rfl,Gl _ _ _ _ h.1];exact⟨a,b⟩
def KO.nil{R:List Int}{c:Int}:KO R c [] []:=⟨rfl,λi hi=>by simp at hi⟩
end Go.fF
set_option maxRecDepth 20000
namespace Go.fF
open Go
def j9{f:Fm}{m:Nat}(h:f.err=0):sY (.inl (f,m))=.inl (f,fin f m):=by rw[II h];rfl
theorem rB{x:Fm}{t:Tm}(hn:(Fm.gp 0 x t).alZ<=4096):kM x t=(Fm.gp 0 x t,0):=by unfold kM;rw[dK VW]
def tE{g a:List Ty}{r:PR}{F f:Fm}{t:Tm}{m:Nat}(b:r=.inl (f,m))(hn:(Fm.gp 0 F t).alZ<=4096)(d:Hg g (Fm.gp 0 F t))(h:Hg a f)(hg:g.length<=1000000)(c:a.length<=1000000)(hm:(Fm.gp 0 F t).DT f=0):B7 r F t=.inl (f,m):=by
 subst b;show jI (kM F t).2 (jI (Az (kM F t).1 f) (.inl (f,m)))=_
 grind[rB,jI,EF]
def uR{L:List Fm}{g:List Ty}{hs:List Fm}(h:uc L ⟨g,hs⟩):g.length<=16:=h.nv
def Dv.inf{L:List Fm}{g:List Ty}{hs:List Fm}{P:Pf}{f:Fm}{m:Nat}(h:Dv L g hs P f m):uc L ⟨g,hs⟩->P.inf L g hs=.inl (f,m):=by
 induction h with
 |@hyp g hs i f N q A r=>
  intro c;rw[Pf.gV,So,hD VW,x',A,ae_,j9 r.err,yA]
 |@mC g hs i f N q A=>
  intro c;have:=(s7.1 q).1;rw[Pf.gV,Yi,hD VW,x',q,ae_,j9 A.err,yA]
 |IT _ _ r i1 i2=>intro c;rw[Pf.gV,Ns,i1 c,i2 c];exact j9 r.err|aau _ h i1=>intro c;rw[Pf.gV,Ny,i1 c,s6 (Fm.eK _ _ _ _)];exact j9 h.err|aak _ h i1=>intro c;rw[Pf.gV,MX,i1 c,s6 (Fm.eK _ _ _ _)];exact j9 h.err|@O8 g hs F a y m hF B _ D i1=>
  intro c;have:=hF.alZ;have:=uR c;rw[Pf.gV,QE,fS (lh hF.ty c.ctx VW),hD VW,i1 (c.with hF (by show hs.length+1<=16;omega))];exact j9 D.err
 |@PE g hs a b x y f m n _ _ v l hm D i1 i2=>
  intro c;have:=uR c;rw[Pf.gV,R9,i1 c,s6 (Fm.eK _ _ _ _),fl,i2 c,fl];show sY (jI (Az x f) _)=_;rw[EF v l VW VW,fS hm];exact j9 D.err
 |@all g hs k k' s a f m j w B _ l i1=>
  intro c;rcases j with⟨rfl,rfl⟩|⟨rfl,rfl,J⟩
  ·rw[Pf.gV,GG,hD VW,i1 (c.nZ w B)];exact j9 l.err
  ·rw[Pf.gV,MK,hD VW,i1 (c.nZ w B),fl,hD (by rw[J];decide)];exact j9 l.err
 |@ZG g hs k k' t s a x m u j d he _ v hn i1=>
  intro c;have:=uR c;obtain⟨I,C⟩:=i_ he;have G:=jJ v.ty d hn;rcases j with⟨rfl,rfl,rfl⟩|⟨rfl,rfl,rfl⟩
  ·rw[Pf.gV,Xs,mX d c.ctx VW,fS rfl,i1 c,s6 (Fm.eK _ _ _ _),fl,hD (by show¬s.kc s=false;rw[tL];decide)];show sY (jI (kM x t).2 (.inl ((kM x t).1,_)))=_;rw[rB hn];exact j9 G.err
  ·rw[Pf.gV,Q_,mX d c.ctx VW,fS rfl,i1 c,s6 (Fm.eK _ _ _ _),fl,hD (by show¬s.kc s=false;rw[tL];decide)];show sY (jI (kM x t).2 (.inl ((kM x t).1,_)))=_;rw[rB hn];exact j9 G.err
 |@ex g hs k k' t s a x f m u j hF d he v _ l hn hm i1=>
  intro c;have:=uR c;have:=hF.alZ;obtain⟨I,C⟩:=i_ he;have G:=jJ v.ty d hn;rcases j with⟨rfl,rfl,rfl⟩|⟨rfl,rfl,rfl⟩
  ·rw[Pf.gV,ME,fS (lh hF.ty c.ctx VW),hD aaA,mX d c.ctx VW,fS rfl,hD (by show¬s.kc s=false;rw[tL];decide)];show sY (pbind (B7 (a.inf L g hs) x t) _)=_;rw[tE (i1 c) hn G l VW VW hm];exact j9 hF.err
  ·rw[Pf.gV,RX,fS (lh hF.ty c.ctx VW),hD aaA,mX d c.ctx VW,fS rfl,hD (by show¬s.kc s=false;rw[tL];decide)];show sY (pbind (B7 (a.inf L g hs) x t) _)=_;rw[tE (i1 c) hn G l VW VW hm];exact j9 hF.err
 |@X9 g hs k k' s a b x f m n j _ w B M v _ l hw G i1 i2=>
  intro c;have o:uc L ⟨g++[s],hs.map (Fm.up 0 1)++[x]⟩:=(c.nZ w B).with v (by show(hs.map (Fm.up 0 1)).length+1<=16;simp;omega);rcases j with⟨rfl,rfl⟩|⟨rfl,rfl,J⟩
  ·rw[Pf.gV,FD,i1 c,s6 (Fm.eK _ _ _ _),fl,hD VW];show sY (pbind (b.inf L (g++[s]) (hs.map (Fm.up 0 1)++[x])) _)=_;rw[i2 o,fl,fS hw];exact j9 G.err
  ·rw[Pf.gV,IV,i1 c,s6 (Fm.eK _ _ _ _),fl,hD VW];show sY (pbind (b.inf L (g++[s]) (hs.map (Fm.up 0 1)++[x])) _)=_;rw[i2 o,fl,fS hw,hD (by rw[J];decide)];exact j9 G.err
 |@ind g hs t F a b x y m n hF d he _ v q A B M _ D r K H i1 i2=>
  intro c;have:=uR c;have:=hF.alZ;obtain⟨I,C⟩:=i_ he;have j:=yo d c.ctx VW;rw[show Ty.nat.alX=1 from rfl] at j;have o:uc L ⟨g++[.nat],hs.map (Fm.up 0 1)++[F]⟩:=(c.nZ Ty.fW B).with hF (by show(hs.map (Fm.up 0 1)).length+1<=16;simp;omega)
  rw[Pf.gV,Ip,fS (lh hF.ty c.ctx.nat (by simp only[nB,mN,CD];omega)),fS j,tE (i1 c) q (jJ hF.ty .zero q) v VW VW A,fl,hD VW,tE (i2 o) r (jJ hF.Ul.ty (.succ hU) r) D abu abu K,fl,rB H]
  exact j9 (jJ hF.ty d H).err
 |@lists g hs t F a b x y m n hF d he _ v q A B M _ D r K H i1 i2=>
  intro c;have:=uR c;have:=hF.alZ;obtain⟨I,C⟩:=i_ he;have j:=yo d c.ctx VW;rw[show Ty.lD.alX=2 from rfl] at j;have o:uc L ⟨g++[.nat]++[.lD],hs.map (Fm.up 0 2)++[F.up 1 1]⟩:=(c.RW B).with hF.upl (by show(hs.map (Fm.up 0 2)).length+1<=16;simp;omega)
  rw[Pf.gV,MF,fS (lh hF.ty c.ctx.lD (by simp only[nB,mN,CD];omega)),fS j,tE (i1 c) q (jJ hF.ty .nil q) v VW VW A,fl,hD VW,tE (i2 o) r (jJ hF.WH.ty (.cons oe hU) r) D abu abu K,fl,rB H]
  exact j9 (jJ hF.ty d H).err
 |@refl g hs t d he l=>
  intro c;have:=uR c;obtain⟨I,C⟩:=i_ he;have j:=yo d c.ctx VW;rw[show Ty.nat.alX=1 from rfl] at j;rw[Pf.gV,ND,fS j,j9 l.err,yA]
 |@subst g hs F a b t u f m n hF _ d hu het O _ l q A r i1 i2=>
  intro c;have:=uR c;have:=hF.alZ;rw[Pf.gV,Iw,fS (lh hF.ty c.ctx.nat (by simp only[nB,mN,CD];omega)),i1 c,s6 (Fm.eK _ _ _ _),fl];show sY (pbind (B7 (b.inf L g hs) F t) λ_ n=>jI (kM F u).2 (.inl ((kM F u).1,n)))=_;rw[tE (i2 c) q (jJ hF.ty d q) l VW VW A,fl,rB r];exact j9 (jJ hF.ty hu r).err
 |@choice g hs a s u y m _ w hu D he hn l i1=>
  intro c;rw[Pf.gV,Jo,i1 c,s6 (Fm.eK _ _ _ _),fl,hD (by simp[Fm.eG,Fm.eK])];show sY (v7 ((Ty.fn s u).err≠0) 4 (v7 ((kM (y.up 2 1) (fi v1 v0)).2≠0) 4 (.inl (.mk 5 (Ty.fn s u) [] [.mk 4 s [] [(kM (y.up 2 1) (fi v1 v0)).1]],m))))=_;rw[hD (by rw[he];decide),rB hn,hD (λh=>h rfl)];exact j9 l.err
mutual
def Fm.uA:Fm->Ty
 |.mk k s _ l=>
  if k=2 then(if Fm.zZ l then(if Fm.l9 l then .mk 3 [Fm.ya l,Fm.o0 l] else Fm.ya l)else Fm.o0 l)
  else if k=3 then(if Fm.zZ l then .mk 4 [Fm.ya l,Fm.o0 l] else Fm.o0 l)
  else if k=4 then .mk 4 [s,Fm.o0 l]
  else if k=5 then(if Fm.l9 l then .mk 3 [s,Fm.o0 l] else s)
  else Fm.o0 l
def Fm.ya:List Fm->Ty
 |[]=>.mk 5 []|f::_=>f.uA
def Fm.o0:List Fm->Ty
 |[]=>.mk 5 []|[f]=>f.uA|_::f::l=>Fm.o0 (f::l)
def Fm.zZ:List Fm->Bool
 |[]=>false|f::_=>f.has
end
def aaa(x y:Fm)(s:Ty)(ts:List Tm):(Fm.mk 2 s ts [x,y]).uA=if x.has then(if y.has then .pr x.uA y.uA else x.uA)else y.uA:=by
 rw[Fm.uA];simp only[Fm.zZ,Fm.l9,Fm.ya,Fm.o0];rfl
def aaF(x y:Fm)(s:Ty)(ts:List Tm):(Fm.mk 3 s ts [x,y]).uA=if x.has then .fn x.uA y.uA else y.uA:=by
 rw[Fm.uA];simp only[Fm.zZ,Fm.l9,Fm.ya,Fm.o0];rfl
def aa7(x:Fm)(s:Ty)(ts:List Tm):(Fm.mk 4 s ts [x]).uA=.fn s x.uA:=by
 rw[Fm.uA];rfl
def QT(x:Fm)(s:Ty)(ts:List Tm):(Fm.mk 5 s ts [x]).uA=if x.has then .pr s x.uA else s:=by
 rw[Fm.uA];simp only[Fm.l9,Fm.o0];rfl
def ai7{k:Int}(a:k=6\/k=7)(x:Fm)(s:Ty)(ts:List Tm):(Fm.mk k s ts [x]).uA=x.uA:=by grind[Fm.uA,Fm.o0]
def EW(x y:Fm)(s:Ty)(ts:List Tm):(Fm.mk 2 s ts [x,y]).has=(x.has||y.has):=by rw[Fm.y5];rfl
def M_(x y:Fm)(s:Ty)(ts:List Tm):(Fm.mk 3 s ts [x,y]).has=y.has:=by rw[Fm.y5];rfl
def Nn(x:Fm)(s:Ty)(ts:List Tm):(Fm.mk 5 s ts [x]).has=true:=by rw[Fm.zL];rfl
def At{k:Int}(a:k=4\/k=6\/k=7)(x:Fm)(s:Ty)(ts:List Tm):(Fm.mk k s ts [x]).has=x.has:=by grind[Fm.zL]
def csF(f:Fm):Nat:=if f.has then f.uA.alZ else 0
def Fj{k:Int}{a b:Ty}(h:(Ty.mk k [a,b]).err=0):vx k a b=(.mk k [a,b],true,0):=by grind[vx]
def Iy{f:Fm}(a:f.ok=true)(h:f.has=false):f.ct=(f.ct.1,false,0):=by
 have c:=Hk f a;have b:=c.n h;have d:=c.h b
 grind
theorem adO(f:Fm)(t:f.ok=true):f.has=true->f.uA.alZ<=64->f.ct=(f.uA,true,0)/\f.uA.err=0:=by
 refine Fm.qP (p:=λf=>f.has=true->f.uA.alZ<=64->f.ct=(f.uA,true,0)/\f.uA.err=0) ?_ ?_ ?_ f t
 ·intro a b _ _ h;rw[Fm.has_eq] at h;cases h
 ·intro k a b q n u j o h hn;rw[Fm.Sg,dK VW];rcases q with rfl|rfl
  ·rw[EW] at h;rw[aaa] at hn|-;cases c:a.has<;>cases i:b.has<;>simp only[c,i,if_true,ox,jb,Bool.or_self] at h hn|-
   ·obtain⟨e,he⟩:=o i hn;refine⟨?_,he⟩;unfold qG LL;rw[e,Iy n c];simp
   ·obtain⟨e,he⟩:=j c hn;refine⟨?_,he⟩;unfold qG LL;rw[e,Iy u i];simp
   ·rw[Ty.oR] at hn;obtain⟨e,he⟩:=j c VW;obtain⟨r,l⟩:=o i VW;have d:=Ty.JZ he l VW;refine⟨?_,d⟩;unfold qG LL;rw[e,r];simp only[];simp;exact Fj d
  ·rw[M_] at h;rw[aaF] at hn|-;cases c:a.has<;>simp only[c,if_true,ox,jb] at hn|-
   ·obtain⟨e,he⟩:=o h hn;refine⟨?_,he⟩;unfold qG PF;rw[e,Iy n c];simp
   ·rw[Ty.iH] at hn;obtain⟨e,he⟩:=j c VW;obtain⟨r,l⟩:=o h VW;have d:=Ty.xf he l VW;refine⟨?_,d⟩;unfold qG PF;rw[e,r];simp only[];simp;exact Fj d
 ·intro k s a q hs n j h hn;rw[Fm.Rs,dK VW];rcases q with rfl|rfl|rfl|rfl
  ·rw[At (.inl rfl)] at h;rw[aa7] at hn|-;rw[Ty.iH] at hn;obtain⟨e,he⟩:=j h VW;have d:=Ty.xf hs he VW;refine⟨?_,d⟩;unfold qG;rw[e];simp only[];simp;exact Fj d
  ·rw[QT] at hn|-;cases c:a.has<;>simp only[c,if_true,ox,jb] at hn|-
   ·refine⟨?_,hs⟩;unfold qG;rw[Iy n c];simp
   ·rw[Ty.oR] at hn;obtain⟨e,he⟩:=j c VW;have d:=Ty.JZ hs he VW;refine⟨?_,d⟩;unfold qG;rw[e];simp only[];simp;exact Fj d
  all_goals
   rw[At VW] at h;rw[ai7 VW] at hn|-;obtain⟨e,he⟩:=j h hn;refine⟨?_,he⟩;unfold qG;rw[e];simp
def Sz{f:Fm}(a:f.err=0)(b:f.has=true)(hn:f.uA.alZ<=64):f.KG=(f.uA,0):=by grind[adO,Fm.ig,Fm.KG]
def FI(r:PR):Fm:=match r with|.inl p=>p.1|.inr _=>iK
@[simp] theorem sy(f:Fm)(m:Nat):FI (.inl (f,m))=f:=rfl
def FJ(r:Option Tm):Option Tm:=r.bind λt=>if t.alZ<=4096 then some t else none
def W0{r:Option Tm}{d:Tm}(h:FJ r=some d):r=some d/\d.alZ<=4096:=by
 unfold FJ at h;cases r with
 |none=>cases h
 |some t=>grind
def vg{d:Tm}(h:d.alZ<=4096):FJ (some d)=some d:=by grind[FJ]
def KH(f:Fm)(k:Ty->Option Tm):Option Tm:=if f.KG.2=0 then k f.KG.1 else none
noncomputable def IN (s:Ty):Tm:=(la FU s).getD Tm.z
def mJ(σ:List Tm):List Tm:=σ.map (Tm.up 0 1)
noncomputable def exR (Ts:List Tm) (k i:Int) (s:Ty) (ts:List Tm) (fs:List Fm) (inf:Nat->List Ty->List Fm->PR) (sub:Nat->List Ty->List Fm->List Tm->List Tm->Option Tm) (g:List Ty) (hs:List Fm) (σ τ:List Tm):Option Tm:=
 let t:=(ts.getD 0 Tm.z).sb σ
 let F:=fs.getD 0 iK
 let f:=FI (inf 0 g hs)
 let a:=f.alY.getD 0 iK
 if k=1 then some (τ.getD (τ.length-1-i.toNat) Tm.z)
 else if k=2 then some (Ts.getD i.toNat Tm.z)
 else if k=3 then(if f.has then(sub 0 g hs σ τ).bind λx=>if(FI (inf 1 g hs)).has then(sub 1 g hs σ τ).bind λy=>some (.mk 10 0 .z [x,y])else some x else sub 1 g hs σ τ)
 else if k=4 then(sub 0 g hs σ τ).bind λx=>some (if a.has=true/\(f.alY.getD 1 iK).has then .mk 11 0 .z [x] else x)
 else if k=5 then(sub 0 g hs σ τ).bind λx=>some (if a.has=true/\(f.alY.getD 1 iK).has then .mk 12 0 .z [x] else x)
 else if k=6 then(if F.has then KH F λu=>(sub 0 g (hs++[F]) (mJ σ) (mJ τ++[kn 0])).bind λx=>some (.mk 2 0 u [x])else sub 0 g (hs++[F]) σ (τ++[Tm.z]))
 else if k=7 then(sub 0 g hs σ τ).bind λx=>if a.has then(sub 1 g hs σ τ).bind λy=>some (fi x y)else some x
 else if k=8 then(sub 0 (g++[s]) (hs.map (Fm.up 0 1)) (mJ σ++[kn 0]) (mJ τ)).bind λx=>some (.mk 2 0 s [x])
 else if k=9 then(sub 0 g hs σ τ).bind λx=>some (fi x t)
 else if k=10 then(if(F.alY.getD 0 iK).has then(sub 0 g hs σ τ).bind λx=>some (.mk 10 0 .z [t,x])else some t)
 else if k=11 then(sub 0 g hs σ τ).bind λx=>
  if a.has then KH f λu=>(sub 1 (g++[f.dN]) (hs.map (Fm.up 0 1)++[a]) (mJ σ++[.mk 11 0 .z [kn 0]]) (mJ τ++[.mk 12 0 .z [kn 0]])).bind λy=>some (fi (.mk 2 0 u [y]) x)
  else(sub 1 (g++[f.dN]) (hs.map (Fm.up 0 1)++[a]) (mJ σ++[kn 0]) (mJ τ++[Tm.z])).bind λy=>some (fi (.mk 2 0 f.dN [y]) x)
 else if k=12 then sub 0 (g++[s]) (hs.map (Fm.up 0 1)) (σ++[IN s]) τ
 else if k=15 then(if f.has then(sub 0 g hs σ τ).bind λx=>KH f λu=>(sub 1 (g++[f.dN]) (hs.map (Fm.up 0 1)++[a]) (mJ σ++[IN f.dN]) (mJ τ++[kn 0])).bind λy=>some (fi (.mk 2 0 u [y]) x)
  else sub 1 (g++[f.dN]) (hs.map (Fm.up 0 1)++[a]) (σ++[IN f.dN]) (τ++[Tm.z]))
 else if k=16 then KH F λu=>(sub 0 g hs σ τ).bind λx=>(sub 1 (g++[.nat]) (hs.map (Fm.up 0 1)++[F]) (mJ (mJ σ++[kn 0])) (mJ (mJ τ)++[kn 0])).bind λy=>some (.mk 6 0 u [x,.mk 2 0 .nat [.mk 2 0 u [y]],t])
 else if k=17 then KH F λu=>(sub 0 g hs σ τ).bind λx=>(sub 1 (g++[.nat]++[.lD]) (hs.map (Fm.up 0 2)++[F.up 1 1]) (mJ (mJ (mJ σ++[kn 0])++[kn 0])) (mJ (mJ (mJ τ))++[kn 0])).bind λy=>some (.mk 9 0 u [x,.mk 2 0 .nat [.mk 2 0 .lD [.mk 2 0 u [y]]],t])
 else if k=19 then sub 1 g hs σ τ
 else if k=20 then(sub 0 g hs σ τ).bind λx=>if(a.alY.getD 0 iK).has then KH f λu=>some (fi (.mk 2 0 u [.mk 10 0 .z [.mk 2 0 f.dN [.mk 11 0 .z [fi (kn 1) (kn 0)]],.mk 2 0 f.dN [.mk 12 0 .z [fi (kn 1) (kn 0)]]]]) x)else some x
 else sub 0 g hs σ τ
mutual
noncomputable def Pf.ex (L:List Fm) (Ts:List Tm):Pf->List Ty->List Fm->List Tm->List Tm->Option Tm
 |.mk k i s ts fs l,g,hs,σ,τ=>FJ (exR Ts k i s ts fs (Pf.vp L l) (Pf.exL L Ts l) g hs σ τ)
noncomputable def Pf.exL (L:List Fm) (Ts:List Tm):List Pf->Nat->List Ty->List Fm->List Tm->List Tm->Option Tm
 |[],_,_,_,_,_=>none|p::_,0,g,hs,σ,τ=>p.ex L Ts g hs σ τ|_::l,n+1,g,hs,σ,τ=>Pf.exL L Ts l n g hs σ τ
end
def Fm.W3{g:Fm->Fm}{k:Int}{s:Ty}{ts us:List Tm}{l:List Fm}(h:∀x∈l,(g x).uA=x.uA/\(g x).has=x.has):(Fm.mk k s us (l.map g)).uA=(Fm.mk k s ts l).uA:=by
 rw[Fm.uA,Fm.uA]
 have a:Fm.ya (l.map g)=Fm.ya l:=by cases l with|nil=>rfl|cons x l=>simp[Fm.ya,(h x aaA).1]
 have b:Fm.zZ (l.map g)=Fm.zZ l:=by cases l with|nil=>rfl|cons x l=>simp[Fm.zZ,(h x aaA).2]
 have c:Fm.o0 (l.map g)=Fm.o0 l/\Fm.l9 (l.map g)=Fm.l9 l:=by
  clear a b
  induction l with
  |nil=>exact⟨rfl,rfl⟩|cons x l ih=>
   cases l with
   |nil=>simp[Fm.o0,Fm.l9,h x aaA]|cons y l=>grind[Fm.o0,Fm.l9]
 rw[a,c.1,c.2,b]
def Fm.af4(t:Fm):∀f b,(t.up f b).uA=t.uA:=by
 induction t using Fm.ind with
 |h k s ts l ih=>intro f b;rw[Fm.fu];exact Fm.W3 λx a=>⟨ih x a _ _,(x.SD _ _).2⟩
theorem rR.uA{a b:Fm}(h:rR a b):a.uA=b.uA:=by
 induction h with
 |eq _ _=>rw[Fm.uA,Fm.uA]|@two k a d b i c f i1 i2=>
  rw[Fm.uA,Fm.uA];simp only[Fm.ya,Fm.o0,Fm.zZ,Fm.l9,i1,i2,c.has,f.has];rfl
 |@q k s a d c i1=>
  rw[Fm.uA,Fm.uA];simp only[Fm.ya,Fm.o0,Fm.zZ,Fm.l9,i1,c.has];rfl
def U3{g:List Ty}{s:Ty}{f:Fm}(h:Hg (g++[s]) f)(hg:g.length<=1000)(a:(xj f).2=0):(xj f).1.has=f.has/\(xj f).1.uA=f.uA:=by
 have c:=Xl h hg a;have b:=c.has;have d:=c.uA;rw[((xj f).1.SD 0 1).2] at b;rw[(xj f).1.af4 0 1] at d
 grind
mutual
def Pf.cs(B:Nat):Pf->Nat->Nat
 |.mk k _ s _ fs l,H=>
  if k=1 then H
  else if k=2 then B
  else if k=3 then 1+Pf.TO B l 0 H+Pf.TO B l 1 H
  else if k=6 then 1+csF (fs.getD 0 iK)+Pf.TO B l 0 (max H (csF (fs.getD 0 iK)))
  else if k=8\/k=12 then 1+s.alZ+Pf.TO B l 0 H
  else if k=11\/k=15 then 1+Pf.TO B l 0 H+Pf.TO B l 1 (max H (Pf.TO B l 0 H))
  else if k=16\/k=17 then max (5+2*csF (fs.getD 0 iK)) (max (Pf.TO B l 0 H) (Pf.TO B l 1 (max H (csF (fs.getD 0 iK)))))
  else if k=20 then 1+3*Pf.TO B l 0 H
  else max (csF (fs.getD 0 iK)) (max (Pf.TO B l 0 H) (Pf.TO B l 1 H))
def Pf.TO(B:Nat):List Pf->Nat->Nat->Nat
 |[],_,_=>0|p::_,0,H=>p.cs B H|_::l,n+1,H=>Pf.TO B l n H
end
end Go.fF
set_option maxRecDepth 20000
namespace Go.fF
open Go
def U8:∀(n:Nat) (s:Ty),s.alZ<=n->s.err=0->∃x,la n s=some x/\(∀g,dU g x s)/\x.alZ<=s.alZ:=by
 intro n
 induction n with
 |zero=>intro s h;have:=s.eM;omega
 |succ n ih=>
  intro s h he;rw[la]
  have i1:∀x y:Int,x≠y->eo x y=false:=λx y h=>by cases e:eo x y with|false=>rfl|true=>exact absurd ((gh _ _).1 e) h
  have i2:∀x:Int,eo x x=true:=λx=>(gh _ _).2 rfl;rcases Ty.pE he with rfl|rfl|rfl|⟨a,b,rfl,i,d⟩|⟨a,b,rfl,i,d⟩
  ·exact⟨.mk 4 0 .z [],by simp only[show Ty.nat.alX=1 from rfl,i2,if_true,Bm,dI],λg=>.zero,aar⟩
  ·exact⟨.mk 7 0 .z [],by simp only[show Ty.lD.alX=2 from rfl,i2,i1 2 1 aar,ox,jb,if_true,Bm,dI],λg=>.nil,aar⟩
  ·exact⟨.mk 13 0 .z [],by simp only[show Ty.unit.alX=5 from rfl,i1 5 1 aar,i1 5 2 aar,i1 5 3 aar,i1 5 4 aar,ox,jb,Bm,dI],λg=>.unit,aar⟩
  ·rw[Ty.oR] at h;obtain⟨x,k,j,o⟩:=ih a VW i;obtain⟨y,f,c,y3⟩:=ih b VW d;have hn:=(Ty.gU he).2;rw[Ty.oR] at hn;have q:=x.js (j []).ok;have l:=y.js (c []).ok;refine⟨.mk 10 0 .z [x,y],?_,λg=>.pair he (j g) (c g),?_⟩
   ·simp only[show(Ty.pr a b).alX=3 from rfl,i2,i1 3 1 aar,i1 3 2 aar,ox,jb,if_true,show dX (Ty.pr a b).alY 0=some a from rfl,dI,k,show dX (Ty.pr a b).alY 1=some b from rfl,f];rw[wW VW VW];rfl
   ·rw[Tm.dM,Ty.oR];simp only[ee];omega
  ·rw[Ty.iH] at h;obtain⟨y,f,c,y3⟩:=ih b VW d;have hn:=(Ty.gU he).2;rw[Ty.iH] at hn;have l:=y.js (c []).ok;refine⟨.mk 2 0 a [y],?_,λg=>.lam he (c _),?_⟩
   ·simp only[show(Ty.fn a b).alX=4 from rfl,i2,i1 4 1 aar,i1 4 2 aar,i1 4 3 aar,ox,jb,if_true,show dX (Ty.fn a b).alY 0=some a from rfl,dI,show dX (Ty.fn a b).alY 1=some b from rfl,f];rw[Dd VW VW];rfl
   ·rw[Tm.dM,Ty.iH];simp only[ee];omega
def FN{s:Ty}(he:s.err=0):la FU s=some (IN s)/\(∀g,dU g (IN s) s)/\(IN s).alZ<=64:=by
 obtain⟨x,a,b,c⟩:=U8 FU s (by have:=(Ty.gU he).2;rw[fI];omega) he
 have e:IN s=x:=by unfold IN;rw[a];rfl
 rw[e];exact⟨a,b,A5 c (Ty.gU he).2⟩
def agl{s:Ty}(he:s.err=0){c:Int}(a:0<=c)(b:Int):(IN s).up c b=IN s:=(((FN he).2.1 []).fix c (by simpa using a)).1 b
section
variable(L:List Fm) (Ts:List Tm) (g:List Ty) (hs:List Fm) (σ τ:List Tm)
def V_(i:Int):(Pf.mk 1 i .z [] [] []).ex L Ts g hs σ τ=FJ (some (τ.getD (τ.length-1-i.toNat) Tm.z)):=rfl
def ab6(a b:Pf):(Pf.mk 3 0 .z [] [] [a,b]).ex L Ts g hs σ τ=FJ (if(FI (a.inf L g hs)).has then(a.ex L Ts g hs σ τ).bind λx=>if(FI (b.inf L g hs)).has then(b.ex L Ts g hs σ τ).bind λy=>some (.mk 10 0 .z [x,y])else some x else b.ex L Ts g hs σ τ):=rfl
def abq(a:Pf):(Pf.mk 4 0 .z [] [] [a]).ex L Ts g hs σ τ=FJ ((a.ex L Ts g hs σ τ).bind λx=>some (if((FI (a.inf L g hs)).alY.getD 0 iK).has=true/\((FI (a.inf L g hs)).alY.getD 1 iK).has then .mk 11 0 .z [x] else x)):=rfl
def aa3(a:Pf):(Pf.mk 5 0 .z [] [] [a]).ex L Ts g hs σ τ=FJ ((a.ex L Ts g hs σ τ).bind λx=>some (if((FI (a.inf L g hs)).alY.getD 0 iK).has=true/\((FI (a.inf L g hs)).alY.getD 1 iK).has then .mk 12 0 .z [x] else x)):=rfl
def aaq(a b:Pf):(Pf.mk 7 0 .z [] [] [a,b]).ex L Ts g hs σ τ=FJ ((a.ex L Ts g hs σ τ).bind λx=>if((FI (a.inf L g hs)).alY.getD 0 iK).has then(b.ex L Ts g hs σ τ).bind λy=>some (fi x y)else some x):=rfl
def Tl(s:Ty)(a:Pf):(Pf.mk 8 0 s [] [] [a]).ex L Ts g hs σ τ=FJ ((a.ex L Ts (g++[s]) (hs.map (Fm.up 0 1)) (mJ σ++[kn 0]) (mJ τ)).bind λx=>some (.mk 2 0 s [x])):=rfl
def Tn(t:Tm)(F:Fm)(a:Pf):(Pf.mk 10 0 .z [t] [F] [a]).ex L Ts g hs σ τ=FJ (if(F.alY.getD 0 iK).has then(a.ex L Ts g hs σ τ).bind λx=>some (.mk 10 0 .z [t.sb σ,x])else some (t.sb σ)):=rfl
def EO(a b:Pf):(Pf.mk 11 0 .z [] [] [a,b]).ex L Ts g hs σ τ=FJ ((a.ex L Ts g hs σ τ).bind λx=>
 if((FI (a.inf L g hs)).alY.getD 0 iK).has then KH (FI (a.inf L g hs)) λu=>(b.ex L Ts (g++[(FI (a.inf L g hs)).dN]) (hs.map (Fm.up 0 1)++[(FI (a.inf L g hs)).alY.getD 0 iK]) (mJ σ++[.mk 11 0 .z [kn 0]]) (mJ τ++[.mk 12 0 .z [kn 0]])).bind λy=>some (fi (.mk 2 0 u [y]) x)
 else(b.ex L Ts (g++[(FI (a.inf L g hs)).dN]) (hs.map (Fm.up 0 1)++[(FI (a.inf L g hs)).alY.getD 0 iK]) (mJ σ++[kn 0]) (mJ τ++[Tm.z])).bind λy=>some (fi (.mk 2 0 (FI (a.inf L g hs)).dN [y]) x)):=rfl
def X_(a b:Pf):(Pf.mk 15 0 .z [] [] [a,b]).ex L Ts g hs σ τ=FJ (if(FI (a.inf L g hs)).has then(a.ex L Ts g hs σ τ).bind λx=>KH (FI (a.inf L g hs)) λu=>(b.ex L Ts (g++[(FI (a.inf L g hs)).dN]) (hs.map (Fm.up 0 1)++[(FI (a.inf L g hs)).alY.getD 0 iK]) (mJ σ++[IN (FI (a.inf L g hs)).dN]) (mJ τ++[kn 0])).bind λy=>some (fi (.mk 2 0 u [y]) x)
 else b.ex L Ts (g++[(FI (a.inf L g hs)).dN]) (hs.map (Fm.up 0 1)++[(FI (a.inf L g hs)).alY.getD 0 iK]) (σ++[IN (FI (a.inf L g hs)).dN]) (τ++[Tm.z])):=rfl
def O4(t:Tm)(F:Fm)(a b:Pf):(Pf.mk 16 0 .z [t] [F] [a,b]).ex L Ts g hs σ τ=FJ (KH F λu=>(a.ex L Ts g hs σ τ).bind λx=>(b.ex L Ts (g++[.nat]) (hs.map (Fm.up 0 1)++[F]) (mJ (mJ σ++[kn 0])) (mJ (mJ τ)++[kn 0])).bind λy=>some (.mk 6 0 u [x,.mk 2 0 .nat [.mk 2 0 u [y]],t.sb σ])):=rfl
def TY(a:Pf):(Pf.mk 20 0 .z [] [] [a]).ex L Ts g hs σ τ=FJ ((a.ex L Ts g hs σ τ).bind λx=>if((((FI (a.inf L g hs)).alY.getD 0 iK)).alY.getD 0 iK).has then KH (FI (a.inf L g hs)) λu=>
 some (fi (.mk 2 0 u [.mk 10 0 .z [.mk 2 0 (FI (a.inf L g hs)).dN [.mk 11 0 .z [fi (kn 1) (kn 0)]],.mk 2 0 (FI (a.inf L g hs)).dN [.mk 12 0 .z [fi (kn 1) (kn 0)]]]]) x)else some x):=rfl
end
def O0{r:Option Tm}{k:Tm->Option Tm}{d:Tm}(h:r.bind k=some d):∃x,r=some x/\k x=some d:=by
 cases r with
 |none=>cases h
 |some x=>grind
end Go.fF
set_option maxRecDepth 20000
namespace Go.fF
open Go
theorem Nc(σ:List Tm):(mJ σ).length=σ.length:=Gk _
theorem P3{n:Int}(a:0<=n)(h:n<=4000000000000000000):eW .i64 n 1=n+1:=gd VW VW
def kL{t:Tm}{c a:Int}(h:t.al3 c=true)(b:c<=a):t.al3 a=true:=Tm.mu t b h
def B6{k:Int}{s:Ty}{a:Tm}{c:Int}(b:0<=c)(h:a.al3 c=true):(Tm.mk k 0 s [a]).al3 c=true:=by rw[Tm.fK];simp[b,h]
def rb{k:Int}{s:Ty}{a b:Tm}{c:Int}(d:0<=c)(h:a.al3 c=true)(f:b.al3 c=true):(Tm.mk k 0 s [a,b]).al3 c=true:=by rw[Tm.fK];simp[d,h,f]
def Nr{k:Int}{s:Ty}{a b d:Tm}{c:Int}(i:0<=c)(h:a.al3 c=true)(j:b.al3 c=true)(f:d.al3 c=true):(Tm.mk k 0 s [a,b,d]).al3 c=true:=by rw[Tm.fK];simp[i,h,j,f]
def lF{v:Int}{s:Ty}{a:Tm}{c:Int}(b:v<=c)(h:a.al3 c=true):(Tm.mk 2 v s [a]).al3 c=true:=by rw[Tm.fK];simp[b,h]
def Cg{v c:Int}(a:v<=c):(Tm.mk 1 v .z []).al3 c=true:=by rw[Tm.fK];simp[a]
def Ij{k:Int}{s:Ty}{c:Int}(a:0<=c):(Tm.mk k 0 s []).al3 c=true:=by rw[Tm.fK];simp[a]
inductive Run {β:Type} (E:β->Tm->Option (Tm×β)):List Tm->β->List Tm->β->Prop
 |nil {b}:Run E [] b [] b|cons {x y l m b b1 b2}:E b x=some (y,b1)->Run E l b1 m b2->Run E (x::l) b (y::m) b2
def Run.loop{β ρ:Type}{E:β->Tm->Option (Tm×β)}{alY:List Tm}{F:Int×List Tm×β->Option (gq (Int×List Tm×β) ρ)}
  (hF:∀i out b,F (i,out,b)=if pg i (eA alY) then dH (dX alY i) λx=>dV (E b x) λy c=>gG (fN out [y]) (some (.next (eW .i64 i 1,fU out [y],c)))else some (.y7 (i,out,b)))
  (j:alY.length<=100000) {l:List Tm} {b:β} {m:List Tm} {c:β} (h:Run E l b m c):∀(pre out:List Tm) (n:Nat),alY=pre++l->out.length<=pre.length->l.length<n->j0 F n ((pre.length:Int),out,b)=some (.inl ((alY.length:Int),out++m,c)):=by
 induction h with
 |@nil b=>
  intro pre out n a d hn;obtain⟨n,rfl⟩:∃k,n=k+1:=⟨n-1,VW⟩
  have e:pre.length=alY.length:=by rw[a];simp
  rw[hS,hF,e,dK (by rw[jR,fQ];omega),dI,sZ,AE]
 |@cons x y l m b o q f _ ih=>
  intro pre out n a d hn;obtain⟨n,rfl⟩:∃k,n=k+1:=⟨n-1,VW⟩
  have e:alY.length=pre.length+1+l.length:=by rw[a];simp;omega
  have hg:dX alY (pre.length:Int)=some x:=by rw[hJ,a,tQ (g_ _)];simp
  rw[hS,hF,dR (by rw[jR,fQ];omega),hg,dI,f,dQ,fm abu,ed,dI,fk,P3 VW VW,iv];have:=ih (pre++[x]) (out++[y]) n (by rw[a];simp) abu (by simp at hn;omega);rw[nB,Qy] at this;rw[show((pre.length:Int)+1)=((pre.length+1:Nat):Int) by omega,this];simp
def PM{ρ:Type}{E:Tm->Option Tm}{alY:List Tm}{F:Int×List Tm->Option (gq (Int×List Tm) ρ)}
  (hF:∀i out,F (i,out)=if pg i (eA alY) then dH (dX alY i) λx=>dH (E x) λy=>gG (fN out [y]) (some (.next (eW .i64 i 1,fU out [y])))else some (.y7 (i,out)))
  (d:alY.length<=100000):∀(l m pre out:List Tm) (n:Nat),l.map E=m.map some->alY=pre++l->out.length<=pre.length->l.length<n->j0 F n ((pre.length:Int),out)=some (.inl ((alY.length:Int),out++m)):=by
 intro l
 induction l with
 |nil=>
  intro m pre out n hm a b hn;obtain⟨n,rfl⟩:∃k,n=k+1:=⟨n-1,VW⟩
  obtain rfl:m=[]:=by cases m with|nil=>rfl|cons _ _=>simp at hm
  have e:pre.length=alY.length:=by rw[a];simp
  rw[hS,hF,e,dK (by rw[jR,fQ];omega),dI,sZ,AE]
 |cons x l ih=>
  intro m pre out n hm a b hn;obtain⟨n,rfl⟩:∃k,n=k+1:=⟨n-1,VW⟩
  obtain⟨y,m,rfl⟩:∃y c,m=y::c:=by cases m with|nil=>simp at hm|cons y m=>exact⟨y,m,rfl⟩
  simp only[kZ,Po] at hm
  have e:alY.length=pre.length+1+l.length:=by rw[a];simp;omega
  have hg:dX alY (pre.length:Int)=some x:=by rw[hJ,a,tQ (g_ _)];simp
  rw[hS,hF,dR (by rw[jR,fQ];omega),hg,dI,hm.1,dI,fm abu,ed,dI,fk,P3 VW VW,iv];have:=ih m (pre++[x]) (out++[y]) n hm.2 (by rw[a];simp) abu (by simp at hn;omega);rw[nB,Qy] at this;rw[show((pre.length:Int)+1)=((pre.length+1:Nat):Int) by omega,this];simp
def SZ{l:List Tm}{t:Tm}(h:l.length<=900000000):oO l t=some (l++[t]):=by
 unfold oO;rw[fm abu,ed,fm abu,ed];simp
structure NmR (b b':dT) (R:List Int) (t d:Tm) (k:Nat):Prop where
 mC:b'.lemmas=b.lemmas
 pB:b'.ei=b.ei
 lo:b.next<=b'.next
 hi:b'.next<=b.next+k
 nm:Aw R t d
 le:t.al3 b'.next=true
def JX(n:Nat)(b:dT)(k i:Int)(s:Ty)(l e:List Tm):eJ (n+1) b (.mk k i s l) e=if(eo k 1) then(dH (dX e (fL .i64 (fL .i64 (eA e) 1) i)) λt=>some (t,b))
 else(if(eo k 2) then(dV (eE b) λd d57=>dH (dX l 0) λh=>dH (fc d) λj=>dH (oO e j) λo=>dV (eJ n d57 h o) λq d93=>some ((Tm.mk k d s [q]),d93))
 else(dH (j0 (ρ:=Tm×dT) (Vr λ(v210:Int) (a:List Tm) (v212:dT)=>if(pg v210 (eA l)) then(dH (dX l v210) λf=>dV (eJ n v212 f e) λc d241=>gG (fN a [c])<|some (.next ((eW .i64 v210 1),(fU a [c]),d241)))else(some (.y7 (v210,a,v212)))) FU (0,[],b))
  (fO (Vr λ(v210:Int) (a:List Tm) (v212:dT)=>some ((Tm.mk k 0 s a),v212)) (λr=>some r)))):=by rw[eJ];rfl
def B_{n:Nat}{k:Int}{s:Ty}{l m:List Tm}{b f:dT}{e:List Tm}(j:k≠1)(o:k≠2)(q:l.length<=3)(h:Run (λb x=>eJ n b x e) l b m f):eJ (n+1) b (.mk k 0 s l) e=some (.mk k 0 s m,f):=by
 rw[JX,dK (by rw[gh];exact j),dK (by rw[gh];exact o)]
 have:=h.loop (ρ:=Tm×dT) (alY:=l) (F:=Vr λ(v210:Int) (a:List Tm) (v212:dT)=>if(pg v210 (eA l)) then(dH (dX l v210) λd=>dV (eJ n v212 d e) λc d241=>gG (fN a [c])<|some (.next ((eW .i64 v210 1),(fU a [c]),d241)))else(some (.y7 (v210,a,v212))))
  (λi out b=>rfl) VW [] [] FU rfl aaA (by rw[fI];omega)
 rw[show(([]:List Tm).length:Int)=0 from rfl] at this;rw[this,dI,eC,oa];rfl
def xh(g:List Ty)(t:Tm):Prop:=∀(n:Nat) (b:dT) (R:List Int) (e σ:List Tm),t.alZ<=n->KO R b.next e σ->e.length=g.length->g.length+t.alZ<=1000000->0<=b.next->b.next+t.alZ<=4000000000000000000->∃a c,eJ n b t e=some (a,c)/\NmR b c R a (t.sb σ) t.alZ
def xh.none{g:List Ty}{k:Int}{s:Ty}(a:k≠1)(c:k≠2):xh g (.mk k 0 s []):=by
 intro n b R e σ hn he f hg d h;obtain⟨n,rfl⟩:∃k,n=k+1:=⟨n-1,by have:=(Tm.mk k 0 s []).eM;omega⟩;exact⟨_,b,B_ a c aaA .nil,rfl,rfl,KZ _,VW,by rw[Qu _ _ a c];exact .n0 a c,Ij d⟩
def xh.one{g:List Ty}{k:Int}{s:Ty}{x:Tm}(c:k≠1)(d:k≠2)(f:xh g x):xh g (.mk k 0 s [x]):=by
 intro n b R e σ hn he h hg i j
 have l:(Tm.mk k 0 s [x]).alZ=1+x.alZ:=by rw[Tm.dM];simp[ee]
 rw[l] at hn hg j|-;obtain⟨n,rfl⟩:∃k,n=k+1:=⟨n-1,VW⟩;obtain⟨q,o,q1,a⟩:=f n b R e σ VW he h VW i VW;have:=a.lo;have:=a.hi;exact⟨_,o,B_ c d aaA (.cons q1 .nil),a.mC,a.pB,VW,VW,by rw[Kw _ _ _ c d];exact .n1 c d a.nm,B6 VW a.le⟩
def xh.two{g:List Ty}{k:Int}{s:Ty}{x y:Tm}(d:k≠1)(f:k≠2)(i:xh g x)(j:xh g y):xh g (.mk k 0 s [x,y]):=by
 intro n b R e σ hn he h hg l o
 have q:(Tm.mk k 0 s [x,y]).alZ=1+x.alZ+y.alZ:=by rw[Tm.dM];simp[ee];omega
 rw[q] at hn hg o|-;obtain⟨n,rfl⟩:∃k,n=k+1:=⟨n-1,VW⟩;obtain⟨v,r,q1,a⟩:=i n b R e σ VW he h VW l VW;have:=a.lo;have:=a.hi;obtain⟨w,t,u,c⟩:=j n r R e σ VW (he.mono VW) h VW VW VW;have:=c.lo;have:=c.hi;exact⟨_,t,B_ d f aaA (.cons q1 (.cons u .nil)),c.mC.trans a.mC,c.pB.trans a.pB,VW,VW,by rw[H6 _ _ _ _ d f];exact .n2 d f a.nm c.nm,rb VW (kL a.le VW) c.le⟩
def xh.three{g:List Ty}{k:Int}{s:Ty}{x y z:Tm}(f:k≠1)(h:k≠2)(j:xh g x)(l:xh g y)(o:xh g z):xh g (.mk k 0 s [x,y,z]):=by
 intro n b R e σ hn he i hg q r
 have t:(Tm.mk k 0 s [x,y,z]).alZ=1+x.alZ+y.alZ+z.alZ:=by rw[Tm.dM];simp[ee];omega
 rw[t] at hn hg r|-;obtain⟨n,rfl⟩:∃k,n=k+1:=⟨n-1,VW⟩;obtain⟨C,u,q1,a⟩:=j n b R e σ VW he i VW q VW;have:=a.lo;have:=a.hi;obtain⟨D,v,w,c⟩:=l n u R e σ VW (he.mono VW) i VW VW VW;have:=c.lo;have:=c.hi;obtain⟨F,A,B,d⟩:=o n v R e σ VW (he.mono VW) i VW VW VW;have:=d.lo;have:=d.hi;exact⟨_,A,B_ f h aaA (.cons q1 (.cons w (.cons B .nil))),d.mC.trans (c.mC.trans a.mC),d.pB.trans (c.pB.trans a.pB),VW,VW,by rw[Xi _ _ _ _ _ f h];exact .n3 f h a.nm c.nm d.nm,Nr VW (kL a.le VW) (kL c.le VW) d.le⟩
def Z6{g:List Ty}{t:Tm}{s:Ty}(h:dU g t s):xh g t:=by
 induction h with
 |@var g t i f c=>
  intro n b R e σ hn he j hg l o;obtain⟨n,rfl⟩:∃k,n=k+1:=⟨n-1,by have:=(Tm.mk 1 (i:Int) .z []).eM;omega⟩;obtain⟨a1,a2⟩:=he.2 (e.length-1-i) VW;refine⟨e.getD (e.length-1-i) Tm.z,b,?_,rfl,rfl,KZ _,VW,?_,a2⟩
  ·rw[JX]
   have q:fL .i64 (fL .i64 (eA e) 1) (i:Int)=((e.length-1-i:Nat):Int):=by
    rw[fQ,gi (a:=(e.length:Int)) (b:=1) VW VW,gi VW VW];omega
   rw[dR aar,q,hJ,po VW,dI,x',po VW];rfl
  ·rw[Ko,<-he.1];exact a1
 |@lam g s x t r A ih=>
  intro n b R e σ hn he j hg l o
  have u:(Tm.mk 2 0 s [x]).alZ=1+x.alZ:=by rw[Tm.dM];simp[ee]
  rw[u] at hn hg o|-;obtain⟨n,rfl⟩:∃k,n=k+1:=⟨n-1,VW⟩;have w:KO ((b.next+1)::R) (b.next+1) (e++[.mk 1 (b.next+1) .z []]) (σ.map (Tm.up 0 1)++[kn 0]):=((he.up (v:=b.next+1) VW).mono VW).add (.var .here) (Cg (KZ _));obtain⟨y,d,f,c⟩:=ih n ⟨b.lemmas,b.ei,b.next+1⟩ ((b.next+1)::R) _ _ VW w (by simp[j]) abu (by show 0<=b.next+1;omega) (by show b.next+1+_<=_;omega)
  have B:b.next+1<=d.next:=c.lo
  have C:d.next<=b.next+1+x.alZ:=c.hi
  refine⟨.mk 2 (b.next+1) s [y],d,?_,c.mC,c.pB,VW,VW,?_,lF VW c.le⟩
  ·rw[JX,dK aar,dR aar];unfold eE fc;rw[dQ,P3 l VW,show dX [x] 0=some x from rfl,dI,dI,SZ VW,dI];show dV (eJ n ⟨b.lemmas,b.ei,b.next+1⟩ x (e++[.mk 1 (b.next+1) .z []])) _=_;rw[f,dQ]
  ·rw[Ry];exact .lam c.nm
 |app _ _ i1 i2=>exact .two aar aar i1 i2|zero=>exact .none aar aar|succ _ i1=>exact .one aar aar i1|oN _ _ _ _ i1 i2 i3=>exact .three aar aar i1 i2 i3|nil=>exact .none aar aar|cons _ _ i1 i2=>exact .two aar aar i1 i2|fold _ _ _ _ i1 i2 i3=>exact .three aar aar i1 i2 i3|pair _ _ _ i1 i2=>exact .two aar aar i1 i2|fst _ i1=>exact .one aar aar i1|snd _ i1=>exact .one aar aar i1|unit=>exact .none aar aar
def FP(n:Nat)(k i:Int)(s:Ty)(l:List Tm)(a1:List Int):jz (n+1) (.mk k i s l) a1=if(eo k 1) then(dH (j0 (ρ:=Tm) (λ(v212:Int)=>if(qa v212 0) then(dH (dX a1 v212) λd=>if(eo d i) then(dH (fc (fL .i64 (fL .i64 (eA a1) 1) v212)) λf=>some (.ret f))else(some (.next (fL .i64 v212 1))))else(some (.y7 v212))) FU (fL .i64 (eA a1) 1)) (fO (λ(v212:Int)=>some (.mk k i s l)) (λr=>some r)))
 else ej (λ(h:List Int)=>dH (j0 (ρ:=Tm) (yn λ(a:Int) (b:List Tm)=>if(pg a (eA l)) then(dH (dX l a) λj=>dH (jz n j h) λc=>gG (fN b [c])<|some (.next ((eW .i64 a 1),(fU b [c]))))else(some (.y7 (a,b)))) FU (0,[])) (fO (yn λ(a:Int) (b:List Tm)=>some (Tm.mk k 0 s b)) (λr=>some r))) λj252=>
  if(eo k 2) then(gG (fN [] a1)<|gG (fN (fU [] a1) [i])<|j252 (fU (fU [] a1) [i]))else(j252 a1):=by rw[jz];rfl
def RK{i:Int}{a1:List Int}(hlen:a1.length<=1000000):∀{R:List Int} {j:Nat},Lk R i j->∀(q:List Int) (n:Nat),a1=R.reverse++q->R.length<n->j0 (ρ:=Tm) (λ(v212:Int)=>if(qa v212 0) then(dH (dX a1 v212) λd=>if(eo d i) then(dH (fc (fL .i64 (fL .i64 (eA a1) 1) v212)) λf=>some (.ret f))else(some (.next (fL .i64 v212 1))))else(some (.y7 v212))) n ((R.length:Int)-1)=some (.inr (kn (q.length+j))):=by
 intro R j h
 induction h with
 |@here R i=>
  intro q n c hn;obtain⟨n,rfl⟩:∃k,n=k+1:=⟨n-1,VW⟩
  have el:a1.length=R.length+1+q.length:=by rw[c];simp;omega
  have e:(((i::R).length:Int)-1)=((R.length:Nat):Int):=by rw[mN];omega
  have hg:dX a1 ((R.length:Nat):Int)=some i:=by rw[hJ,c,afv,tM,tQ aaA];simp
  rw[e,hS,dR (by unfold qa;simp),hg,dI,dR (by rw[gh]),fQ,gi (a:=(a1.length:Int)) (b:=1) VW VW,gi VW VW];show some (Sum.inr _)=_;unfold kn;rw[show(a1.length:Int)-1-(R.length:Int)=((q.length+0:Nat):Int) by omega];rfl
 |@next R i v j l _ ih=>
  intro q n c hn;obtain⟨n,rfl⟩:∃k,n=k+1:=⟨n-1,VW⟩
  have el:a1.length=R.length+1+q.length:=by rw[c];simp;omega
  have e:(((v::R).length:Int)-1)=((R.length:Nat):Int):=by rw[mN];omega
  have hg:dX a1 ((R.length:Nat):Int)=some v:=by rw[hJ,c,afv,tM,tQ aaA];simp
  have:=ih (v::q) n (by rw[c];simp) (by simp at hn;omega);rw[e,hS,dR (by unfold qa;simp),hg,dI,dK (by rw[gh];exact l),dI,fk,gi (a:=(R.length:Int)) (b:=1) VW VW,this,mN];rw[show q.length+1+j=q.length+(j+1) by omega]
def zc{n:Nat}{k:Int}{s:Ty}{l m:List Tm}{sc:List Int}(f:k≠1)(j:k≠2)(o:l.length<=3)(h:l.map (λx=>jz n x sc)=m.map some):jz (n+1) (.mk k 0 s l) sc=some (.mk k 0 s m):=by
 rw[FP,dK (by rw[gh];exact f),ef,dK (by rw[gh];exact j)]
 have:=PM (ρ:=Tm) (alY:=l) (E:=λx=>jz n x sc) (F:=yn λ(a:Int) (b:List Tm)=>if(pg a (eA l)) then(dH (dX l a) λd=>dH (jz n d sc) λc=>gG (fN b [c])<|some (.next ((eW .i64 a 1),(fU b [c]))))else(some (.y7 (a,b))))
  (λi out=>rfl) VW l m [] [] FU h rfl aaA (by rw[fI];omega)
 rw[show(([]:List Tm).length:Int)=0 from rfl] at this
 refine(congrArg (dH · _) this).trans ?_
 rw[dI,eC,oa];rfl
def YA{R:List Int}{t d:Tm}(h:Aw R t d):∀n,t.alZ<=n->R.length+t.alZ<=1000000->jz n t R.reverse=some d:=by
 have pos:=λt:Tm=>t.eM
 induction h with
 |@var R i j h=>
  intro n hn o;obtain⟨n,rfl⟩:∃k,n=k+1:=⟨n-1,by have:=pos (.mk 1 i .z []);omega⟩
  have e:fL .i64 (eA R.reverse) 1=(R.length:Int)-1:=by rw[fQ,List.length_reverse,gi VW VW]
  have A:=RK (a1:=R.reverse) abu h [] FU aaA (by rw[fI];omega);rw[<-e] at A;rw[FP,dR aar,A,dI];simp[fO]
 |@lam R v s b d _ ih=>
  intro n hn o
  have r:(Tm.mk 2 v s [b]).alZ=1+b.alZ:=by rw[Tm.dM];simp[ee]
  rw[r] at hn o;obtain⟨n,rfl⟩:∃k,n=k+1:=⟨n-1,VW⟩;have hi:=ih n VW abu;rw[afv] at hi;rw[FP,dK aar,ef,dR aar,fm abu,ed,fm abu,ed,iv,iv,oa]
  have:=PM (ρ:=Tm) (alY:=[b]) (E:=λx=>jz n x (R.reverse++[v])) (F:=yn λ(f:Int) (l:List Tm)=>if(pg f (eA [b])) then(dH (dX [b] f) λy=>dH (jz n y (R.reverse++[v])) λq=>gG (fN l [q])<|some (.next ((eW .i64 f 1),(fU l [q]))))else(some (.y7 (f,l))))
   (λi out=>rfl) aaA [b] [d] [] [] FU (by simp[hi]) rfl aaA (by rw[fI];simp)
  rw[show(([]:List Tm).length:Int)=0 from rfl] at this
  refine(congrArg (dH · _) this).trans ?_
  rw[dI,eC];rfl
 |@n0 R k s u w=>intro n hn o;obtain⟨n,rfl⟩:∃k,n=k+1:=⟨n-1,by have:=pos (.mk k 0 s []);omega⟩;exact zc u w aaA rfl
 |@n1 R k s a B u w _ i1=>
  intro n hn o
  have r:(Tm.mk k 0 s [a]).alZ=1+a.alZ:=by rw[Tm.dM];simp[ee]
  rw[r] at hn o;obtain⟨n,rfl⟩:∃k,n=k+1:=⟨n-1,VW⟩;exact zc u w aaA (by simp[i1 n VW VW])
 |@n2 R k s a B b C u w _ _ i1 i2=>
  intro n hn o
  have r:(Tm.mk k 0 s [a,b]).alZ=1+a.alZ+b.alZ:=by rw[Tm.dM];simp[ee];omega
  rw[r] at hn o;obtain⟨n,rfl⟩:∃k,n=k+1:=⟨n-1,VW⟩;exact zc u w aaA (by simp[i1 n VW VW,i2 n VW VW])
 |@n3 R k s a B b C c D u w _ _ _ i1 i2 i3=>
  intro n hn o
  have r:(Tm.mk k 0 s [a,b,c]).alZ=1+a.alZ+b.alZ+c.alZ:=by rw[Tm.dM];simp[ee];omega
  rw[r] at hn o;obtain⟨n,rfl⟩:∃k,n=k+1:=⟨n-1,VW⟩;exact zc u w aaA (by simp[i1 n VW VW,i2 n VW VW,i3 n VW VW])
def TZ{n:Nat}{alY:List Tm}(j:ee Tm.alZ alY<=1000000000)(h:∀x∈alY,pJ n x=some (x.alZ:Int)):∀(l pre:List Tm) (m:Nat),alY=pre++l->l.length<m->j0 (ρ:=Int) (yn λ(b:Int) (v46:Int)=>if(pg v46 (eA alY)) then(dH (dX alY v46) λc=>dH (pJ n c) λd=>some (.next ((eW .i64 b d),(eW .i64 v46 1))))else(some (.y7 (b,v46)))) m (1+(ee Tm.alZ pre:Nat),(pre.length:Int))=some (.inl (1+(ee Tm.alZ alY:Nat),(alY.length:Int))):=by
 intro l
 induction l with
 |nil=>
  intro pre m a hm;obtain⟨m,rfl⟩:∃k,m=k+1:=⟨m-1,VW⟩
  have e:pre=alY:=by rw[a];simp
  subst e;rw[hS,lS,dK (by rw[jR,fQ];omega),dI,sZ]
 |cons x l ih=>
  intro pre m a hm;obtain⟨m,rfl⟩:∃k,m=k+1:=⟨m-1,VW⟩
  have e:alY.length=pre.length+1+l.length:=by rw[a];simp;omega
  have hg:dX alY (pre.length:Int)=some x:=by rw[hJ,a,tQ (g_ _)];simp
  have f:x∈alY:=by rw[a];simp
  have hs:ee Tm.alZ alY=ee Tm.alZ pre+x.alZ+ee Tm.alZ l:=by rw[a,G_];simp[ee];omega
  have i:=Tm.fX alY;have:=ih (pre++[x]) m (by rw[a];simp) (by simp at hm;omega);rw[G_,nB,Qy] at this;simp only[ee,GL] at this;rw[hS,lS,dR (by rw[jR,fQ];omega),hg,dI,h x f,dI,dI,fk,gd VW VW,P3 VW VW];rw[show(1+((ee Tm.alZ pre:Nat):Int)+(x.alZ:Int))=1+((ee Tm.alZ pre+x.alZ:Nat):Int) by omega,show((pre.length:Int)+1)=((pre.length+1:Nat):Int) by omega,this]
def Uh:∀(n:Nat) (t:Tm),t.alZ<=n->t.alZ<=1000000000->pJ n t=some (t.alZ:Int):=by
 intro n
 induction n with
 |zero=>intro t h;have:=t.eM;omega
 |succ n ih=>
  intro t h a;obtain⟨k,i,s,l⟩:=t;rw[Tm.dM] at h a|-;have:=TZ (n:=n) (alY:=l) VW (λx b=>by have:=eF Tm.alZ b;exact ih x VW VW) l [] FU rfl (by have:=Tm.fX l;rw[fI];omega);rw[show(1+((ee Tm.alZ ([]:List Tm):Nat):Int))=1 from rfl,show(([]:List Tm).length:Int)=0 from rfl] at this;rw[pJ,ef]
  refine(congrArg (dH · _) this).trans ?_
  rw[dI,eC,lS];exact congrArg some VW
def Z3{t:Tm}(h:t.alZ<=1000000000):nt t 0=some (if t.alZ<=4096 then(t,0)else(.mk 0 0 (.mk 0 []) [],4)):=by
 unfold nt;rw[dK nz,Uh FU t (by rw[fI];omega) h,dI]
 by_cases hn:t.alZ<=4096
 ·rw[dK (by unfold pj;simp;omega),dR hn]
 ·rw[dR (by unfold pj;simp;omega),dK hn]
def QQ{t:Tm}{e:Int}(h:e≠0):nt t e=some (.mk 0 0 (.mk 0 []) [],e):=by
 unfold nt;rw[dR (by rw[ez];exact h)]
def De(i:Int):fc i=some (.mk 1 i .z []):=rfl
def GC(k:Int)(l:List Tm):gY k l=some (.mk k 0 .z l):=rfl
def LX(x y:Tm):j5 x y=some (fi x y):=rfl
def AT(s:Ty)(v:Int)(x:Tm):iC s v x=some (.mk 2 v s [x]):=rfl
def qg(b:dT)(a:0<=b.next)(h:b.next<=4000000000000000000):eE b=some (b.next+1,⟨b.lemmas,b.ei,b.next+1⟩):=by grind[eE,P3]
def rO{q:Sq}{vars a:List Tm}(F:Fm)(t:Tm)(c:q.al4.length<=900000000)(b:a.length<=900000000):iu ⟨q,vars,a⟩ F t=some ⟨⟨q.al1,q.al4++[F]⟩,vars,a++[t]⟩:=by
 unfold iu;rw[SZ b,dI,fm abu,ed,fm abu,ed];simp
def A1{g:List Ty}{f:Fm}(h:Hg g f):gz f=some f.has:=oG f (by have:=h.wt;omega) h.err
def GQ{g:List Ty}{f:Fm}(h:Hg g f):jt f=some f.KG:=Le f (by have:=h.wt;omega)
def Cr{g:List Ty}{f:Fm}(h:Hg g f):f.KG.2=0\/f.KG.2=4:=by
 unfold Fm.KG;rw[dK (λx=>x h.err)];have:=(Hk f h.ok).e
 grind
def Mn{s:Ty}(h:s.err=0):mg s=some (IN s):=by
 unfold mg uf;rw[kI (by have:=(Ty.gU h).2;omega),dI,h,dK nz,(FN h).1,dI,dQ]
def DX{L:List Fm}{g:List Ty}{hs:List Fm}{P:Pf}{f:Fm}{m:Nat}(c:Dv L g hs P f m)(a:uc L ⟨g,hs⟩)(hw:P.wt<=1000000000)(he:P.err=0){b:dT}(h:b.lemmas=L)(vars d:List Tm):e8 b ⟨⟨g,hs⟩,vars,d⟩ P=some (f,b):=by
 unfold e8;obtain⟨l,i,_⟩:=Wt a hw he (c.inf a)
 grind[dQ]
structure OfR (b b':dT) (R:List Int) (t:Tm) (e:Int) (r:Option Tm) (k:Nat):Prop where
 mC:b'.lemmas=b.lemmas
 pB:b'.ei=b.ei
 lo:b.next<=b'.next
 hi:b'.next<=b.next+k
 yes:∀d,r=some d->e=0/\Aw R t d/\t.al3 b'.next=true/\d.alZ<=4096
 no:r=none->e=4
structure YO (b b':dT) (R:List Int) (t:Tm) (e:Int) (r:Option Tm) (k:Nat):Prop where
 mC:b'.lemmas=b.lemmas
 pB:b'.ei=b.ei
 lo:b.next<=b'.next
 hi:b'.next<=b.next+k
 yes:∀d,r=some d->e=0/\Aw R t d/\t.al3 b'.next=true/\d.alZ<=1000000
 no:r=none->e=4
def OfR.q{b f:dT}{R:List Int}{t:Tm}{e:Int}{r:Option Tm}{k k':Nat}(h:OfR b f R t e r k)(j:k<=k'):YO b f R t e r k':=
 ⟨h.mC,h.pB,h.lo,by have:=h.hi;omega,λd i=>by obtain⟨a,b,c,d⟩:=h.yes d i;exact⟨a,b,c,VW⟩,h.no⟩
theorem YO.FJ{b c:dT}{R:List Int}{t:Tm}{e:Int}{r:Option Tm}{k:Nat}(h:YO b c R t e r k):∃f i,nt t e=some (f,i)/\OfR b c R f i (FJ r) k:=by
 cases r with
 |none=>
  obtain rfl:=h.no rfl;exact⟨_,4,QQ aar,h.mC,h.pB,h.lo,h.hi,λd a=>(by cases a),λ_=>rfl⟩
 |some d=>
  obtain⟨rfl,j,l,s⟩:=h.yes d rfl;have hn:=j.alZ;rw[Z3 VW]
  by_cases hs:d.alZ<=4096
  ·rw[dR VW,vg hs];exact⟨t,0,rfl,h.mC,h.pB,h.lo,h.hi,λn a=>by obtain rfl:=kX a;exact⟨rfl,j,l,hs⟩,λa=>by cases a⟩
  ·rw[dK VW];refine⟨_,4,rfl,h.mC,h.pB,h.lo,h.hi,λn a=>?_,λ_=>rfl⟩;obtain⟨o,q⟩:=W0 a;obtain rfl:=kX o;exact absurd q hs
def PY(σ:List Tm):Prop:=∀x∈σ,x.alZ<=64
def PY.getD{σ:List Tm}(h:PY σ)(i:Nat):(σ.getD i Tm.z).alZ<=64:=by
 rw[x'];cases a:σ[i]?with
 |none=>rw[Option.getD_none];decide|some x=>exact h x (H9 a)
def PY.up{σ:List Tm}(h:PY σ):PY (mJ σ):=λx a=>by obtain⟨y,b,rfl⟩:=qz.1 a;rw[Tm.nd];exact h y b
def PY.add{σ:List Tm}(h:PY σ){x:Tm}(a:x.alZ<=64):PY (σ++[x]):=λy hy=>by rcases tO.1 hy with hy|hy;exact h y hy;rw[EY.1 hy];exact a
def PY.var{σ:List Tm}(h:PY σ):PY (mJ σ++[kn 0]):=h.up.add aar
def Et(t:Tm):∀{σ:List Tm},PY σ->(t.sb σ).alZ<=64*t.alZ:=by
 induction t using Tm.ind with
 |h k i s l ih=>
  intro σ a;rw[Tm.JJ]
  by_cases b:k=1
  ·rw[dR b];have:=a.getD (σ.length-1-i.toNat);have:=(Tm.mk k i s l).eM;omega
  ·rw[dK b,Tm.dM,Tm.dM,mv]
   have d:PY (if k=2 then σ.map (Tm.up 0 1)++[kn 0] else σ):=by split;exact a.var;exact a
   have:=w7 (c:=64) (f:=λx=>(Tm.sb (if k=2 then σ.map (Tm.up 0 1)++[kn 0] else σ) x).alZ) (g:=Tm.alZ) (l:=l) λx j=>ih x j d;omega
theorem OfR.fin{b f a:dT}{R j:List Int}{t i:Tm}{e:Int}{r:Option Tm}{k K:Nat}(h:OfR f a R t e r k)(l:f.lemmas=b.lemmas)(n:f.ei=b.ei)(lo:b.next<=f.next)(hi:a.next<=b.next+K){G:Tm->Tm}
  (hG:∀d,Aw R t d->t.al3 a.next=true->d.alZ<=4096->Aw j i (G d)/\i.al3 a.next=true/\(G d).alZ<=1000000):YO b a j i e (r.bind λd=>some (G d)) K:=by
 refine⟨h.mC.trans l,h.pB.trans n,Int.le_trans lo h.lo,hi,λd c=>?_,λc=>?_⟩
 ·obtain⟨x,o,c⟩:=O0 c;obtain rfl:=kX c;obtain⟨rfl,q,s,y3⟩:=h.yes x o
  grind
 ·refine h.no ?_;cases r with
  |none=>rfl|some x=>cases c
def YO.bad{b a:dT}{R:List Int}{t:Tm}{K:Nat}(c:a.lemmas=b.lemmas)(f:a.ei=b.ei)(lo:b.next<=a.next)(hi:a.next<=b.next+K):YO b a R t 4 none K:=⟨c,f,lo,hi,λd h=>(by cases h),λ_=>rfl⟩
theorem YO.HU{b a:dT}{R:List Int}{t d:Tm}{K:Nat}(f:a.lemmas=b.lemmas)(h:a.ei=b.ei)(lo:b.next<=a.next)(hi:a.next<=b.next+K)(i:Aw R t d)(j:t.al3 a.next=true)(k:d.alZ<=1000000):YO b a R t 0 (some d) K:=
 ⟨f,h,lo,hi,λl c=>(by obtain rfl:=kX c;exact⟨rfl,i,j,k⟩),λc=>(by cases c)⟩
def ti(L:List Fm)(Ts:List Tm)(g:List Ty)(hs:List Fm)(P:Pf):Prop:=∀(n:Nat) (b:dT) (R:List Int) (e η σ τ:List Tm),3*P.alZ+3<=n->b.lemmas=L->b.ei=Ts->KO R b.next e σ->KO R b.next η τ->PY σ->PY τ->e.length=g.length->η.length=hs.length->0<=b.next->b.next+10000*P.alZ<=4000000000000000000->∃t a c,eg n b ⟨⟨g,hs⟩,e,η⟩ P=some (t,a,c)/\OfR b c R t a (P.ex L Ts g hs σ τ) (10000*P.alZ)
theorem aeq(n:Nat)(b:dT)(x:er)(P:Pf):eg (n+1) b x P=eT (j4 n b x P) λd f d7=>dV (nt d f) λa c=>some (a,c,d7):=by rw[eg]
def ti.of{L:List Fm}{Ts:List Tm}{g:List Ty}{hs:List Fm}{P:Pf}{r:List Tm->List Tm->Option Tm}(v:∀σ τ,P.ex L Ts g hs σ τ=FJ (r σ τ))
  (h:∀(n:Nat) (b:dT) (R:List Int) (e η σ τ:List Tm),3*P.alZ+1<=n->b.lemmas=L->b.ei=Ts->KO R b.next e σ->KO R b.next η τ->PY σ->PY τ->e.length=g.length->η.length=hs.length->0<=b.next->b.next+10000*P.alZ<=4000000000000000000->∃t a c,j4 (n+1) b ⟨⟨g,hs⟩,e,η⟩ P=some (t,a,c)/\YO b c R t a (r σ τ) (10000*P.alZ)):ti L Ts g hs P:=by
 intro n b R e η σ τ hn d f i j s1 s2 l o q s;obtain⟨n,rfl⟩:∃k,n=k+2:=⟨n-2,VW⟩;obtain⟨t,a,c,q1,u⟩:=h n b R e η σ τ VW d f i j s1 s2 l o q s;obtain⟨w,x,y,A⟩:=u.FJ
 grind[aeq,gk,dQ]
def NW(n:Nat)(a0:dT)(a1:er)(k i:Int)(s:Ty)(ts:List Tm)(fs:List Fm)(l:List Pf):j4 (n+1) a0 a1 (.mk k i s ts fs l)=(if(eo k 1) then(
 dH (dX a1.al4 (fL .i64 (fL .i64 (eA a1.al4) 1) i)) λaC=>
 some (aC,0,a0))
 else(if(eo k 2) then(
 dH (dX a0.ei i) λaD=>
 dV (eJ FU a0 aD []) λaE aF=>
 some (aE,0,aF))
 else(if(eo k 3) then(
 dH (dX l 0) λy=>
 dV (e8 a0 a1 y) λaG aH=>
 dH (gz aG) λaI=>
 dH (dX l 1) λt=>
 dV (e8 aH a1 t) λaJ A=>
 dH (gz aJ) λaK=>
 if aI then(
 eT (eg n A a1 y) λB C D=>
 if(fp (eL C 0) true (lV aK)) then(
 some (B,C,D))
 else(eT (eg n D a1 t) λaL aM aN=>
 dH (gY 10 [B,aL]) λaO=>
 some (aO,aM,aN)))
 else(eT (eg n A a1 t) λaP aQ aR=>
 some (aP,aQ,aR)))
 else(if(fp (eo k 4) true (eo k 5)) then(
 dH (dX l 0) λF=>
 dV (e8 a0 a1 F) λG aS=>
 eT (eg n aS a1 F) λb H aT=>
 ej (λ(aU:Int) (aV:Int) (aW:Int) (aX:List Ty) (aY:List Tm)=>
 some ((Tm.mk aU aV (Ty.mk aW aX) aY),H,aT)) λI=>
 ej (λ(aZ:Bool)=>
 if aZ then(
 dH (gY (fp (eo k 5) 12 11) [b]) λd=>
 I d.alX d.al0 d.dN.alX d.dN.alY d.alY)
 else(I b.alX b.al0 b.dN.alX b.dN.alY b.alY)) λu=>
 if(eo H 0) then(
 dH (dX G.alY 0) λa6=>
 dH (gz a6) λa7=>
 if a7 then(
 dH (dX G.alY 1) λa8=>
 dH (gz a8) λa_=>
 u a_)
 else(u false))
 else(u false))
 else(if(eo k 6) then(
 dH (dX fs 0) λo=>
 dH (gz o) λa'=>
 if a' then(
 dV (jt o) λba J=>
 if(eL J 0) then(
 some ((Tm.mk 0 0 (Ty.mk 0 []) []),J,a0))
 else(dV (eE a0) λK bb=>
 dH (fc K) λbc=>
 dH (iu a1 o bc) λbd=>
 dH (dX l 0) λbf=>
 eT (eg n bb bd bf) λbg bh bj=>
 dH (iC ba K bg) λbk=>
 some (bk,bh,bj)))
 else(dH (iu a1 o (Tm.mk 0 0 (Ty.mk 0 []) [])) λbl=>
 dH (dX l 0) λbm=>
 eT (eg n a0 bl bm) λbn bo bp=>
 some (bn,bo,bp)))
 else(if(eo k 7) then(
 dH (dX l 0) λL=>
 eT (eg n a0 a1 L) λM N O=>
 ej (λ(bq:Bool) (P:dT)=>
 if bq then(
 some (M,N,P))
 else(dH (dX l 1) λbr=>
 eT (eg n P a1 br) λbs bt bu=>
 dH (j5 M bs) λbw=>
 some (bw,bt,bu))) λQ=>
 if(eL N 0) then(
 Q true O)
 else(dV (e8 O a1 L) λbz bA=>
 dH (dX bz.alY 0) λbB=>
 dH (gz bB) λbC=>
 Q (lV bC) bA))
 else(if(eo k 8) then(
 dV (eE a0) λR bD=>
 dH (fc R) λbE=>
 dH (h8 a1 s bE) λbF=>
 dH (dX l 0) λbG=>
 eT (eg n bD bF bG) λbH bI bJ=>
 dH (iC s R bH) λbK=>
 some (bK,bI,bJ))
 else(if(eo k 9) then(
 dH (dX l 0) λbL=>
 eT (eg n a0 a1 bL) λbM bN bO=>
 dH (dX ts 0) λbP=>
 dV (eJ FU bO bP a1.vars) λbQ bR=>
 dH (j5 bM bQ) λbS=>
 some (bS,bN,bR))
 else(if(eo k 10) then(
 dH (dX ts 0) λbT=>
 dV (eJ FU a0 bT a1.vars) λS T=>
 dH (dX fs 0) λbU=>
 dH (dX bU.alY 0) λbV=>
 dH (gz bV) λbW=>
 if bW then(
 dH (dX l 0) λbX=>
 eT (eg n T a1 bX) λbY bZ b0=>
 dH (gY 10 [S,bY]) λb1=>
 some (b1,bZ,b0))
 else(some (S,0,T)))
 else(if(eo k 11) then(
 dH (dX l 0) λU=>
 dV (e8 a0 a1 U) λc b2=>
 eT (eg n b2 a1 U) λb3 V W=>
 if(eL V 0) then(
 some ((Tm.mk 0 0 (Ty.mk 0 []) []),V,W))
 else(dV (eE W) λq X=>
 dH (fc q) λf=>
 ej (λ(b4:Int) (b5:List Ty) (b6:Int) (b7:Int) (b8:Int) (b9:List Ty) (b_:List Tm) (b':Int) (ca:Int) (cb:Int) (cc:List Ty) (cd:List Tm)=>
 dH (h8 a1 c.dN (Tm.mk b6 b7 (Ty.mk b8 b9) b_)) λcf=>
 dH (dX c.alY 0) λcg=>
 dH (iu cf cg (Tm.mk b' ca (Ty.mk cb cc) cd)) λch=>
 dH (dX l 1) λcj=>
 eT (eg n X ch cj) λck cm cn=>
 dH (iC (Ty.mk b4 b5) q ck) λcp=>
 dH (j5 cp b3) λcq=>
 some (cq,cm,cn)) λY=>
 dH (dX c.alY 0) λcr=>
 dH (gz cr) λcu=>
 if cu then(
 dV (jt c) λZ ad=>
 if(eL ad 0) then(
 some ((Tm.mk 0 0 (Ty.mk 0 []) []),ad,X))
 else(dH (fc q) λcw=>
 dH (gY 11 [cw]) λh=>
 dH (fc q) λcx=>
 dH (gY 12 [cx]) λj=>
 Y Z.alX Z.alY h.alX h.al0 h.dN.alX h.dN.alY h.alY j.alX j.al0 j.dN.alX j.dN.alY j.alY))
 else(Y c.dN.alX c.dN.alY f.alX f.al0 f.dN.alX f.dN.alY f.alY 0 0 0 [] [])))
 else(if(eo k 12) then(
 dH (mg s) λcy=>
 dV (eJ FU a0 cy []) λcz cA=>
 dH (h8 a1 s cz) λcB=>
 dH (dX l 0) λcD=>
 eT (eg n cA cB cD) λcE cF cG=>
 some (cE,cF,cG))
 else(if(eo k 15) then(
 dH (dX l 0) λae=>
 dV (e8 a0 a1 ae) λa cH=>
 dH (mg a.dN) λcI=>
 dV (eJ FU cH cI []) λaf ah=>
 dH (gz a) λcJ=>
 if cJ then(
 eT (eg n ah a1 ae) λcK ai v=>
 if(eL ai 0) then(
 some ((Tm.mk 0 0 (Ty.mk 0 []) []),ai,v))
 else(dV (jt a) λcL ak=>
 if(eL ak 0) then(
 some ((Tm.mk 0 0 (Ty.mk 0 []) []),ak,v))
 else(dV (eE v) λan cM=>
 dH (h8 a1 a.dN af) λcN=>
 dH (dX a.alY 0) λcO=>
 dH (fc an) λcP=>
 dH (iu cN cO cP) λcQ=>
 dH (dX l 1) λcR=>
 eT (eg n cM cQ cR) λcS cT cU=>
 dH (iC cL an cS) λcV=>
 dH (j5 cV cK) λcW=>
 some (cW,cT,cU))))
 else(dH (h8 a1 a.dN af) λcX=>
 dH (dX a.alY 0) λcY=>
 dH (iu cX cY (Tm.mk 0 0 (Ty.mk 0 []) [])) λcZ=>
 dH (dX l 1) λc0=>
 eT (eg n ah cZ c0) λc1 c2 c4=>
 some (c1,c2,c4)))
 else(if(fp (eo k 16) true (eo k 17)) then(
 Pe (kb n a0 a1 (.mk k i s ts fs l)) λc6 c7 c8 ao aq=>
 if(eL ao 0) then(
 some ((Tm.mk 0 0 (Ty.mk 0 []) []),ao,aq))
 else(dH (dX ts 0) λc9=>
 dV (eJ FU aq c9 a1.vars) λc_ c'=>
 dH (tK (.mk k i s ts fs l) c6 c7 c8 c_) λda=>
 some (da,0,c')))
 else(if(eo k 19) then(
 dH (dX l 1) λdb=>
 eT (eg n a0 a1 db) λdc dd de=>
 some (dc,dd,de))
 else(if(eo k 20) then(
 dH (dX l 0) λar=>
 eT (eg n a0 a1 ar) λaw ax df=>
 dV (e8 df a1 ar) λr w=>
 ej (λ(dg:Bool)=>
 if dg then(
 some (aw,ax,w))
 else(dV (jt r) λdh ay=>
 if(eL ay 0) then(
 some ((Tm.mk 0 0 (Ty.mk 0 []) []),ay,w))
 else(dV (eE w) λx di=>
 dV (eE di) λaz dj=>
 dV (eE dj) λaA dk=>
 dH (fc x) λdm=>
 dH (fc az) λdn=>
 dH (j5 dm dn) λdp=>
 dH (gY 11 [dp]) λdq=>
 dH (iC r.dN az dq) λdr=>
 dH (fc x) λds=>
 dH (fc aA) λdt=>
 dH (j5 ds dt) λdu=>
 dH (gY 12 [du]) λdv=>
 dH (iC r.dN aA dv) λdw=>
 dH (gY 10 [dr,dw]) λdx=>
 dH (iC dh x dx) λdy=>
 dH (j5 dy aw) λdz=>
 some (dz,0,dk)))) λaB=>
 if(eL ax 0) then(
 aB true)
 else(dH (dX r.alY 0) λdA=>
 dH (dX dA.alY 0) λdB=>
 dH (gz dB) λdC=>
 aB (lV dC)))
 else(dH (dX l 0) λdD=>
 eT (eg n a0 a1 dD) λdE dF dG=>
 some (dE,dF,dG))))))))))))))))):=by rw[j4];rfl
def TI(n:Nat)(a0:dT)(a1:er)(k i:Int)(s:Ty)(ts:List Tm)(fs:List Fm)(l:List Pf):kb (n+1) a0 a1 (.mk k i s ts fs l)=(dH (dX fs 0) λI=>
 dV (jt I) λG H=>
 if(eL H 0) then(
 some ((Ty.mk 0 []),(Tm.mk 0 0 (Ty.mk 0 []) []),(Tm.mk 0 0 (Ty.mk 0 []) []),H,a0))
 else(dH (dX l 0) λy=>
 eT (eg n a0 a1 y) λA d d33=>
 if(eL d 0) then(
 some ((Ty.mk 0 []),(Tm.mk 0 0 (Ty.mk 0 []) []),(Tm.mk 0 0 (Ty.mk 0 []) []),d,d33))
 else(dV (eE d33) λf d45=>
 dV (eE d45) λh d48=>
 dV (eE d48) λj d51=>
 dH (fc j) λB=>
 dH (pw a1 (.mk k i s ts fs l) [f,h] B) λC=>
 dH (dX l 1) λD=>
 eT (eg n d51 C D) λF o d91=>
 if(eL o 0) then(
 some ((Ty.mk 0 []),(Tm.mk 0 0 (Ty.mk 0 []) []),(Tm.mk 0 0 (Ty.mk 0 []) []),o,d91))
 else(dH (iC G j F) λb=>
 ej (λ(q:Int) (v109:Int) (r:Int) (t:List Ty) (u:List Tm)=>
 dH (oS) λv=>
 dH (iC v f (Tm.mk q v109 (Ty.mk r t) u)) λw=>
 some (G,A,w,0,d91)) λc=>
 if(eo k 17) then(
 dH (pN) λx=>
 dH (iC x h b) λa=>
 c a.alX a.al0 a.dN.alX a.dN.alY a.alY)
 else(c b.alX b.al0 b.dN.alX b.dN.alY b.alY))))):=by rw[kb];rfl
end Go.fF
set_option maxRecDepth 20000
namespace Go.fF
open Go
theorem G2{k i:Int}{s:Ty}{ts:List Tm}{fs:List Fm}{l:List Pf}(h:(Pf.mk k i s ts fs l).err=0){p:Pf}(a:p∈l):p.err=0:=by
 obtain⟨b,c,d⟩:=gU h;obtain⟨_,_,wp⟩:=Pf.Ws.parts (⟨b,c⟩:(Pf.mk k i s ts fs l).Ws);obtain⟨f,j⟩:=wp p a
 grind[Pf.dM,eF,Pf.err]
def sN{k i:Int}{s:Ty}{ts:List Tm}{fs:List Fm}{a:Pf}(hw:(Pf.mk k i s ts fs [a]).wt<=1000000000)(he:(Pf.mk k i s ts fs [a]).err=0):a.wt<=1000000000/\a.err=0/\(Pf.mk k i s ts fs [a]).alZ=1+ee Tm.alZ ts+ee Fm.alZ fs+a.alZ:=by grind[Pf.iG,ee,G2,Pf.dM]
def vm{k i:Int}{s:Ty}{ts:List Tm}{fs:List Fm}{a b:Pf}(hw:(Pf.mk k i s ts fs [a,b]).wt<=1000000000)(he:(Pf.mk k i s ts fs [a,b]).err=0):a.wt<=1000000000/\a.err=0/\b.wt<=1000000000/\b.err=0/\(Pf.mk k i s ts fs [a,b]).alZ=1+ee Tm.alZ ts+ee Fm.alZ fs+(a.alZ+b.alZ):=by grind[Pf.iG,ee,G2,Pf.dM]
def ti.pass{L:List Fm}{Ts:List Tm}{g:List Ty}{hs:List Fm}{P a:Pf}(k:ti L Ts g hs a)(hn:a.alZ+1<=P.alZ)(l:∀σ τ,P.ex L Ts g hs σ τ=FJ (a.ex L Ts g hs σ τ))
  (h:∀n b x,j4 (n+1) b x P=eT (eg n b x a) λx y d=>some (x,y,d)):ti L Ts g hs P:=by
 refine ti.of (r:=λσ τ=>a.ex L Ts g hs σ τ) l ?_;intro n b R e η σ τ o c f s t u v i j w B;obtain⟨t1,C,D,q1,A⟩:=k n b R e η σ τ VW c f s t u v i j w VW;rw[h,q1];exact⟨_,_,_,rfl,A.q VW⟩
def F1{f:Fm}{k:Ty->Option Tm}(h:f.KG.2=0):KH f k=k f.KG.1:=dR h
def Ci{f:Fm}{k:Ty->Option Tm}(h:f.KG.2≠0):KH f k=none:=dK h
def aj1(x:Bool):fp (eL 4 0) true x=true:=rfl
def ajJ(x:Bool):fp (eL 0 0) true x=x:=rfl
def Qp(k:Int)(s:Ty)(a:Tm):(Tm.mk k 0 s [a]).alZ=1+a.alZ:=by grind[Tm.dM,ee]
def nd2(k:Int)(s:Ty)(a b:Tm):(Tm.mk k 0 s [a,b]).alZ=1+a.alZ+b.alZ:=by grind[Tm.dM,ee]
def nd3(k:Int)(s:Ty)(a b c:Tm):(Tm.mk k 0 s [a,b,c]).alZ=1+a.alZ+b.alZ+c.alZ:=by grind[Tm.dM,ee]
def ndA(x y:Tm):(fi x y).alZ=1+x.alZ+y.alZ:=nd2 _ _ _ _
theorem KO.new{R:List Int}{c v:Int}{e σ:List Tm}(h:KO R c e σ)(a:c<v):KO (v::R) v (e++[.mk 1 v .z []]) (mJ σ++[kn 0]):=((h.up a).mono VW).add (.var .here) (Cg (KZ _))
def Mq{g:List Ty}{t:Tm}{s:Ty}(d:dU g t s)(hg:g.length<=16)(hn:t.alZ<=4096){b:dT}{R:List Int}{e σ:List Tm}(he:KO R b.next e σ)(f:e.length=g.length)(h:0<=b.next)(i:b.next+t.alZ<=4000000000000000000):∃a c,eJ FU b t e=some (a,c)/\NmR b c R a (t.sb σ) t.alZ:=Z6 d FU b R e σ (by rw[fI];omega) he f VW h i
section
variable{L:List Fm} {Ts:List Tm} {g:List Ty} {hs:List Fm}
def idE:Nat->List Tm
 |0=>[]|n+1=>mJ (idE n)++[kn 0]
theorem Ep:∀n,(idE n).length=n
 |0=>rfl|n+1=>by rw[idE,nB,Nc,Ep n];rfl
def S9:∀(n i:Nat),i<n->(idE n).getD (n-1-i) Tm.z=kn i
 |0,_,h=>by omega|n+1,0,_=>by grind[idE,Gl,Nc,Ep]|n+1,i+1,h=>by
  rw[idE,show n+1-1-(i+1)=n-1-i by omega,ML _ _ _ _ (by rw[Nc,Ep];omega)];unfold mJ;rw[getD_map _ _ _ Tm.z _ (by rw[Ep];omega),S9 n i VW,V0,dR VW];rfl
def ads{g:List Ty}{t:Tm}{s:Ty}(h:dU g t s):t.sb (idE g.length)=t:=by
 induction h with
 |@var g t i a c=>rw[Ko,Ep,S9 _ _ a];rfl|@lam g s b t he _ ih=>
  rw[Ry];rw[nB,Qy] at ih;have:(idE g.length).map (Tm.up 0 1)++[kn 0]=idE (g.length+1):=rfl;rw[this,ih]
 |app _ _ i1 i2=>rw[H6 _ _ _ _ aar aar,i1,i2]|zero=>grind[Qu]|succ _ i1=>rw[Kw _ _ _ aar aar,i1]|oN he _ _ _ i1 i2 i3=>rw[Xi _ _ _ _ _ aar aar,i1,i2,i3]|nil=>rw[Qu _ _ aar aar]|cons _ _ i1 i2=>rw[H6 _ _ _ _ aar aar,i1,i2]|fold he _ _ _ i1 i2 i3=>rw[Xi _ _ _ _ _ aar aar,i1,i2,i3]|pair he _ _ i1 i2=>rw[H6 _ _ _ _ aar aar,i1,i2]|fst _ i1=>rw[Kw _ _ _ aar aar,i1]|snd _ i1=>rw[Kw _ _ _ aar aar,i1]|unit=>rw[Qu _ _ aar aar]
def af8{i:Int}(l:0<=i)(o:i<(hs.length:Int))(q:hs.length<=16):ti L Ts g hs (.mk 1 i .z [] [] []):=by
 refine ti.of (r:=λσ τ=>some (τ.getD (τ.length-1-i.toNat) Tm.z)) (λσ τ=>rfl) ?_;intro n b R e η σ τ hn c d s a t f h j k u;obtain⟨a1,a2⟩:=a.2 (η.length-1-i.toNat) VW;have a3:=f.getD (η.length-1-i.toNat);refine⟨η.getD (η.length-1-i.toNat) Tm.z,0,b,?_,?_⟩
 ·have v:fL .i64 (fL .i64 (eA η) 1) i=((η.length-1-i.toNat:Nat):Int):=by
   grind[fQ,gi]
  rw[NW,dR aar]
  grind[dH,dX,fL,eA,hJ,dI]
 ·rw[<-a.1]
  grind[YO.HU,Tm.z]
def ad0{i:Int}{s:Ty}(w:0<=i)(x:i.toNat<Ts.length)(j:dU [] (Ts.getD i.toNat Tm.z) s)(c:(Ts.getD i.toNat Tm.z).alZ<=4096):ti L Ts g hs (.mk 2 i .z [] [] []):=by
 refine ti.of (r:=λσ τ=>some (Ts.getD i.toNat Tm.z)) (λσ τ=>rfl) ?_;intro n k R e η σ τ hn l d y A B C o q f D;have t:=(Pf.mk 2 i .z [] [] []).eM;obtain⟨u,v,q1,a⟩:=Mq j aaA c (R:=R) (b:=k) .nil rfl f VW;have h:(Ts.getD i.toNat Tm.z).sb []=Ts.getD i.toNat Tm.z:=ads j;rw[h] at a;have:=a.lo;have:=a.hi
 have hg:dX Ts i=some (Ts.getD i.toNat Tm.z):=by grind[hJ]
 refine⟨u,0,v,?_,.HU a.mC a.pB VW VW a.nm a.le VW⟩;rw[NW,dK aar,dR aar,d,hg,dI,q1,dQ]
def ach{a b:Pf}{x y:Fm}{m n:Nat}(w:Dv L g hs a x m)(A:Dv L g hs b y n)(s:uc L ⟨g,hs⟩)(hw:(Pf.mk 3 0 .z [] [] [a,b]).wt<=1000000000)(he:(Pf.mk 3 0 .z [] [] [a,b]).err=0)(Z:(x.has||y.has)=true)
  (i1:x.has=true->ti L Ts g hs a) (i2:y.has=true->ti L Ts g hs b):ti L Ts g hs (.mk 3 0 .z [] [] [a,b]):=by
 obtain⟨O,P,Q,S,I⟩:=vm hw he;simp only[ee] at I;refine ti.of (r:=λσ τ=>if x.has then(a.ex L Ts g hs σ τ).bind λu=>if y.has then(b.ex L Ts g hs σ τ).bind λv=>some (.mk 10 0 .z [u,v])else some u else b.ex L Ts g hs σ τ) (λσ τ=>by rw[ab6,w.inf s,A.inf s,sy,sy]) ?_;intro n J R e η σ τ hn f h B C D F i j k T;rw[I] at hn T|-;have f1:=DX w s O P f e η;have f2:=DX A s Q S f e η;rw[NW,dK aar,dK aar,dR aar,show dX [a,b] 0=some a from rfl,dI,f1,dQ,A1 w.hg,dI,show dX [a,b] 1=some b from rfl,dI,f2,dQ,A1 A.hg,dI]
 by_cases l:x.has=true
 ·rw[dR l];simp only[dR l];obtain⟨t1,e1,U,q1,c⟩:=i1 l n J R e η σ τ VW f h B C D F i j k VW;rw[q1,gk];have l1:=c.lo;have l2:=c.hi;cases K:a.ex L Ts g hs σ τ with
  |none=>
   obtain rfl:=c.no K;rw[aj1,dR rfl];exact⟨_,_,_,rfl,.bad c.mC c.pB VW VW⟩
  |some d1=>
   obtain⟨rfl,M,N,y3⟩:=c.yes d1 K;rw[ajJ,ye]
   by_cases t:y.has=true
   ·rw[t,dK aar,dR rfl];obtain⟨t2,V,W,G,o⟩:=i2 t n U R e η σ τ VW (c.mC.trans f) (c.pB.trans h) (B.mono VW) (C.mono VW) D F i j VW VW;have l3:=o.lo;have l4:=o.hi;rw[G,gk,GC,dI];exact⟨_,_,_,rfl,o.fin c.mC c.pB VW VW λd X z2 z3=>⟨.n2 aar aar M X,rb VW (kL N VW) z2,by rw[nd2];omega⟩⟩
   ·have H:y.has=false:=by cases Y:y.has<;>simp_all
    rw[H,dR aar,dK aar];exact⟨_,_,_,rfl,.HU c.mC c.pB VW VW M N VW⟩
 ·rw[dK l];simp only[dK l]
  have t:y.has=true:=by cases Y:x.has<;>simp_all
  obtain⟨t2,V,W,G,o⟩:=i2 t n J R e η σ τ VW f h B C D F i j k VW;rw[G,gk];exact⟨_,_,_,rfl,o.q VW⟩
def aae{F:Fm}{a:Pf}(C:uc L ⟨g,hs⟩)(hF:Hg g F)(hw:(Pf.mk 6 0 .z [] [F] [a]).wt<=1000000000)(he:(Pf.mk 6 0 .z [] [F] [a]).err=0)(i1:ti L Ts g (hs++[F]) a):ti L Ts g hs (.mk 6 0 .z [] [F] [a]):=by
 obtain⟨I,J,t⟩:=sN hw he;simp only[ee] at t;have D:hs.length<=16:=C.nh;refine ti.of (r:=λσ τ=>if F.has then KH F λu=>(a.ex L Ts g (hs++[F]) (mJ σ) (mJ τ++[kn 0])).bind λx=>some (.mk 2 0 u [x])else a.ex L Ts g (hs++[F]) σ (τ++[Tm.z])) (λσ τ=>rfl) ?_;intro n c R e η σ τ hn h i v w y A j k f G;rw[t] at hn G|-;rw[NW,dK aar,dK aar,dK aar,dK aar,dR aar,show dX [F] 0=some F from rfl,dI,A1 hF,dI]
 by_cases o:F.has=true
 ·rw[dR o,GQ hF,dQ];simp only[dR o];rcases Cr hF with hc|hc
  ·rw[hc,dK nz,qg c f VW,dQ,De,dI,rO F _ (by show hs.length<=_;omega) VW,dI,show dX [a] 0=some a from rfl,dI,F1 hc];obtain⟨t1,B,s,q1,l⟩:=i1 n ⟨c.lemmas,c.ei,c.next+1⟩ ((c.next+1)::R) e (η++[.mk 1 (c.next+1) .z []]) (mJ σ) (mJ τ++[kn 0]) VW h i ((v.up VW).mono (by show _<=c.next+1;omega)) (w.new VW) y.up A.var j (by simp[k]) (by show 0<=c.next+1;omega) (by show c.next+1+_<=_;omega)
   have K:c.next+1<=s.next:=l.lo
   have M:s.next<=c.next+1+_:=l.hi
   rw[q1,gk,AT,dI];exact⟨_,_,_,rfl,l.fin (b:=c) rfl rfl (by show c.next<=c.next+1;omega) VW λd H z2 z3=>⟨.lam H,lF VW z2,by rw[Qp];omega⟩⟩
  ·rw[hc,dR aar,Ci (by rw[hc];decide)];exact⟨_,_,_,rfl,.bad rfl rfl VW VW⟩
 ·rw[dK o,rO F _ (by show hs.length<=_;omega) VW,dI,show dX [a] 0=some a from rfl,dI];simp only[dK o];obtain⟨t1,B,s,q1,l⟩:=i1 n c R e (η++[Tm.z]) σ (τ++[Tm.z]) VW h i v (w.add .zero (Ij f)) y (A.add aar) j (by simp[k]) f VW;refine⟨t1,B,s,?_,l.q VW⟩;rw[show(Tm.mk 0 0 (Ty.mk 0 []) [])=Tm.z from rfl];show eT (eg n c ⟨⟨g,hs++[F]⟩,e,η++[Tm.z]⟩ a) _=_;rw[q1,gk]
def V3{k q:Int}(j:k=4/\q=11\/k=5/\q=12){a:Pf}{x y:Fm}{m:Nat}(l:Dv L g hs a (.mk 2 .z [] [x,y]) m)(J:Hg g x)(K:Hg g y)(o:uc L ⟨g,hs⟩)(hw:(Pf.mk k 0 .z [] [] [a]).wt<=1000000000)(he:(Pf.mk k 0 .z [] [] [a]).err=0)(i1:ti L Ts g hs a):ti L Ts g hs (.mk k 0 .z [] [] [a]):=by
 obtain⟨M,N,F⟩:=sN hw he;simp only[ee] at F
 refine ti.of (r:=λσ τ=>(a.ex L Ts g hs σ τ).bind λu=>some (if x.has=true/\y.has then .mk q 0 .z [u] else u)) (λσ τ=>by
  rcases j with⟨rfl,rfl⟩|⟨rfl,rfl⟩
  ·rw[abq,l.inf o,sy];rfl
  ·rw[aa3,l.inf o,sy];rfl) ?_
 intro n O R e η σ τ hn i s P Q S T t v w U;rw[F] at hn U|-;have f1:=DX l o M N i e η;obtain⟨t1,V,G,q1,b⟩:=i1 n O R e η σ τ VW i s P Q S T t v w VW;have W:=b.lo;have X:=b.hi
 have A:fp (eo k 4) true (eo k 5)=true:=by rcases j with⟨rfl,_⟩|⟨rfl,_⟩<;>decide
 have B:fp (eo k 5) (12:Int) 11=q:=by rcases j with⟨rfl,rfl⟩|⟨rfl,rfl⟩<;>decide
 have H:q≠1/\q≠2:=VW
 have f:¬eo k 1=true/\¬eo k 2=true/\¬eo k 3=true:=by rcases j with⟨rfl,_⟩|⟨rfl,_⟩<;>decide
 rw[NW,dK f.1,dK f.2.1,dK f.2.2,dR A,show dX [a] 0=some a from rfl,dI,f1,dQ,q1,gk,B];simp only[ef,show(Fm.mk 2 .z [] [x,y]).alY=[x,y] from rfl,show dX [x,y] 0=some x from rfl,show dX [x,y] 1=some y from rfl,dI,A1 J,A1 K,GC];cases I:a.ex L Ts g hs σ τ with
 |none=>
  obtain rfl:=b.no I;rw[dK aar,dK aar];exact⟨_,_,_,rfl,.bad b.mC b.pB VW VW⟩
 |some d1=>
  obtain⟨rfl,C,D,y3⟩:=b.yes d1 I;rw[dR aar,ye]
  by_cases c:x.has=true
  ·rw[dR c]
   by_cases d:y.has=true
   ·rw[dR d,dR ⟨c,d⟩];exact⟨_,_,_,rfl,.HU b.mC b.pB VW VW (.n1 H.1 H.2 C) (B6 VW D) (by rw[Qp];omega)⟩
   ·rw[dK d,dK (λh=>d h.2)];refine⟨t1,0,G,?_,.HU b.mC b.pB VW VW C D VW⟩;rw[Ty.gM,Tm.gM]
  ·rw[dK c,dK aar,dK (λh=>c h.1)];refine⟨t1,0,G,?_,.HU b.mC b.pB VW VW C D VW⟩;rw[Ty.gM,Tm.gM]
def abU{a b:Pf}{x y:Fm}{m:Nat}(s:Dv L g hs a (.mk 3 .z [] [x,y]) m)(I:Hg g x)(t:uc L ⟨g,hs⟩)(hw:(Pf.mk 7 0 .z [] [] [a,b]).wt<=1000000000)(he:(Pf.mk 7 0 .z [] [] [a,b]).err=0)
  (i1:ti L Ts g hs a) (i2:x.has=true->ti L Ts g hs b):ti L Ts g hs (.mk 7 0 .z [] [] [a,b]):=by
 obtain⟨J,K,S,T,w⟩:=vm hw he;simp only[ee] at w;refine ti.of (r:=λσ τ=>(a.ex L Ts g hs σ τ).bind λu=>if x.has then(b.ex L Ts g hs σ τ).bind λv=>some (fi u v)else some u) (λσ τ=>by rw[aaq,s.inf t,sy];rfl) ?_;intro n M R e η σ τ hn h i A B C D j k l N;rw[w] at hn N|-;obtain⟨t1,U,O,q1,c⟩:=i1 n M R e η σ τ VW h i A B C D j k l VW;have V:=c.lo;have W:=c.hi;have f1:=DX s t J K (c.mC.trans h) e η;rw[NW,dK aar,dK aar,dK aar,dK aar,dK aar,dR aar,show dX [a,b] 0=some a from rfl,dI,q1,gk];simp only[ef,f1,dQ,show(Fm.mk 3 .z [] [x,y]).alY=[x,y] from rfl,show dX [x,y] 0=some x from rfl,dI,A1 I,show dX [a,b] 1=some b from rfl];cases F:a.ex L Ts g hs σ τ with
 |none=>
  obtain rfl:=c.no F;rw[dR aar,dR trivial];exact⟨_,_,_,rfl,.bad c.mC c.pB VW VW⟩
 |some d1=>
  obtain⟨rfl,G,H,y3⟩:=c.yes d1 F;rw[dK nz,ye]
  by_cases f:x.has=true
  ·rw[dR f,dK (by rw[f];decide)];obtain⟨t2,X,Y,P,o⟩:=i2 f n O R e η σ τ VW (c.mC.trans h) (c.pB.trans i) (A.mono VW) (B.mono VW) C D j k VW VW;have Z:=o.lo;have l4:=o.hi;rw[P,gk,LX,dI];exact⟨_,_,_,rfl,o.fin c.mC c.pB VW VW λd Q z2 z3=>⟨.n2 aar aar G Q,rb VW (kL H VW) z2,by rw[ndA];omega⟩⟩
  ·have q:x.has=false:=by cases hh:x.has<;>simp_all
   rw[dK f,q,dR aar];exact⟨_,_,_,rfl,.HU c.mC c.pB VW VW G H VW⟩
def abe{s:Ty}{a:Pf}(o:uc L ⟨g,hs⟩)(hw:(Pf.mk 8 0 s [] [] [a]).wt<=1000000000)(he:(Pf.mk 8 0 s [] [] [a]).err=0)(i1:ti L Ts (g++[s]) (hs.map (Fm.up 0 1)) a):ti L Ts g hs (.mk 8 0 s [] [] [a]):=by
 obtain⟨C,D,q⟩:=sN hw he;simp only[ee] at q;have hg:=uR o;refine ti.of (r:=λσ τ=>(a.ex L Ts (g++[s]) (hs.map (Fm.up 0 1)) (mJ σ++[kn 0]) (mJ τ)).bind λx=>some (.mk 2 0 s [x])) (λσ τ=>rfl) ?_;intro n c R e η σ τ hn f h u v w y i j k A;rw[q] at hn A|-;rw[NW,dK aar,dK aar,dK aar,dK aar,dK aar,dK aar,dR aar,qg c k VW,dQ,De,dI,uT o s _ e η VW,dI,show dX [a] 0=some a from rfl,dI];obtain⟨t1,F,t,q1,l⟩:=i1 n ⟨c.lemmas,c.ei,c.next+1⟩ ((c.next+1)::R) (e++[.mk 1 (c.next+1) .z []]) η (mJ σ++[kn 0]) (mJ τ) VW f h (u.new VW) ((v.up VW).mono (by show _<=c.next+1;omega)) w.var y.up (by simp[i]) (by simp[j]) (by show 0<=c.next+1;omega) (by show c.next+1+_<=_;omega)
 have G:c.next+1<=t.next:=l.lo
 have H:t.next<=c.next+1+_:=l.hi
 rw[q1,gk,AT,dI];exact⟨_,_,_,rfl,l.fin (b:=c) rfl rfl (by show c.next<=c.next+1;omega) VW λd B z2 z3=>⟨.lam B,lF VW z2,by rw[Qp];omega⟩⟩
def Qi{s:Ty}(d:s.err=0)(b:dT)(R:List Int)(h:0<=b.next)(i:b.next+64<=4000000000000000000):∃a c,eJ FU b (IN s) []=some (a,c)/\NmR b c R a (IN s) 64:=by
 obtain⟨_,f,j⟩:=FN d;obtain⟨a,c,q,r⟩:=Mq (f []) aaA VW (R:=R) (b:=b) .nil rfl h VW;have e:(IN s).sb []=IN s:=ads (f []);rw[e] at r;exact⟨a,c,q,r.mC,r.pB,r.lo,by have:=r.hi;omega,r.nm,r.le⟩
def YP{s:Ty}{a:Pf}(b:s.err=0)(k:uc L ⟨g,hs⟩)(hw:(Pf.mk 12 0 s [] [] [a]).wt<=1000000000)(he:(Pf.mk 12 0 s [] [] [a]).err=0)(i1:ti L Ts (g++[s]) (hs.map (Fm.up 0 1)) a):ti L Ts g hs (.mk 12 0 s [] [] [a]):=by
 obtain⟨B,C,l⟩:=sN hw he;simp only[ee] at l;have hg:=uR k;refine ti.of (r:=λσ τ=>a.ex L Ts (g++[s]) (hs.map (Fm.up 0 1)) (σ++[IN s]) τ) (λσ τ=>rfl) ?_;intro n o R e η σ τ hn d f t u v w h i j x;rw[l] at hn x|-;obtain⟨y,A,q,r⟩:=Qi b o R j VW;have D:=r.lo;have F:=r.hi;rw[NW,dK aar,dK aar,dK aar,dK aar,dK aar,dK aar,dK aar,dK aar,dK aar,dK aar,dR aar,Mn b,dI,q,dQ,uT k s _ e η VW,dI,show dX [a] 0=some a from rfl,dI];obtain⟨t1,G,H,q1,c⟩:=i1 n A R (e++[y]) η (σ++[IN s]) τ VW (r.mC.trans d) (r.pB.trans f) ((t.mono VW).add r.nm r.le) (u.mono VW) (v.add (FN b).2.2) w (by simp[h]) (by simp[i]) VW VW;have I:=c.lo;have J:=c.hi;rw[q1,gk];have:=c.q (k':=10000*a.alZ) (g_ _);exact⟨_,_,_,rfl,c.mC.trans r.mC,c.pB.trans r.pB,VW,VW,this.yes,this.no⟩
def aeP{t:Tm}{s:Ty}{a:Pf}(A:dU g t s)(i:t.alZ<=4096)(B:uc L ⟨g,hs⟩)(hw:(Pf.mk 9 0 .z [t] [] [a]).wt<=1000000000)(he:(Pf.mk 9 0 .z [t] [] [a]).err=0)(i1:ti L Ts g hs a):ti L Ts g hs (.mk 9 0 .z [t] [] [a]):=by
 obtain⟨O,P,q⟩:=sN hw he;simp only[ee] at q;have hg:=uR B;refine ti.of (r:=λσ τ=>(a.ex L Ts g hs σ τ).bind λx=>some (fi x (t.sb σ))) (λσ τ=>rfl) ?_;intro n v R e η σ τ hn j k w C y D h l o F;rw[q] at hn F|-;obtain⟨t1,Q,G,q1,b⟩:=i1 n v R e η σ τ VW j k w C y D h l o VW;have S:=b.lo;have T:=b.hi;obtain⟨u,U,H,c⟩:=Mq A hg i (w.mono (by omega:v.next<=G.next)) h VW VW;have V:=c.lo;have W:=c.hi;have I:=Et t y;rw[NW,dK aar,dK aar,dK aar,dK aar,dK aar,dK aar,dK aar,dR aar,show dX [a] 0=some a from rfl,dI,q1,gk,show dX [t] 0=some t from rfl,dI,H,dQ,LX,dI];refine⟨_,_,_,rfl,c.mC.trans b.mC,c.pB.trans b.pB,VW,VW,λd f=>?_,λf=>?_⟩
 ·obtain⟨x,J,f⟩:=O0 f;obtain rfl:=kX f;obtain⟨rfl,K,M,y3⟩:=b.yes x J;exact⟨rfl,.n2 aar aar K c.nm,rb VW (kL M VW) c.le,by rw[ndA];omega⟩
 ·refine b.no ?_;cases N:a.ex L Ts g hs σ τ with
  |none=>rfl|some x=>rw[N] at f;cases f
def abk{t:Tm}{s:Ty}{x:Fm}{a:Pf}(w:dU g t s)(h:t.alZ<=4096)(A:Hg (g++[s]) x)(B:uc L ⟨g,hs⟩)(hw:(Pf.mk 10 0 .z [t] [.mk 5 s [] [x]] [a]).wt<=1000000000)(he:(Pf.mk 10 0 .z [t] [.mk 5 s [] [x]] [a]).err=0)(i1:x.has=true->ti L Ts g hs a):ti L Ts g hs (.mk 10 0 .z [t] [.mk 5 s [] [x]] [a]):=by
 obtain⟨M,N,o⟩:=sN hw he;simp only[ee] at o;have hg:=uR B;refine ti.of (r:=λσ τ=>if x.has then(a.ex L Ts g hs σ τ).bind λy=>some (.mk 10 0 .z [t.sb σ,y])else some (t.sb σ)) (λσ τ=>rfl) ?_;intro n O R e η σ τ hn i j q C v D f k F G;rw[o] at hn G|-;obtain⟨u,H,I,b⟩:=Mq w hg h q f VW VW;have P:=b.lo;have Q:=b.hi;have J:=Et t v;rw[NW,dK aar,dK aar,dK aar,dK aar,dK aar,dK aar,dK aar,dK aar,dR aar,show dX [t] 0=some t from rfl,dI,I,dQ,show dX [Fm.mk 5 s [] [x]] 0=some (.mk 5 s [] [x])from rfl,dI,show dX (Fm.mk 5 s [] [x]).alY 0=some x from rfl,dI,A1 A,dI]
 by_cases c:x.has=true
 ·rw[dR c,show dX [a] 0=some a from rfl,dI];simp only[dR c];obtain⟨t1,S,T,q1,l⟩:=i1 c n H R e η σ τ VW (b.mC.trans i) (b.pB.trans j) (q.mono VW) (C.mono VW) v D f k VW VW;have U:=l.lo;have V:=l.hi;rw[q1,gk,GC,dI];exact⟨_,_,_,rfl,l.fin b.mC b.pB VW VW λd K z2 z3=>⟨.n2 aar aar b.nm K,rb VW (kL b.le VW) z2,by rw[nd2];omega⟩⟩
 ·rw[dK c];simp only[dK c];exact⟨_,_,_,rfl,.HU b.mC b.pB VW VW b.nm b.le VW⟩
def YT{s:Ty}{a b:Pf}{x:Fm}{m:Nat}(G:Dv L g hs a (.mk 5 s [] [x]) m)(hx:Hg (g++[s]) x)(B:uc L ⟨g,hs⟩)(hw:(Pf.mk 11 0 .z [] [] [a,b]).wt<=1000000000)(he:(Pf.mk 11 0 .z [] [] [a,b]).err=0)
  (i1:ti L Ts g hs a) (i2:ti L Ts (g++[s]) (hs.map (Fm.up 0 1)++[x]) b):ti L Ts g hs (.mk 11 0 .z [] [] [a,b]):=by
 obtain⟨wa,ea,wb,eb,T⟩:=vm hw he;simp only[ee] at T;have hg:=uR B;have ad:hs.length<=16:=B.nh
 refine ti.of (r:=λσ τ=>(a.ex L Ts g hs σ τ).bind λu=>
  if x.has then KH (.mk 5 s [] [x]) λw=>(b.ex L Ts (g++[s]) (hs.map (Fm.up 0 1)++[x]) (mJ σ++[.mk 11 0 .z [kn 0]]) (mJ τ++[.mk 12 0 .z [kn 0]])).bind λy=>some (fi (.mk 2 0 w [y]) u)
  else(b.ex L Ts (g++[s]) (hs.map (Fm.up 0 1)++[x]) (mJ σ++[kn 0]) (mJ τ++[Tm.z])).bind λy=>some (fi (.mk 2 0 s [y]) u)) (λσ τ=>by rw[EO,G.inf B,sy];rfl) ?_
 intro n o R e η σ τ hn q C U V W X D F I hb;rw[T] at hn hb|-;have f1:=DX G B wa ea q e η;obtain⟨t1,e1,c,q1,f⟩:=i1 n o R e η σ τ VW q C U V W X D F I VW;have Y:=f.lo;have l2:=f.hi;rw[NW,dK aar,dK aar,dK aar,dK aar,dK aar,dK aar,dK aar,dK aar,dK aar,dR aar,show dX [a,b] 0=some a from rfl,dI,f1,dQ,q1,gk];cases Z:a.ex L Ts g hs σ τ with
 |none=>
  obtain rfl:=f.no Z;rw[dR aar];exact⟨_,_,_,rfl,.bad f.mC f.pB VW VW⟩
 |some d1=>
  obtain⟨rfl,y1,y2,y3⟩:=f.yes d1 Z;have k:=λv:Tm=>uT B s v e η VW
  have h:=λ(J K M N:Tm) (O:Aw ((c.next+1)::R) J M) (P:Aw ((c.next+1)::R) K N) (k1:J.al3 (c.next+1)=true) (k2:K.al3 (c.next+1)=true) (m1:M.alZ<=64) (m2:N.alZ<=64)=>
   i2 n ⟨c.lemmas,c.ei,c.next+1⟩ ((c.next+1)::R) (e++[J]) (η++[K]) (mJ σ++[M]) (mJ τ++[N]) VW (f.mC.trans q) (f.pB.trans C)
    ((((U.mono Y).up (v:=c.next+1) VW).mono (by show _<=c.next+1;omega)).add O k1) ((((V.mono Y).up (v:=c.next+1) VW).mono (by show _<=c.next+1;omega)).add P k2) (W.up.add m1) (X.up.add m2) (by simp[D]) (by simp[F]) (by show 0<=c.next+1;omega) (by show c.next+1+_<=_;omega)
  rw[dK nz,qg c VW VW,dQ,De,dI,ye,ef,show dX (Fm.mk 5 s [] [x]).alY 0=some x from rfl,dI,A1 hx,dI];have i:Aw ((c.next+1)::R) (.mk 1 (c.next+1) .z []) (kn 0):=.var .here;have t:(Tm.mk 1 (c.next+1) .z []).al3 (c.next+1)=true:=Cg (KZ _)
  by_cases j:x.has=true
  ·rw[dR j,dR j,GQ G.hg,dQ];rcases Cr G.hg with hc|hc
   ·rw[hc,dK nz,F1 hc,dI,GC,dI,dI,GC,dI];obtain⟨t2,H,l,Q,A⟩:=h (.mk 11 0 .z [.mk 1 (c.next+1) .z []]) (.mk 12 0 .z [.mk 1 (c.next+1) .z []]) (.mk 11 0 .z [kn 0]) (.mk 12 0 .z [kn 0]) (.n1 aar aar i) (.n1 aar aar i) (B6 VW t) (B6 VW t) aar aar
    have l3:c.next+1<=l.next:=A.lo
    have l4:l.next<=c.next+1+_:=A.hi
    refine⟨fi (.mk 2 (c.next+1) (Fm.mk 5 s [] [x]).KG.1 [t2]) t1,H,l,?_,A.fin (b:=o) f.mC f.pB (by show o.next<=c.next+1;omega) VW λd S z2 z3=>⟨.n2 aar aar (.lam S) y1,rb VW (lF VW z2) (kL y2 VW),by rw[ndA,Qp];omega⟩⟩;show dH (h8 ⟨⟨g,hs⟩,e,η⟩ s (.mk 11 0 .z [.mk 1 (c.next+1) .z []])) _=_;rw[k,dI,dI,rO x _ abu VW,dI,show dX [a,b] 1=some b from rfl,dI];show eT (eg n ⟨c.lemmas,c.ei,c.next+1⟩ ⟨⟨g++[s],hs.map (Fm.up 0 1)++[x]⟩,e++[.mk 11 0 .z [.mk 1 (c.next+1) .z []]],η++[.mk 12 0 .z [.mk 1 (c.next+1) .z []]]⟩ b) _=_;rw[Q,gk,AT,dI,LX,dI,Ty.gM]
   ·rw[hc,dR aar,Ci (by rw[hc];decide)];exact⟨_,_,_,rfl,.bad (b:=o) f.mC f.pB (by show o.next<=c.next+1;omega) (by show c.next+1<=_;omega)⟩
  ·rw[dK j,dK j];obtain⟨t2,H,l,Q,A⟩:=h (.mk 1 (c.next+1) .z []) Tm.z (kn 0) Tm.z i .zero t (Ij VW) aar aar
   have l3:c.next+1<=l.next:=A.lo
   have l4:l.next<=c.next+1+_:=A.hi
   refine⟨fi (.mk 2 (c.next+1) s [t2]) t1,H,l,?_,A.fin (b:=o) f.mC f.pB (by show o.next<=c.next+1;omega) VW λd S z2 z3=>⟨.n2 aar aar (.lam S) y1,rb VW (lF VW z2) (kL y2 VW),by rw[ndA,Qp];omega⟩⟩;show dH (h8 ⟨⟨g,hs⟩,e,η⟩ s (.mk 1 (c.next+1) .z [])) _=_;rw[k,dI,dI,rO x _ abu VW,dI,show dX [a,b] 1=some b from rfl,dI];show eT (eg n ⟨c.lemmas,c.ei,c.next+1⟩ ⟨⟨g++[s],hs.map (Fm.up 0 1)++[x]⟩,e++[.mk 1 (c.next+1) .z []],η++[Tm.z]⟩ b) _=_;rw[Q,gk,AT,dI,LX,dI];exact congrArg (λz=>some (fi (Tm.mk 2 (c.next+1) z [t2]) t1,H,l)) (Ty.gM s)
def Yw{s:Ty}{a b:Pf}{x:Fm}{m:Nat}(h:s.err=0)(B:Dv L g hs a (.mk 7 s [] [x]) m)(hx:Hg (g++[s]) x)(A:uc L ⟨g,hs⟩)(hw:(Pf.mk 15 0 .z [] [] [a,b]).wt<=1000000000)(he:(Pf.mk 15 0 .z [] [] [a,b]).err=0)
  (i1:x.has=true->ti L Ts g hs a) (i2:ti L Ts (g++[s]) (hs.map (Fm.up 0 1)++[x]) b):ti L Ts g hs (.mk 15 0 .z [] [] [a,b]):=by
 obtain⟨T,U,wb,eb,N⟩:=vm hw he;simp only[ee] at N;have hg:=uR A;have V:hs.length<=16:=A.nh;have O:(Fm.mk 7 s [] [x]).has=x.has:=At (.inr (.inr rfl)) _ _ _
 refine ti.of (r:=λσ τ=>if x.has then(a.ex L Ts g hs σ τ).bind λu=>KH (.mk 7 s [] [x]) λw=>(b.ex L Ts (g++[s]) (hs.map (Fm.up 0 1)++[x]) (mJ σ++[IN s]) (mJ τ++[kn 0])).bind λy=>some (fi (.mk 2 0 w [y]) u)
  else b.ex L Ts (g++[s]) (hs.map (Fm.up 0 1)++[x]) (σ++[IN s]) (τ++[Tm.z])) (λσ τ=>by rw[X_,B.inf A,sy,O];rfl) ?_
 intro n C R e η σ τ hn j l F G H I o t J W;rw[N] at hn W|-;have f1:=DX B A T U j e η;obtain⟨P,Q,q,r⟩:=Qi h C R J VW;have l1:=r.lo;have l2:=r.hi
 rw[NW,dK aar,dK aar,dK aar,dK aar,dK aar,dK aar,dK aar,dK aar,dK aar,dK aar,dK aar,dR aar,show dX [a,b] 0=some a from rfl,dI,f1,dQ,show(Fm.mk 7 s [] [x]).dN=s from rfl,Mn h,dI,q,dQ,A1 B.hg,dI,O]
 by_cases i:x.has=true
 ·rw[dR i];simp only[dR i];obtain⟨t1,e1,c,q1,f⟩:=i1 i n Q R e η σ τ VW (r.mC.trans j) (r.pB.trans l) (F.mono VW) (G.mono VW) H I o t VW VW;have X:=f.lo;have Y:=f.hi;rw[q1,gk];cases S:a.ex L Ts g hs σ τ with
  |none=>
   obtain rfl:=f.no S;rw[dR aar];exact⟨_,_,_,rfl,.bad (f.mC.trans r.mC) (f.pB.trans r.pB) VW VW⟩
  |some d1=>
   obtain⟨rfl,Z,y2,y3⟩:=f.yes d1 S;rw[dK nz,GQ B.hg,dQ,ye];rcases Cr B.hg with hc|hc
   ·rw[hc,dK nz,F1 hc,qg c VW VW,dQ,uT A s _ e η VW,dI,show dX (Fm.mk 7 s [] [x]).alY 0=some x from rfl,dI,De,dI,rO x _ abu VW,dI,show dX [a,b] 1=some b from rfl,dI]
    obtain⟨t2,K,D,M,k⟩:=i2 n ⟨c.lemmas,c.ei,c.next+1⟩ ((c.next+1)::R) (e++[P]) (η++[.mk 1 (c.next+1) .z []]) (mJ σ++[IN s]) (mJ τ++[kn 0]) VW (f.mC.trans (r.mC.trans j)) (f.pB.trans (r.pB.trans l))
     ((((F.mono (by omega:C.next<=c.next)).up (v:=c.next+1) VW).mono (by show _<=c.next+1;omega)).add (by have:=r.nm.up (v:=c.next+1) VW r.le;rwa [agl h (KZ 0)] at this) (kL r.le (by show _<=c.next+1;omega)))
     ((G.mono (by omega:C.next<=c.next)).new VW) (H.up.add (FN h).2.2) I.var (by simp[o]) (by simp[t]) (by show 0<=c.next+1;omega) (by show c.next+1+_<=_;omega)
    have l5:c.next+1<=D.next:=k.lo
    have l6:D.next<=c.next+1+_:=k.hi
    refine⟨fi (.mk 2 (c.next+1) (Fm.mk 7 s [] [x]).KG.1 [t2]) t1,K,D,?_,k.fin (b:=C) (f.mC.trans r.mC) (f.pB.trans r.pB) (by show C.next<=c.next+1;omega) VW λd z1 z2 z3=>⟨.n2 aar aar (.lam z1) Z,rb VW (lF VW z2) (kL y2 VW),by rw[ndA,Qp];omega⟩⟩
    refine(congrArg (eT · _) M).trans ?_
    rw[gk,AT,dI,LX,dI]
   ·rw[hc,dR aar,Ci (by rw[hc];decide)];exact⟨_,_,_,rfl,.bad (f.mC.trans r.mC) (f.pB.trans r.pB) VW VW⟩
 ·rw[dK i,uT A s _ e η VW,dI,show dX (Fm.mk 7 s [] [x]).alY 0=some x from rfl,dI,rO x _ abu VW,dI,show dX [a,b] 1=some b from rfl,dI];simp only[dK i];obtain⟨t2,K,D,M,k⟩:=i2 n Q R (e++[P]) (η++[Tm.z]) (σ++[IN s]) (τ++[Tm.z]) VW (r.mC.trans j) (r.pB.trans l) ((F.mono VW).add r.nm r.le) ((G.mono VW).add .zero (Ij VW)) (H.add (FN h).2.2) (I.add aar) (by simp[o]) (by simp[t]) VW VW;have X:=k.lo;have Y:=k.hi;have:=k.q (k':=10000*b.alZ) (g_ _);refine⟨t2,K,D,?_,k.mC.trans r.mC,k.pB.trans r.pB,VW,VW,this.yes,this.no⟩
  refine(congrArg (eT · _) M).trans ?_
  rw[gk]
def TQ{s u:Ty}{a:Pf}{y:Fm}{m:Nat}(j:Dv L g hs a (.mk 4 s [] [.mk 5 u [] [y]]) m)(J:Hg (g++[s]++[u]) y)(C:uc L ⟨g,hs⟩)(hw:(Pf.mk 20 0 .z [] [] [a]).wt<=1000000000)(he:(Pf.mk 20 0 .z [] [] [a]).err=0)(i1:ti L Ts g hs a):ti L Ts g hs (.mk 20 0 .z [] [] [a]):=by
 obtain⟨K,M,D⟩:=sN hw he;simp only[ee] at D;refine ti.of (r:=λσ τ=>(a.ex L Ts g hs σ τ).bind λx=>if y.has then KH (.mk 4 s [] [.mk 5 u [] [y]]) λw=>some (fi (.mk 2 0 w [.mk 10 0 .z [.mk 2 0 s [.mk 11 0 .z [fi (kn 1) (kn 0)]],.mk 2 0 s [.mk 12 0 .z [fi (kn 1) (kn 0)]]]]) x)else some x) (λσ τ=>by rw[TY,j.inf C,sy];rfl) ?_;intro n l R e η σ τ hn i o N O P Q q t A S;rw[D] at hn S|-;obtain⟨t1,V,c,q1,d⟩:=i1 n l R e η σ τ VW i o N O P Q q t A VW;have W:=d.lo;have X:=d.hi;have f1:=DX j C K M (d.mC.trans i) e η;rw[NW,dK aar,dK aar,dK aar,dK aar,dK aar,dK aar,dK aar,dK aar,dK aar,dK aar,dK aar,dK aar,dK aar,dK aar,dR aar,show dX [a] 0=some a from rfl,dI,q1,gk,f1,dQ];simp only[ef];cases F:a.ex L Ts g hs σ τ with
 |none=>
  obtain rfl:=d.no F;rw[dR aar,dR trivial];exact⟨_,_,_,rfl,.bad d.mC d.pB VW VW⟩
 |some d1=>
  obtain⟨rfl,G,H,y3⟩:=d.yes d1 F;rw[dK nz,ye,show dX (Fm.mk 4 s [] [.mk 5 u [] [y]]).alY 0=some (.mk 5 u [] [y])from rfl,dI,show dX (Fm.mk 5 u [] [y]).alY 0=some y from rfl,dI,A1 J,dI]
  by_cases f:y.has=true
  ·rw[dR f,show lV y.has=false by rw[f];rfl,dK aar,GQ j.hg,dQ];rcases Cr j.hg with hc|hc
   ·rw[hc,dK nz,F1 hc,qg c VW VW,dQ,qg _ (by show 0<=c.next+1;omega) (by show c.next+1<=_;omega),dQ,qg _ (by show 0<=c.next+1+1;omega) (by show c.next+1+1<=_;omega),dQ];simp only[De,LX,GC,AT,dI];have T:Aw ((c.next+1)::R) (.mk 1 (c.next+1) .z []) (kn 0):=.var .here
    have I:∀v:Int,c.next+1<v->Aw (v::(c.next+1)::R) (fi (.mk 1 (c.next+1) .z []) (.mk 1 v .z [])) (fi (kn 1) (kn 0)):=λv U=>.n2 aar aar (.var (.next VW .here)) (.var .here)
    refine⟨_,_,_,rfl,YO.HU (b:=l) d.mC d.pB (by show l.next<=c.next+1+1+1;omega) (by show c.next+1+1+1<=_;omega)
     (.n2 aar aar (.lam (.n2 aar aar (.lam (.n1 aar aar (I _ VW))) (.lam (.n1 aar aar (I _ VW))))) G) ?_ ?_⟩
    ·have k:∀v:Int,v<=c.next+1+1+1->(Tm.mk 1 v .z []).al3 (c.next+1+1+1)=true:=λv h=>Cg h
     refine rb (by show 0<=c.next+1+1+1;omega) (lF (by show c.next+1<=c.next+1+1+1;omega) (rb (by show 0<=c.next+1+1+1;omega) ?_ ?_)) (kL H (by show _<=c.next+1+1+1;omega))
     ·exact lF (by show c.next+1+1<=c.next+1+1+1;omega) (B6 (by show 0<=c.next+1+1+1;omega) (rb (by show 0<=c.next+1+1+1;omega) (k _ VW) (k _ VW)))
     ·exact lF (by show c.next+1+1+1<=c.next+1+1+1;omega) (B6 (by show 0<=c.next+1+1+1;omega) (rb (by show 0<=c.next+1+1+1;omega) (k _ VW) (k _ VW)))
    ·rw[ndA,Qp,nd2,Qp,Qp,Qp,Qp,ndA];have:(kn 1).alZ=1:=rfl;have:(kn 0).alZ=1:=rfl;omega
   ·rw[hc,dR aar,Ci (by rw[hc];decide)];exact⟨_,_,_,rfl,.bad d.mC d.pB VW VW⟩
  ·have B:y.has=false:=by cases T:y.has<;>simp_all
   rw[dK f,show lV y.has=true by rw[B];rfl,dR rfl];exact⟨_,_,_,rfl,.HU d.mC d.pB VW VW G H VW⟩
def aeW(i:Int)(s:Ty)(ts:List Tm)(fs:List Fm)(l:List Pf)(u:Ty)(x y z:Tm):tK (.mk 16 i s ts fs l) u x y z=some (.mk 6 0 u [x,y,z]):=rfl
def af5(i:Int)(s:Ty)(ts:List Tm)(fs:List Fm)(l:List Pf)(u:Ty)(x y z:Tm):tK (.mk 17 i s ts fs l) u x y z=some (.mk 9 0 u [x,y,z]):=rfl
def Wu{t:Tm}{F:Fm}{a b:Pf}(O:dU g t .nat)(q:t.alZ<=4096)(hF:Hg (g++[.nat]) F)(s:uc L ⟨g,hs⟩)(Y:g.length+1<=16)(hw:(Pf.mk 16 0 .z [t] [F] [a,b]).wt<=1000000000)(he:(Pf.mk 16 0 .z [t] [F] [a,b]).err=0)
  (i1:ti L Ts g hs a) (i2:ti L Ts (g++[.nat]) (hs.map (Fm.up 0 1)++[F]) b):ti L Ts g hs (.mk 16 0 .z [t] [F] [a,b]):=by
 obtain⟨Z,ea,wb,eb,G⟩:=vm hw he;simp only[ee] at G;have hg:=uR s;have P:hs.length<=16:=s.nh;refine ti.of (r:=λσ τ=>KH F λu=>(a.ex L Ts g hs σ τ).bind λx=>(b.ex L Ts (g++[.nat]) (hs.map (Fm.up 0 1)++[F]) (mJ (mJ σ++[kn 0])) (mJ (mJ τ)++[kn 0])).bind λy=>some (.mk 6 0 u [x,.mk 2 0 .nat [.mk 2 0 u [y]],t.sb σ])) (λσ τ=>rfl) ?_;intro n H R e η σ τ hn j l w I A J h o B Q;rw[G] at hn Q|-;obtain⟨n,rfl⟩:∃k,n=k+1:=⟨n-1,VW⟩;have S:=Et t A;rw[NW,dK aar,dK aar,dK aar,dK aar,dK aar,dK aar,dK aar,dK aar,dK aar,dK aar,dK aar,dK aar,dR aar,TI,show dX [F] 0=some F from rfl,dI,GQ hF,dQ];rcases Cr hF with hc|hc
 ·rw[hc,dK nz,show dX [a,b] 0=some a from rfl,dI,F1 hc];obtain⟨t1,e1,c,q1,d⟩:=i1 n H R e η σ τ VW j l w I A J h o B VW;have K:=d.lo;have l2:=d.hi;rw[q1,gk];cases M:a.ex L Ts g hs σ τ with
  |none=>
   obtain rfl:=d.no M;rw[dR aar,uX,dR aar];exact⟨_,_,_,rfl,.bad d.mC d.pB VW VW⟩
  |some d1=>
   obtain⟨rfl,T,U,y3⟩:=d.yes d1 M
   have C:pw ⟨⟨g,hs⟩,e,η⟩ (.mk 16 0 .z [t] [F] [a,b]) [c.next+1,c.next+1+1] (.mk 1 (c.next+1+1+1) .z [])=some ⟨⟨g++[.nat],hs.map (Fm.up 0 1)++[F]⟩,e++[.mk 1 (c.next+1) .z []],η++[.mk 1 (c.next+1+1+1) .z []]⟩:=by
    unfold pw;rw[show(Pf.mk 16 0 .z [t] [F] [a,b]).alX=16 from rfl,dR aar];show dH (some Ty.nat) _=_;rw[dI,show dX [c.next+1,c.next+1+1] 0=some (c.next+1)from rfl,dI,De,dI,uT s .nat _ e η VW,dI];show dH (some F) _=_;rw[dI,rO F _ abu VW,dI]
   rw[dK nz,qg c VW VW,dQ,qg _ (by show 0<=c.next+1;omega) (by show c.next+1<=_;omega),dQ,qg _ (by show 0<=c.next+1+1;omega) (by show c.next+1+1<=_;omega),dQ,De,dI,ye]
   obtain⟨t2,e2,D,V,f⟩:=i2 n ⟨c.lemmas,c.ei,c.next+1+1+1⟩ ((c.next+1+1+1)::(c.next+1)::R) (e++[.mk 1 (c.next+1) .z []]) (η++[.mk 1 (c.next+1+1+1) .z []]) (mJ (mJ σ++[kn 0])) (mJ (mJ τ)++[kn 0]) VW (d.mC.trans j) (d.pB.trans l)
    ((((w.mono K).new (v:=c.next+1) VW).up (v:=c.next+1+1+1) VW).mono (by show _<=c.next+1+1+1;omega)) (((I.mono K).up (v:=c.next+1) VW).new VW) A.var.up J.up.var (by simp[h]) (by simp[o]) (by show 0<=c.next+1+1+1;omega) (by show c.next+1+1+1+_<=_;omega)
   have l3:c.next+1+1+1<=D.next:=f.lo
   have l4:D.next<=c.next+1+1+1+_:=f.hi
   rw[C,dI,show dX [a,b] 1=some b from rfl,dI,V,gk];cases N:b.ex L Ts (g++[.nat]) (hs.map (Fm.up 0 1)++[F]) (mJ (mJ σ++[kn 0])) (mJ (mJ τ)++[kn 0])with
   |none=>
    obtain rfl:=f.no N;rw[dR aar,uX,dR aar];exact⟨_,_,_,rfl,.bad (f.mC.trans d.mC) (f.pB.trans d.pB) VW VW⟩
   |some d2=>
    obtain⟨rfl,W,z2,z3⟩:=f.yes d2 N;obtain⟨u,b3,X,i⟩:=Mq O hg q (w.mono (by omega:H.next<=D.next)) h VW VW;have l5:=i.lo;have l6:=i.hi;rw[dK nz,AT,dI,ef,dK aar];simp only[Tm.eK,Tm.iI,Tm.fM,Tm.eG,Ty.gM];rw[show oS=some Ty.nat from rfl,dI,AT,dI,uX,dK nz,show dX [t] 0=some t from rfl,dI,X,dQ,aeW,dI];refine⟨_,_,_,rfl,.HU (i.mC.trans (f.mC.trans d.mC)) (i.pB.trans (f.pB.trans d.pB)) VW VW (.n3 aar aar T (.lam (.lam W)) i.nm) (Nr VW (kL U VW) (lF VW (lF VW (kL z2 VW))) i.le) (by rw[nd3,Qp,Qp];omega)⟩
 ·rw[hc,dR aar,uX,dR aar,Ci (by rw[hc];decide)];exact⟨_,_,_,rfl,.bad rfl rfl VW VW⟩
def XG{t:Tm}{F:Fm}{a b:Pf}(S:dU g t .lD)(s:t.alZ<=4096)(hF:Hg (g++[.lD]) F)(q:uc L ⟨g,hs⟩)(hl:g.length+2<=16)(hw:(Pf.mk 17 0 .z [t] [F] [a,b]).wt<=1000000000)(he:(Pf.mk 17 0 .z [t] [F] [a,b]).err=0)
  (i1:ti L Ts g hs a) (i2:ti L Ts (g++[.nat]++[.lD]) (hs.map (Fm.up 0 2)++[F.up 1 1]) b):ti L Ts g hs (.mk 17 0 .z [t] [F] [a,b]):=by
 obtain⟨wa,ea,wb,eb,J⟩:=vm hw he;simp only[ee] at J;have hg:=uR q;have T:hs.length<=16:=q.nh;refine ti.of (r:=λσ τ=>KH F λu=>(a.ex L Ts g hs σ τ).bind λx=>(b.ex L Ts (g++[.nat]++[.lD]) (hs.map (Fm.up 0 2)++[F.up 1 1]) (mJ (mJ (mJ σ++[kn 0])++[kn 0])) (mJ (mJ (mJ τ))++[kn 0])).bind λy=>some (.mk 9 0 u [x,.mk 2 0 .nat [.mk 2 0 .lD [.mk 2 0 u [y]]],t.sb σ])) (λσ τ=>rfl) ?_;intro n K R e η σ τ hn j l w M A N h o B U;rw[J] at hn U|-;obtain⟨n,rfl⟩:∃k,n=k+1:=⟨n-1,VW⟩;have V:=Et t A;rw[NW,dK aar,dK aar,dK aar,dK aar,dK aar,dK aar,dK aar,dK aar,dK aar,dK aar,dK aar,dK aar,dR aar,TI,show dX [F] 0=some F from rfl,dI,GQ hF,dQ];rcases Cr hF with hc|hc
 ·rw[hc,dK nz,show dX [a,b] 0=some a from rfl,dI,F1 hc];obtain⟨t1,e1,c,q1,d⟩:=i1 n K R e η σ τ VW j l w M A N h o B VW;have O:=d.lo;have l2:=d.hi;rw[q1,gk];cases P:a.ex L Ts g hs σ τ with
  |none=>
   obtain rfl:=d.no P;rw[dR aar,uX,dR aar];exact⟨_,_,_,rfl,.bad d.mC d.pB VW VW⟩
  |some d1=>
   obtain⟨rfl,W,X,y3⟩:=d.yes d1 P
   have C:oL F 1 1=some (F.up 1 1,0):=by
    have:=hF.alZ;exact Db (by have:=hF.wt;omega) hF.err VW VW VW VW (hF.ty.al3 _ abu)
   have D:(hs.map (Fm.up 0 1)).map (Fm.up 0 1)=hs.map (Fm.up 0 2):=by
    rw[Bq];exact tN λx _=>Fm.adQ x VW
   have G:=q.nZ Ty.fW VW
   have H:pw ⟨⟨g,hs⟩,e,η⟩ (.mk 17 0 .z [t] [F] [a,b]) [c.next+1,c.next+1+1] (.mk 1 (c.next+1+1+1) .z [])=some ⟨⟨g++[.nat]++[.lD],hs.map (Fm.up 0 2)++[F.up 1 1]⟩,e++[.mk 1 (c.next+1) .z []]++[.mk 1 (c.next+1+1) .z []],η++[.mk 1 (c.next+1+1+1) .z []]⟩:=by
    unfold pw;rw[show(Pf.mk 17 0 .z [t] [F] [a,b]).alX=17 from rfl,dK aar];show dH (some F) _=_
    rw[dI,C,dQ,show oS=some Ty.nat from rfl,dI,show dX [c.next+1,c.next+1+1] 0=some (c.next+1)from rfl,dI,De,dI,uT q .nat _ e η VW,dI,show pN=some Ty.lD from rfl,dI,show dX [c.next+1,c.next+1+1] 1=some (c.next+1+1)from rfl,dI,De,dI,uT G .lD _ _ η abu,dI,rO (F.up 1 1) _ abu VW,dI,D]
   rw[dK nz,qg c VW VW,dQ,qg _ (by show 0<=c.next+1;omega) (by show c.next+1<=_;omega),dQ,qg _ (by show 0<=c.next+1+1;omega) (by show c.next+1+1<=_;omega),dQ,De,dI,ye]
   obtain⟨t2,e2,I,Y,f⟩:=i2 n ⟨c.lemmas,c.ei,c.next+1+1+1⟩ ((c.next+1+1+1)::(c.next+1+1)::(c.next+1)::R) (e++[.mk 1 (c.next+1) .z []]++[.mk 1 (c.next+1+1) .z []]) (η++[.mk 1 (c.next+1+1+1) .z []]) (mJ (mJ (mJ σ++[kn 0])++[kn 0])) (mJ (mJ (mJ τ))++[kn 0]) VW (d.mC.trans j) (d.pB.trans l)
    (((((w.mono O).new (v:=c.next+1) VW).new (v:=c.next+1+1) VW).up (v:=c.next+1+1+1) VW).mono (by show _<=c.next+1+1+1;omega)) ((((M.mono O).up (v:=c.next+1) VW).up (v:=c.next+1+1) VW).new VW) A.var.var.up N.up.up.var (by simp[h]) (by simp[o]) (by show 0<=c.next+1+1+1;omega) (by show c.next+1+1+1+_<=_;omega)
   have l3:c.next+1+1+1<=I.next:=f.lo
   have l4:I.next<=c.next+1+1+1+_:=f.hi
   rw[H,dI,show dX [a,b] 1=some b from rfl,dI,Y,gk];cases Q:b.ex L Ts (g++[.nat]++[.lD]) (hs.map (Fm.up 0 2)++[F.up 1 1]) (mJ (mJ (mJ σ++[kn 0])++[kn 0])) (mJ (mJ (mJ τ))++[kn 0])with
   |none=>
    obtain rfl:=f.no Q;rw[dR aar,uX,dR aar];exact⟨_,_,_,rfl,.bad (f.mC.trans d.mC) (f.pB.trans d.pB) VW VW⟩
   |some d2=>
    obtain⟨rfl,Z,z2,z3⟩:=f.yes d2 Q;obtain⟨u,b3,q3,i⟩:=Mq S hg s (w.mono (by omega:K.next<=I.next)) h VW VW;have l5:=i.lo;have l6:=i.hi;rw[dK nz,AT,dI,ef,dR aar,show pN=some Ty.lD from rfl,dI,AT,dI];simp only[Tm.eK,Tm.iI,Tm.fM,Tm.eG,Ty.gM];rw[show oS=some Ty.nat from rfl,dI,AT,dI,uX,dK nz,show dX [t] 0=some t from rfl,dI,q3,dQ,af5,dI];refine⟨_,_,_,rfl,.HU (i.mC.trans (f.mC.trans d.mC)) (i.pB.trans (f.pB.trans d.pB)) VW VW (.n3 aar aar W (.lam (.lam (.lam Z))) i.nm) (Nr VW (kL X VW) (lF VW (lF (by show c.next+1+1<=_;omega) (lF (by show c.next+1+1+1<=_;omega) (kL z2 VW)))) i.le) (by rw[nd3,Qp,Qp,Qp];omega)⟩
 ·rw[hc,dR aar,uX,dR aar,Ci (by rw[hc];decide)];exact⟨_,_,_,rfl,.bad rfl rfl VW VW⟩
end
end Go.fF
set_option maxRecDepth 20000
namespace Go.fF
open Go
def abJ(L:List Fm)(Ts:List Tm):Prop:=Ts.length=L.length/\∀i f,L[i]?=some f->f.has=true->dU [] (Ts.getD i Tm.z) f.uA/\(Ts.getD i Tm.z).alZ<=4096
def abJ.nil:abJ [] []:=⟨rfl,λi f h=>by simp at h⟩
def Dv.run{L:List Fm}{Ts:List Tm}(V:abJ L Ts){g:List Ty}{hs:List Fm}{P:Pf}{f:Fm}{m:Nat}(h:Dv L g hs P f m):uc L ⟨g,hs⟩->P.wt<=1000000000->P.err=0->f.has=true->ti L Ts g hs P:=by
 induction h with
 |@hyp g hs i f S K N Q=>intro j hw he r;exact af8 S K j.nh|@mC g hs i f S K N=>
  intro j hw he r;have:=(s7.1 K).1;obtain⟨a,b⟩:=V.2 _ f K r;exact ad0 S (by rw[V.1];exact this) a b
 |@IT g hs a b x y m n q R Q i1 i2=>
  intro j hw he r;obtain⟨l,o,C,D,_⟩:=vm hw he;rw[EW] at r;exact ach q R j hw he r (i1 j l o) (i2 j C D)
 |@aau g hs a x y m q h i1=>
  intro j hw he r;obtain⟨l,o,_⟩:=sN hw he;obtain⟨Y,Z,e,w,G⟩:=q.hg.ty.G7 (Fm.eK _ _ _ _) (.inl rfl);simp at e;obtain⟨rfl,rfl⟩:=e;exact V3 (.inl ⟨rfl,rfl⟩) q (q.hg.sub aaA w) (q.hg.sub aaA G) j hw he (i1 j l o (by rw[EW,r];rfl))
 |@aak g hs a x y m q h i1=>
  intro j hw he r;obtain⟨l,o,_⟩:=sN hw he;obtain⟨Y,Z,e,w,G⟩:=q.hg.ty.G7 (Fm.eK _ _ _ _) (.inl rfl);simp at e;obtain⟨rfl,rfl⟩:=e;exact V3 (.inr ⟨rfl,rfl⟩) q (q.hg.sub aaA w) (q.hg.sub aaA G) j hw he (i1 j l o (by rw[EW,r];simp))
 |@O8 g hs F a y m hF M q G i1=>
  intro j hw he r;obtain⟨l,o,_⟩:=sN hw he;rw[M_] at r;exact aae j hF hw he (i1 (j.with hF (by show hs.length+1<=16;omega)) l o r)
 |@PE g hs a b x y f m n q R w r hm G i1 i2=>
  intro j hw he d;obtain⟨l,o,C,D,_⟩:=vm hw he;have c:=xb w.ty r.ty hm;exact abU q w j hw he (i1 j l o (by rw[M_];exact d)) λh=>i2 j C D (by rw[<-c.has];exact h)
 |@all g hs k k' s a f m O B M q r i1=>
  intro j hw he d;obtain⟨l,o,_⟩:=sN hw he;have v:=j.nZ B M;rcases O with⟨rfl,rfl⟩|⟨rfl,rfl,_⟩
  ·rw[At (.inl rfl)] at d;exact abe j hw he (i1 v l o d)
  ·rw[At (.inr (.inl rfl))] at d;exact YP B j hw he (i1 v l o d)
 |@ZG g hs k k' t s a x m u O H A q w hn i1=>
  intro j hw he d;obtain⟨l,o,W⟩:=sN hw he;rw[(x.x_ t 0).2] at d;rcases O with⟨rfl,rfl,_⟩|⟨rfl,rfl,_⟩
  ·exact aeP H (i_ A).2 j hw he (i1 j l o (by rw[At (.inl rfl)];exact d))
  ·refine(i1 j l o (by rw[At (.inr (.inl rfl))];exact d)).pass VW (λσ τ=>rfl) λn b x=>?_;rw[NW,dK aar,dK aar,dK aar,dK aar,dK aar,dK aar,dK aar,dK aar,dK aar,dK aar,dK aar,dK aar,dK aar,dK aar,dK aar,show dX [a] 0=some a from rfl,dI]
 |@ex g hs k k' t s a x f m u O hF H A w q r hn hm i1=>
  intro j hw he d;obtain⟨l,o,W⟩:=sN hw he;have c:=(xb (jJ w.ty H hn).ty r.ty hm).has;rw[(x.x_ t 0).2] at c;rcases O with⟨rfl,rfl,_⟩|⟨rfl,rfl,_⟩
  ·exact abk H (i_ A).2 w j hw he λh=>i1 j l o (by rw[<-c];exact h)
  ·rw[At (.inr (.inr rfl))] at d;refine(i1 j l o (by rw[<-c];exact d)).pass VW (λσ τ=>rfl) λn b x=>?_;rw[NW,dK aar,dK aar,dK aar,dK aar,dK aar,dK aar,dK aar,dK aar,dK aar,dK aar,dK aar,dK aar,dK aar,dK aar,dK aar,show dX [a] 0=some a from rfl,dI]
 |@X9 g hs k k' s a b x f m n O q B M X w R r T hq i1 i2=>
  intro j hw he d;have hg:=uR j;obtain⟨l,o,C,D,_⟩:=vm hw he;obtain⟨e1,e2⟩:=U3 r VW T;rw[e1] at d;have v:uc L ⟨g++[s],hs.map (Fm.up 0 1)++[x]⟩:=(j.nZ B M).with w (by show(hs.map (Fm.up 0 1)).length+1<=16;simp;omega);rcases O with⟨rfl,rfl⟩|⟨rfl,rfl,_⟩
  ·exact YT q w j hw he (i1 j l o (Nn _ _ _)) (i2 v C D d)
  ·exact Yw B q w j hw he (λh=>i1 j l o (by rw[At (.inr (.inr rfl))];exact h)) (i2 v C D d)
 |@ind g hs t F a b x y m n hF H A q w K N M X R G Q U h5 i1 i2=>
  intro j hw he d;obtain⟨l,o,C,D,_⟩:=vm hw he;rw[(F.x_ t 0).2] at d;have I:=(xb (jJ hF.ty .zero K).ty w.ty N).has;rw[(F.x_ _ 0).2] at I;have J:=(xb (jJ hF.Ul.ty (.succ hU) Q).ty G.ty U).has;rw[((F.up 1 1).x_ _ 0).2,(F.SD 1 1).2] at J;have v:uc L ⟨g++[.nat],hs.map (Fm.up 0 1)++[F]⟩:=(j.nZ Ty.fW M).with hF (by show(hs.map (Fm.up 0 1)).length+1<=16;simp;omega);exact Wu H (i_ A).2 hF j M hw he (i1 j l o (by rw[<-I];exact d)) (i2 v C D (by rw[<-J];exact d))
 |@lists g hs t F a b x y m n hF H A q w K N M X R G Q U h5 i1 i2=>
  intro j hw he d;obtain⟨l,o,C,D,_⟩:=vm hw he;rw[(F.x_ t 0).2] at d;have I:=(xb (jJ hF.ty .nil K).ty w.ty N).has;rw[(F.x_ _ 0).2] at I;have J:=(xb (jJ hF.WH.ty (.cons oe hU) Q).ty G.ty U).has;rw[((F.up 1 2).x_ _ 0).2,(F.SD 1 2).2] at J;have v:uc L ⟨g++[.nat]++[.lD],hs.map (Fm.up 0 2)++[F.up 1 1]⟩:=(j.RW M).with hF.upl (by show(hs.map (Fm.up 0 2)).length+1<=16;simp;omega);exact XG H (i_ A).2 hF j M hw he (i1 j l o (by rw[<-I];exact d)) (i2 v C D (by rw[<-J];exact d))
 |@refl g hs t H he r=>intro j hw he d;rw[Fm.has_eq] at d;cases d
 |@subst g hs F a b t u f m n hF q H hu het ad R r K N Q i1 i2=>
  intro j hw he d;obtain⟨l,o,C,D,W⟩:=vm hw he;rw[(F.x_ u 0).2] at d;have c:=(xb (jJ hF.ty H K).ty r.ty N).has;rw[(F.x_ t 0).2] at c;refine(i2 j C D (by rw[<-c];exact d)).pass VW (λσ τ=>rfl) λn b0 x=>?_;rw[NW,dK aar,dK aar,dK aar,dK aar,dK aar,dK aar,dK aar,dK aar,dK aar,dK aar,dK aar,dK aar,dK aar,dR aar,show dX [a,b] 1=some b from rfl,dI]
 |@choice g hs a s u y m q B hu G ae hn r i1=>
  intro j hw he d;obtain⟨l,o,_⟩:=sN hw he;exact TQ q G j hw he (i1 j l o (by rw[At (.inl rfl),Nn]))
def abL(b:dT):lY b ⟨[],[]⟩=some (⟨⟨[],[]⟩,[],[]⟩,[],b):=by
 obtain⟨m,hm⟩:∃m,FU=m+1:=⟨FU-1,by rw[fI]⟩;unfold lY;rw[ef,hm,hS,vq,dK aar,dI,sZ,dI,eC,vq,ef,hS,vq,dK aar,dI,sZ,dI,eC];rfl
def aex{L:List Fm}{Ts:List Tm}(o:abJ L Ts)(q:vJ L Ts=some 0){P:Pf}{f:Fm}{m:Nat}(h:Dv L [] [] P f m)(b:uc L ⟨[],[]⟩)(hw:P.wt<=1000000000)(he:P.err=0):nE L Ts ⟨[],[]⟩ P=some (if f.has then(match P.ex L Ts [] [] [] [] with|some d=>(d,(0:Int))|none=>(.mk 0 0 (.mk 0 []) [],4))else(.mk 0 0 (.mk 0 []) [],40)):=by
 obtain⟨l,r,_⟩:=Wt b hw he (h.inf b);unfold nE;rw[r,dQ,dK nz,q,dI,dK nz,A1 h.hg,dI]
 by_cases a:f.has=true
 ·rw[dR a,dR a,abL,gk];have s:P.alZ<=16384:=(gU he).2.2;obtain⟨t,u,v,q1,i⟩:=h.run o b hw he a FU ⟨L,Ts,0⟩ [] [] [] [] [] (by rw[fI];omega) rfl rfl .nil .nil (λx c=>by simp at c) (λx c=>by simp at c) rfl rfl (KZ 0) (by show(0:Int)+_<=_;omega);rw[q1,gk];cases j:P.ex L Ts [] [] [] [] with
  |none=>
   obtain rfl:=i.no j;rw[dR aar]
  |some d=>
   obtain⟨rfl,k,_,y3⟩:=i.yes d j;have hn:=k.alZ;have n:=YA k FU (by rw[fI];omega) abu;rw[List.reverse_nil] at n;rw[dK nz,n,dI]
 ·rw[dK a,dK a]
end Go.fF
set_option maxRecDepth 20000
set_option maxHeartbeats 2000000
namespace Go.fF
open Go
def adN{g:List Ty}{t:Tm}{s:Ty}(h:dU g t s):∀σ:List Tm,(∀i,i<g.length->i<σ.length/\σ[σ.length-1-i]?=some (kn i))->t.sb σ=t:=by
 induction h with
 |@var g t i hi hg=>
  intro σ a;obtain⟨k,j⟩:=a i hi;rw[Ko,x',j];rfl
 |@lam g s b t hs l ih=>
  intro σ a;rw[Ry,ih];intro i hi;rw[nB,Gk,Qy];simp only[nB,Qy] at hi;cases i with
  |zero=>
   refine⟨VW,?_⟩;rw[tQ (by rw[Gk];omega)];simp
  |succ i=>
   obtain⟨k,j⟩:=a i VW;refine⟨VW,?_⟩;rw[vV abu,zl,show σ.length+1-1-(i+1)=σ.length-1-i by omega,j];simp[kn,Tm.fu]
 |app _ _ c d=>intro σ a;rw[H6 _ _ _ _ aar aar,c σ a,d σ a]|zero=>intro σ _;rw[Qu _ _ aar aar]|succ _ ih=>intro σ a;rw[Kw _ _ _ aar aar,ih σ a]|oN _ _ _ _ c d f=>intro σ a;rw[Xi _ _ _ _ _ aar aar,c σ a,d σ a,f σ a]|nil=>intro σ _;rw[Qu _ _ aar aar]|cons _ _ c d=>intro σ a;rw[H6 _ _ _ _ aar aar,c σ a,d σ a]|fold _ _ _ _ c d f=>intro σ a;rw[Xi _ _ _ _ _ aar aar,c σ a,d σ a,f σ a]|pair _ _ _ c d=>intro σ a;rw[H6 _ _ _ _ aar aar,c σ a,d σ a]|fst _ ih=>intro σ a;rw[Kw _ _ _ aar aar,ih σ a]|snd _ ih=>intro σ a;rw[Kw _ _ _ aar aar,ih σ a]|unit=>intro σ _;rw[Qu _ _ aar aar]
def dU.sbc{t:Tm}{s:Ty}(h:dU [] t s)(σ:List Tm):t.sb σ=t:=adN h σ λi hi=>by simp at hi
def R3{P:Pf}{f:Fm}(a:Hy P)(hn:P.alZ<=16000)(k:f.has=true)(h:Tk [] [] [] P f):(∃e t,pP e/\nE [] [] ⟨[],[]⟩ P=some (t,e))\/∃b m,Dv [] [] [] P b m/\nE [] [] ⟨[],[]⟩ P=some (match P.ex [] [] [] [] [] [] with|some d=>(d,(0:Int))|none=>(.mk 0 0 (.mk 0 []) [],4)):=by
 have hw:=P.js a.1;have he:=LS a VW;rcases h Vs a with⟨e,c,i⟩|⟨b,m,c,i,l⟩
 ·refine .inl ⟨e,.mk 0 0 (.mk 0 []) [],c,?_⟩;unfold nE;rw[ahf Vs VW he i,dQ,dR (by rw[ez];exact JR c)]
 ·have j:=(Dv.of (P.w a.1 a.2) [] [] b m Vs c).1;refine .inr ⟨b,m,j,?_⟩;rw[aex .nil aby j Vs VW he,dR (by rw[i.has];exact k)]<;>rfl
def QM(s:Tm):(AI s).has=true:=Nn _ _ _
def I7(a b:Tm):(yk a b).has=false:=Fm.has_eq _ _ _
def afA{s:Tm}(h:N1 (AI s)):(AI s).KG=(.nat,0):=by
 have e:(AI s).uA=.nat:=by rw[QT,dK (by rw[I7];decide)]
 have:=Sz (Fm.oJ h.1 h.2) (QM s) (by rw[e];decide)
 rwa [e] at this
def afH{s:Tm}(h:N1 (AI s))(k:Ty->Option Tm):KH (AI s) k=k .nat:=by unfold KH;rw[afA h];rfl
def Kx(s t:Tm)(p:Pf)(L:List Fm)(Ts:List Tm)(g:List Ty)(hs:List Fm)(σ τ:List Tm)(hn:(t.sb σ).alZ<=4096):(GP s t p).ex L Ts g hs σ τ=some (t.sb σ):=by
 rw[Tn,dK (by show¬(yk v0 (s.up 0 1)).has=true;rw[I7];decide),vg hn]
def N1.hg{g:List Ty}{f:Fm}(h:N1 f)(a:iW g f):Hg g f:=⟨Fm.oJ h.1 h.2,a⟩
abbrev YM(b f:Tm):Tm:=.mk 2 0 .nat [.mk 6 0 .nat [b,.mk 2 0 .nat [.mk 2 0 .nat [fi (.mk 2 0 .nat [qq f v2 v0]) v0]],v0]]
abbrev UD(b c f:Tm):Tm:=.mk 2 0 .nat [fi (.mk 2 0 j2 [se v0]) (.mk 6 0 j2 [NT b c,.mk 2 0 .nat [.mk 2 0 j2 [fi (.mk 2 0 j2 [DP f v0]) v0]],v0])]
section
variable{b c f:Tm}
def uJ(σ:List Tm):v0.sb σ=σ.getD (σ.length-1-0) Tm.z:=Ko σ 0
def zf(σ:List Tm):v1.sb σ=σ.getD (σ.length-1-1) Tm.z:=Ko σ 1
def u0:v0.up 0 1=v1:=by simp[Tm.fu,v0,v1]
def u1:v1.up 0 1=v2:=by simp[Tm.fu,v1,v2]
def u2:v2.up 0 1=v3:=by simp[Tm.fu,v2,v3]
def ut:(kn 0)=v0:=rfl
def W9(c:dU [] b .nat)(d:dU [] f (.fn .nat (.fn .nat .nat)))(k:b.alZ<=400)(hn:f.alZ<=400):(T2 b f).ex [] [] [] [] [] []=some (YM b f):=by
 have R:∀{g:List Ty} {n:Tm},dU g n .nat->dU g (yz b f n) .nat:=λh=>.oN Ty.fW (c.cls _) (d.cls _) h;have a0:dU [.nat,.nat] v0 .nat:=hU (g:=[.nat])
 have n1:(yz b f v0).alZ<=4000:=by simp only[Tm.dM,ee,Is];omega
 have o1:N1 (AI (yz b f v0)):=Ki (R a0) n1;have l:uc [] ⟨[]++[.nat]++[.nat],List.map (Fm.up 0 1) (List.map (Fm.up 0 1) [])++[AI (yz b f v0)]⟩:=((Vs.nZ Ty.fW aaA).nZ Ty.fW aaA).with (o1.hg (BL (R a0))) aaA;have hi:(NO 0).inf [] ([]++[.nat]++[.nat]) (List.map (Fm.up 0 1) (List.map (Fm.up 0 1) [])++[AI (yz b f v0)])=.inl (AI (yz b f v0),0):=Mw (i:=0) l aaA;rw[Tl,O4,afH o1,Kx _ _ _ _ _ _ _ _ _ (by rw[c.sbc];omega),c.sbc,ye,EO,hi,sy]
 have a:¬((AI (yz b f v0)).alY.getD 0 iK).has=true:=by show¬(yk v0 _).has=true;rw[I7];decide
 rw[V_];simp only[dK a];simp only[mJ,mr,oa,kZ,ad',ut,u0,u1,mN,CD];rw[show([v0]:List Tm).getD (0+1-1-(0:Int).toNat) Tm.z=v0 from rfl,vg aar,ye]
 have j:(qq f v1 v0).sb [v3,v2,v0]=qq f v2 v0:=by
  simp only[fi];rw[H6 _ _ _ _ aar aar,H6 _ _ _ _ aar aar,d.sbc,zf,uJ];rfl
 have n2:(qq f v2 v0).alZ<=500:=by simp only[fi,Tm.dM,ee,Is,nv2];omega
 simp only[u2];rw[Kx _ _ _ _ _ _ _ _ _ (by rw[j];omega),j,ye]
 have n3:(fi (.mk 2 0 .nat [qq f v2 v0]) v0).alZ<=600:=by
  generalize qq f v2 v0=z at n2;simp only[fi,Tm.dM,ee,Is];omega
 show FJ ((FJ ((FJ (some (fi (.mk 2 0 .nat [qq f v2 v0]) v0))).bind λy=>some (.mk 6 0 .nat [b,.mk 2 0 .nat [.mk 2 0 .nat [y]],v0.sb [v0]]))).bind λx=>some (.mk 2 0 .nat [x]))=_;rw[vg VW,ye,uJ];generalize o:fi (.mk 2 0 .nat [qq f v2 v0]) v0=z at n3|-;rw[vg (by simp only[Tm.dM,ee];rw[show(List.getD [v0] ([v0].length-1-0) Tm.z)=v0 from rfl,Is];omega),ye,vg (by simp only[Tm.dM,ee];rw[show(List.getD [v0] ([v0].length-1-0) Tm.z)=v0 from rfl,Is];omega)];subst o;rfl
end
end Go.fF
set_option maxRecDepth 20000
set_option maxHeartbeats 2000000
namespace Go.fF
open Go
def aa9:Int->Vl->(Int×(List Ty))->(Option (gq (Int×(List Ty)) (Vl×Int×Int))):=
 λ(n:Int) (f:Vl)=>(yn λ(h:Int) (a:List Ty)=>
 dV (p_ f) λi b=>
 if(eL b 0) then(
 some (.ret ((Vl.mk 0 0 [] []),0,b)))
 else(ej (λ(j:Bool)=>
 if j then(
 some (.ret ((Vl.mk 0 0 [] []),0,7)))
 else(dH (dX a 1) λc=>
 some (.next (c.alX,c.alY)))) λd=>
 if(eL h 4) then(
 d true)
 else(dH (dX a 0) λk=>
 dH (fv FU k i) λl=>
 d (lV l))))
def M':Int->Vl->(Int×(List Int)×(List dJ)×Int×Int×Int×(List Ty)×(List Tm)×(List dJ)×Int×Int×Bool)->(Option (gq (Int×(List Int)×(List dJ)×Int×Int×Int×(List Ty)×(List Tm)×(List dJ)×Int×Int×Bool) (Vl×Int×Int))):=
 λ(J:Int) (t:Vl)=>(Yn λ(d:Int) (f:List Int) (h:List dJ) (i:Int) (j:Int) (k:Int) (l:List Ty) (n:List Tm) (o:List dJ) (q:Int) (r:Int) (b:Bool)=>
 ej (λ(u:Int) (v:List Int) (w:List dJ) (x:Int) (y:Int) (A:Int) (B:List Ty) (C:List Tm) (D:List dJ) (F:Int) (G:Int) (H:Bool)=>
 some (.next (u,v,w,x,y,A,B,C,D,F,G,H))) λs=>
 if b then(
 s d f h i j k l n o q r b)
 else(dH (yS FU t) λI=>
 dV (eI FU (dW.mk q r b) (dJ.mk d f h (Tm.mk i j (Ty.mk k l) n) o) I) λa c=>
 s a.num a.list a.pair a.body.alX a.body.al0 a.body.dN.alX a.body.dN.alY a.body.alY a.env c.used c.qN c.out))
abbrev CSt:=Int×(List Int)×(List dJ)×Int×Int×Int×(List Ty)×(List Tm)×(List dJ)×Int×Int×Bool
def cpk(r:vy)(M u:Nat)(o:Bool):CSt:=(r.num,r.list,r.pair,r.body.alX,r.body.al0,r.body.dN.alX,r.body.dN.alY,r.body.alY,r.env,(u:Int),(M:Int),o)
def adG(M B:Nat)(v:Vl)(s:Ty)(w:Vw):Prop:=s.alZ<=64/\p_ v=some (s,0)/\w.s=s.S/\∃r,yS FU v=some r/\RV M w r B
inductive rn (M B:Nat):List Vl->List Ty->List Vw->Prop
 |nil:rn M B [] [] []|cons {v s w l ss ws}:adG M B v s w->rn M B l ss ws->rn M B (v::l) (s::ss) (w::ws)
theorem rn.mono{M B B':Nat}{l:List Vl}{ss:List Ty}{ws:List Vw}(h:rn M B l ss ws)(a:B<=B'):rn M B' l ss ws:=by
 induction h with
 |nil=>exact .nil|cons b h ih=>
  obtain⟨q0,q1,c,q,d,f⟩:=b;exact .cons ⟨q0,q1,c,q,d,f.mono a⟩ ih
def KR(T:Ty):List Ty->Ty
 |[]=>T|s::ss=>.fn s (KR T ss)
noncomputable def Fz:Vw->List Vw->Vw
 |f,[]=>f|f,w::ws=>Fz (lU f w) ws
def aas{M B:Nat}{T:Ty}{l:List Vl}{ss:List Ty}{ws:List Vw}(h:rn M B l ss ws):∀j:Nat,fw aa9 l j ((KR T ss).alX,(KR T ss).alY)=some (.inl (T.alX,T.alY)):=by
 induction h with
 |nil=>intro j;rfl|@cons v s w l ss ws a h ih=>
  intro j;obtain⟨hs,b,_⟩:=a
  have e:aa9 (j:Int) v ((KR T (s::ss)).alX,(KR T (s::ss)).alY)=some (.next ((KR T ss).alX,(KR T ss).alY)):=by
   unfold aa9;rw[lS,b,dQ,dK nz,ef,dK (by show¬eL 4 4=true;decide),show dX (KR T (s::ss)).alY 0=some s from rfl,dI,iJ VW,dI,(Ty.kK s s).2 rfl];dsimp only;rw[dK aar,show dX (KR T (s::ss)).alY 1=some (KR T ss)from rfl,dI]
  rw[fY,e,dI,fk];exact ih (j+1)
def F3{M:Nat}{T:Ty}:∀(l:List Vl) (ss:List Ty) (ws:List Vw) (j:Nat) (r:vy) (u B:Nat) (o:Bool) (w:Vw),rn M B l ss ws->w.s=(KR T ss).S->u<=M->M<=65536->B+(M-u)<=100000000->(o=false->RV M w r B)->∃b a o',fw M' l j (cpk r M u o)=some (.inl (cpk b M a o'))/\u<=a/\a<=M/\(o'=false->RV M (Fz w ws) b (B+(a-u)))
 |_,_,_,j,r,u,B,o,w,.nil,hw,hu,c,d,i=>⟨r,u,o,rfl,g_ u,hu,λh=>(i h).mono VW⟩|_,_,_,j,r,u,B,o,w,@rn.cons _ _ v s x l ss ws y h,hw,hu,c,d,i=>by
  obtain⟨_,_,A,q,C,D⟩:=y;rw[show KR T (s::ss)=.fn s (KR T ss)from rfl,x8] at hw;rw[fY];cases o with
  |true=>
   have e:M' (j:Int) v (cpk r M u true)=some (.next (cpk r M u true)):=rfl;rw[e,dI,fk];obtain⟨b,a,o',a1,a2,a3,a4⟩:=F3 (T:=T) l ss ws (j+1) r u B true (lU w x) h (vC hw) hu c d (λh=>by cases h);exact⟨b,a,o',a1,a2,a3,a4⟩
  |false=>
   obtain⟨φ,rfl⟩:=Jk hw;have F:=i rfl;obtain⟨t,u1,o1,G,I,c3,H⟩:=F (x.at s.S) q B u FU (g_ _) d (D.at A) hu (by rw[fI];omega)
   have e:M' (j:Int) v (cpk r M u false)=some (.next (cpk t M u1 o1)):=by
    unfold M' cpk;rw[Iv,ef,dK aar,C,dI,Ty.gM,Tm.gM,dJ.gM];rw[show eI FU (dW.mk (u:Int) (M:Int) false) r q=_ from G,dQ]
   rw[e,dI,fk];have k:rn M (B+(u1-u)) l ss ws:=h.mono VW;obtain⟨b,a,o',a1,a2,a3,a4⟩:=F3 (T:=T) l ss ws (j+1) t u1 (B+(u1-u)) o1 (lU ⟨.f s.S (KR T ss).S,φ⟩ x) k rfl c3 c VW (λn=>(H n).2);exact⟨b,a,o',a1,VW,a3,λn=>(a4 n).mono VW⟩
def Ew{f:Tm}{ss:List Ty}{l:List Vl}{ws:List Vw}{M B:Nat}(a:dU [] f (KR .nat ss))(hn:f.alZ<=4096)(G:rn M B l ss ws)(hl:l.length<=1000)(J:M<=65536)(hB:B<=90000000):∃v k e,iV f l (M:Int)=some (v,k,e)/\(e=5\/e=0/\v.num=((oZ (Fz (f.val []) ws):Nat):Int)/\oZ (Fz (f.val []) ws)<=B+M):=by
 have he:f.err=0:=Tm.oJ a.ok hn
 have K:jc []:=λs hs=>by simp at hs
 have O:iZ [] f=some (KR .nat ss,0):=by rw[(rU K aaA he),mX a K abu]
 have I:vF [] []:=rfl;obtain⟨r,u,o,P,e2,Q,R⟩:=akr (M:=M) J a [] [] B 0 FU I ⟨rfl,λi v r h=>by simp at h⟩ abu VW (Pu _) (by rw[fI];omega);obtain⟨H,U,o',V,c2,c3,W⟩:=F3 (T:=.nat) l ss ws 0 r u (B+u) o (f.val []) (G.mono VW) (lO a [] I) Q J VW (λX=>by simpa using(R X).2)
 have hu:iV f l (M:Int)=dH (some (.inl (cpk H M U o'))) (fO (Yn λ(b:Int) (c:List Int) (d:List dJ) (j:Int) (q:Int) (t:Int) (x:List Ty) (y:List Tm) (A:List dJ) (C:Int) (N:Int) (D:Bool)=>
   if D then some ((Vl.mk 0 0 [] []),0,5)else dH (og FU (dJ.mk b c d (Tm.mk j q (Ty.mk t x) y) A) .nat) λF=>some (F,C,0)) (λr=>some r)):=by
  rw[<-V];unfold iV;rw[O,dQ,dK nz,et VW,ed,ef];have L:=aas (T:=.nat) G 0;show dH (fw aa9 l 0 ((KR .nat ss).alX,(KR .nat ss).alY)) _=_;rw[L,dI,eC,lS];rw[show yV (Ty.mk Ty.nat.alX Ty.nat.alY)=some (true,0) by kernel_rfl,dQ,dR rfl];rw[dK (by rw[l',tH,jR,iM];omega)];rw[show fB FU (dW.mk 0 (M:Int) false) f []=_ from P,dQ,ed,ef];rfl
 rw[hu,dI,eC];unfold cpk;rw[Iv];cases o' with
 |true=>exact⟨_,_,5,rfl,.inl rfl⟩|false=>
  have k:=W rfl
  have hs:(Fz (f.val []) ws).s=.n:=by
   have:∀(ws:List Vw) (ss:List Ty) (l:List Vl) (w:Vw),rn M B l ss ws->w.s=(KR .nat ss).S->(Fz w ws).s=.n:=by
    intro ws ss l w h
    induction h generalizing w with
    |nil=>intro h;rw[<-oQ];exact h|cons G h ih=>intro hw;rw[show KR Ty.nat (_::_)=.fn _ (KR .nat _)from rfl,x8] at hw;exact ih _ (vC hw)
   exact this ws ss l _ G (lO a [] I)
  obtain⟨Y,k2⟩:Rnm (oZ (Fz (f.val []) ws)) H _:=k.at hs;rw[dK aar,Ty.gM,Tm.gM,dJ.gM]
  have Z:og FU H .nat=some (Vl.mk 1 H.num [] []):=by
   obtain⟨m,hm⟩:∃m,FU=m+1:=⟨FU-1,by rw[fI]⟩;rw[hm,og,dR abD]
  rw[Z,dI];exact⟨_,_,0,rfl,.inr ⟨rfl,Y,VW⟩⟩
end Go.fF
set_option maxRecDepth 20000
set_option maxHeartbeats 2000000
namespace Go.fF
open Go
def IU{t:Tm}{s:Ty}(h:dU [] t s)(ρ:List Vw):t.val ρ=t.val []:=by
 have:=Xu t [] ρ h.ok
 rwa [h.cl.up 0 _ VW,oa] at this
def vK{g:List Ty}{s t:Ty}{b:Tm}(h:dU (g++[s]) b t){ρ:List Vw}(he:vF ρ g){v:Vw}(a:v.s=s.S):lU ((Tm.mk 2 0 s [b]).val ρ) v=b.val (ρ++[v]):=by
 rw[Tm.val_mk,dK aar,dR rfl]
 rw[Xo a (λx=>by
  have c:=lO h (ρ++[⟨s.S,x⟩]) (he.app rfl);have d:=lO h (ρ++[⟨s.S,s.S.ZH⟩]) (he.app rfl)
  exact c.trans d.symm)]
 show b.val (ρ++[⟨s.S,v.at s.S⟩])=_;rw[Vw.eta a]
def yZ(f a:Tm)(ρ:List Vw):(fi f a).val ρ=lU (f.val ρ) (a.val ρ):=jO aar aar ρ
def DN(ρ:List Vw)(v:Vw):v0.val (ρ++[v])=v:=by
 unfold v0;rw[Tm.val_mk,dR rfl];simp
def ad4(ρ:List Vw)(v w x:Vw):v2.val (ρ++[v]++[w]++[x])=v:=by
 unfold v2;rw[Tm.val_mk,dR rfl];simp
abbrev nV(k:Nat):Vw:=⟨.n,k⟩
def QW{v:Vw}(h:v.s=.n):nV (oZ v)=v:=Vw.eta h
def I4{σ:B3}{B S F:Vw}(b:B.s=σ)(hF:F.s=.f .n (.f σ σ))(h:∀a r,r.s=σ->lU (lU S (nV a)) r=lU (lU F (nV a)) r):∀k,uM B S k=uM B F k/\(uM B F k).s=σ
 |0=>⟨rfl,b⟩|k+1=>by
  obtain⟨c,d⟩:=I4 b hF h k;refine⟨?_,vC (vC hF)⟩;show lU (lU S (nV k)) (uM B S k)=lU (lU F (nV k)) (uM B F k);rw[c];exact h k _ d
section
variable{b c f:Tm}
def Wy(k:dU [] b .nat)(l:dU [] f (.fn .nat (.fn .nat .nat)))(d:Nat):lU ((YM b f).val []) (nV d)=uM (b.val []) (f.val []) d:=by
 have w:(b.val []).s=.n:=by rw[<-oQ];exact lO k [] rfl
 have hF:(f.val []).s=.f .n (.f .n .n):=by have:=lO l [] rfl;rwa [x8,x8,oQ] at this
 have w0:dU [.nat,.nat,.nat] v0 .nat:=hU (g:=[.nat,.nat]);have x:dU [.nat,.nat,.nat,.nat] v2 .nat:=Kp (g:=[.nat]);have y:dU [.nat,.nat,.nat,.nat] v0 .nat:=hU (g:=[.nat,.nat,.nat]);have h:dU ([.nat,.nat,.nat]++[.nat]) (qq f v2 v0) .nat:=.app (.app (l.cls _) x) y;have i:dU ([.nat,.nat]++[.nat]) (fi (.mk 2 0 .nat [qq f v2 v0]) v0) .nat:=.app (.lam tm h) w0;have j:dU ([.nat]++[.nat]) (.mk 2 0 .nat [fi (.mk 2 0 .nat [qq f v2 v0]) v0]) (.fn .nat .nat):=.lam tm i;have o:dU [.nat] (.mk 2 0 .nat [.mk 2 0 .nat [fi (.mk 2 0 .nat [qq f v2 v0]) v0]]) (.fn .nat (.fn .nat .nat)):=.lam xB j;have a0:dU ([]++[.nat]) v0 .nat:=hU;have q:dU ([]++[.nat]) (.mk 6 0 .nat [b,.mk 2 0 .nat [.mk 2 0 .nat [fi (.mk 2 0 .nat [qq f v2 v0]) v0]],v0]) .nat:=.oN Ty.fW (k.cls _) o a0;have t:vF [] []:=rfl;rw[vK q t (by rw[oQ])];rw[jO aar aar];show uM (b.val ([]++[nV d])) ((Tm.mk 2 0 .nat [.mk 2 0 .nat [fi (.mk 2 0 .nat [qq f v2 v0]) v0]]).val ([]++[nV d])) (oZ (v0.val ([]++[nV d])))=_;rw[DN,IU k,show oZ (nV d)=d from Vw.xl .n d];refine(I4 w hF (λa r A=>?_) d).1;have u:vF ([]++[nV d]) [.nat]:=t.app (s:=.nat) (by rw[oQ]);have v:vF ([]++[nV d]++[nV a]) [.nat,.nat]:=u.app (s:=.nat) (by rw[oQ])
 have c:r.s=Ty.nat.S:=by rw[oQ];exact A
 have B:vF ([]++[nV d]++[nV a]++[r]) [.nat,.nat,.nat]:=v.app (s:=.nat) c;rw[vK j u (by rw[oQ]),vK i v c,yZ,DN,vK h B c,yZ,yZ,IU l,DN,ad4]
end
def arg_num{M B k:Nat}(h:k<=B):adG M B (.mk 1 (k:Int) [] []) .nat (nV k):=by
 obtain⟨m,hm⟩:∃m,FU=m+1:=⟨FU-1,by rw[fI]⟩;refine⟨aar,?_,by rw[oQ],.mk (k:Int) [] [] (Tm.mk 0 0 (Ty.mk 0 []) []) [],?_,(⟨rfl,h⟩:Rnm k _ B)⟩
 ·unfold p_ xC;rw[hm,r6,dR abD];show dH (dH (some (fp (qa (k:Int) 0) (fp true true false) false)) _) _=_;rw[show qa (k:Int) 0=true by rw[jW];omega];rfl
 ·rw[hm];rfl
def Tp:∀k:Nat,k<3->∃x,rD (k:Int)=some x/\(∀g,dU g x .nat)/\x.alZ<=5/\x.val []=nV k:=by
 intro k a;have z:iF.val []=nV 0:=jO aar aar _
 have s:∀{x:Tm} {n:Nat},x.val []=nV n->(gE x).val []=nV (n+1):=λ{x n} h=>by
  unfold gE;rw[jO aar aar];show nV (oZ (x.val [])+1)=_;rw[h,show oZ (nV n)=n from Vw.xl .n n]
 match k,a with
 |0,_=>exact⟨iF,by kernel_rfl,λ_=>.zero,aar,z⟩|1,_=>exact⟨gE iF,by kernel_rfl,λ_=>.succ .zero,aar,s z⟩|2,_=>exact⟨gE (gE iF),by kernel_rfl,λ_=>.succ (.succ .zero),aar,s (s z)⟩
end Go.fF
set_option maxRecDepth 20000
set_option maxHeartbeats 2000000
namespace Go.fF
open Go
end Go.fF
set_option maxRecDepth 20000
set_option maxHeartbeats 2000000
namespace Go.fF
open Go
def We{L:List Fm}{g:List Ty}{hs:List Fm}{t:Tm}{F f:Fm}{a b:Pf}{m:Nat}(h:Dv L g hs (.mk 16 0 .z [t] [F] [a,b]) f m):f=Fm.gp 0 F t:=by
 generalize c:Pf.mk 16 0 .z [t] [F] [a,b]=P at h;cases h<;>simp at c
 all_goals first|(obtain⟨rfl,rfl,_⟩:=c;rfl)|(rename_i d _ _ _ _;rcases d with⟨rfl,_⟩|⟨rfl,_⟩<;>simp at c)
def Up{L:List Fm}{g:List Ty}{hs:List Fm}{s:Ty}{a:Pf}{f:Fm}{m:Nat}(h:Dv L g hs (.mk 8 0 s [] [] [a]) f m):∃b c,Dv L (g++[s]) (hs.map (Fm.up 0 1)) a b c:=by
 cases h with
 |all j d k i l=>exact⟨_,_,i⟩
def UC{L:List Fm}{g:List Ty}{hs:List Fm}{a b:Pf}{f:Fm}{m:Nat}(h:Dv L g hs (.mk 11 0 .z [] [] [a,b]) f m):∃c d,Dv L g hs a c d:=by
 cases h with
 |X9 j i _ _ _ _ _ _ _ _=>exact⟨_,_,i⟩
section
variable{b c f:Tm}
def IE(s:Tm):(Yq s).has=false:=by rw[EW,I7,I7];rfl
def agm(s:Tm):(AL s).has=true:=Nn _ _ _
def ae4{s:Tm}(h:N1 (AL s))(k:Ty->Option Tm):KH (AL s) k=k j2:=by
 have e:(AL s).uA=j2:=by rw[QT,dK (by rw[IE];decide)]
 have:=Sz (Fm.oJ h.1 h.2) (agm s) (by rw[e];decide);rw[e] at this;unfold KH;rw[this];rfl
def afq(d:dU [] b .nat)(i:dU [] c .nat)(j:dU [] f (.fn .nat (.fn .nat .nat)))(a:Tm):Fm.gp 0 (AL (mo b c f v0)) a=AL (mo b c f a):=by
 have B:=d.cl;have C:=i.cl;have F:=j.cl
 have k:∀(n n':Tm),n.up 0 1=n'->(mo b c f n).up 0 1=mo b c f n':=λn n' h=>by
  simp[Tm.fu,fq,B.up,C.up,F.up,h,v0,fi]
 rw[Fm.eS];simp only[kZ,mr,show qB 5=1 by decide];rw[Fm.eS];simp only[kZ,mr,show qB 2=0 by decide,sh,show(0:Int)+1=1 from rfl];rw[Fm.eS,Fm.eS,k v0 v1 u0];simp only[kZ,mr];simp[Tm.fu,Tm.eS,v0,v1,Tm.kH,fq,B.up,C.up,F.up,B.gp,C.gp,F.gp,fi]
def Yf(F:Fm)(t:Tm)(p:Pf)(L:List Fm)(Ts:List Tm)(g:List Ty)(hs:List Fm)(σ τ:List Tm)(hF:(F.alY.getD 0 iK).has=false)(hn:(t.sb σ).alZ<=4096):(Pf.mk 10 0 .z [t] [F] [p]).ex L Ts g hs σ τ=some (t.sb σ):=by
 rw[Tn,dK (by rw[hF];decide),vg hn]
abbrev ah_(b c f:Tm):Pf:=.mk 16 0 .z [v0] [AL (mo b c f v0)] [.mk 10 0 .z [NT b c] [AL (mo b c f iF)] [al9 (wT b) (wT c)],UW (NO 0) (.mk 10 0 .z [DP f v0] [AL (mo b c f (gE v1))] [al9
  (Fb (yk (uF v1) v0) (XX (NO 0)) (wT (uF v0)))
  (Fb (yk (qq f (se v1) (uF v1)) (qq f (se (mo b c f v2)) v0)) (XX (NO 0)) (Fb (yk (qq f (se v1) (uF v1)) (qq f v0 (uF v1))) (Xn (NO 0)) (wT (qq f (se v0) (uF v0)))))])]
abbrev Pa(b c f:Tm):Tm:=.mk 6 0 j2 [NT b c,.mk 2 0 .nat [.mk 2 0 j2 [fi (.mk 2 0 j2 [DP f v0]) v0]],v0]
def afp(l:dU [] b .nat)(o:dU [] c .nat)(q:dU [] f (.fn .nat (.fn .nat .nat)))(w:b.alZ<=300)(A:c.alZ<=300)(hn:f.alZ<=400){F:Fm}{m:Nat}(B:Dv [] [] [] (RD b c f) F m):(RD b c f).ex [] [] [] [] [] []=some (UD b c f):=by
 obtain⟨_,_,d1⟩:=Up B;obtain⟨f1,J,d2⟩:=UC d1;have C:f1=AL (mo b c f v0):=(We d2).trans (afq l o q v0);subst C;have d:uc [] ⟨[]++[.nat],List.map (Fm.up 0 1) []⟩:=Vs.nZ Ty.fW aaA;have r:=d2.inf d;have R:∀{g:List Ty} {n:Tm},dU g n .nat->dU g (mo b c f n) j2:=λh=>CZ l o q h;have a0:dU [.nat,.nat] v0 .nat:=hU (g:=[.nat])
 have o1:N1 (AL (mo b c f v0)):=⟨(BH (R a0)).ok,by
  have e:=Tm.nd (mo b c f v0) 0 1
  have:(mo b c f v0).alZ<=1500:=by simp only[fi,Tm.dM,ee,Is];omega
  generalize mo b c f v0=z at*
  simp only[Fm.dM,Tm.dM,ee,Is,e];omega⟩
 have s:uc [] ⟨[]++[.nat]++[.nat],List.map (Fm.up 0 1) (List.map (Fm.up 0 1) [])++[AL (mo b c f v0)]⟩:=(d.nZ Ty.fW aaA).with (o1.hg (BH (R a0))) aaA;have t:(NO 0).inf [] ([]++[.nat]++[.nat]) (List.map (Fm.up 0 1) (List.map (Fm.up 0 1) [])++[AL (mo b c f v0)])=.inl (AL (mo b c f v0),0):=Mw (i:=0) s aaA
 have a:¬((AL (mo b c f v0)).alY.getD 0 iK).has=true:=by show¬(Yq _).has=true;rw[IE];decide
 have v:=G9 l o
 have D:(NT b c).alZ<=700:=by simp only[Tm.dM,ee];omega
 have G:(DP f v0).alZ<=500:=by simp only[fi,Tm.dM,ee,Is];omega
 have xs:∀σ,(DP f v0).sb (σ++[v0])=DP f v0:=λσ=>by
  have j:v0.sb (σ++[v0])=v0:=by rw[uJ,x'];simp
  show(Tm.mk 10 0 .z [uF v0,.mk 3 0 .z [.mk 3 0 .z [f,se v0],uF v0]]).sb _=_;rw[H6 _ _ _ _ aar aar,Kw _ _ _ aar aar,H6 _ _ _ _ aar aar,H6 _ _ _ _ aar aar,Kw _ _ _ aar aar,Kw _ _ _ aar aar,q.sbc,j];rfl
 have k:∀σ τ,(ah_ b c f).ex [] [] ([]++[.nat]) (List.map (Fm.up 0 1) []) (σ++[v0]) τ=some (Pa b c f):=λσ τ=>by
  rw[O4,ae4 o1,Yf (AL (mo b c f iF)) _ _ _ _ _ _ _ _ (IE _) (by rw[v.sbc];omega),v.sbc,ye,EO,t,sy,V_];simp only[dK a]
  have H:(mJ (mJ τ)++[kn 0]).getD ((mJ (mJ τ)++[kn 0]).length-1-(0:Int).toNat) Tm.z=v0:=by
   rw[x'];simp;rfl
  rw[H,vg aar,ye,ut,Yf (AL (mo b c f (gE v1))) _ _ _ _ _ _ _ _ (IE _) (by rw[xs];omega),xs,ye]
  have n3:(fi (.mk 2 0 j2 [DP f v0]) v0).alZ<=600:=by
   generalize DP f v0=z at G;simp only[fi,Tm.dM,ee,Is];omega
  show FJ ((FJ (some (fi (.mk 2 0 j2 [DP f v0]) v0))).bind λy=>some (.mk 6 0 j2 [NT b c,.mk 2 0 .nat [.mk 2 0 j2 [y]],v0.sb (σ++[v0])]))=_
  have j:v0.sb (σ++[v0])=v0:=by rw[uJ,x'];simp
  rw[vg VW,ye,j];generalize u:fi (.mk 2 0 j2 [DP f v0]) v0=z at n3|-
  rw[vg (by
   generalize NT b c=y at D
   simp only[Tm.dM,ee,Is];omega)]
  subst u;rfl
 show(Pf.mk 8 0 .nat [] [] [UW (ah_ b c f) (GP (se (mo b c f v1)) (se v0) (Xn (NO 0)))]).ex [] [] [] [] [] []=_;rw[Tl,EO,r,sy];rw[show mJ []++[kn 0]=[]++[v0] from rfl,k,ye,dK a]
 have f0:∀σ,(se v0).sb (σ++[v0])=se v0:=λσ=>by
  have j:v0.sb (σ++[v0])=v0:=by rw[uJ,x'];simp
  rw[Kw _ _ _ aar aar,j]
 rw[ut,Kx _ _ _ _ _ _ _ _ _ (by rw[f0];decide),f0,ye]
 have I:(Pa b c f).alZ<=1500:=by simp only[fi,Tm.dM,ee,Is];omega
 show FJ ((FJ (some (fi (.mk 2 0 j2 [se v0]) (Pa b c f)))).bind λx=>some (.mk 2 0 .nat [x]))=_;generalize u:Pa b c f=z at I;rw[vg (by simp only[fi,Tm.dM,ee,Is];omega),ye,vg (by simp only[fi,Tm.dM,ee,Is];omega)];subst u;rfl
noncomputable def nxV (F r:Vw):Vw:=opV 10 [zS r,lU (lU F (CC r)) (zS r)]
noncomputable def HW (B C F:Vw):Nat->Vw
 |0=>opV 10 [B,C]|k+1=>nxV F (HW B C F k)
def W7(u:dU [] b .nat)(v:dU [] c .nat)(w:dU [] f (.fn .nat (.fn .nat .nat)))(d:Nat):lU ((UD b c f).val []) (nV d)=CC (HW (b.val []) (c.val []) (f.val []) d):=by
 have G:(b.val []).s=.n:=by rw[<-oQ];exact lO u [] rfl
 have H:(c.val []).s=.n:=by rw[<-oQ];exact lO v [] rfl
 have hF:(f.val []).s=.f .n (.f .n .n):=by have:=lO w [] rfl;rwa [x8,x8,oQ] at this
 have w0:dU [.nat,.nat,j2] v0 j2:=hU (g:=[.nat,.nat]);have I:dU [.nat,.nat,j2,j2] v0 j2:=hU (g:=[.nat,.nat,j2]);have i:dU ([.nat,.nat,j2]++[j2]) (DP f v0) j2:=EU w I;have j:dU ([.nat,.nat]++[j2]) (fi (.mk 2 0 j2 [DP f v0]) v0) j2:=.app (.lam Gg i) w0;have l:dU ([.nat]++[.nat]) (.mk 2 0 j2 [fi (.mk 2 0 j2 [DP f v0]) v0]) (.fn j2 j2):=.lam Gg j;have A:dU [.nat] (.mk 2 0 .nat [.mk 2 0 j2 [fi (.mk 2 0 j2 [DP f v0]) v0]]) (.fn .nat (.fn j2 j2)):=.lam Sa l;have a0:dU ([]++[.nat]) v0 .nat:=hU;have o:dU ([]++[.nat]) (Pa b c f) j2:=.oN uu ((G9 u v).cls _) A a0;have q:dU ([]++[.nat]++[j2]) (se v0) .nat:=.fst hU;have a:dU ([]++[.nat]) (fi (.mk 2 0 j2 [se v0]) (Pa b c f)) .nat:=.app (.lam aar q) o;have C:vF [] []:=rfl;have t:vF ([]++[nV d]) ([]++[.nat]):=C.app (s:=.nat) (by rw[oQ])
 have J:(lU ((UD b c f).val []) (nV d))=CC ((Pa b c f).val ([]++[nV d])):=by
  rw[vK a C (by rw[oQ]),yZ,vK q t (lO o _ t)];rw[jO aar aar];show CC (v0.val _)=_;rw[DN]
 have B:j2.S=.p .n .n:=by rw[Vt,oQ]
 have K:∀k,uM ((NT b c).val ([]++[nV d])) ((Tm.mk 2 0 .nat [.mk 2 0 j2 [fi (.mk 2 0 j2 [DP f v0]) v0]]).val ([]++[nV d])) k=HW (b.val []) (c.val []) (f.val []) k/\(HW (b.val []) (c.val []) (f.val []) k).s=.p .n .n:=by
  intro k
  induction k with
  |zero=>
   refine⟨?_,?_⟩
   ·show(NT b c).val ([]++[nV d])=opV 10 [b.val [],c.val []];rw[jO aar aar];show opV 10 [b.val _,c.val _]=_;rw[IU u,IU v]
   ·show B3.p (b.val []).s (c.val []).s=_;rw[G,H]
  |succ k ih=>
   obtain⟨L,D⟩:=ih
   have h:(HW (b.val []) (c.val []) (f.val []) k).s=j2.S:=by rw[B];exact D
   refine⟨?_,?_⟩
   ·show lU (lU _ (nV k)) (uM _ _ k)=nxV (f.val []) (HW (b.val []) (c.val []) (f.val []) k);rw[L];have F:vF ([]++[nV d]++[nV k]) [.nat,.nat]:=t.app (s:=.nat) (by rw[oQ]);have M:vF ([]++[nV d]++[nV k]++[HW (b.val []) (c.val []) (f.val []) k]) [.nat,.nat,j2]:=F.app (s:=j2) h;rw[vK l t (by rw[oQ]),vK j F h,yZ,DN,vK i M h];generalize HW (b.val []) (c.val []) (f.val []) k=r;rw[jO aar aar];show opV 10 [(uF v0).val _,(qq f (se v0) (uF v0)).val _]=_;rw[yZ,yZ,IU w,jO aar aar,jO aar aar];show opV 10 [zS (v0.val _),lU (lU (f.val []) (CC (v0.val _))) (zS (v0.val _))]=_;rw[DN];rfl
   ·show B3.p (zS _).s (lU (lU _ _) _).s=_;obtain⟨x,y,e⟩:=zr D;rw[e,show(zS ⟨.p .n .n,(x,y)⟩).s=.n from rfl,vC (vC hF)]
 rw[J,jO aar aar];show CC (uM ((NT b c).val _) ((Tm.mk 2 0 .nat [.mk 2 0 j2 [fi (.mk 2 0 j2 [DP f v0]) v0]]).val _) (oZ (v0.val ([]++[nV d]))))=_;rw[DN,show oZ (nV d)=d from Vw.xl .n d,(K d).1]
end
end Go.fF
set_option maxRecDepth 20000
set_option maxHeartbeats 2000000
namespace Go.fF
open Go
def adr{B C F:Vw}(a:B.s=.n)(b:C.s=.n)(hF:F.s=.f .n (.f .n .n)):∀k,(HW B C F k).s=.p .n .n
 |0=>by show B3.p B.s C.s=_;rw[a,b]|k+1=>by
  obtain⟨x,y,e⟩:=zr (adr a b hF k);show B3.p (zS (HW B C F k)).s (lU (lU F _) _).s=_;rw[e,show(zS ⟨.p .n .n,(x,y)⟩).s=.n from rfl,vC (vC hF)]
def cpF(t u g:Tm):Int×Int×Int×Int->Option (gq (Int×Int×Int×Int) Bool):=ZZ λ(b:Int) (c:Int) (d:Int) (a:Int)=>
 if(pg a 4) then(
 eT (iV t [(Vl.mk 1 a [] [])] 20000) λn B f=>
 eT (iV u [(Vl.mk 1 a [] [])] 20000) λo C h=>
 if(fp (eL f 0) true (eL h 0)) then(
 ej (λ(q:Bool)=>
 some (.ret q)) λi=>
 dH (hZ f) λr=>
 if r then(
 i true)
 else(dH (hZ h) λs=>
 i s))
 else(if(fp (eL n.num b) true (eL o.num c)) then(
 some (.ret false))
 else(eT (iV g [(Vl.mk 1 a [] []),(Vl.mk 1 b [] [])] 20000) λv D j=>
 eT (iV g [(Vl.mk 1 c [] []),(Vl.mk 1 d [] [])] 20000) λw F k=>
 if(fp (eL j 0) true (eL k 0)) then(
 ej (λ(x:Bool)=>
 some (.ret x)) λl=>
 dH (hZ j) λy=>
 if y then(
 l true)
 else(dH (hZ k) λA=>
 l A))
 else(some (.next (v.num,d,w.num,(eW .i64 a 1)))))))
 else(some (.y7 (b,c,d,a)))
def aai{t u g:Tm}{B C:Vw}(G:dU [] t (.fn .nat .nat))(hu:dU [] u (.fn .nat .nat))(hg:dU [] g (.fn .nat (.fn .nat .nat)))(b:t.alZ<=4096)(c:u.alZ<=4096)(hn:g.alZ<=4096)(l:B.s=.n)(H:C.s=.n)
  (I:∀d,lU (t.val []) (nV d)=uM B (g.val []) d) (J:∀d,lU (u.val []) (nV d)=CC (HW B C (g.val []) d)):∀(n k:Nat) (x y z:Int),k+n=6->k<=4->x=(oZ (uM B (g.val []) k):Nat)->y=(oZ (CC (HW B C (g.val []) k)):Nat)->z=(oZ (zS (HW B C (g.val []) k)):Nat)->x<=10+20000*k->y<=10+20000*k->z<=10+20000*k->∀m,n<=m->j0 (cpF t u g) m (x,y,z,(k:Int))=some (.inr true)\/∃s,j0 (cpF t u g) m (x,y,z,(k:Int))=some (.inl s):=by
 have hF:(g.val []).s=.f .n (.f .n .n):=by have:=lO hg [] rfl;rwa [x8,x8,oQ] at this
 have hs:∀k,(uM B (g.val []) k).s=.n:=λk=>by
  cases k with
  |zero=>exact l|succ k=>exact vC (vC hF)
 intro n
 induction n with
 |zero=>intro k x y z h K;omega|succ n ih=>
  intro k x y z V K o A D bx L N m hm;obtain⟨m,rfl⟩:∃q,m=q+1:=⟨m-1,VW⟩;rw[hS];unfold cpF;rw[vq]
  by_cases O:k<4
  ·rw[dR (by rw[jR];omega)];have a1:rn 20000 (10+20000*k) [Vl.mk 1 (k:Int) [] []] [.nat] [nV k]:=.cons (arg_num VW) .nil;obtain⟨v,q,e,P,Q⟩:=Ew (M:=20000) (ss:=[.nat]) G b a1 aaA VW VW;obtain⟨w,W,X,d1,d2⟩:=Ew (M:=20000) (ss:=[.nat]) hu c a1 aaA VW VW;rw[show iV t _ 20000=_ from P,gk,show iV u _ 20000=_ from d1,gk]
   have a:hZ 5=some true:=aar
   rcases Q with rfl|⟨rfl,c3,_⟩
   ·left;rw[dR abD,ef,a,dI,dR rfl];rfl
   rcases d2 with rfl|⟨rfl,d3,_⟩
   ·left;rw[dR aar,ef,Nu,dI,dK aar,a,dI];rfl
   rw[dK aar]
   have R:v.num=x:=by rw[c3,o];show((oZ (lU (t.val []) (nV k)):Nat):Int)=_;rw[I]
   have S:w.num=y:=by rw[d3,A];show((oZ (lU (u.val []) (nV k)):Nat):Int)=_;rw[J]
   rw[R,S,dK (by simp[eL])];have i:=adr l H hF k;obtain⟨Y,Z,F⟩:=zr i
   have sf:(CC (HW B C (g.val []) k)).s=.n:=by rw[F];rfl
   have ss:(zS (HW B C (g.val []) k)).s=.n:=by rw[F];rfl
   have a2:rn 20000 (10+20000*k) [Vl.mk 1 (k:Int) [] [],Vl.mk 1 x [] []] [.nat,.nat] [nV k,nV (oZ (uM B (g.val []) k))]:=by
    rw[o] at bx|-;exact .cons (arg_num VW) (.cons (arg_num VW) .nil)
   have a3:rn 20000 (10+20000*k) [Vl.mk 1 y [] [],Vl.mk 1 z [] []] [.nat,.nat] [nV (oZ (CC (HW B C (g.val []) k))),nV (oZ (zS (HW B C (g.val []) k)))]:=by
    rw[A] at L|-;rw[D] at N|-;exact .cons (arg_num VW) (.cons (arg_num VW) .nil)
   obtain⟨T,r,f,g1,g2⟩:=Ew (M:=20000) (ss:=[.nat,.nat]) hg hn a2 aaA VW VW;obtain⟨w',r',f',i1,i2⟩:=Ew (M:=20000) (ss:=[.nat,.nat]) hg hn a3 aaA VW VW;rw[show iV g [Vl.mk 1 (k:Int) [] [],Vl.mk 1 x [] []] 20000=_ from g1,gk,show iV g [Vl.mk 1 y [] [],Vl.mk 1 z [] []] 20000=_ from i1,gk];rcases g2 with rfl|⟨rfl,g3,g4⟩
   ·left;rw[dR abD,ef,a,dI,dR rfl];rfl
   rcases i2 with rfl|⟨rfl,i3,i4⟩
   ·left;rw[dR aar,ef,Nu,dI,dK aar,a,dI];rfl
   rw[dK aar,dI,fk]
   have ev:Fz (g.val []) [nV k,nV (oZ (uM B (g.val []) k))]=uM B (g.val []) (k+1):=by
    show lU (lU (g.val []) (nV k)) (nV (oZ (uM B (g.val []) k)))=lU (lU (g.val []) (nV k)) (uM B (g.val []) k);rw[QW (hs k)]
   have U:Fz (g.val []) [nV (oZ (CC (HW B C (g.val []) k))),nV (oZ (zS (HW B C (g.val []) k)))]=zS (HW B C (g.val []) (k+1)):=by
    show lU (lU (g.val []) (nV _)) (nV _)=zS (nxV (g.val []) (HW B C (g.val []) k));rw[QW sf,QW ss];rfl
   rw[ev] at g3 g4;rw[U] at i3 i4;rw[gd VW VW,show(k:Int)+1=((k+1:Nat):Int) by omega];have j:(CC (HW B C (g.val []) (k+1)))=zS (HW B C (g.val []) k):=rfl;exact ih (k+1) T.num z w'.num VW VW g3 (by rw[j];exact D) i3 (by rw[g3];omega) VW (by rw[i3];omega) m VW
  ·right;rw[dK (by rw[jR];omega)];exact⟨_,rfl⟩
def aaM{b f:Tm}(a:dU [] b .nat)(c:dU [] f (.fn .nat (.fn .nat .nat))):dU [] (YM b f) (.fn .nat .nat):=by
 have w0:dU [.nat,.nat,.nat] v0 .nat:=hU (g:=[.nat,.nat]);have d:dU [.nat,.nat,.nat,.nat] Go.fF.v2 .nat:=Kp (g:=[.nat]);have h:dU [.nat,.nat,.nat,.nat] v0 .nat:=hU (g:=[.nat,.nat,.nat]);exact .lam aar (.oN Ty.fW (a.cls _) (.lam aar (.lam (g:=[.nat,.nat]) tm (.app (.lam (g:=[.nat,.nat,.nat]) tm (.app (.app (c.cls _) d) h)) w0))) (hU (g:=[])))
def aa4{b c f:Tm}(j:dU [] b .nat)(k:dU [] c .nat)(l:dU [] f (.fn .nat (.fn .nat .nat))):dU [] (UD b c f) (.fn .nat .nat):=by
 have w0:dU [.nat,.nat,j2] v0 j2:=hU (g:=[.nat,.nat]);have n:dU [.nat,.nat,j2,j2] v0 j2:=hU (g:=[.nat,.nat,j2]);have a:dU ([.nat,.nat,j2]++[j2]) (DP f v0) j2:=EU l n;have d:dU ([.nat,.nat]++[j2]) (fi (.mk 2 0 j2 [DP f v0]) v0) j2:=.app (.lam Gg a) w0;have h:dU [.nat] (.mk 2 0 .nat [.mk 2 0 j2 [fi (.mk 2 0 j2 [DP f v0]) v0]]) (.fn .nat (.fn j2 j2)):=.lam Sa (.lam Gg d);have i:dU ([]++[.nat]) (Pa b c f) j2:=.oN uu ((G9 j k).cls _) h hU;exact .lam aar (.app (.lam aar (.fst hU)) i)
def DA(l:List Int):mV l=some true:=by
 unfold mV;rw[ef,YB,dI,dR rfl,UH,dI]
 by_cases A:500<l.length
 ·rw[Ox VW];rfl
 have D:l.length<=500:=VW
 rw[AD D];dsimp only;rw[dK aar,show Rz l=some ⟨l,0⟩from rfl,dI];have F:eR.wf ⟨l,0⟩:=⟨by show l.length<=1000;omega,aaA,aaA⟩;obtain⟨b,d1,G,W,X,H⟩:=rm _ F 3 VW VW;obtain⟨b,rfl⟩:∃y:Nat,b=y:=⟨b.toNat,VW⟩;obtain⟨c,d2,I,Y,c3,J⟩:=rm _ H 3 VW VW;obtain⟨c,rfl⟩:∃y:Nat,c=y:=⟨c.toNat,VW⟩;obtain⟨j,K,f,Z,v⟩:=Tp b VW;obtain⟨o,n1,n2,n3,n4⟩:=Tp c VW;obtain⟨g,d3,M,r2,a,r4⟩:=W1 J;obtain⟨N,q,r⟩:=af_ (f []) a VW VW;obtain⟨O,k2,w⟩:=adX (f []) (n2 []) a VW VW VW;rw[G,dQ,I,dQ,M,dQ,K,dI,X0 (f []) a VW VW,Tu N q r,gk,dI,n1,dI,UT (f []) (n2 []) a VW VW VW,Tu O k2 w,gk,dK aar]
 have x:(X1 j g).has=true:=by rw[At (.inl rfl),QM]
 have u:(WW j o g).has=true:=by rw[At (.inl rfl),QM]
 rcases R3 k2 w u (akK (f []) (n2 []) a [] [] [])with⟨e',t',k,h⟩|⟨P,m',Q,h⟩
 ·rcases R3 q r x (aiC (f []) a [] [] [])with⟨e,t,he,i⟩|⟨R,m,_,i⟩
  ·rw[i,dQ,h,dQ,dR (by simp[eL,JR he]),ef,W5 he];rfl
  ·rw[i,W9 (f []) a VW VW];dsimp only;rw[dQ,h,dQ,dR (by simp[eL,JR k]),ef,Nu,dI,dK aar,W5 k];rfl
 ·rw[afp (f []) (n2 []) a VW VW VW Q] at h;rcases R3 q r x (aiC (f []) a [] [] [])with⟨e,t,he,i⟩|⟨R,m,_,i⟩
  ·rw[i,dQ,h];dsimp only;rw[dQ,dR (by simp[eL,JR he]),ef,W5 he];rfl
  rw[i,W9 (f []) a VW VW,h];dsimp only;rw[dQ,dQ,dK aar,ef];have S:(nV b).s=.n:=rfl;have T:(nV c).s=.n:=rfl
  have U:(YM j g).alZ<=4096:=by simp only[fi,Tm.dM,ee,Is,nv2];omega
  have V:(UD j o g).alZ<=4096:=by simp only[fi,Tm.dM,ee,Is];omega
  have L:=aai (B:=nV b) (C:=nV c) (aaM (f []) a) (aa4 (f []) (n2 []) a) a U V VW S T (λd=>by rw[Wy (f []) a,v]) (λd=>by rw[W7 (f []) (n2 []) a,v,n4]) 6 0 b b c VW VW (by rw[show uM (nV b) (g.val []) 0=nV b from rfl,show oZ (nV b)=b from Vw.xl .n b]) (by rw[show CC (HW (nV b) (nV c) (g.val []) 0)=nV b from rfl,show oZ (nV b)=b from Vw.xl .n b]) (by rw[show zS (HW (nV b) (nV c) (g.val []) 0)=nV c from rfl,show oZ (nV c)=c from Vw.xl .n c]) VW VW VW FU (by rw[fI];omega);show dH (j0 (cpF (YM j g) (UD j o g) g) FU ((b:Int),(b:Int),(c:Int),0)) _=_;rcases L with L|⟨s,L⟩
  ·rw[show(0:Int)=((0:Nat):Int)from rfl,L];rfl
  ·rw[show(0:Int)=((0:Nat):Int)from rfl,L];rfl
end Go.fF
