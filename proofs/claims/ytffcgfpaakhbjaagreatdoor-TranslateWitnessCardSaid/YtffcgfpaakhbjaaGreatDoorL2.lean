/- Part of the proof of TranslateWitness: layer. -/
import Derived.Laws.Build
import Derived.Laws.StructEq
import Derived.Laws.BytesArg
import Derived.Test.YtffcgfpaakhbjaaGreatDoorL1
set_option linter.all false
namespace Go.jX
open Go
def iU(sz:Nat)(l:List AV):Bool:=
 match l with
 |[]=>true|x::_=>x.cells.length==sz
def oX{sz a:Nat}{l:List AV}(h:iU sz l=true)(hs:∀x∈l,x.cells.length=a):∀x∈l,x.cells.length=sz:=by
 cases l with
 |nil=>simp|cons x l=>
  have b:x.cells.length=sz:=by simpa[iU] using h
  have c:=hs x th;intro y hy;rw[hs y hy,<-c,b]
def PJ:Option AV->Option (Option Nat)
 |none=>some none|some (.sc (.int _ n))=>if 0<=n then some (some n.toNat)else none|_=>none
def vV(P:Program)(t:TypeId)(x:AV)(lo hi a:Option AV):Option AV:=
 match PJ lo,PJ hi,PJ a with
 |some lo,some hi,some a=>
  match P.underlying t,x with
  |some (.slice e),.slice _ l=>
   match dL P e with
   |none=>none|some (_,sz)=>
    if hi.getD l.length<=l.length/\lo.getD 0<=hi.getD l.length/\iU sz l then
     match a with
     |none=>some (.slice .ja ((l.take (hi.getD l.length)).drop (lo.getD 0)))|some m=>if hi.isSome/\hi.getD l.length<=m/\m<=l.length then some (.slice (if m=hi.getD l.length then .full else .ja) ((l.take (hi.getD l.length)).drop (lo.getD 0)))else none
    else none
  |some .string,.sc (.string s)=>
   if a.isNone/\hi.getD s.size<=s.size/\lo.getD 0<=hi.getD s.size then some (.sc (.string (s.extract (lo.getD 0) (hi.getD s.size))))else none
  |_,_=>none
 |_,_,_=>none
def xi(F:jf)(ρ:Maps):Option AV->Option Value->Prop
 |none,none=>True|some x,some v=>ej F ρ x v|_,_=>False
section
variable{P:Program} {F:jf} {ρ:Maps}
def DC{x:Option AV}{v:Option Value}{r:Option Nat}(h:PJ x=some r)(a:xi F ρ x v):(r=none/\v=none)\/∃k n,v=some (.int k n)/\0<=n/\r=some n.toNat:=by
 unfold PJ at h
 split at h
 ·cases v with
  |none=>injection h with h;exact .inl ⟨h.symm,rfl⟩|some v=>exact a.elim
 ·rename_i k n
  split at h
  ·injection h with h;cases v with
   |none=>exact a.elim|some v=>
    cases dS a;exact .inr ⟨k,n,rfl,by assumption,h.symm⟩
  ·cases h
 ·cases h
def oe(w:World)(k:IntKind)(n:Int)(y:Nat)(c:BoundsCode)(a:0<=n)(b:n.toNat<=y):(Instr.sliceBound (.int k n) y c).run P w=.ok n.toNat w:=by
 unfold Instr.sliceBound;simp only[asIntOf,eS,mC,gH];rw[bX ⟨a,cw⟩];rfl
def Fp(w:World)(f:Bool){lo hi j:Option AV}{l o p:Option Value}{a h m:Option Nat}{len cap:Nat}
  (q:PJ lo=some a) (r:PJ hi=some h) (s:PJ j=some m) (t:xi F ρ lo l) (u:xi F ρ hi o) (v:xi F ρ j p)
  (hm:m.getD cap<=cap) (d:h.getD len<=m.getD cap) (e:a.getD 0<=h.getD len) (g:m.isSome=true->h.isSome=true):(Instr.sliceBounds f len cap l o p).run P w=.ok (a.getD 0,h.getD len,m.getD cap) w:=by
 rcases DC s v with⟨rfl,rfl⟩|⟨k,n,rfl,hn,rfl⟩<;>rcases DC r u with⟨rfl,rfl⟩|⟨k2,n2,rfl,b,rfl⟩<;>
  rcases DC q t with⟨rfl,rfl⟩|⟨i,n1,rfl,c,rfl⟩<;>simp only[Option.getD_none,Option.getD_some] at hm d e|-<;>
  (first
   |(simp at g;done)
   |(simp only[Instr.sliceBounds,eS,mC,gH];done)
   |(simp only[Instr.sliceBounds,eS,mC,gH,oe (P:=P) w i n1 _ _ c e];done)
   |(simp only[Instr.sliceBounds,eS,mC,gH,oe (P:=P) w k2 n2 _ _ b d];done)
   |(simp only[Instr.sliceBounds,eS,mC,gH,oe (P:=P) w k2 n2 _ _ b d,oe (P:=P) w i n1 _ _ c e];done)
   |(simp only[Instr.sliceBounds,eS,mC,gH,oe (P:=P) w k n _ _ hn hm,oe (P:=P) w k2 n2 _ _ b d];done)
   |(simp only[Instr.sliceBounds,eS,mC,gH,oe (P:=P) w k n _ _ hn hm,oe (P:=P) w k2 n2 _ _ b d,oe (P:=P) w i n1 _ _ c e];done))
def N'(w:World){t:TypeId}{x r:AV}{u:Value}{lo hi R:Option AV}{C D A:Option Value}(h:vV P t x lo hi R=some r)(n:ej F ρ x u)
  (S:xi F ρ lo C) (T:xi F ρ hi D) (E:xi F ρ R A):∃v,(Instr.sliceAt t u C D A).run P w=.ok v w/\ej F ρ r v:=by
 unfold vV at h
 split at h
 ·rename_i a f m U V G
  split at h
  ·rename_i e tag l hu
   split at h
   ·cases h
   ·rename_i ag sz X
    split at h
    ·rename_i H;obtain⟨I,i,j⟩:=H;obtain⟨base,cap,b,o,Y,vs,rfl,hs,_,_⟩:=lq n;have k:=oX j hs.sz
     have step:∀(g:Nat),g=m.getD cap->g<=cap->f.getD l.length<=g->(m.isSome=true->f.isSome=true)->∀B,(B=Tag.ja\/B=Tag.full/\g=f.getD l.length)->∃v,(Instr.sliceAt t (.slice base l.length cap) C D A).run P w=.ok v w/\ej F ρ (.slice B ((l.take (f.getD l.length)).drop (a.getD 0))) v:=by
      intro g J Z aa K B L;have M:=Fp (P:=P) (F:=F) (ρ:=ρ) w true (len:=l.length) (cap:=cap) U V G S T E cw cw i K
      refine⟨.slice (if g=a.getD 0 then base else base.map (·.add (a.getD 0*sz))) (f.getD l.length-a.getD 0) (g-a.getD 0),?_,?_⟩
      ·unfold Instr.sliceAt;rw[eS,run_underlying hu];simp only[gH];unfold Instr.slice;rw[eS,run_underlying hu];simp only[gH,eS,M,iQ X,mC,<-J]
      ·have hlen:((l.take (f.getD l.length)).drop (a.getD 0)).length=f.getD l.length-a.getD 0:=by
        rw[LF,vL];omega
       rw[<-hlen]
       have d:((l.take (f.getD l.length)).drop (a.getD 0)).flatMap AV.cells=((l.flatMap AV.cells).take (f.getD l.length*sz)).drop (a.getD 0*sz):=by
        rw[wu (sz:=sz) (λx n=>k x (zy n)),A6 k]
       refine .p (.slice (b:=b) (o:=o+a.getD 0*sz) (sz:=sz) (vs:=(vs.take (f.getD l.length*sz)).drop (a.getD 0*sz)) ?_ ?_ ?_ ?_ ?_ ?_ ?_ ?_)
       ·rw[d];exact(hs.cells.take _).drop _
       ·exact(hs.has.take _).drop _
       ·intro q;have W:0<((l.take (f.getD l.length)).drop (a.getD 0)).length:=O2.2 q
        have N:l≠[]:=by rintro rfl;simp at q
        rw[bV cw,hs.base N];simp[Addr.add_lit]
       ·exactλx n=>k x (zy (Fq n))
       ·intro c y;rw[d] at y;exact hs.pU c (zy (Fq y))
       ·omega
       ·have:=hs.zF;omega
       ·rcases L with h|⟨h,h'⟩
        ·exact .inl h
        ·exact .inr ⟨h,cw⟩
     split at h
     ·cases h;exact step cap rfl (fC _) (by have:=hs.xM;omega) th .ja (.inl rfl)
     ·rename_i g
      split at h
      ·rename_i z;cases h;have ab:=hs.xM;refine step g rfl cw z.2.1 (λ_=>z.1) _ ?_
       by_cases he:g=f.getD l.length
       ·rw[bX he];exact .inr ⟨rfl,he⟩
       ·rw[bV he];exact .inl rfl
      ·cases h
    ·cases h
  ·rename_i s hu
   split at h
   ·rename_i H;obtain⟨I,i,j⟩:=H;cases h;cases dS n
    have O:m=none:=by cases m<;>simp_all
    subst O
    have Q:A=none:=by
     rcases DC G E with⟨_,h⟩|⟨_,_,_,_,h⟩
     ·exact h
     ·cases h
    subst Q;have M:=Fp (P:=P) (F:=F) (ρ:=ρ) w false (len:=s.size) (cap:=s.size) U V G S T E th (by simpa using i) j th;refine⟨_,?_,.p (.sc rfl)⟩;unfold Instr.sliceAt;rw[eS,run_underlying hu];simp only[gH];unfold Instr.slice;rw[eS,run_underlying hu];simp only[gH,Option.isSome_none,hZ,fG,eS,mC,M]
   ·cases h
  ·cases h
 ·cases h
end
def placesOf(P:Program)(t:TypeId):Option (List (Nat×Nat)):=
 match P.underlying t with
 |some (.struct fs)=>fs.toList.mapM λf=>(P.info? f.type).map λi=>(f.offset,i.size)|_=>none
def ew(P:Program)(t i:Nat):Option (Nat×Nat):=
 match placesOf P t with
 |some ps=>ps[i]?|none=>match KE P t with
  |some (_,e)=>(P.info? e).map λf=>(i*f.size,f.size)|none=>none
def dj:AV->Bool
 |.tuple _=>false|_=>true
def CG(P:Program)(t:TypeId):List AV->List (Nat×AV)->Option (List AV)
 |cs,[]=>some cs|cs,(i,x)::rest=>
  match ew P t i with
  |some (off,size)=>if x.cells.length=size/\off+size<=cs.length/\dj x then CG P t (setCells cs off x.cells) rest else none|none=>none
def o0(P:Program)(t:TypeId):Option (List AV):=
 match zeroOf P t with
 |some (.agg z)=>if z.all (·.oneCell')=true/\((placesOf P t).isSome\/((KE P t).bind λp=>P.info? p.2).isSome)then some (z.toList.map oq)else none|_=>none
def BC(P:Program)(t:TypeId)(parts:List (Nat×AV)):Option AV:=
 match o0 P t with
 |some z=>(CG P t z parts).map .agg|none=>none
def foldl_set(new:List Value):∀(k off:Nat) (vs:Array Value),off+k+new.length<=vs.size->((new.zipIdx k).foldl (λcs (x:Value×Nat)=>cs.setIfInBounds (off+x.2) x.1) vs).toList=vs.toList.take (off+k)++new++vs.toList.drop (off+k+new.length):=by
 induction new with
 |nil=>intro k off vs h;simp|cons v new b=>
  intro k off vs h;simp only[List.zipIdx_cons,List.foldl_cons,jK] at h|-;rw[b (k+1) off _ aae]
  have a:off+k<vs.toList.length:=aae
  simp only[YJ]
  have c:(vs.toList.set (off+k) v).take (off+(k+1))=vs.toList.take (off+k)++[v]:=by
    rw[<-GC,List.take_succ_eq_append_getElem (by simpa using a),List.take_set]
    congr 1
    ·apply List.set_eq_of_length_le;simp[vL];omega
    ·simp
  have d:(vs.toList.set (off+k) v).drop (off+(k+1)+new.length)=vs.toList.drop (off+k+(new.length+1)):=by
    rw[List.drop_set_of_lt cw]
    congr 1
    omega
  rw[c,d];simp
section
variable{P:Program} {F:jf} {ρ:Maps}
def eM.setCells{R:AV->Value->Prop}{cs new:List AV}{vs nv:List Value}(h:eM R cs vs)(a:eM R new nv)(off:Nat):eM R (setCells cs off new) (vs.take off++nv++vs.drop (off+new.length)):=by
 unfold jX.setCells;exact((h.take off).append a).append (h.drop _)
def fS{x:AV}(h:dj x=true):∀vs,x≠ .tuple vs:=by
 rintro vs rfl;simp[dj] at h
def I4{t:TypeId}(place:Nat->Option (Nat×Nat))(A:∀i y,ew P t i=some y->place i=some y):∀(parts:List (Nat×AV)) (pv:List (Nat×Value)) (cs r:List AV) (vs:Array Value),CG P t cs parts=some r->eM (hO F ρ) cs vs.toList->(∀c∈cs,c.dW=true)->eM (λ(x:Nat×AV) (y:Nat×Value)=>x.1=y.1/\ej F ρ x.2 y.2) parts pv->∃ws:Array Value,Instr.fill place vs pv=some ws/\eM (hO F ρ) r ws.toList/\∀c∈r,c.dW=true:=by
 intro parts
 induction parts with
 |nil=>
  intro pv cs r vs h f a d;cases d;simp[CG] at h;subst h;exact⟨vs,rfl,f,a⟩
 |cons p parts B=>
  intro pv cs r vs h f a d;obtain⟨i,x⟩:=p;cases d with
  |cons C g=>
   rename_i q pv;obtain⟨j,v⟩:=q;obtain⟨l,o⟩:=C;simp only at l o;subst l;simp only[CG] at h
   split at h
   ·rename_i off size s
    split at h
    ·rename_i D;obtain⟨E,G,m⟩:=D;have b:=o.cells (fS m);have hlen:=b.length
     have H:vs.size=cs.length:=by simpa using f.length.symm
     have I:v.cells.toList.length=v.cells.size:=th
     have e:=foldl_set v.cells.toList 0 off vs (by simp only[AK];omega);have dC:=f.setCells b off;rw[hlen] at dC;simp only[AK] at e;rw[<-e] at dC
     obtain⟨ws,u,w,z⟩:=B pv _ _ _ h dC (by
      intro c n;simp only[jX.setCells,pX] at n;rcases n with(hm|hm)|hm
      ·exact a c (zy hm)
      ·exact o.pU (fS m) c hm
      ·exact a c (Fq hm)) g
     refine⟨ws,?_,w,z⟩;unfold Instr.fill;rw[A _ _ s]
     have k:(v.cells.size≠size||decide (off+v.cells.size>vs.size))=false:=by
      simp only[Ma,N9,ne_eq,Decidable.not_not];constructor<;>omega
     show(if(decide (v.cells.size≠size)||decide (off+v.cells.size>vs.size)) then none else Instr.fill place (v.cells.zipIdx.foldl (λcs (x:Value×Nat)=>cs.setIfInBounds (off+x.2) x.1) vs) pv)=some ws;rw[bV (by rw[k];simp),<-YB,ZT];exact u
    ·cases h
   ·cases h
def CQ(w:World):∀(fs:List Field) (ps:List (Nat×Nat)),(fs.mapM λf=>(P.info? f.type).map λi=>(f.offset,i.size))=some ps->(fs.mapM λf=>(do pure (f.offset,<-sizeOf f.type):Sem (Nat×Nat))).run P w=.ok ps w:=by
 intro fs
 induction fs with
 |nil=>intro ps h;simp at h;subst h;rfl
 |cons f fs d=>
  intro ps h;simp only[Sv,Option.bind_eq_bind,Wc] at h;obtain⟨p,a,b,c,h⟩:=h;cases hi:P.info? f.type with
  |none=>rw[hi] at a;cases a
  |some i=>
   rw[hi] at a;simp at a h;subst a;subst h;simp only[Sv,eS,sizeOf,typeInfo,program,Sem.run,hi,gH,mC];have:=d b c;simp only[eS,sizeOf,typeInfo,program] at this;rw[this];rfl
def run_map{α β:Type}(w:World)(f:α->β)(x:Sem α):(Functor.map f x).run P w=(x.run P w).andThen λa w'=>.ok (f a) w':=by
 show(x>>=λa=>pure (f a)).run P w=_;rw[eS];rfl
def run_build(w:World){t:TypeId}{parts:List (Nat×AV)}{r:AV}{pv:List (Nat×Value)}(h:BC P t parts=some r)
  (k:eM (λ(x:Nat×AV) (y:Nat×Value)=>x.1=y.1/\ej F ρ x.2 y.2) parts pv):∃v,(Instr.build t pv.toArray).run P w=.ok v w/\ej F ρ r v:=by
 have h:∃z:Array Value,zeroOf P t=some (.agg z)/\(z.all (·.oneCell')=true/\((placesOf P t).isSome\/((KE P t).bind λp=>P.info? p.2).isSome))/\(CG P t (z.toList.map oq) parts).map .agg=some r:=by
  unfold BC o0 at h
  split at h
  ·rename_i z0 d
   split at d
   ·rename_i z l
    split at d
    ·rename_i u;injection d with d;subst d;exact⟨z,l,u,h⟩
    ·cases d
   ·cases d
  ·cases h
 obtain⟨z,l,u,h⟩:=h
 ·--K literal
  ·obtain⟨A,j⟩:=u;cases E:CG P t (z.toList.map oq) parts with
   |none=>rw[E] at h;cases h
   |some cs=>
    rw[E] at h;cases h
    have B:(zeroValue t).run P w=.ok (.agg z) w:=by
     unfold zeroOf at l;cases hi:P.info? t with
     |none=>rw[hi] at l;cases l
     |some i=>
      rw[hi] at l;simp at l;simp[zeroValue,typeInfo,hi,l]
    have m:∀v∈z.toList,v.oneCell'=true:=λv L=>F1.1 A v (uS.1 L);have C:eM (hO F ρ) (z.toList.map oq) z.toList:=(oF F ρ.G ρ.n _ m).rL.mono λ_ _ _ h=>.p h
    have D:∀c∈z.toList.map oq,c.dW=true:=by
     intro c u;obtain⟨a,_,rfl⟩:=kI.1 u;exact vD a
    cases b:placesOf P t with
    |some ps=>
     have H:∃fs,P.underlying t=some (.struct fs)/\(fs.toList.mapM λf=>(P.info? f.type).map λi=>(f.offset,i.size))=some ps:=by
      unfold placesOf at b
      split at b
      ·exact⟨_,by assumption,b⟩
      ·cases b
     obtain⟨fs,hu,hm⟩:=H
     obtain⟨ws,o,q,s⟩:=I4 (P:=P) (F:=F) (ρ:=ρ) (t:=t) (ps.toArray[·]?) (by
      intro i y hy;unfold ew at hy;rw[b] at hy
      simpa using hy) parts pv _ _ z E C D k
     refine⟨.agg ws,?_,by simpa using ej.agg (vs:=ws.toList) q s⟩;unfold Instr.build;simp only[eS,B,gH,run_underlying hu];have I:=CQ (P:=P) w fs.toList ps hm;rw[<-MI (xs:=fs),X_,run_map,I];simp only[mC,gH,Value.cells,o]
    |none=>
     cases g:KE P t with
     |none=>simp[b,g] at j
     |some ne=>
      obtain⟨n,e⟩:=ne
      have hu:P.underlying t=some (.array n e):=by
       unfold KE at g
       split at g
       ·rename_i hu;cases g;exact hu
       ·cases g
      cases hi:P.info? e with
      |none=>simp[b,g,hi] at j
      |some J=>
       obtain⟨ws,o,q,s⟩:=I4 (P:=P) (F:=F) (ρ:=ρ) (t:=t) (λi=>some (i*J.size,J.size)) (by
        intro i y hy;unfold ew at hy;rw[b] at hy;simp[g,hi] at hy
        simp[hy]) parts pv _ _ z E C D k
       refine⟨.agg ws,?_,by simpa using ej.agg (vs:=ws.toList) q s⟩;unfold Instr.build;simp only[eS,B,gH,run_underlying hu,sizeOf,typeInfo,program,Sem.run,hi,mC,Value.cells,o]
end
end Go.jX
namespace Go.jX
open Go
def uj(P:Program):List Field->List AV->List AV->Option Bool
 |[],_,_=>some true|f::fs,xs,ys=>
  if f.name= "_" then uj P fs xs ys else
  match P.underlying f.type,kD P f.type xs f.offset,kD P f.type ys f.offset with
  |some (.int _),some (.sc (.int k a)),some (.sc (.int k' b))=>if k=k' then(uj P fs xs ys).map λr=>(a==b)&&r else none|some .string,some (.sc (.string a)),some (.sc (.string b))=>(uj P fs xs ys).map λr=>(a.toList==b.toList)&&r|some .bool,some (.sc (.bool a)),some (.sc (.bool b))=>(uj P fs xs ys).map λr=>(a==b)&&r|_,_,_=>none
def Y0(P:Program)(t:TypeId):Bool:=!P.eqGuardType P.depth t&&!P.stoodInHeld t
def GK(P:Program)(t:TypeId)(xs a:List AV):Option Bool:=
 match P.underlying t with
 |some (.struct fs)=>if Y0 P t then uj P fs.toList xs a else none|_=>none
def mV(P:Program)(op:BinOp)(t:TypeId)(x y:AV):Option AV:=
 match op,x,y with
 |.eql,.agg xs,.agg a=>(GK P t xs a).map λb=>.sc (.bool b)|.neq,.agg xs,.agg a=>(GK P t xs a).map λb=>.sc (.bool (!b))|op,x,y=>sU P op t x y
def CM(P:Program)(op:BinOp)(t:TypeId):Operand->AV->AV->Option AV
 |.const .nilIface,.sc .nilIface,_=>match op,P.underlying t with
  |.eql,some (.interface _)=>some (.sc (.bool true))|.neq,some (.interface _)=>some (.sc (.bool false))|_,_=>none
 |_,u,v=>mV P op t u v
def EK:List AV->Option (List Int)
 |[]=>some []|.sc (.int .u8 n)::l=>(EK l).map (n:: ·)|_::_=>none
def Ud(P:Program)(s d:TypeId)(l:List AV):Option AV:=
 match P.underlying s,P.underlying d with
 |some (.slice e),some .string=>match P.underlying e,EK l with
  |some (.int .u8),some a=>some (.sc (.string (strOfNums a)))|_,_=>none
 |_,_=>none
def PS(P:Program)(s d:TypeId)(x:AV):Option AV:=
 match P.underlying s,P.underlying d,x with
 |some _,some (.int k),.sc (.int _ n)=>some (.sc (.int k (k.wrap n)))|some _,some .string,.sc (.string b)=>some (.sc (.string b))|_,_,_=>none
def Jg(P:Program)(s d:TypeId)(x:AV):Option AV:=
 match x with
 |.slice _ l=>Ud P s d l|x=>PS P s d x
def Dp(P:Program)(t:TypeId)(x:AV):Option AV:=
 match P.underlying t,x with
 |some (.slice _),.slice _ l=>some (.sc (.int .i64 l.length))|some (.slice _),.tB _ _ len _=>some (.sc (.int .i64 len))|some (.slice _),.B4=>some (.sc (.int .i64 0))|some (.slice _),.nU _ _ len _=>some (.sc (.int .i64 len))|some .string,.sc (.string s)=>some (.sc (.int .i64 s.size))|some (.array n _),_=>some (.sc (.int .i64 n))|_,_=>none
def M7:AV->AV->Option AV
 |.sc (.int k a),.sc (.int _ b)=>some (.sc (.int k (if b>a then b else a)))|_,_=>none
def MS:AV->AV->Option AV
 |.sc (.int k a),.sc (.int _ b)=>some (.sc (.int k (if b<a then b else a)))|_,_=>none
def Hf(f:AV->AV->Option AV):AV->List AV->Option AV
 |x,[]=>some x|x,y::l=>(f x y).bind λz=>Hf f z l
def rO(P:Program)(T:cW)(fr:Fr)(c:Call):Option AV:=
 match c.callee with
 |.builtin .len=>match c.argTypes[0]?,c.args[0]?with
  |some t,some x=>Dp P t (ev T fr x)|_,_=>none
 |.builtin .max=>match c.args.toList with
  |x::l=>Hf M7 (ev T fr x) (l.map (ev T fr))|[]=>none
 |.builtin .min=>match c.args.toList with
  |x::l=>Hf MS (ev T fr x) (l.map (ev T fr))|[]=>none
 |_=>none
def Dx(P:Program)(t:TypeId)(x:AV):Option AV:=
 match x with
 |.iface a v=>match P.underlying t with
  |some (.interface _)=>none|some _=>if a=t then some (.tuple [v,.sc (.bool true)])else match zeroOf P t with
   |some z=>if vR z then some (.tuple [ofValue z,.sc (.bool false)])else none|none=>none
  |none=>none
 |_=>none
def vb(P:Program)(T:cW)(fr:Fr)(o:Oper):Option AV:=
 match o.op with
 |.typeAssert x _ t true=>Dx P t (ev T fr x)|.move x=>some (ev T fr x)|.assign x=>some (ev T fr x)|.pick c a b=>match ev T fr c with
  |.sc (.bool t)=>some (if t then ev T fr a else ev T fr b)|_=>none
 |.build t ps=>BC P t (ps.toList.map λp=>(p.1,ev T fr p.2))|.binOp op t x y _=>CM P op t y (ev T fr x) (ev T fr y)|.unOp op _ x=>XO op (ev T fr x)|.convert s d x=>Jg P s d (ev T fr x)|.makeFunc fn f c=>some (.func fn (f.toList.map λx=>(ev T fr x).norm) (c.toList.map λx=>(ev T fr x).norm))|.fieldAddr t x i=>qH P t (ev T fr x) i|.field t x i=>BD P t (ev T fr x) i|.indexAddr t x i=>gl P t (ev T fr x) (ev T fr i)|.index t x i=>EJ P t (ev T fr x) (ev T fr i)|.slice t x lo hi e=>vV P t (ev T fr x) (lo.map (ev T fr)) (hi.map (ev T fr)) (e.map (ev T fr))|.extract x i=>match ev T fr x with
  |.tuple vs=>vs[i]?|_=>none
 |.nilCheck x=>match ev T fr x with
  |.func (.func f) a b=>some (.func (.func f) a b)|x=>if AG x then some x else none
 |.makeInterface t x=>if P.concrete t then some (.iface t (ev T fr x).norm)else none|.call c=>rO P T fr c|_=>none
section
variable{P:Program} {T:cW} {F:jf} {ρ:Maps} {fr:Fr} {a:Act}
def JG(w:World){t j:TypeId}{x r:AV}{u:Value}(h:Dx P t x=some r)(l:ej F ρ x u):∃v,(Instr.typeAssert u j t true).run P w=.ok v w/\ej F ρ r v:=by
 unfold Dx at h
 split at h
 ·rename_i c v
  obtain⟨b,rfl,m⟩:∃b,u=.iface c b/\eE F ρ.G ρ.n v b:=by
   cases l with
   |cell h=>cases h with
    |p h=>cases h with|iface h=>exact⟨_,rfl,h⟩
  split at h
  ·cases h
  ·rename_i ty d hu
   have k:(Instr.typeAssert (.iface c b) j t true).run P w=(if c=t then(pure (.tuple #[b,.bool true]):Sem Value)else do pure (.tuple #[<-zeroValue t,.bool false])).run P w:=by
    unfold Instr.typeAssert;simp only[eS,run_underlying hu,gH]
    cases ty<;>first|rfl|exact absurd rfl (d _)
   split at h
   ·rename_i e;subst e;cases h;refine⟨_,by rw[k,bX rfl];rfl,.p ?_⟩;exact .tuple (vs:=[b,.bool true]) (.cons m (.cons (.sc rfl) .nil))
   ·rename_i f
    split at h
    ·rename_i z a
     split at h
     ·rename_i o;cases h;refine⟨.tuple #[z,.bool false],?_,.p ?_⟩
      ·rw[k,bV f]
       have g:(zeroValue t).run P w=.ok z w:=by
        unfold zeroOf at a;cases hi:P.info? t with
        |none=>rw[hi] at a;cases a
        |some i=>
         rw[hi] at a;have a:i.zero=some z:=a;simp[zeroValue,typeInfo,hi,a]
       simp only[eS,g,gH];rfl
      ·exact .tuple (vs:=[z,.bool false]) (.cons (v_ _ _ _ z o) (.cons (.sc rfl) .nil))
     ·cases h
    ·cases h
  ·cases h
 ·cases h
def Dw(he:qn F ρ fr a)(b:vQ T F ρ):∀(xs:List Operand),(∀x∈xs,gE x=true)->eM (ej F ρ) (xs.map (ev T fr)) (xs.map a.eval)
 |[],_=>.nil|x::xs,h=>.cons (eg he b x (h x th)) (Dw he b xs λy hy=>h y (by simp[hy]))
def Eu(he:qn F ρ fr a)(b:vQ T F ρ)(xs:List Operand)(h:∀x∈xs,gE x=true):eT F ρ.G ρ.n (xs.map λx=>(ev T fr x).norm) (xs.map a.eval):=by
 have:=(Dw he b xs h).uX AV.norm λ_ _ _ h=>ej.norm h;rw[CW] at this;exact .m6 this
def Ft(he:qn F ρ fr a)(b:vQ T F ρ):∀(ps:List (Nat×Operand)),(∀p∈ps,gE p.2=true)->eM (λ(x:Nat×AV) (y:Nat×Value)=>x.1=y.1/\ej F ρ x.2 y.2) (ps.map λp=>(p.1,ev T fr p.2)) (ps.map λp=>(p.1,a.eval p.2))
 |[],_=>.nil|p::ps,h=>.cons ⟨rfl,eg he b p.2 (h p th)⟩ (Ft he b ps λq c=>h q (by simp[c]))
def Mi(he:qn F ρ fr a)(b:vQ T F ρ)(x:Option Operand)(h:∀y,x=some y->gE y=true):xi F ρ (x.map (ev T fr)) (x.map a.eval):=by
 cases x with
 |none=>trivial|some y=>exact eg he b y (h y rfl)
def KA{v:Value}(h:ej F ρ .B4 v):∃base,v=.slice base 0 0:=by
 cases h with
 |cell h=>cases h with
  |p h=>cases h with|B4=>exact⟨_,rfl⟩
def RC(w:World){t ty:TypeId}{x r:AV}{u:Value}(h:Dp P t x=some r)(a:ej F ρ x u){ts:Array TypeId}{us:Array Value}(c:ts[0]?=some t)(d:us[0]?=some u):∃v,(Builtin.len_ ts ty us).run P w=.ok v w/\ej F ρ r v:=by
 unfold Dp at h;unfold Builtin.len_;simp only[c,d]
 split at h
 ·rename_i e tag l hu;cases h;obtain⟨base,cap,b,o,sz,vs,rfl,hs,_,_⟩:=lq a;exact⟨_,by simp only[eS,run_underlying hu,gH];rfl,.p (.sc rfl)⟩
 ·rename_i e b g len cap hu;cases h;obtain⟨rfl,_,_,_⟩:=xQ a;exact⟨_,by simp only[eS,run_underlying hu,gH];rfl,.p (.sc rfl)⟩
 ·rename_i e hu;cases h;obtain⟨base,rfl⟩:=KA a;exact⟨_,by simp only[eS,run_underlying hu,gH];rfl,.p (.sc rfl)⟩
 ·rename_i e b len cap hu;cases h;obtain⟨rfl,_,_,_⟩:=E6 a;exact⟨_,by simp only[eS,run_underlying hu,gH];rfl,.p (.sc rfl)⟩
 ·rename_i s hu;cases h;cases dS a;exact⟨_,by simp only[eS,run_underlying hu,gH];rfl,.p (.sc rfl)⟩
 ·rename_i n e hu;cases h;exact⟨_,by simp only[eS,run_underlying hu,gH];rfl,.p (.sc rfl)⟩
 ·cases h
def Hm(w:World){f:AV->AV->Option AV}{g:Value->Value->Sem Value}(j:∀x y r u v,f x y=some r->ej F ρ x u->ej F ρ y v->∃z,(g u v).run P w=.ok z w/\ej F ρ r z):∀(l:List AV) (x r:AV) (u:Value) (us:List Value),Hf f x l=some r->ej F ρ x u->eM (ej F ρ) l us->∃z,(us.foldlM g u).run P w=.ok z w/\ej F ρ r z:=by
 intro l
 induction l with
 |nil=>
  intro x r u us h a b;cases b;cases h;exact⟨u,rfl,a⟩
 |cons y l k=>
  intro x r u us h a b;cases b with
  |cons m n=>
   simp only[Hf,Wc] at h;obtain⟨z,o,h⟩:=h;obtain⟨q,c,d⟩:=j _ _ _ _ _ o a m;obtain⟨p,e,i⟩:=k _ _ _ _ h d n;exact⟨p,by simp only[List.foldlM_cons,eS,c,gH,e],i⟩
def Qf(w:World)(x y r:AV)(u v:Value)(h:M7 x y=some r)(a:ej F ρ x u)(hy:ej F ρ y v):∃z,(Builtin.max2 u v).run P w=.ok z w/\ej F ρ r z:=by
 unfold M7 at h
 split at h
 ·cases dS a;cases dS hy;cases h;exact⟨_,rfl,.p (.sc rfl)⟩
 ·cases h
def RD(w:World)(x y r:AV)(u v:Value)(h:MS x y=some r)(a:ej F ρ x u)(hy:ej F ρ y v):∃z,(Builtin.min2 u v).run P w=.ok z w/\ej F ρ r z:=by
 unfold MS at h
 split at h
 ·cases dS a;cases dS hy;cases h;exact⟨_,rfl,.p (.sc rfl)⟩
 ·cases h
def Lx(w:World){xs g:List AV}{us vs:List Value}(m:eM (hO F ρ) xs us)(o1:∀c∈xs,c.dW=true)(n:eM (hO F ρ) g vs)(o2:∀c∈g,c.dW=true):∀(fs:List Field) (b:Bool),uj P fs xs g=some b->(Op.eqFields 9999 us.toArray vs.toArray fs).run P w=.ok b w:=by
 intro fs
 induction fs with
 |nil=>intro b h;simp[uj] at h;subst h;rfl
 |cons f fs l=>
  intro b h;unfold uj at h;unfold Op.eqFields
  split at h
  ·rename_i hn;rw[bV (by simpa using hn)];exact l b h
  ·rename_i hn;rw[bX (by simpa using hn)]
   have step:∀{x y:Value} {r:Bool},kD P f.type xs f.offset=some (.sc x)->kD P f.type g f.offset=some (.sc y)->(Op.equalIn 9999 f.type x y).run P w=.ok r w->(uj P fs xs g).map (λq=>r&&q)=some b->(do
      let a<-part f.type us.toArray f.offset
      let b<-part f.type vs.toArray f.offset
      let r<-Op.equalIn 9999 f.type a b
      if(!r) then pure false else Op.eqFields 9999 us.toArray vs.toArray fs:Sem Bool).run P w=.ok b w:=by
    intro x y r e hy o d;obtain⟨A,p,s⟩:=zV (P:=P) w m o1 e;obtain⟨B,t,u⟩:=zV (P:=P) w n o2 hy;obtain rfl:=dS s;obtain rfl:=dS u;simp only[eS,p,t,o,gH];cases j:uj P fs xs g with
    |none=>rw[j] at d;cases d
    |some q=>
     rw[j] at d;simp only[NG,uv] at d;cases r
     ·simp at d;subst d;rfl
     ·simp at d;subst d;simpa using l q j
   split at h
   ·rename_i k v a k2 i hu e hy
    split at h
    ·rename_i z;subst z;exact step e hy (run_equalIn_int w 9998 f.type v k a i hu) h
    ·cases h
   ·rename_i a i hu e hy;exact step e hy (run_equalIn_string w 9998 f.type a i hu) h
   ·rename_i a i hu e hy;exact step e hy (run_equalIn_bool' w 9998 f.type a i hu) h
   ·cases h
def Nd(P:Program)(w:World){t:TypeId}{ms:Array (String×TypeId)}(hu:P.underlying t=some (.interface ms)):(binOp .eql t .nilIface .nilIface).run P w=.ok (.bool true) w/\(binOp .neq t .nilIface .nilIface).run P w=.ok (.bool false) w:=by
 have h:∀d,(Op.equalIn (d+1) t .nilIface .nilIface).run P w=.ok true w:=λd=>by simp[Op.equalIn,run_underlying hu]
 have a:binOp .eql t .nilIface .nilIface=(do pure (.bool (<-Op.equalIn (9999+1) t .nilIface .nilIface))):=rfl;have b:binOp .neq t .nilIface .nilIface=(do pure (.bool (!(<-Op.equalIn (9999+1) t .nilIface .nilIface)))):=rfl;rw[a,b,eS,eS,h 9999];exact⟨rfl,rfl⟩
def QO(w:World){op:BinOp}{t:TypeId}{x y r:AV}{u v:Value}(h:mV P op t x y=some r)(e:ej F ρ x u)(hy:ej F ρ y v):∃z,(binOp op t u v).run P w=.ok z w/\r=.sc z/\vO z=true/\∀a b,(eqGuard op t a b u v).run P w=.ok () w:=by
 have agg:∀{xs i:List AV} {b:Bool},GK P t xs i=some b->ej F ρ (.agg xs) u->ej F ρ (.agg i) v->∃us vs:List Value,u=.agg us.toArray/\v=.agg vs.toArray/\(Op.equalIn (9999+1) t u v).run P w=.ok b w/\P.eqGuardType P.depth t=false:=by
  intro xs i b c e hy;obtain⟨us,rfl,u1,u2⟩:=AX e;obtain⟨vs,rfl,v1,v2⟩:=AX hy;unfold GK at c
  split at c
  ·rename_i fs hu
   split at c
   ·rename_i d;simp only[Y0,ed,Tq] at d
    have k:P.fieldsOf t=fs:=by simp[Program.fieldsOf,hu]
    refine⟨us,vs,rfl,rfl,?_,d.1⟩;rw[run_equalIn_struct w 9999 t us.toArray vs.toArray (by rw[k];exact hu) d.2,k];exact Lx w u1 u2 v1 v2 _ _ c
   ·cases c
  ·cases c
 unfold mV at h
 split at h
 ·cases c:GK P t _ _ with
  |none=>rw[c] at h;cases h
  |some b=>
   rw[c] at h;cases h;obtain⟨us,vs,rfl,rfl,f,g⟩:=agg c e hy;refine⟨.bool b,?_,rfl,rfl,λa b=>?_⟩
   ·have j:binOp .eql t (.agg us.toArray) (.agg vs.toArray)=(do pure (.bool (<-Op.equalIn (9999+1) t (.agg us.toArray) (.agg vs.toArray)))):=rfl;rw[j,eS,f];rfl
   ·simp[eqGuard,g,Result.andThen]
 ·cases c:GK P t _ _ with
  |none=>rw[c] at h;cases h
  |some b=>
   rw[c] at h;cases h;obtain⟨us,vs,rfl,rfl,f,g⟩:=agg c e hy;refine⟨.bool !b,?_,rfl,rfl,λa b=>?_⟩
   ·have j:binOp .neq t (.agg us.toArray) (.agg vs.toArray)=(do pure (.bool (!(<-Op.equalIn (9999+1) t (.agg us.toArray) (.agg vs.toArray))))):=rfl;rw[j,eS,f];rfl
   ·simp[eqGuard,g,Result.andThen]
 ·obtain⟨z,f,g,l,m⟩:=NI P w h e hy;exact⟨z,f,g,l,λa b=>JA P w op t a b m⟩
def Cz{G:Nat->Nat}{n:Nat}:∀{a:List Int} {vs:List Value},eT F G n (a.map (λn=>AV.sc (.int .u8 n))) vs->vs=a.map (Value.int .u8)
 |[],_,.nil=>rfl|n::a,_,.cons b c=>by
  cases b;rw[Cz c];rfl
def Aw:∀{l:List AV} {a:List Int},EK l=some a->l.flatMap AV.cells=a.map (λn=>AV.sc (.int .u8 n))/\l.length=a.length
 |[],a,h=>by simp[EK] at h;subst h;exact⟨rfl,rfl⟩
 |x::l,a,h=>by
  unfold EK at h
  split at h
  ·rename_i e;cases e
  ·rename_i n f e;injection e with b c;subst b;subst c;simp only[Sb] at h;obtain⟨ms,d,rfl⟩:=h;obtain⟨i1,i2⟩:=Aw d;exact⟨by simp[AV.cells,i1],by simp[i2]⟩
  ·cases h
def zr(w:World)(H:∀b o v,F b o=some v->w.cell? ⟨b,o,none⟩=some v)(he:qn F ρ fr a)(k:vQ T F ρ){o:Oper}{r:AV}(I:o.op.operands.all gE=true)(h:vb P T fr o=some r):∃v,(execOp a.eval o).run P w=.ok (.value v) w/\ej F ρ r v:=by
 obtain⟨dst,op,type,pos,after,guard⟩:=o;have g:∀x∈op.operands,gE x=true:=λx j=>F1.1 I x j;clear I
 have lift:∀{s:Sem Value},(∃v,s.run P w=.ok v w/\ej F ρ r v)->∃v,((do pure (.value (<-s))):Sem Next).run P w=.ok (.value v) w/\ej F ρ r v:=by
  rintro s ⟨v,A,C⟩;exact⟨v,by rw[eS,A];rfl,C⟩
 cases op<;>simp only[vb] at h<;>simp only[Op.operands] at g<;>simp only[execOp]
 case move x=>cases h;exact⟨_,rfl,eg he k x (g x th)⟩
 case assign x=>cases h;exact⟨_,rfl,eg he k x (g x th)⟩
 case pick c x y=>
  split at h
  ·rename_i t n;cases h;have J:=eg he k c (g c th);rw[n] at J;have L:=dS J;refine⟨if t then a.eval x else a.eval y,?_,?_⟩
   ·rw[L];rfl
   ·cases t
    ·exact eg he k y (g y th)
    ·exact eg he k x (g x th)
  ·cases h
 case build t ps=>
  refine lift ?_;have B:=Ft he k ps.toList λp B=>g p.2 (by simp;exact⟨p.1,by simpa using B⟩);have:=run_build (P:=P) w h B
  have e:(ps.toList.map λp=>(p.1,a.eval p.2)).toArray=ps.map λp=>(p.1,a.eval p.2):=by rw[<-I6,MI]
  rw[e] at this;exact this
 case binOp op t x y Z=>
  obtain⟨z,q,D,M,N⟩:∃z,(binOp op t (a.eval x) (a.eval y)).run P w=.ok z w/\r=.sc z/\vO z=true/\(eqGuard op t x y (a.eval x) (a.eval y)).run P w=.ok () w:=by
   have j:=eg he k x (g x th);have hy:=eg he k y (g y th);change CM P op t y (ev T fr x) (ev T fr y)=some r at h;generalize ev T fr x=u at h j;generalize ev T fr y=v at h hy;unfold CM at h
   split at h
   ·have j:=dS j;rw[j]
    split at h
    ·rename_i hu;cases h;exact⟨.bool true,(Nd P w hu).1,rfl,rfl,by simp[eqGuard,Act.eval]⟩
    ·rename_i hu;cases h;exact⟨.bool false,(Nd P w hu).2,rfl,rfl,by simp[eqGuard,Act.eval]⟩
    ·cases h
   ·obtain⟨z,q,D,M,N⟩:=QO (P:=P) w h j hy;exact⟨z,q,D,M,N _ _⟩
  subst D;refine⟨z,?_,.p (.sc M)⟩;simp only[eS,N,gH,q];rfl
 case unOp op t x=>
  refine lift ?_;have j:=eg he k x (g x th);generalize a.eval x=u at j|-;unfold XO at h
  split at h
  ·rename_i n;rw[n] at j;cases dS j;cases h;exact⟨_,by simp[Op.unary,Op.intArith],.p (.sc rfl)⟩
  ·rename_i n;rw[n] at j;cases dS j;cases h;exact⟨_,by simp[Op.unary],.p (.sc rfl)⟩
  ·cases h
 case convert s d x=>
  refine lift ?_;have j:=eg he k x (g x th);generalize a.eval x=u at j|-;unfold Jg at h
  split at h
  ·rename_i tag l n;unfold Ud at h
   split at h
   ·rename_i e hs E
    split at h
    ·rename_i K hu O;cases h;rw[n] at j;obtain⟨S,hlen⟩:=Aw O;obtain⟨base,cap,b,o,sz,vs,rfl,G,_,_⟩:=lq j;refine⟨.string (strOfNums K),?_,.p (.sc rfl)⟩
     have Q:vs=K.map (Value.int .u8):=by
      have B:=G.cells;rw[S] at B;exact Cz B
     by_cases hn:l=[]
     ·subst hn;have R:K=[]:=yD (by simpa using hlen.symm);subst R;cases base with
      |none=>exact run_convert_bytes_nil w s e hs hu 0 cap d E|some U=>
       obtain⟨V,W,X⟩:=U;show(convert s d (.slice (some ⟨V,W,X⟩) 0 cap)).run P w=_;rw[run_convert_bytes_string w s d e _ 0 cap hs hu E,run_bytesToString w _ 0 cap [] (by simp[loadCells,loadCellsFrom])];rfl
     ·rw[G.base hn];refine run_convert_bytes_arg w s e hs hu b o l.length cap K hlen.symm (λi hi=>?_) d E;refine H b (o+i) _ (G.has i _ ?_);rw[Q,rS,lV cw];simp[List.getD,lV (show i<K.length by omega)]
    ·cases h
   ·cases h
  ·unfold PS at h
   split at h
   ·rename_i hs E n;rw[n] at j;cases dS j;cases h;refine⟨_,?_,.p (.sc rfl)⟩;unfold convert;simp only[eS,run_underlying hs,run_underlying E,gH];rfl
   ·rename_i hs E n;rw[n] at j;cases dS j;cases h;refine⟨_,?_,.p (.sc rfl)⟩;unfold convert;simp only[eS,run_underlying hs,run_underlying E,gH];rfl
   ·cases h
 case makeFunc fn f c=>
  cases h;refine lift ⟨.func fn (f.map a.eval) (c.map a.eval),rfl,?_⟩;have q:=Eu he k f.toList λx j=>g x (by simp[uS.1 j]);have D:=Eu he k c.toList λx j=>g x (by simp[uS.1 j]);have:=eE.func (fn:=fn) q D
  have e:∀l:Array Operand,(l.toList.map a.eval).toArray=l.map a.eval:=λl=>by rw[<-I6,MI]
  rw[e,e] at this;exact .p this
 case fieldAddr t x i=>exact lift (FE w h (eg he k x (g x th)))
 case field t x i=>exact lift (NJ w h (eg he k x (g x th)))
 case indexAddr t x i=>exact lift (FN w h (eg he k x (g x th)) (eg he k i (g i th)))
 case index t x i=>exact lift (OX w h (eg he k x (g x th)) (eg he k i (g i th)))
 case slice t x lo hi Y=>
  exact lift (N' w h (eg he k x (g x th)) (Mi he k lo λy hy=>g y (by simp[hy])) (Mi he k hi λy hy=>g y (by simp[hy]))
   (Mi he k Y λy hy=>g y (by simp[hy])))
 case extract x i=>
  refine lift ?_;have j:=eg he k x (g x th)
  split at h
  ·rename_i vs n;rw[n] at j;obtain⟨us,hu,C⟩:=Li j;obtain⟨v,A,B⟩:=C.get h;refine⟨v,?_,.p B⟩;rw[hu];simp[Instr.extract,A]
  ·cases h
 case nilCheck x=>
  have j:=eg he k x (g x th)
  split at h
  ·rename_i f b c n;cases h;rw[n] at j;obtain⟨vf,vc,A,_,_⟩:=yk j;refine⟨a.eval x,?_,j⟩;rw[A];rfl
  ·rename_i n
   split at h
   ·rename_i B;cases h;obtain⟨b,O⟩:=BU B j;refine⟨a.eval x,?_,j⟩;rw[O];rfl
   ·cases h
 case makeInterface t x=>
  refine lift ?_
  split at h
  ·rename_i n;cases h;exact⟨_,run_makeInterface w t _ n,.p (.iface (eg he k x (g x th)).norm)⟩
  ·cases h
 case typeAssert x xt t ok=>
  cases ok with
  |true=>exact lift (JG w h (eg he k x (g x th)))|false=>cases h
 case call c=>
  obtain⟨callee,args,argTypes⟩:=c;have m:∀x∈args.toList,gE x=true:=λx j=>g x (by simp[Call.operands,uS.1 j]);simp only[rO] at h
  split at h
  ·split at h
   ·rename_i t x q D;simp only[resolve,invoke,builtin,eS,mC,gH];have j:x∈args:=QI D;obtain⟨v,A,C⟩:=RC (P:=P) (ty:=type) w h (eg he k x (m x (uS.2 j))) q (us:=args.map a.eval) (by simp[D]);exact⟨v,by rw[A];rfl,C⟩
   ·cases h
  ·split at h
   ·rename_i x l q;simp only[resolve,invoke,builtin,eS,mC,gH];obtain⟨v,A,C⟩:=Hm w (Qf (P:=P) w) _ _ _ _ _ h (eg he k x (m x (by simp[q]))) (Dw he k l λy hy=>m y (by simp[q,hy]));refine⟨v,?_,C⟩
    have e:(args.map a.eval).toList=a.eval x::l.map a.eval:=by simp[q]
    simp only[Builtin.max_,e,A,gH]
   ·cases h
  ·split at h
   ·rename_i x l q;simp only[resolve,invoke,builtin,eS,mC,gH];obtain⟨v,A,C⟩:=Hm w (RD (P:=P) w) _ _ _ _ _ h (eg he k x (m x (by simp[q]))) (Dw he k l λy hy=>m y (by simp[q,hy]));refine⟨v,?_,C⟩
    have e:(args.map a.eval).toList=a.eval x::l.map a.eval:=by simp[q]
    simp only[Builtin.min_,e,A,gH]
   ·cases h
  ·cases h
 all_goals cases h
end
end Go.jX
namespace Go.jX
open Go
def KR(a:Nat×Nat)(n:Nat):Prop:=a=(0,0)\/n<=a.1
inductive jM (F:jf) (G:Nat->Nat) (n:Nat):List AV->Obj->Prop
 |cells {cs vs ty fz}:KR fz vs.size->eM (eE F G n) cs vs.toList->(∀c∈cs,c.dW=true)->jM F G n cs (.cells vs ty fz)|map {ks xs es clock}:es.toList.map (·.key)=ks->eM (eE F G n) xs (es.toList.map (·.val))->es.toList.map (·.born)=List.range ks.length->clock=ks.length->ks.Nodup->jM F G n [.uJ ks xs] (.map es clock)|iter {o since seen}:o<n->jM F G n [.kH o since seen] (.mapIter (some (G o)) since seen.toArray since)|dead {ob}:jM F G n [] ob
def jM.grow{F F':jf}{G G':Nat->Nat}{n n':Nat}(hg:C8 F F' G G' n n'){cs c}(h:jM F G n cs c):jM F' G' n' cs c:=by
 cases h with
 |cells d a b=>exact .cells d (a.mono λ_ _ _ h=>h.grow hg) b|map a b e f g=>exact .map a (b.mono λ_ _ _ h=>h.grow hg) e f g|iter h=>rw[<-hg.mG _ h];exact .iter (Ou h hg.mn)|dead=>exact .dead
def lT:List AV->Bool
 |[]=>false|c::_=>c.dW
def jM.DA{F:jf}{G:Nat->Nat}{n:Nat}{cs b}(h:jM F G n cs b)(a:lT cs=true):∃vs ty d,b=.cells vs ty d/\KR d vs.size/\eM (eE F G n) cs vs.toList/\∀c∈cs,c.dW=true:=by
 cases h with
 |cells e f g=>exact⟨_,_,_,rfl,e,f,g⟩|map=>simp[lT,AV.dW] at a
 |iter=>simp[lT,AV.dW] at a
 |dead=>simp[lT] at a
def Ek(vs:Array Value):Prop:=∀u∈vs.toList,u.oneCell'=true
structure GW (T:cW) (G:Nat->Nat) (F:jf) (H:cd) (w:World):Prop where
 Ea:∀b o v,F b o=some v->w.cell? ⟨b,o,none⟩=some v
 kq:∀o cs,H[o]?=some cs->∃ob,w.heap[G o]?=some ob/\jM F G H.length cs ob
 inj:∀o o',o<H.length->o'<H.length->G o=G o'->o=o'
 gF:∀o j,o<H.length->H[o]?≠some []->F (G o) j=none
 fresh:∀b j,w.heap.size<=b->F b j=none
 CN:∀g x,T g=some x->eE F G H.length (.ji x) (.pointer (some ⟨g,0,none⟩))
 row:(∀g,T g=none)->∀b o v,F b o=some v->∃vs ty fz,w.heap[b]?=some (.cells vs ty fz)/\KR fz vs.size/\Ek vs
structure Ext (B:Nat) (G:Nat->Nat) (F:jf) (n:Nat) (w:World) (G':Nat->Nat) (F':jf) (n':Nat) (w':World):Prop where
 os:w'.os=w.os
 tape:w'.tape=w.tape
 output:w'.output=w.output
 size:w.heap.size<=w'.heap.size
 len:n<=n'
 hG:∀o,o<n->G' o=G o
 JX:∀o,n<=o->o<n'->B<=G' o
 hF:∀b j,b<B->(∀o,o<n->G o≠b)->F' b j=F b j
 mF:∀b j v,b<B->F b j=some v->F' b j=some v
 heap:∀b,b<B->(∀o,o<n->G o≠b)->w'.heap[b]?=w.heap[b]?
section
variable{B B':Nat} {G G' G'':Nat->Nat} {F F' F'':jf} {n n' n'':Nat} {w w' w'':World}
def Ext.refl:Ext B G F n w G F n w:=⟨rfl,rfl,rfl,fC _,fC _,λ_ _=>rfl,λ_ h a=>absurd a cw,λ_ _ _ _=>rfl,λ_ _ _ _ h=>h,λ_ _ _=>rfl⟩
def Ext.trans(h:Ext B G F n w G' F' n' w')(k:Ext B G' F' n' w' G'' F'' n'' w''):Ext B G F n w G'' F'' n'' w'' where
 os:=k.os.trans h.os
 tape:=k.tape.trans h.tape
 output:=k.output.trans h.output
 size:=Bw h.size k.size
 len:=Bw h.len k.len
 hG o c:=(k.hG o (Ou c h.len)).trans (h.hG o c)
 JX o d e:=by
  rcases rI o n' with h3|h3
  ·rw[k.hG o h3];exact h.JX o d h3
  ·exact k.JX o h3 e
 hF b j a hg:=by
  refine(k.hF b j a λo c=>?_).trans (h.hF b j a hg);rcases rI o n with h3|h3
  ·rw[h.hG o h3];exact hg o h3
  ·have:=h.JX o h3 c;omega
 mF b j v a f:=k.mF b j v a (h.mF b j v a f)
 heap b a hg:=by
  refine(k.heap b a λo c=>?_).trans (h.heap b a hg);rcases rI o n with h3|h3
  ·rw[h.hG o h3];exact hg o h3
  ·have:=h.JX o h3 c;omega
def Ext.mono(h:Ext B G F n w G' F' n' w')(c:B'<=B):Ext B' G F n w G' F' n' w':=
 ⟨h.os,h.tape,h.output,h.size,h.len,h.hG,λo d e=>Bw c (h.JX o d e),λb j a=>h.hF b j cw,λb j v a=>h.mF b j v cw,λb a hg=>h.heap b cw hg⟩
end
inductive mx where
 |free|box (d:Nat)|kq|arr (k:Nat)
 deriving DecidableEq
structure WR (T:cW) (n B0:Nat) (ρ:Maps) (F:jf) (R:Nat->mx) (fr:Fr) (H:cd) (a:Act) (w:World):Prop where
 g:GW T ρ.G F H w
 size:a.tmps.size=n
 defers:a.defers=[]
 env:qn F ρ fr a
 hn:ρ.n=H.length
 lg:∀d,ρ.lg d=fr.gen d
 ag:∀k,ρ.ag k=fr.ds k
 box:∀d cs,fr.box d=some cs->B0<=ρ.L d (fr.gen d)/\R (ρ.L d (fr.gen d))=.box d/\(∀c∈cs,c.dW=true)/\∃vs ty,w.heap[ρ.L d (fr.gen d)]?=some (.cells vs ty (0,0))/\eM (hO F ρ) cs vs.toList
 tok:∀k m,fr.rq k=some m->∀b c sz,ρ.A k (fr.ds k)=some (b,c,sz)->B0<=b/\R b=.arr k/\(0<m/\m<=c)/\c<=maxLen/\(∃vs ty,w.heap[b]?=some (.cells vs ty (0,0))/\vs.size=c*sz/\Ek vs)/\∀j,m*sz<=j->F b j=none
 qi:∀b j v,F b j=some v->∀d,R b≠ .box d
 nQ:∀o,o<H.length->R (ρ.G o)=.kq
 kv:∀b,w.heap.size<=b->R b=.free
 oV:B0<=w.heap.size
section
variable{T:cW} {n B0:Nat} {ρ ρ':Maps} {F F':jf} {R:Nat->mx} {fr:Fr} {H:cd} {a:Act} {w w':World}
def WR.fp(h:WR T n B0 ρ F R fr H a w):vQ T F ρ:=λg x b=>by rw[h.hn];exact h.g.CN g x b
def WR.Z0(h:WR T n B0 ρ F R fr H a w){b j:Nat}{v:Value}(c:F b j=some v):b<w.heap.size:=by
 rcases rI b w.heap.size with h'|h'
 ·exact h'
 ·rw[h.g.fresh b j h'] at c;cases c
def Fr.r5(fr:Fr)(d:Option Nat)(x:AV)(t:Nat):(fr.put d x).env t=if d=some t then x else fr.env t:=by
 cases d with
 |none=>simp[Fr.put]|some d=>
  simp only[Fr.put,eH,uv]
  by_cases h:t=d
  ·subst h;simp
  ·rw[bV h,bV (λa=>h a.symm)]
def Fr.vl(fr:Fr)(d:Option Nat)(x:AV):(fr.put d x).box=fr.box/\(fr.put d x).gen=fr.gen/\(fr.put d x).rq=fr.rq/\(fr.put d x).ds=fr.ds:=by
 cases d<;>exact⟨rfl,rfl,rfl,rfl⟩
def Jw(a:Act)(d:Option Nat)(v:Value)(t:Nat)(c:∀b,d=some b->b<a.tmps.size):(a.put d v).tmps.getD t undef=if d=some t then v else a.tmps.getD t undef:=by
 cases d with
 |none=>simp[Act.put]|some d=>
  have:=c d rfl;simp only[Act.put,uv,H7,Array.getElem?_setIfInBounds]
  by_cases h:d=t
  ·subst h;simp[this]
  ·simp[h]
def qn.put(he:qn F ρ fr a){d:Option Nat}(c:∀b,d=some b->b<a.tmps.size){x:AV}{v:Value}(e:ej F ρ x v):qn F ρ (fr.put d x) (a.put d v):=by
 intro t;rw[Fr.r5,Jw a d v t c]
 split
 ·exact e
 ·exact he t
def zP(a:Act)(d:Option Nat)(v:Value):(a.put d v).tmps.size=a.tmps.size:=by cases d<;>simp[Act.put]
def put_defers(a:Act)(d:Option Nat)(v:Value):(a.put d v).defers=a.defers:=by cases d<;>rfl
def WR.put(h:WR T n B0 ρ F R fr H a w){d:Option Nat}(f:∀b,d=some b->b<n){x:AV}{v:Value}(i:ej F ρ x v):WR T n B0 ρ F R (fr.put d x) H (a.put d v) w:=by
 obtain⟨j,c,k,e⟩:=Fr.vl fr d x;refine⟨h.g,by rw[zP];exact h.size,by rw[put_defers];exact h.defers,h.env.put (by rw[h.size];exact f) i,h.hn,?_,?_,?_,?_,h.qi,h.nQ,h.kv,h.oV⟩
 ·rw[c];exact h.lg
 ·rw[e];exact h.ag
 ·rw[j,c];exact h.box
 ·rw[k,e];exact h.tok
def WR.drew(h:WR T n B0 ρ F R fr H a w):WR T n B0 ρ F R fr H a w.drew:=
 ⟨⟨h.g.Ea,h.g.kq,h.g.inj,h.g.gF,h.g.fresh,h.g.CN,h.g.row⟩,h.size,h.defers,h.env,h.hn,h.lg,h.ag,h.box,h.tok,h.qi,h.nQ,h.kv,h.oV⟩
def nX{w:World}{b:Nat}{o:Obj}(h:w.heap[b]?=some o):b<w.heap.size:=(Ok.1 h).1
def WR.alloc(h:WR T n B0 ρ F R fr H a w)(o:Obj):WR T n B0 ρ F R fr H a (w.alloc o):=by
 have hs:(w.alloc o).heap.size=w.heap.size+1:=World.size_alloc w o;refine⟨⟨?_,?_,h.g.inj,h.g.gF,?_,h.g.CN,?_⟩,h.size,h.defers,h.env,h.hn,h.lg,h.ag,?_,?_,h.qi,h.nQ,?_,by have:=h.oV;omega⟩
 ·intro b j v l;rw[World.cell?_alloc_lt w o ⟨b,j,none⟩ (h.Z0 l)];exact h.g.Ea b j v l
 ·intro t cs u;obtain⟨p,e,f⟩:=h.g.kq t cs u;exact⟨p,(heap_alloc_old w o (nX e)).trans e,f⟩
 ·intro b j x;exact h.g.fresh b j cw
 ·intro y b j v l;obtain⟨vs,ty,z,e,f⟩:=h.g.row y b j v l;exact⟨vs,ty,z,(heap_alloc_old w o (nX e)).trans e,f⟩
 ·intro d cs A;obtain⟨e,f,q,vs,ty,i,r⟩:=h.box d cs A;exact⟨e,f,q,vs,ty,(heap_alloc_old w o (nX i)).trans i,r⟩
 ·intro k m B b c sz C;obtain⟨e,f,q,s,⟨vs,ty,i,r⟩,D⟩:=h.tok k m B b c sz C;exact⟨e,f,q,s,⟨vs,ty,(heap_alloc_old w o (nX i)).trans i,r⟩,D⟩
 ·intro b x;exact h.kv b cw
def qn.grow(he:qn F ρ fr a)(hg:uh F F' ρ ρ'):qn F' ρ' fr a:=λt=>(he t).grow hg
def pI{α:Type}(f:Nat->Nat->α)(i j:Nat)(x:α):Nat->Nat->α:=λa b=>if a=i/\b=j then x else f a b
def WR.Uu(h:WR T n B0 ρ F R fr H a w){b:Nat}{vs:Array Value}{ty:TypeId}{cs:List AV}(K:B0<=b)(q:R b=.free)(hF:∀j,F b j=none)
  (J:w.heap[b]?=some (.cells vs ty (0,0))) (A:eM (hO F ρ) cs vs.toList) (u:∀c∈cs,c.dW=true) {d:Nat} (M:d<n):∃ρ' y,ρ'.G=ρ.G/\WR T n B0 ρ' F y {fr with env:=eH fr.env d (.gJ d (fr.gen d+1) 0),box:=eH fr.box d (some cs),gen:=eH fr.gen d (fr.gen d+1)} H
   (a.put (some d) (.pointer (some ⟨b,0,none⟩))) w:=by
 let ρ':Maps:={ρ with L:=pI ρ.L d (fr.gen d+1) b,lg:=eH ρ.lg d (fr.gen d+1)}
 let y:Nat->mx:=eH R b (.box d)
 have r:uh F F ρ ρ':=by
  refine⟨.refl,λf=>?_,λf g hg=>?_,λ_=>fC _,λ_ _ _=>rfl⟩
  ·show ρ.lg f<=eH ρ.lg d (fr.gen d+1) f;unfold eH
   split
   ·rename_i N;subst N;rw[h.lg];omega
   ·exact fC _
  ·show pI ρ.L d (fr.gen d+1) b f g=ρ.L f g;unfold pI;rw[bV];rintro⟨rfl,rfl⟩;rw[h.lg] at hg;omega
 have l:∀i,R i≠ .free->y i=R i:=by
  intro i s;show eH R b (.box d) i=R i;unfold eH;rw[bV];rintro rfl;exact s q
 refine⟨ρ',y,rfl,?_⟩;refine⟨⟨h.g.Ea,h.g.kq,h.g.inj,h.g.gF,h.g.fresh,h.g.CN,h.g.row⟩,by rw[zP];exact h.size,by rw[put_defers];exact h.defers,?_,h.hn,?_,h.ag,?_,?_,?_,?_,?_,h.oV⟩
 ·have O:=(h.env.grow r).put (d:=some d) (by intro f he;injection he with he;subst he;rw[h.size];exact M) (x:=.gJ d (fr.gen d+1) 0) (v:=.pointer (some ⟨b,0,none⟩))
   (by
    have:=hO.gJ (F:=F) (ρ:=ρ') (b:=d) (g:=fr.gen d+1) (off:=0) (by show _<=eH ρ.lg d (fr.gen d+1) d;simp[eH])
    have e:ρ'.L d (fr.gen d+1)=b:=by show pI ρ.L d (fr.gen d+1) b d (fr.gen d+1)=b;simp[pI]
    rw[e] at this
    exact .cell this)
  exact O
 ·intro f;show eH ρ.lg d (fr.gen d+1) f=eH fr.gen d (fr.gen d+1) f;unfold eH
  split
  ·rfl
  ·exact h.lg f
 ·intro f B p;simp only[eH] at p|-
  by_cases he:f=d
  ·subst he;simp only[if_true] at p|-;cases p
   have e:ρ'.L f (fr.gen f+1)=b:=by show pI ρ.L f (fr.gen f+1) b f (fr.gen f+1)=b;simp[pI]
   rw[e];refine⟨K,?_,u,vs,ty,J,A.mono λ_ _ _ h=>h.grow r⟩;show eH R b (.box f) b=.box f;simp[eH]
  ·simp only[bV he] at p|-;obtain⟨C,z,D,vs',E,P,Q⟩:=h.box f B p
   have e:ρ'.L f (fr.gen f)=ρ.L f (fr.gen f):=by show pI ρ.L d (fr.gen d+1) b f (fr.gen f)=_;simp[pI,he]
   rw[e];exact⟨C,by rw[l _ (by rw[z];simp)];exact z,D,vs',E,P,Q.mono λ_ _ _ h=>h.grow r⟩
 ·intro k m S i c sz U;obtain⟨C,z,D⟩:=h.tok k m S i c sz U;exact⟨C,by rw[l _ (by rw[z];simp)];exact z,D⟩
 ·intro i j v I
  have t:i≠b:=by rintro rfl;rw[hF j] at I;cases I
  have e:y i=R i:=by show eH R b (.box d) i=R i;simp[eH,t]
  rw[e];exact h.qi i j v I
 ·intro o V;have:=h.nQ o V;rw[l _ (by show R (ρ.G o)≠_;rw[this];simp)];exact this
 ·intro i s
  have t:i≠b:=by rintro rfl;have:=nX J;omega
  show eH R b (.box d) i=.free;simp only[eH,bV t];exact h.kv i s
def WR.Nz(h:WR T n B0 ρ F R fr H a w){b:Nat}{C:Obj}{cs:List AV}(l:R b=.free)(hF:∀j,F b j=none)
  (P:w.heap[b]?=some C) (D:jM F ρ.G ρ.n cs C):∃ρ' y,(∀o,o<H.length->ρ'.G o=ρ.G o)/\ρ'.G H.length=b/\ρ'.n=H.length+1/\WR T n B0 ρ' F y fr (H++[cs]) a w:=by
 let ρ':Maps:={ρ with G:=eH ρ.G H.length b,n:=H.length+1}
 let y:Nat->mx:=eH R b .kq
 have hG:∀o,o<H.length->ρ'.G o=ρ.G o:=by
  intro o f;show eH ρ.G H.length b o=ρ.G o;simp only[eH];rw[bV cw]
 have r:C8 F F ρ.G ρ'.G ρ.n ρ'.n:=⟨λ_ _ _ h=>h,by show ρ.n<=H.length+1;rw[h.hn];omega,λo f=>hG o (by rw[h.hn] at f;exact f)⟩;have z:uh F F ρ ρ':=⟨r,λ_=>fC _,λ_ _ _=>rfl,λ_=>fC _,λ_ _ _=>rfl⟩
 have q:C8 F F ρ.G ρ'.G H.length (H++[cs]).length:=by
  have:=r;rw[h.hn] at this;simpa using this
 have p:∀d,R d≠ .free->y d=R d:=by
  intro d s;show eH R b .kq d=R d;unfold eH;rw[bV];rintro rfl;exact s l
 have i:ρ'.G H.length=b:=by show eH ρ.G H.length b H.length=b;simp[eH]
 refine⟨ρ',y,hG,i,rfl,?_⟩;refine⟨⟨h.g.Ea,?_,?_,?_,h.g.fresh,λg x Q=>(h.g.CN g x Q).grow q,h.g.row⟩,h.size,h.defers,h.env.grow z,by show H.length+1=_;simp,h.lg,h.ag,?_,?_,?_,?_,?_,h.oV⟩
 ·intro o t f;rcases rI o H.length with A|hge
  ·rw[ni A] at f;obtain⟨E,h1,h2⟩:=h.g.kq o t f;rw[hG o A];exact⟨E,h1,h2.grow q⟩
  ·have:o=H.length:=by
    have:=(jL.1 f).1;simp at this;omega
   subst this;simp at f;subst f;rw[i];exact⟨C,P,(by have:=D.grow r;simpa using this)⟩
 ·intro o o' f I he;simp at f I
  have key:∀o,o<H.length->ρ'.G o≠b:=by
   intro o f he;rw[hG o f] at he;have:=h.nQ o f;rw[he,l] at this;cases this
  rcases rI o H.length with h1|h1
  ·rcases rI o' H.length with h2|h2
   ·rw[hG o h1,hG o' h2] at he;exact h.g.inj o o' h1 h2 he
   ·have e:o'=H.length:=cw
    subst e;rw[i] at he;exact absurd he (key o h1)
  ·have e:o=H.length:=cw
   subst e;rcases rI o' H.length with h2|h2
   ·rw[i] at he;exact absurd he.symm (key o' h2)
   ·omega
 ·intro o j f B;simp at f;rcases rI o H.length with h1|h1
  ·rw[hG o h1];exact h.g.gF o j h1 (by rw[ni h1] at B;exact B)
  ·have e:o=H.length:=cw
   subst e;rw[i];exact hF j
 ·intro J t K;obtain⟨h1,h2,M,vs',N,S,U⟩:=h.box J t K;exact⟨h1,by rw[p _ (by show R (ρ.L J (fr.gen J))≠_;rw[h2];simp)];exact h2,M,vs',N,S,U.mono λ_ _ _ h=>h.grow z⟩
 ·intro k m V d c sz W;obtain⟨h1,h2,M⟩:=h.tok k m V d c sz W;exact⟨h1,by rw[p _ (by rw[h2];simp)];exact h2,M⟩
 ·intro d j v O
  have u:d≠b:=by rintro rfl;rw[hF j] at O;cases O
  have e:y d=R d:=by show eH R b .kq d=R d;simp[eH,u]
  rw[e];exact h.qi d j v O
 ·intro o f;simp at f;rcases rI o H.length with h1|h1
  ·have:=h.nQ o h1;rw[hG o h1,p _ (by rw[this];simp)];exact this
  ·have e:o=H.length:=cw
   subst e;rw[i];show eH R b .kq b=.kq;simp[eH]
 ·intro d s
  have u:d≠b:=by rintro rfl;have:=nX P;omega
  show eH R b .kq d=.free;simp only[eH,bV u];exact h.kv d s
def WR.VL(h:WR T n B0 ρ F R fr H a w){b:Nat}{vs:Array Value}{ty:TypeId}{cs:List AV}(e:R b=.free)(hF:∀j,F b j=none)
  (m:w.heap[b]?=some (.cells vs ty (0,0))) (i:eM (eE F ρ.G ρ.n) cs vs.toList) (f:∀c∈cs,c.dW=true) {d:Nat} (q:d<n):∃ρ' k,(∀o,o<H.length->ρ'.G o=ρ.G o)/\ρ'.G H.length=b/\WR T n B0 ρ' F k {fr with env:=eH fr.env d (.de H.length 0)} (H++[cs])
   (a.put (some d) (.pointer (some ⟨b,0,none⟩))) w:=by
 obtain⟨ρ',k,hG,g,l,hw⟩:=h.Nz e hF m (.cells (.inl rfl) i f);refine⟨ρ',k,hG,g,hw.put (d:=some d) (by intro r he;injection he with he;subst he;exact q) (x:=.de H.length 0) ?_⟩;have:=eE.de (F:=F) (G:=ρ'.G) (n:=ρ'.n) (o:=H.length) (off:=0) (by rw[l];omega);rw[g] at this;exact .p this
end
def cell_setRow_other(w:World)(g:Nat)(cs:Array Value)(b o:Nat)(h:b≠g):(w.setRow g cs).cell? ⟨b,o,none⟩=w.cell? ⟨b,o,none⟩:=
 World.cell?_of_block (w:=w) (a:=⟨b,o,none⟩) (setRow_other w g b cs h)
def size_setRow(w:World)(g:Nat)(cs:Array Value):(w.setRow g cs).heap.size=w.heap.size:=by simp[World.setRow]
section
variable{T:cW} {n B0:Nat} {ρ:Maps} {F:jf} {R:Nat->mx} {fr:Fr} {H:cd} {a:Act} {w:World}
def WR.QF(h:WR T n B0 ρ F R fr H a w){d:Nat}{cs q:List AV}{vs':Array Value}(N:fr.box d=some cs)(z:eM (hO F ρ) q vs'.toList)(t:∀c∈q,c.dW=true):WR T n B0 ρ F R {fr with box:=eH fr.box d (some q)} H a (w.setRow (ρ.L d (fr.gen d)) vs'):=by
 obtain⟨O,J,W,vs,ty,P,X⟩:=h.box d cs N
 have e:∀b,R b≠ .box d->b≠ρ.L d (fr.gen d):=by
  rintro b r rfl;exact r J
 refine⟨⟨?_,?_,h.g.inj,h.g.gF,?_,h.g.CN,?_⟩,h.size,h.defers,h.env,h.hn,h.lg,h.ag,?_,?_,h.qi,h.nQ,?_,by rw[size_setRow];exact h.oV⟩
 ·intro b o v u;rw[cell_setRow_other]
  ·exact h.g.Ea b o v u
  ·exact e b (h.qi b o v u d)
 ·intro o f K;obtain⟨x,y,s⟩:=h.g.kq o f K;refine⟨x,?_,s⟩;rw[setRow_other]
  ·exact y
  ·refine e _ ?_;rw[h.nQ o (jL.1 K).1];simp
 ·intro b j r;rw[size_setRow] at r;exact h.g.fresh b j r
 ·intro Q b j v u;obtain⟨A,B,C,g1,g2⟩:=h.g.row Q b j v u;exact⟨A,B,C,by rw[setRow_other _ _ _ _ (e b (h.qi b j v u d))];exact g1,g2⟩
 ·intro M f i;simp only[eH] at i
  by_cases he:M=d
  ·subst he;simp only[if_true] at i;cases i;exact⟨O,J,t,vs',ty,setRow_heap w _ vs vs' ty (0,0) P,z⟩
  ·simp only[bV he] at i;obtain⟨y,s,D,l,p,E,G⟩:=h.box M f i;refine⟨y,s,D,l,p,?_,G⟩;rw[setRow_other]
   ·exact E
   ·refine e _ ?_;rw[s];simp[he]
 ·intro k m S b c sz U;obtain⟨y,s,D,I,⟨l,p,E,G⟩,V⟩:=h.tok k m S b c sz U;refine⟨y,s,D,I,⟨l,p,?_,G⟩,V⟩;rw[setRow_other]
  ·exact E
  ·refine e _ ?_;rw[s];simp
 ·intro b r;rw[size_setRow] at r;exact h.kv b r
def WR.Fe(h:WR T n B0 ρ F R fr H a w){o:Nat}{cs s:List AV}{w':World}{t:Obj}(K:H[o]?=some cs)(u:cs≠[])(x:w'.heap.size=w.heap.size)(C:w'.heap[ρ.G o]?=some t)
  (d:∀b,b≠ρ.G o->w'.heap[b]?=w.heap[b]?) (L:jM F ρ.G ρ.n s t):WR T n B0 ρ F R fr (H.set o s) a w':=by
 have f:=(jL.1 K).1;have M:=h.nQ o f
 have D:∀b,R b≠ .kq->b≠ρ.G o:=by
  rintro b q rfl;exact q M
 have B:(H.set o s).length=H.length:=th
 refine⟨⟨?_,?_,?_,?_,?_,?_,?_⟩,h.size,h.defers,h.env,by rw[B];exact h.hn,h.lg,h.ag,?_,?_,h.qi,?_,?_,by rw[x];exact h.oV⟩
 ·intro b o' v y
  have q:b≠ρ.G o:=by
   rintro rfl;rw[h.g.gF o o' f (by rw[K];exactλe=>u (gv e))] at y;cases y
  have e:w'.cell? ⟨b,o',none⟩=w.cell? ⟨b,o',none⟩:=by simp[World.cell?,d b q]
  rw[e];exact h.g.Ea b o' v y
 ·intro o' i E;rw[B]
  by_cases he:o=o'
  ·subst he;simp only[HQ f] at E;cases E;refine⟨t,C,?_⟩;rw[<-h.hn];exact L
  ·rw[w4 he] at E;obtain⟨I,J,z⟩:=h.g.kq o' i E;refine⟨I,?_,z⟩;rw[d]
   ·exact J
   ·exactλe=>he (h.g.inj o' o (jL.1 E).1 f e).symm
 ·rw[B];exact h.g.inj
 ·intro o' j A r;rw[B] at A
  by_cases he:o=o'
  ·subst he;exact h.g.gF o j A (by rw[K];exactλe=>u (gv e))
  ·rw[w4 he] at r;exact h.g.gF o' j A r
 ·intro b j q;rw[x] at q;exact h.g.fresh b j q
 ·rw[B];exact h.g.CN
 ·intro X b j v y;obtain⟨N,O,P,g1,g2⟩:=h.g.row X b j v y;refine⟨N,O,P,?_,g2⟩;rw[d]
  ·exact g1
  ·rintro rfl;rw[h.g.gF o j f (by rw[K];exactλe=>u (gv e))] at y;cases y
 ·intro Y i Q;obtain⟨J,z,S,l,p,U,V⟩:=h.box Y i Q;refine⟨J,z,S,l,p,?_,V⟩;rw[d]
  ·exact U
  ·refine D _ ?_;rw[z];simp
 ·intro k m Z b c sz hA;obtain⟨J,z,S,W,⟨l,p,U,V⟩,e6⟩:=h.tok k m Z b c sz hA;refine⟨J,z,S,W,⟨l,p,?_,V⟩,e6⟩;rw[d]
  ·exact U
  ·refine D _ ?_;rw[z];simp
 ·rw[B];exact h.nQ
 ·intro b q;rw[x] at q;exact h.kv b q
def WR.NF(h:WR T n B0 ρ F R fr H a w){o:Nat}{cs d:List AV}{vs':Array Value}(m:H[o]?=some cs)(e:lT cs=true)(f:eM (eE F ρ.G ρ.n) d vs'.toList)(hlen:d.length=cs.length)(i:∀c∈d,c.dW=true):WR T n B0 ρ F R fr (H.set o d) a (w.setRow (ρ.G o) vs'):=by
 obtain⟨v,p,q⟩:=h.g.kq o cs m;obtain⟨vs,ty,r,rfl,j,k,_⟩:=q.DA e
 have l:vs'.size=vs.size:=by
  have s:=f.length;have t:=k.length;simp only[LO] at s t;omega
 exact h.Fe m (by rintro rfl;simp[lT] at e) (size_setRow w _ _) (setRow_heap w _ vs vs' ty r p) (λb u=>setRow_other w _ b _ u) (.cells (by rw[l];exact j) f i)
end
end Go.jX
