/- Part of the proof of KernelTyped: layer. -/
import Derived.Laws.Build
import Derived.Laws.StructEq
import Derived.Laws.BytesArg
import Derived.Test.YtobcafblgapgfaaGreatDoorL1
set_option linter.all false
namespace Go.m7
open Go
def mA(sz:Nat)(l:List AV):Bool:=
 match l with
 |[]=>true|x::_=>x.cells.length==sz
def vT{sz a:Nat}{l:List AV}(h:mA sz l=true)(hs:∀x∈l,x.cells.length=a):∀x∈l,x.cells.length=sz:=by
 cases l with
 |nil=>simp|cons x l=>
  have b:x.cells.length=sz:=by simpa[mA] using h
  have c:=hs x (by simp);intro y hy;rw[hs y hy,<-c,b]
def LY:Option AV->Option (Option Nat)
 |none=>some none|some (.sc (.int _ n))=>if 0<=n then some (some n.toNat)else none|_=>none
def qj(P:Program)(t:TypeId)(x:AV)(lo hi a:Option AV):Option AV:=
 match LY lo,LY hi,LY a with
 |some lo,some hi,some a=>
  match P.underlying t,x with
  |some (.slice e),.slice _ l=>
   match gy P e with
   |none=>none|some (_,sz)=>
    if hi.getD l.length<=l.length/\lo.getD 0<=hi.getD l.length/\mA sz l=true then
     match a with
     |none=>some (.slice .iP ((l.take (hi.getD l.length)).drop (lo.getD 0)))|some m=>if hi.isSome/\hi.getD l.length<=m/\m<=l.length then some (.slice (if m=hi.getD l.length then .full else .iP) ((l.take (hi.getD l.length)).drop (lo.getD 0)))else none
    else none
  |some .string,.sc (.string s)=>
   if a.isNone/\hi.getD s.size<=s.size/\lo.getD 0<=hi.getD s.size then some (.sc (.string (s.extract (lo.getD 0) (hi.getD s.size))))else none
  |_,_=>none
 |_,_,_=>none
def y9(F:lF)(ρ:Maps):Option AV->Option Value->Prop
 |none,none=>True|some x,some v=>hO F ρ x v|_,_=>False
section
variable{P:Program} {F:lF} {ρ:Maps}
def FH{x:Option AV}{v:Option Value}{r:Option Nat}(h:LY x=some r)(a:y9 F ρ x v):(r=none/\v=none)\/∃k n,v=some (.int k n)/\0<=n/\r=some n.toNat:=by
 unfold LY at h
 split at h
 ·cases v with
  |none=>injection h with h;exact .inl ⟨h.symm,rfl⟩|some v=>exact a.elim
 ·rename_i k n
  split at h
  ·injection h with h;cases v with
   |none=>exact a.elim|some v=>
    cases gK a;exact .inr ⟨k,n,rfl,by assumption,h.symm⟩
  ·cases h
 ·cases h
def qQ(w:World)(k:IntKind)(n:Int)(y:Nat)(c:BoundsCode)(a:0<=n)(b:n.toNat<=y):(Instr.sliceBound (.int k n) y c).run P w=.ok n.toNat w:=by
 unfold Instr.sliceBound;simp only[asIntOf,iu,pE,kf];rw[ee ⟨a,by omega⟩];rfl
def Hr(w:World)(f:Bool){lo hi j:Option AV}{l o p:Option Value}{a h m:Option Nat}{len cap:Nat}
  (q:LY lo=some a) (r:LY hi=some h) (s:LY j=some m) (t:y9 F ρ lo l) (u:y9 F ρ hi o) (v:y9 F ρ j p)
  (hm:m.getD cap<=cap) (d:h.getD len<=m.getD cap) (e:a.getD 0<=h.getD len) (g:m.isSome=true->h.isSome=true):(Instr.sliceBounds f len cap l o p).run P w=.ok (a.getD 0,h.getD len,m.getD cap) w:=by
 rcases FH s v with⟨rfl,rfl⟩|⟨k,n,rfl,hn,rfl⟩<;>rcases FH r u with⟨rfl,rfl⟩|⟨k2,n2,rfl,b,rfl⟩<;>
  rcases FH q t with⟨rfl,rfl⟩|⟨i,n1,rfl,c,rfl⟩<;>simp only[Option.getD_none,Option.getD_some] at hm d e|-<;>
  (first
   |(simp at g;done)
   |(simp only[Instr.sliceBounds,iu,pE,kf];done)
   |(simp only[Instr.sliceBounds,iu,pE,kf,qQ (P:=P) w i n1 _ _ c e];done)
   |(simp only[Instr.sliceBounds,iu,pE,kf,qQ (P:=P) w k2 n2 _ _ b d];done)
   |(simp only[Instr.sliceBounds,iu,pE,kf,qQ (P:=P) w k2 n2 _ _ b d,qQ (P:=P) w i n1 _ _ c e];done)
   |(simp only[Instr.sliceBounds,iu,pE,kf,qQ (P:=P) w k n _ _ hn hm,qQ (P:=P) w k2 n2 _ _ b d];done)
   |(simp only[Instr.sliceBounds,iu,pE,kf,qQ (P:=P) w k n _ _ hn hm,qQ (P:=P) w k2 n2 _ _ b d,qQ (P:=P) w i n1 _ _ c e];done))
def PA(w:World){t:TypeId}{x r:AV}{u:Value}{lo hi R:Option AV}{C D A:Option Value}(h:qj P t x lo hi R=some r)(n:hO F ρ x u)
  (S:y9 F ρ lo C) (T:y9 F ρ hi D) (E:y9 F ρ R A):∃v,(Instr.sliceAt t u C D A).run P w=.ok v w/\hO F ρ r v:=by
 unfold qj at h
 split at h
 ·rename_i a f m U V G
  split at h
  ·rename_i e tag l hu
   split at h
   ·cases h
   ·rename_i ag sz X
    split at h
    ·rename_i H;obtain⟨I,i,j⟩:=H;obtain⟨base,cap,b,o,Y,vs,rfl,hs,_,_⟩:=p_ n;have k:=vT j hs.sz
     have step:∀(g:Nat),g=m.getD cap->g<=cap->f.getD l.length<=g->(m.isSome=true->f.isSome=true)->∀B,(B=Tag.iP\/B=Tag.full/\g=f.getD l.length)->∃v,(Instr.sliceAt t (.slice base l.length cap) C D A).run P w=.ok v w/\hO F ρ (.slice B ((l.take (f.getD l.length)).drop (a.getD 0))) v:=by
      intro g J Z aa K B L;have M:=Hr (P:=P) (F:=F) (ρ:=ρ) w true (len:=l.length) (cap:=cap) U V G S T E (by omega) (by omega) i K
      refine⟨.slice (if g=a.getD 0 then base else base.map (·.add (a.getD 0*sz))) (f.getD l.length-a.getD 0) (g-a.getD 0),?_,?_⟩
      ·unfold Instr.sliceAt;rw[iu,run_underlying hu];simp only[kf];unfold Instr.slice;rw[iu,run_underlying hu];simp only[kf,iu,M,k_ X,pE,<-J]
      ·have hlen:((l.take (f.getD l.length)).drop (a.getD 0)).length=f.getD l.length-a.getD 0:=by
        rw[pZ,yQ];omega
       rw[<-hlen]
       have d:((l.take (f.getD l.length)).drop (a.getD 0)).flatMap AV.cells=((l.flatMap AV.cells).take (f.getD l.length*sz)).drop (a.getD 0*sz):=by
        rw[yz (sz:=sz) (λx n=>k x (DL n)),CM k]
       refine .p (.slice (b:=b) (o:=o+a.getD 0*sz) (sz:=sz) (vs:=(vs.take (f.getD l.length*sz)).drop (a.getD 0*sz)) ?_ ?_ ?_ ?_ ?_ ?_ ?_ ?_)
       ·rw[d];exact(hs.cells.take _).drop _
       ·exact(hs.has.take _).drop _
       ·intro q;have W:0<((l.take (f.getD l.length)).drop (a.getD 0)).length:=Ut.2 q
        have N:l≠[]:=by rintro rfl;simp at q
        rw[ea (by omega),hs.base N];simp[Addr.add_lit]
       ·exactλx n=>k x (DL (HS n))
       ·intro c y;rw[d] at y;exact hs.wN c (DL (HS y))
       ·omega
       ·have:=hs.Dt;omega
       ·rcases L with h|⟨h,h'⟩
        ·exact .inl h
        ·exact .inr ⟨h,by omega⟩
     split at h
     ·cases h;exact step cap rfl (jo _) (by have:=hs.CV;omega) (by simp) .iP (.inl rfl)
     ·rename_i g
      split at h
      ·rename_i z;cases h;have ab:=hs.CV;refine step g rfl (by omega) z.2.1 (λ_=>z.1) _ ?_
       by_cases he:g=f.getD l.length
       ·rw[ee he];exact .inr ⟨rfl,he⟩
       ·rw[ea he];exact .inl rfl
      ·cases h
    ·cases h
  ·rename_i s hu
   split at h
   ·rename_i H;obtain⟨I,i,j⟩:=H;cases h;cases gK n
    have O:m=none:=by cases m<;>simp_all
    subst O
    have Q:A=none:=by
     rcases FH G E with⟨_,h⟩|⟨_,_,_,_,h⟩
     ·exact h
     ·cases h
    subst Q;have M:=Hr (P:=P) (F:=F) (ρ:=ρ) w false (len:=s.size) (cap:=s.size) U V G S T E (by simp) (by simpa using i) j (by simp);refine⟨_,?_,.p (.sc rfl)⟩;unfold Instr.sliceAt;rw[iu,run_underlying hu];simp only[kf];unfold Instr.slice;rw[iu,run_underlying hu];simp only[kf,Option.isSome_none,tY,P5,iu,pE,M]
   ·cases h
  ·cases h
 ·cases h
end
def placesOf(P:Program)(t:TypeId):Option (List (Nat×Nat)):=
 match P.underlying t with
 |some (.struct fs)=>fs.toList.mapM λf=>(P.info? f.type).map λi=>(f.offset,i.size)|_=>none
def hQ(P:Program)(t i:Nat):Option (Nat×Nat):=
 match placesOf P t with
 |some ps=>ps[i]?|none=>match Mh P t with
  |some (_,e)=>(P.info? e).map λf=>(i*f.size,f.size)|none=>none
def fZ:AV->Bool
 |.tuple _=>false|_=>true
def EK(P:Program)(t:TypeId):List AV->List (Nat×AV)->Option (List AV)
 |cs,[]=>some cs|cs,(i,x)::rest=>
  match hQ P t i with
  |some (off,size)=>if x.cells.length=size/\off+size<=cs.length/\fZ x=true then EK P t (setCells cs off x.cells) rest else none|none=>none
def rk(P:Program)(t:TypeId):Option (List AV):=
 match zeroOf P t with
 |some (.agg z)=>if z.all (·.oneCell')=true/\((placesOf P t).isSome\/((Mh P t).bind λp=>P.info? p.2).isSome)then some (z.toList.map qX)else none|_=>none
def DH(P:Program)(t:TypeId)(parts:List (Nat×AV)):Option AV:=
 match rk P t with
 |some z=>(EK P t z parts).map .agg|none=>none
def foldl_set(new:List Value):∀(k off:Nat) (vs:Array Value),off+k+new.length<=vs.size->((new.zipIdx k).foldl (λcs (x:Value×Nat)=>cs.setIfInBounds (off+x.2) x.1) vs).toList=vs.toList.take (off+k)++new++vs.toList.drop (off+k+new.length):=by
 induction new with
 |nil=>intro k off vs h;simp|cons v new b=>
  intro k off vs h;simp only[List.zipIdx_cons,List.foldl_cons,ld] at h|-;rw[b (k+1) off _ (by simp;omega)]
  have a:off+k<vs.toList.length:=by simp;omega
  simp only[Tc]
  have c:(vs.toList.set (off+k) v).take (off+(k+1))=vs.toList.take (off+k)++[v]:=by
    rw[<-Sx,List.take_succ_eq_append_getElem (by simpa using a),List.take_set]
    congr 1
    ·apply List.set_eq_of_length_le;simp[yQ];omega
    ·simp
  have d:(vs.toList.set (off+k) v).drop (off+(k+1)+new.length)=vs.toList.drop (off+k+(new.length+1)):=by
    rw[List.drop_set_of_lt (by omega)]
    congr 1
    omega
  rw[c,d];simp
section
variable{P:Program} {F:lF} {ρ:Maps}
def iA.setCells{R:AV->Value->Prop}{cs new:List AV}{vs nv:List Value}(h:iA R cs vs)(a:iA R new nv)(off:Nat):iA R (setCells cs off new) (vs.take off++nv++vs.drop (off+new.length)):=by
 unfold m7.setCells;exact((h.take off).append a).append (h.drop _)
def je{x:AV}(h:fZ x=true):∀vs,x≠ .tuple vs:=by
 rintro vs rfl;simp[fZ] at h
def Ln{t:TypeId}(place:Nat->Option (Nat×Nat))(A:∀i y,hQ P t i=some y->place i=some y):∀(parts:List (Nat×AV)) (pv:List (Nat×Value)) (cs r:List AV) (vs:Array Value),EK P t cs parts=some r->iA (j8 F ρ) cs vs.toList->(∀c∈cs,c.hZ=true)->iA (λ(x:Nat×AV) (y:Nat×Value)=>x.1=y.1/\hO F ρ x.2 y.2) parts pv->∃ws:Array Value,Instr.fill place vs pv=some ws/\iA (j8 F ρ) r ws.toList/\∀c∈r,c.hZ=true:=by
 intro parts
 induction parts with
 |nil=>
  intro pv cs r vs h f a d;cases d;simp[EK] at h;subst h;exact⟨vs,rfl,f,a⟩
 |cons p parts B=>
  intro pv cs r vs h f a d;obtain⟨i,x⟩:=p;cases d with
  |cons C g=>
   rename_i q pv;obtain⟨j,v⟩:=q;obtain⟨l,o⟩:=C;simp only at l o;subst l;simp only[EK] at h
   split at h
   ·rename_i off size s
    split at h
    ·rename_i D;obtain⟨E,G,m⟩:=D;have b:=o.cells (je m);have hlen:=b.length
     have H:vs.size=cs.length:=by simpa using f.length.symm
     have I:v.cells.toList.length=v.cells.size:=by simp
     have e:=foldl_set v.cells.toList 0 off vs (by simp only[Fc];omega);have gb:=f.setCells b off;rw[hlen] at gb;simp only[Fc] at e;rw[<-e] at gb
     obtain⟨ws,u,w,z⟩:=B pv _ _ _ h gb (by
      intro c n;simp only[m7.setCells,sR] at n;rcases n with(hm|hm)|hm
      ·exact a c (DL hm)
      ·exact o.wN (je m) c hm
      ·exact a c (HS hm)) g
     refine⟨ws,?_,w,z⟩;unfold Instr.fill;rw[A _ _ s]
     have k:(v.cells.size≠size||decide (off+v.cells.size>vs.size))=false:=by
      simp only[Bool.or_eq_false_iff,Y0,ne_eq,Decidable.not_not];constructor<;>omega
     show(if(decide (v.cells.size≠size)||decide (off+v.cells.size>vs.size))=true then none else Instr.fill place (v.cells.zipIdx.foldl (λcs (x:Value×Nat)=>cs.setIfInBounds (off+x.2) x.1) vs) pv)=some ws;rw[ea (by rw[k];simp),<-Uk,aar];exact u
    ·cases h
   ·cases h
def E_(w:World):∀(fs:List Field) (ps:List (Nat×Nat)),(fs.mapM λf=>(P.info? f.type).map λi=>(f.offset,i.size))=some ps->(fs.mapM λf=>(do pure (f.offset,<-sizeOf f.type):Sem (Nat×Nat))).run P w=.ok ps w:=by
 intro fs
 induction fs with
 |nil=>intro ps h;simp at h;subst h;rfl
 |cons f fs d=>
  intro ps h;simp only[ZV,Option.bind_eq_bind,UP] at h;obtain⟨p,a,b,c,h⟩:=h;cases hi:P.info? f.type with
  |none=>rw[hi] at a;cases a
  |some i=>
   rw[hi] at a;simp at a h;subst a;subst h;simp only[ZV,iu,sizeOf,typeInfo,program,Sem.run,hi,kf,pE];have:=d b c;simp only[iu,sizeOf,typeInfo,program] at this;rw[this];rfl
def run_map{α β:Type}(w:World)(f:α->β)(x:Sem α):(Functor.map f x).run P w=(x.run P w).andThen λa w'=>.ok (f a) w':=by
 show(x>>=λa=>pure (f a)).run P w=_;rw[iu];rfl
def run_build(w:World){t:TypeId}{parts:List (Nat×AV)}{r:AV}{pv:List (Nat×Value)}(h:DH P t parts=some r)
  (k:iA (λ(x:Nat×AV) (y:Nat×Value)=>x.1=y.1/\hO F ρ x.2 y.2) parts pv):∃v,(Instr.build t pv.toArray).run P w=.ok v w/\hO F ρ r v:=by
 have h:∃z:Array Value,zeroOf P t=some (.agg z)/\(z.all (·.oneCell')=true/\((placesOf P t).isSome\/((Mh P t).bind λp=>P.info? p.2).isSome))/\(EK P t (z.toList.map qX) parts).map .agg=some r:=by
  unfold DH rk at h
  split at h
  ·rename_i z0 d
   split at d
   ·rename_i z l
    split at d
    ·rename_i u;injection d with d;subst d;exact⟨z,l,u,h⟩
    ·cases d
   ·cases d
  ·cases h
 obtain⟨z,l,u,h⟩:=h
 ·--K literal
  ·obtain⟨A,j⟩:=u;cases E:EK P t (z.toList.map qX) parts with
   |none=>rw[E] at h;cases h
   |some cs=>
    rw[E] at h;cases h
    have B:(zeroValue t).run P w=.ok (.agg z) w:=by
     unfold zeroOf at l;cases hi:P.info? t with
     |none=>rw[hi] at l;cases l
     |some i=>
      rw[hi] at l;simp at l;simp[zeroValue,typeInfo,hi,l]
    have m:∀v∈z.toList,v.oneCell'=true:=λv L=>IS.1 A v (yh.1 L);have C:iA (j8 F ρ) (z.toList.map qX) z.toList:=(ri F ρ.G ρ.n _ m).uM.mono λ_ _ _ h=>.p h
    have D:∀c∈z.toList.map qX,c.hZ=true:=by
     intro c u;obtain⟨a,_,rfl⟩:=oy.1 u;exact yw a
    cases b:placesOf P t with
    |some ps=>
     have H:∃fs,P.underlying t=some (.struct fs)/\(fs.toList.mapM λf=>(P.info? f.type).map λi=>(f.offset,i.size))=some ps:=by
      unfold placesOf at b
      split at b
      ·exact⟨_,by assumption,b⟩
      ·cases b
     obtain⟨fs,hu,hm⟩:=H
     obtain⟨ws,o,q,s⟩:=Ln (P:=P) (F:=F) (ρ:=ρ) (t:=t) (ps.toArray[·]?) (by
      intro i y hy;unfold hQ at hy;rw[b] at hy
      simpa using hy) parts pv _ _ z E C D k
     refine⟨.agg ws,?_,by simpa using hO.agg (vs:=ws.toList) q s⟩;unfold Instr.build;simp only[iu,B,kf,run_underlying hu];have I:=E_ (P:=P) w fs.toList ps hm;rw[<-XW (xs:=fs),NQ,run_map,I];simp only[pE,kf,Value.cells,o]
    |none=>
     cases g:Mh P t with
     |none=>simp[b,g] at j
     |some ne=>
      obtain⟨n,e⟩:=ne
      have hu:P.underlying t=some (.array n e):=by
       unfold Mh at g
       split at g
       ·rename_i hu;cases g;exact hu
       ·cases g
      cases hi:P.info? e with
      |none=>simp[b,g,hi] at j
      |some J=>
       obtain⟨ws,o,q,s⟩:=Ln (P:=P) (F:=F) (ρ:=ρ) (t:=t) (λi=>some (i*J.size,J.size)) (by
        intro i y hy;unfold hQ at hy;rw[b] at hy;simp[g,hi] at hy
        simp[hy]) parts pv _ _ z E C D k
       refine⟨.agg ws,?_,by simpa using hO.agg (vs:=ws.toList) q s⟩;unfold Instr.build;simp only[iu,B,kf,run_underlying hu,sizeOf,typeInfo,program,Sem.run,hi,pE,Value.cells,o]
end
end Go.m7
namespace Go.m7
open Go
def wW(P:Program):List Field->List AV->List AV->Option Bool
 |[],_,_=>some true|f::fs,xs,ys=>
  if f.name= "_" then wW P fs xs ys else
  match P.underlying f.type,m8 P f.type xs f.offset,m8 P f.type ys f.offset with
  |some (.int _),some (.sc (.int k a)),some (.sc (.int k' b))=>if k=k' then(wW P fs xs ys).map λr=>(a==b)&&r else none|some .string,some (.sc (.string a)),some (.sc (.string b))=>(wW P fs xs ys).map λr=>(a.toList==b.toList)&&r|some .bool,some (.sc (.bool a)),some (.sc (.bool b))=>(wW P fs xs ys).map λr=>(a==b)&&r|_,_,_=>none
def Zh(P:Program)(t:TypeId):Bool:=!P.eqGuardType P.depth t&&!P.stoodInHeld t
def JB(P:Program)(t:TypeId)(xs a:List AV):Option Bool:=
 match P.underlying t with
 |some (.struct fs)=>if Zh P t=true then wW P fs.toList xs a else none|_=>none
def oJ(P:Program)(op:BinOp)(t:TypeId)(x y:AV):Option AV:=
 match op,x,y with
 |.eql,.agg xs,.agg a=>(JB P t xs a).map λb=>.sc (.bool b)|.neq,.agg xs,.agg a=>(JB P t xs a).map λb=>.sc (.bool (!b))|op,x,y=>sq P op t x y
def JT(P:Program)(op:BinOp)(t:TypeId):Operand->AV->AV->Option AV
 |.const .nilIface,.sc .nilIface,_=>match op,P.underlying t with
  |.eql,some (.interface _)=>some (.sc (.bool true))|.neq,some (.interface _)=>some (.sc (.bool false))|_,_=>none
 |_,u,v=>oJ P op t u v
def Ge:List AV->Option (List Int)
 |[]=>some []|.sc (.int .u8 n)::l=>(Ge l).map (n:: ·)|_::_=>none
def Vz(P:Program)(s d:TypeId)(l:List AV):Option AV:=
 match P.underlying s,P.underlying d with
 |some (.slice e),some .string=>match P.underlying e,Ge l with
  |some (.int .u8),some a=>some (.sc (.string (strOfNums a)))|_,_=>none
 |_,_=>none
def Rf(P:Program)(s d:TypeId)(x:AV):Option AV:=
 match P.underlying s,P.underlying d,x with
 |some _,some (.int k),.sc (.int _ n)=>some (.sc (.int k (k.wrap n)))|some _,some .string,.sc (.string b)=>some (.sc (.string b))|_,_,_=>none
def SS(P:Program)(s d:TypeId)(x:AV):Option AV:=
 match x with
 |.slice _ l=>Vz P s d l|x=>Rf P s d x
def Ig(P:Program)(t:TypeId)(x:AV):Option AV:=
 match P.underlying t,x with
 |some (.slice _),.slice _ l=>some (.sc (.int .i64 l.length))|some (.slice _),.wM _ _ len _=>some (.sc (.int .i64 len))|some (.slice _),.zz _ _ len _=>some (.sc (.int .i64 len))|some .string,.sc (.string s)=>some (.sc (.int .i64 s.size))|some (.array n _),_=>some (.sc (.int .i64 n))|_,_=>none
def O9:AV->AV->Option AV
 |.sc (.int k a),.sc (.int _ b)=>some (.sc (.int k (if b>a then b else a)))|_,_=>none
def S6:AV->AV->Option AV
 |.sc (.int k a),.sc (.int _ b)=>some (.sc (.int k (if b<a then b else a)))|_,_=>none
def Jj(f:AV->AV->Option AV):AV->List AV->Option AV
 |x,[]=>some x|x,y::l=>(f x y).bind λz=>Jj f z l
def wk(P:Program)(T:fa)(fr:Fr)(c:Call):Option AV:=
 match c.callee with
 |.builtin .len=>match c.argTypes[0]?,c.args[0]?with
  |some t,some x=>Ig P t (ev T fr x)|_,_=>none
 |.builtin .max=>match c.args.toList with
  |x::l=>Jj O9 (ev T fr x) (l.map (ev T fr))|[]=>none
 |.builtin .min=>match c.args.toList with
  |x::l=>Jj S6 (ev T fr x) (l.map (ev T fr))|[]=>none
 |_=>none
def x0(P:Program)(T:fa)(fr:Fr)(o:Oper):Option AV:=
 match o.op with
 |.move x=>some (ev T fr x)|.assign x=>some (ev T fr x)|.pick c a b=>match ev T fr c with
  |.sc (.bool t)=>some (if t then ev T fr a else ev T fr b)|_=>none
 |.build t ps=>DH P t (ps.toList.map λp=>(p.1,ev T fr p.2))|.binOp op t x y _=>JT P op t y (ev T fr x) (ev T fr y)|.unOp op _ x=>Yd op (ev T fr x)|.convert s d x=>SS P s d (ev T fr x)|.makeFunc fn f c=>some (.func fn (f.toList.map λx=>(ev T fr x).norm) (c.toList.map λx=>(ev T fr x).norm))|.fieldAddr t x i=>rI P t (ev T fr x) i|.field t x i=>Bb P t (ev T fr x) i|.indexAddr t x i=>gN P t (ev T fr x) (ev T fr i)|.index t x i=>OB P t (ev T fr x) (ev T fr i)|.slice t x lo hi e=>qj P t (ev T fr x) (lo.map (ev T fr)) (hi.map (ev T fr)) (e.map (ev T fr))|.extract x i=>match ev T fr x with
  |.tuple vs=>vs[i]?|_=>none
 |.nilCheck x=>match ev T fr x with
  |.func (.func f) a b=>some (.func (.func f) a b)|x=>if Cu x then some x else none
 |.makeInterface t x=>if P.concrete t then some (.iface t (ev T fr x).norm)else none|.call c=>wk P T fr c|_=>none
section
variable{P:Program} {T:fa} {F:lF} {ρ:Maps} {fr:Fr} {a:Act}
def FF(he:s8 F ρ fr a)(b:yg T F ρ):∀(xs:List Operand),(∀x∈xs,jY x=true)->iA (hO F ρ) (xs.map (ev T fr)) (xs.map a.eval)
 |[],_=>.nil|x::xs,h=>.cons (hW he b x (h x (by simp))) (FF he b xs λy hy=>h y (by simp[hy]))
def GN(he:s8 F ρ fr a)(b:yg T F ρ)(xs:List Operand)(h:∀x∈xs,jY x=true):hU F ρ.G ρ.n (xs.map λx=>(ev T fr x).norm) (xs.map a.eval):=by
 have:=(FF he b xs h).xm AV.norm λ_ _ _ h=>hO.norm h;rw[Tl] at this;exact .pS this
def GD(he:s8 F ρ fr a)(b:yg T F ρ):∀(ps:List (Nat×Operand)),(∀p∈ps,jY p.2=true)->iA (λ(x:Nat×AV) (y:Nat×Value)=>x.1=y.1/\hO F ρ x.2 y.2) (ps.map λp=>(p.1,ev T fr p.2)) (ps.map λp=>(p.1,a.eval p.2))
 |[],_=>.nil|p::ps,h=>.cons ⟨rfl,hW he b p.2 (h p (by simp))⟩ (GD he b ps λq c=>h q (by simp[c]))
def Oi(he:s8 F ρ fr a)(b:yg T F ρ)(x:Option Operand)(h:∀y,x=some y->jY y=true):y9 F ρ (x.map (ev T fr)) (x.map a.eval):=by
 cases x with
 |none=>trivial|some y=>exact hW he b y (h y rfl)
def Sf(w:World){t ty:TypeId}{x r:AV}{u:Value}(h:Ig P t x=some r)(a:hO F ρ x u){ts:Array TypeId}{us:Array Value}(c:ts[0]?=some t)(d:us[0]?=some u):∃v,(Builtin.len_ ts ty us).run P w=.ok v w/\hO F ρ r v:=by
 unfold Ig at h;unfold Builtin.len_;simp only[c,d]
 split at h
 ·rename_i e tag l hu;cases h;obtain⟨base,cap,b,o,sz,vs,rfl,hs,_,_⟩:=p_ a;exact⟨_,by simp only[iu,run_underlying hu,kf];rfl,.p (.sc rfl)⟩
 ·rename_i e b g len cap hu;cases h;obtain⟨rfl,_,_,_⟩:=zA a;exact⟨_,by simp only[iu,run_underlying hu,kf];rfl,.p (.sc rfl)⟩
 ·rename_i e b len cap hu;cases h;obtain⟨rfl,_,_,_⟩:=GV a;exact⟨_,by simp only[iu,run_underlying hu,kf];rfl,.p (.sc rfl)⟩
 ·rename_i s hu;cases h;cases gK a;exact⟨_,by simp only[iu,run_underlying hu,kf];rfl,.p (.sc rfl)⟩
 ·rename_i n e hu;cases h;exact⟨_,by simp only[iu,run_underlying hu,kf];rfl,.p (.sc rfl)⟩
 ·cases h
def Je(w:World){f:AV->AV->Option AV}{g:Value->Value->Sem Value}(d:∀x y r u v,f x y=some r->hO F ρ x u->hO F ρ y v->∃z,(g u v).run P w=.ok z w/\hO F ρ r z):∀(l:List AV) (x r:AV) (u:Value) (us:List Value),Jj f x l=some r->hO F ρ x u->iA (hO F ρ) l us->∃z,(us.foldlM g u).run P w=.ok z w/\hO F ρ r z:=by
 intro l
 induction l with
 |nil=>
  intro x r u us h a b;cases b;cases h;exact⟨u,rfl,a⟩
 |cons y l e=>
  intro x r u us h a b;cases b with
  |cons i j=>
   simp only[Jj,UP] at h;obtain⟨z,k,h⟩:=h;obtain⟨p,m,c⟩:=d _ _ _ _ _ k a i;obtain⟨q,n,o⟩:=e _ _ _ _ h c j
   simp_all
def Rm(w:World)(x y r:AV)(u v:Value)(h:O9 x y=some r)(a:hO F ρ x u)(hy:hO F ρ y v):∃z,(Builtin.max2 u v).run P w=.ok z w/\hO F ρ r z:=by
 unfold O9 at h
 split at h
 ·cases gK a;cases gK hy;cases h;exact⟨_,rfl,.p (.sc rfl)⟩
 ·cases h
def Si(w:World)(x y r:AV)(u v:Value)(h:S6 x y=some r)(a:hO F ρ x u)(hy:hO F ρ y v):∃z,(Builtin.min2 u v).run P w=.ok z w/\hO F ρ r z:=by
 unfold S6 at h
 split at h
 ·cases gK a;cases gK hy;cases h;exact⟨_,rfl,.p (.sc rfl)⟩
 ·cases h
def Oq(w:World){xs e:List AV}{us vs:List Value}(l:iA (j8 F ρ) xs us)(o1:∀c∈xs,c.hZ=true)(m:iA (j8 F ρ) e vs)(o2:∀c∈e,c.hZ=true):∀(fs:List Field) (b:Bool),wW P fs xs e=some b->(Op.eqFields 9999 us.toArray vs.toArray fs).run P w=.ok b w:=by
 intro fs
 induction fs with
 |nil=>intro b h;simp[wW] at h;subst h;rfl
 |cons f fs n=>
  intro b h;unfold wW at h;unfold Op.eqFields
  split at h
  ·rename_i hn;rw[ea (by simpa using hn)];exact n b h
  ·rename_i hn;rw[ee (by simpa using hn)]
   have step:∀{x y:Value} {r:Bool},m8 P f.type xs f.offset=some (.sc x)->m8 P f.type e f.offset=some (.sc y)->(Op.equalIn 9999 f.type x y).run P w=.ok r w->(wW P fs xs e).map (λq=>r&&q)=some b->(do
      let a<-part f.type us.toArray f.offset
      let b<-part f.type vs.toArray f.offset
      let r<-Op.equalIn 9999 f.type a b
      if(!r)=true then pure false else Op.eqFields 9999 us.toArray vs.toArray fs:Sem Bool).run P w=.ok b w:=by
    intro x y r d hy o i;obtain⟨A,p,s⟩:=C9 (P:=P) w l o1 d;obtain⟨B,t,u⟩:=C9 (P:=P) w m o2 hy;obtain rfl:=gK s;obtain rfl:=gK u;simp only[iu,p,t,o,kf];cases j:wW P fs xs e with
    |none=>rw[j] at i;cases i
    |some q=>
     rw[j] at i;simp only[Z6,s7] at i;cases r
     all_goals simp_all
   split at h
   ·rename_i k v a k2 g hu d hy
    split at h
    ·rename_i z;subst z;exact step d hy (run_equalIn_int w 9998 f.type v k a g hu) h
    ·cases h
   ·rename_i a g hu d hy;exact step d hy (run_equalIn_string w 9998 f.type a g hu) h
   ·rename_i a g hu d hy;exact step d hy (run_equalIn_bool' w 9998 f.type a g hu) h
   ·cases h
def Pw(P:Program)(w:World){t:TypeId}{ms:Array (String×TypeId)}(hu:P.underlying t=some (.interface ms)):(binOp .eql t .nilIface .nilIface).run P w=.ok (.bool true) w/\(binOp .neq t .nilIface .nilIface).run P w=.ok (.bool false) w:=by
 have h:∀d,(Op.equalIn (d+1) t .nilIface .nilIface).run P w=.ok true w:=λd=>by simp[Op.equalIn,run_underlying hu]
 have a:binOp .eql t .nilIface .nilIface=(do pure (.bool (<-Op.equalIn (9999+1) t .nilIface .nilIface))):=rfl;have b:binOp .neq t .nilIface .nilIface=(do pure (.bool (!(<-Op.equalIn (9999+1) t .nilIface .nilIface)))):=rfl;rw[a,b,iu,iu,h 9999];exact⟨rfl,rfl⟩
def S'(w:World){op:BinOp}{t:TypeId}{x y r:AV}{u v:Value}(h:oJ P op t x y=some r)(e:hO F ρ x u)(hy:hO F ρ y v):∃z,(binOp op t u v).run P w=.ok z w/\r=.sc z/\Az z=true/\∀a b,(eqGuard op t a b u v).run P w=.ok () w:=by
 have agg:∀{xs i:List AV} {b:Bool},JB P t xs i=some b->hO F ρ (.agg xs) u->hO F ρ (.agg i) v->∃us vs:List Value,u=.agg us.toArray/\v=.agg vs.toArray/\(Op.equalIn (9999+1) t u v).run P w=.ok b w/\P.eqGuardType P.depth t=false:=by
  intro xs i b c e hy;obtain⟨us,rfl,l,m⟩:=Cz e;obtain⟨vs,rfl,v1,v2⟩:=Cz hy;unfold JB at c
  split at c
  ·rename_i fs hu
   split at c
   ·rename_i d;simp only[Zh,gI,Qm] at d
    have k:P.fieldsOf t=fs:=by simp[Program.fieldsOf,hu]
    refine⟨us,vs,rfl,rfl,?_,d.1⟩;rw[run_equalIn_struct w 9999 t us.toArray vs.toArray (by rw[k];exact hu) d.2,k];exact Oq w l m v1 v2 _ _ c
   ·cases c
  ·cases c
 unfold oJ at h
 split at h
 ·cases c:JB P t _ _ with
  |none=>rw[c] at h;cases h
  |some b=>
   rw[c] at h;cases h;obtain⟨us,vs,rfl,rfl,f,g⟩:=agg c e hy;refine⟨.bool b,?_,rfl,rfl,λa b=>?_⟩
   ·have j:binOp .eql t (.agg us.toArray) (.agg vs.toArray)=(do pure (.bool (<-Op.equalIn (9999+1) t (.agg us.toArray) (.agg vs.toArray)))):=rfl;rw[j,iu,f];rfl
   ·simp[eqGuard,g,Result.andThen]
 ·cases c:JB P t _ _ with
  |none=>rw[c] at h;cases h
  |some b=>
   rw[c] at h;cases h;obtain⟨us,vs,rfl,rfl,f,g⟩:=agg c e hy;refine⟨.bool !b,?_,rfl,rfl,λa b=>?_⟩
   ·have j:binOp .neq t (.agg us.toArray) (.agg vs.toArray)=(do pure (.bool (!(<-Op.equalIn (9999+1) t (.agg us.toArray) (.agg vs.toArray))))):=rfl;rw[j,iu,f];rfl
   ·simp[eqGuard,g,Result.andThen]
 ·obtain⟨z,f,g,n,o⟩:=PM P w h e hy;exact⟨z,f,g,n,λa b=>L6 P w op t a b o⟩
def Ep{G:Nat->Nat}{n:Nat}:∀{a:List Int} {vs:List Value},hU F G n (a.map (λn=>AV.sc (.int .u8 n))) vs->vs=a.map (Value.int .u8)
 |[],_,.nil=>rfl|n::a,_,.cons b c=>by
  cases b;rw[Ep c];rfl
def BP:∀{l:List AV} {a:List Int},Ge l=some a->l.flatMap AV.cells=a.map (λn=>AV.sc (.int .u8 n))/\l.length=a.length
 |[],a,h=>by grind[Ge]|x::l,a,h=>by
  unfold Ge at h
  split at h
  ·rename_i e;cases e
  ·rename_i n c e;injection e with d f;simp only[XT] at h;obtain⟨ms,b,rfl⟩:=h;obtain⟨i1,i2⟩:=BP b
   grind[AV.cells]
  ·cases h
def By(w:World)(H:∀b o v,F b o=some v->w.cell? ⟨b,o,none⟩=some v)(he:s8 F ρ fr a)(k:yg T F ρ){o:Oper}{r:AV}(I:o.op.operands.all jY=true)(h:x0 P T fr o=some r):∃v,(execOp a.eval o).run P w=.ok (.value v) w/\hO F ρ r v:=by
 obtain⟨dst,op,type,pos,after,guard⟩:=o;have g:∀x∈op.operands,jY x=true:=λx j=>IS.1 I x j;clear I
 have lift:∀{s:Sem Value},(∃v,s.run P w=.ok v w/\hO F ρ r v)->∃v,((do pure (.value (<-s))):Sem Next).run P w=.ok (.value v) w/\hO F ρ r v:=by
  rintro s ⟨v,A,C⟩;exact⟨v,by rw[iu,A];rfl,C⟩
 cases op<;>simp only[x0] at h<;>simp only[Op.operands] at g<;>simp only[execOp]
 case move x=>cases h;exact⟨_,rfl,hW he k x (g x (by simp))⟩
 case assign x=>cases h;exact⟨_,rfl,hW he k x (g x (by simp))⟩
 case pick c x y=>
  split at h
  ·rename_i t n;cases h;have J:=hW he k c (g c (by simp));rw[n] at J;have L:=gK J;refine⟨if t then a.eval x else a.eval y,?_,?_⟩
   ·rw[L];rfl
   ·cases t
    ·exact hW he k y (g y (by simp))
    ·exact hW he k x (g x (by simp))
  ·cases h
 case build t ps=>
  refine lift ?_;have B:=GD he k ps.toList λp B=>g p.2 (by simp;exact⟨p.1,by simpa using B⟩);have:=run_build (P:=P) w h B
  have e:(ps.toList.map λp=>(p.1,a.eval p.2)).toArray=ps.map λp=>(p.1,a.eval p.2):=by rw[<-TS,XW]
  rw[e] at this;exact this
 case binOp op t x y Z=>
  obtain⟨z,q,D,M,N⟩:∃z,(binOp op t (a.eval x) (a.eval y)).run P w=.ok z w/\r=.sc z/\Az z=true/\(eqGuard op t x y (a.eval x) (a.eval y)).run P w=.ok () w:=by
   have j:=hW he k x (g x (by simp));have hy:=hW he k y (g y (by simp));change JT P op t y (ev T fr x) (ev T fr y)=some r at h;generalize ev T fr x=u at h j;generalize ev T fr y=v at h hy;unfold JT at h
   split at h
   ·have j:=gK j;rw[j]
    split at h
    ·rename_i hu;cases h;exact⟨.bool true,(Pw P w hu).1,rfl,rfl,by simp[eqGuard,Act.eval]⟩
    ·rename_i hu;cases h;exact⟨.bool false,(Pw P w hu).2,rfl,rfl,by simp[eqGuard,Act.eval]⟩
    ·cases h
   ·obtain⟨z,q,D,M,N⟩:=S' (P:=P) w h j hy;exact⟨z,q,D,M,N _ _⟩
  subst D;refine⟨z,?_,.p (.sc M)⟩;simp only[iu,N,kf,q];rfl
 case unOp op t x=>
  refine lift ?_;have j:=hW he k x (g x (by simp));generalize a.eval x=u at j|-;unfold Yd at h
  split at h
  ·rename_i n;rw[n] at j;cases gK j;cases h;exact⟨_,by simp[Op.unary,Op.intArith],.p (.sc rfl)⟩
  ·rename_i n;rw[n] at j;cases gK j;cases h;exact⟨_,by simp[Op.unary],.p (.sc rfl)⟩
  ·cases h
 case convert s d x=>
  refine lift ?_;have j:=hW he k x (g x (by simp));generalize a.eval x=u at j|-;unfold SS at h
  split at h
  ·rename_i tag l n;unfold Vz at h
   split at h
   ·rename_i e hs E
    split at h
    ·rename_i K hu O;cases h;rw[n] at j;obtain⟨S,hlen⟩:=BP O;obtain⟨base,cap,b,o,sz,vs,rfl,G,_,_⟩:=p_ j;refine⟨.string (strOfNums K),?_,.p (.sc rfl)⟩
     have Q:vs=K.map (Value.int .u8):=by
      have B:=G.cells;rw[S] at B;exact Ep B
     by_cases hn:l=[]
     ·subst hn;have R:K=[]:=CW (by simpa using hlen.symm);subst R;cases base with
      |none=>exact run_convert_bytes_nil w s e hs hu 0 cap d E|some U=>
       obtain⟨V,W,X⟩:=U;show(convert s d (.slice (some ⟨V,W,X⟩) 0 cap)).run P w=_;rw[run_convert_bytes_string w s d e _ 0 cap hs hu E,run_bytesToString w _ 0 cap [] (by simp[loadCells,loadCellsFrom])];rfl
     ·rw[G.base hn];refine run_convert_bytes_arg w s e hs hu b o l.length cap K hlen.symm (λi hi=>?_) d E;refine H b (o+i) _ (G.has i _ ?_);rw[Q,uA,oD (by omega)];simp[List.getD,oD (show i<K.length by omega)]
    ·cases h
   ·cases h
  ·unfold Rf at h
   split at h
   ·rename_i hs E n;rw[n] at j;cases gK j;cases h;refine⟨_,?_,.p (.sc rfl)⟩;unfold convert;simp only[iu,run_underlying hs,run_underlying E,kf];rfl
   ·rename_i hs E n;rw[n] at j;cases gK j;cases h;refine⟨_,?_,.p (.sc rfl)⟩;unfold convert;simp only[iu,run_underlying hs,run_underlying E,kf];rfl
   ·cases h
 case makeFunc fn f c=>
  cases h;refine lift ⟨.func fn (f.map a.eval) (c.map a.eval),rfl,?_⟩;have q:=GN he k f.toList λx j=>g x (by simp[yh.1 j]);have D:=GN he k c.toList λx j=>g x (by simp[yh.1 j]);have:=ib.func (fn:=fn) q D
  have e:∀l:Array Operand,(l.toList.map a.eval).toArray=l.map a.eval:=λl=>by rw[<-TS,XW]
  rw[e,e] at this;exact .p this
 case fieldAddr t x i=>exact lift (Iu w h (hW he k x (g x (by simp))))
 case field t x i=>exact lift (QO w h (hW he k x (g x (by simp))))
 case indexAddr t x i=>exact lift (HO w h (hW he k x (g x (by simp))) (hW he k i (g i (by simp))))
 case index t x i=>exact lift (Qq w h (hW he k x (g x (by simp))) (hW he k i (g i (by simp))))
 case slice t x lo hi Y=>
  exact lift (PA w h (hW he k x (g x (by simp))) (Oi he k lo λy hy=>g y (by simp[hy])) (Oi he k hi λy hy=>g y (by simp[hy]))
   (Oi he k Y λy hy=>g y (by simp[hy])))
 case extract x i=>
  refine lift ?_;have j:=hW he k x (g x (by simp))
  split at h
  ·rename_i vs n;rw[n] at j;obtain⟨us,hu,C⟩:=NV j;obtain⟨v,A,B⟩:=C.get h;refine⟨v,?_,.p B⟩;rw[hu];simp[Instr.extract,A]
  ·cases h
 case nilCheck x=>
  have j:=hW he k x (g x (by simp))
  split at h
  ·rename_i f b c n;cases h;rw[n] at j;obtain⟨vf,vc,A,_,_⟩:=Ab j;refine⟨a.eval x,?_,j⟩;rw[A];rfl
  ·rename_i n
   split at h
   ·rename_i B;cases h;obtain⟨b,O⟩:=D9 B j;refine⟨a.eval x,?_,j⟩;rw[O];rfl
   ·cases h
 case makeInterface t x=>
  refine lift ?_
  split at h
  ·rename_i n;cases h;exact⟨_,run_makeInterface w t _ n,.p (.iface (hW he k x (g x (by simp))).norm)⟩
  ·cases h
 case call c=>
  obtain⟨callee,args,argTypes⟩:=c;have m:∀x∈args.toList,jY x=true:=λx j=>g x (by simp[Call.operands,yh.1 j]);simp only[wk] at h
  split at h
  ·split at h
   ·rename_i t x q D;simp only[resolve,invoke,builtin,iu,pE,kf];have j:x∈args:=ON D;obtain⟨v,A,C⟩:=Sf (P:=P) (ty:=type) w h (hW he k x (m x (yh.2 j))) q (us:=args.map a.eval) (by simp[D]);exact⟨v,by rw[A];rfl,C⟩
   ·cases h
  ·split at h
   ·rename_i x l q;simp only[resolve,invoke,builtin,iu,pE,kf];obtain⟨v,A,C⟩:=Je w (Rm (P:=P) w) _ _ _ _ _ h (hW he k x (m x (by simp[q]))) (FF he k l λy hy=>m y (by simp[q,hy]));refine⟨v,?_,C⟩
    have e:(args.map a.eval).toList=a.eval x::l.map a.eval:=by simp[q]
    simp only[Builtin.max_,e,A,kf]
   ·cases h
  ·split at h
   ·rename_i x l q;simp only[resolve,invoke,builtin,iu,pE,kf];obtain⟨v,A,C⟩:=Je w (Si (P:=P) w) _ _ _ _ _ h (hW he k x (m x (by simp[q]))) (FF he k l λy hy=>m y (by simp[q,hy]));refine⟨v,?_,C⟩
    have e:(args.map a.eval).toList=a.eval x::l.map a.eval:=by simp[q]
    simp only[Builtin.min_,e,A,kf]
   ·cases h
  ·cases h
 all_goals cases h
end
end Go.m7
namespace Go.m7
open Go
def PN(a:Nat×Nat)(n:Nat):Prop:=a=(0,0)\/n<=a.1
inductive mi (F:lF) (G:Nat->Nat) (n:Nat):List AV->Obj->Prop
 |cells {cs vs ty fz}:PN fz vs.size->iA (ib F G n) cs vs.toList->(∀c∈cs,c.hZ=true)->mi F G n cs (.cells vs ty fz)|map {ks xs es clock}:es.toList.map (·.key)=ks->iA (ib F G n) xs (es.toList.map (·.val))->es.toList.map (·.born)=List.range ks.length->clock=ks.length->ks.Nodup->mi F G n [.tZ ks xs] (.map es clock)|iter {o since seen}:o<n->mi F G n [.ns o since seen] (.mapIter (some (G o)) since seen.toArray since)
  |dead {ob}:mi F G n [] ob
def mi.grow{F F':lF}{G G':Nat->Nat}{n n':Nat}(hg:DZ F F' G G' n n'){cs c}(h:mi F G n cs c):mi F' G' n' cs c:=by
 cases h with
 |cells d a b=>exact .cells d (a.mono λ_ _ _ h=>h.grow hg) b|map a b e f g=>exact .map a (b.mono λ_ _ _ h=>h.grow hg) e f g|iter h=>rw[<-hg.mG _ h];exact .iter (Qs h hg.mn)|dead=>exact .dead
def wG:List AV->Bool
 |[]=>false|c::_=>c.hZ
def mi.FE{F:lF}{G:Nat->Nat}{n:Nat}{cs a}(h:mi F G n cs a)(d:wG cs=true):∃vs ty b,a=.cells vs ty b/\PN b vs.size/\iA (ib F G n) cs vs.toList/\∀c∈cs,c.hZ=true:=by
 cases h with
 |cells e f g=>grind|map=>grind[wG,AV.hZ]|iter=>grind[wG,AV.hZ]|dead=>grind[wG]
def GQ(vs:Array Value):Prop:=∀u∈vs.toList,u.oneCell'=true
structure GW (T:fa) (G:Nat->Nat) (F:lF) (H:eD) (w:World):Prop where
 EX:∀b o v,F b o=some v->w.cell? ⟨b,o,none⟩=some v
 mc:∀o cs,H[o]?=some cs->∃ob,w.heap[G o]?=some ob/\mi F G H.length cs ob
 inj:∀o o',o<H.length->o'<H.length->G o=G o'->o=o'
 gF:∀o j,o<H.length->H[o]?≠some []->F (G o) j=none
 fresh:∀b j,w.heap.size<=b->F b j=none
 AO:∀g x,T g=some x->ib F G H.length (.np x) (.pointer (some ⟨g,0,none⟩))
 row:(∀g,T g=none)->∀b o v,F b o=some v->∃vs ty fz,w.heap[b]?=some (.cells vs ty fz)/\PN fz vs.size/\GQ vs
structure Ext (B:Nat) (G:Nat->Nat) (F:lF) (n:Nat) (w:World) (G':Nat->Nat) (F':lF) (n':Nat) (w':World):Prop where
 os:w'.os=w.os
 tape:w'.tape=w.tape
 output:w'.output=w.output
 size:w.heap.size<=w'.heap.size
 len:n<=n'
 hG:∀o,o<n->G' o=G o
 KM:∀o,n<=o->o<n'->B<=G' o
 hF:∀b j,b<B->(∀o,o<n->G o≠b)->F' b j=F b j
 mF:∀b j v,b<B->F b j=some v->F' b j=some v
 heap:∀b,b<B->(∀o,o<n->G o≠b)->w'.heap[b]?=w.heap[b]?
section
variable{B B':Nat} {G G' G'':Nat->Nat} {F F' F'':lF} {n n' n'':Nat} {w w' w'':World}
def Ext.refl:Ext B G F n w G F n w:=⟨rfl,rfl,rfl,jo _,jo _,λ_ _=>rfl,λ_ h a=>absurd a (by omega),λ_ _ _ _=>rfl,λ_ _ _ _ h=>h,λ_ _ _=>rfl⟩
def Ext.trans(h:Ext B G F n w G' F' n' w')(k:Ext B G' F' n' w' G'' F'' n'' w''):Ext B G F n w G'' F'' n'' w'' where
 os:=k.os.trans h.os
 tape:=k.tape.trans h.tape
 output:=k.output.trans h.output
 size:=C7 h.size k.size
 len:=C7 h.len k.len
 hG o c:=(k.hG o (Qs c h.len)).trans (h.hG o c)
 KM o d e:=by
  rcases sH o n' with h3|h3
  ·rw[k.hG o h3];exact h.KM o d h3
  ·exact k.KM o h3 e
 hF b j a hg:=by
  refine(k.hF b j a λo c=>?_).trans (h.hF b j a hg);rcases sH o n with h3|h3
  ·rw[h.hG o h3];exact hg o h3
  ·have:=h.KM o h3 c;omega
 mF b j v a f:=k.mF b j v a (h.mF b j v a f)
 heap b a hg:=by
  refine(k.heap b a λo c=>?_).trans (h.heap b a hg);rcases sH o n with h3|h3
  ·rw[h.hG o h3];exact hg o h3
  ·have:=h.KM o h3 c;omega
theorem Ext.mono(h:Ext B G F n w G' F' n' w')(c:B'<=B):Ext B' G F n w G' F' n' w':=
 ⟨h.os,h.tape,h.output,h.size,h.len,h.hG,λo d e=>C7 c (h.KM o d e),λb j a=>h.hF b j (by omega),λb j v a=>h.mF b j v (by omega),λb a hg=>h.heap b (by omega) hg⟩
end
inductive pX where
 |free|box (d:Nat)|mc|arr (k:Nat)
 deriving DecidableEq
structure WR (T:fa) (n B0:Nat) (ρ:Maps) (F:lF) (R:Nat->pX) (fr:Fr) (H:eD) (a:Act) (w:World):Prop where
 g:GW T ρ.G F H w
 size:a.tmps.size=n
 defers:a.defers=[]
 env:s8 F ρ fr a
 hn:ρ.n=H.length
 lg:∀d,ρ.lg d=fr.gen d
 ag:∀k,ρ.ag k=fr.fN k
 box:∀d cs,fr.box d=some cs->B0<=ρ.L d (fr.gen d)/\R (ρ.L d (fr.gen d))=.box d/\(∀c∈cs,c.hZ=true)/\∃vs ty,w.heap[ρ.L d (fr.gen d)]?=some (.cells vs ty (0,0))/\iA (j8 F ρ) cs vs.toList
 tok:∀k m,fr.tM k=some m->∀b c sz,ρ.A k (fr.fN k)=some (b,c,sz)->B0<=b/\R b=.arr k/\(0<m/\m<=c)/\c<=maxLen/\(∃vs ty,w.heap[b]?=some (.cells vs ty (0,0))/\vs.size=c*sz/\GQ vs)/\∀j,m*sz<=j->F b j=none
 rZ:∀b j v,F b j=some v->∀d,R b≠ .box d
 oz:∀o,o<H.length->R (ρ.G o)=.mc
 mB:∀b,w.heap.size<=b->R b=.free
 rF:B0<=w.heap.size
section
variable{T:fa} {n B0:Nat} {ρ ρ':Maps} {F F':lF} {R:Nat->pX} {fr:Fr} {H:eD} {a:Act} {w w':World}
def WR.jr(h:WR T n B0 ρ F R fr H a w):yg T F ρ:=λg x b=>by rw[h.hn];exact h.g.AO g x b
def WR.aao(h:WR T n B0 ρ F R fr H a w){b j:Nat}{v:Value}(c:F b j=some v):b<w.heap.size:=by
 rcases sH b w.heap.size with h'|h'
 ·exact h'
 ·rw[h.g.fresh b j h'] at c;cases c
theorem Fr.C'(fr:Fr)(d:Option Nat)(x:AV)(t:Nat):(fr.put d x).env t=if d=some t then x else fr.env t:=by
 cases d with
 |none=>simp[Fr.put]|some d=>
  simp only[Fr.put,hS]
  grind
theorem Fr.xX(fr:Fr)(d:Option Nat)(x:AV):(fr.put d x).box=fr.box/\(fr.put d x).gen=fr.gen/\(fr.put d x).tM=fr.tM/\(fr.put d x).fN=fr.fN:=by
 cases d<;>exact⟨rfl,rfl,rfl,rfl⟩
def MS(a:Act)(d:Option Nat)(v:Value)(t:Nat)(c:∀b,d=some b->b<a.tmps.size):(a.put d v).tmps.getD t undef=if d=some t then v else a.tmps.getD t undef:=by
 cases d with
 |none=>simp[Act.put]|some d=>
  simp only[Act.put,Rb]
  grind
theorem s8.put(he:s8 F ρ fr a){d:Option Nat}(c:∀b,d=some b->b<a.tmps.size){x:AV}{v:Value}(e:hO F ρ x v):s8 F ρ (fr.put d x) (a.put d v):=by
 intro t;rw[Fr.C',MS a d v t c]
 split
 ·exact e
 ·exact he t
def Cn(a:Act)(d:Option Nat)(v:Value):(a.put d v).tmps.size=a.tmps.size:=by cases d<;>simp[Act.put]
def put_defers(a:Act)(d:Option Nat)(v:Value):(a.put d v).defers=a.defers:=by cases d<;>rfl
theorem WR.put(h:WR T n B0 ρ F R fr H a w){d:Option Nat}(f:∀b,d=some b->b<n){x:AV}{v:Value}(i:hO F ρ x v):WR T n B0 ρ F R (fr.put d x) H (a.put d v) w:=by
 obtain⟨j,c,k,e⟩:=Fr.xX fr d x;refine⟨h.g,by rw[Cn];exact h.size,by rw[put_defers];exact h.defers,h.env.put (by rw[h.size];exact f) i,h.hn,?_,?_,?_,?_,h.rZ,h.oz,h.mB,h.rF⟩
 ·rw[c];exact h.lg
 ·rw[e];exact h.ag
 ·rw[j,c];exact h.box
 ·rw[k,e];exact h.tok
def WR.drew(h:WR T n B0 ρ F R fr H a w):WR T n B0 ρ F R fr H a w.drew:=
 ⟨⟨h.g.EX,h.g.mc,h.g.inj,h.g.gF,h.g.fresh,h.g.AO,h.g.row⟩,h.size,h.defers,h.env,h.hn,h.lg,h.ag,h.box,h.tok,h.rZ,h.oz,h.mB,h.rF⟩
def pU{w:World}{b:Nat}{o:Obj}(h:w.heap[b]?=some o):b<w.heap.size:=(Nh.1 h).1
def WR.alloc(h:WR T n B0 ρ F R fr H a w)(o:Obj):WR T n B0 ρ F R fr H a (w.alloc o):=by
 have hs:(w.alloc o).heap.size=w.heap.size+1:=World.size_alloc w o;refine⟨⟨?_,?_,h.g.inj,h.g.gF,?_,h.g.AO,?_⟩,h.size,h.defers,h.env,h.hn,h.lg,h.ag,?_,?_,h.rZ,h.oz,?_,by have:=h.rF;omega⟩
 ·intro b j v l;rw[World.cell?_alloc_lt w o ⟨b,j,none⟩ (h.aao l)];exact h.g.EX b j v l
 ·intro t cs u;obtain⟨p,e,f⟩:=h.g.mc t cs u;exact⟨p,(heap_alloc_old w o (pU e)).trans e,f⟩
 ·intro b j x;exact h.g.fresh b j (by omega)
 ·intro y b j v l;obtain⟨vs,ty,z,e,f⟩:=h.g.row y b j v l;exact⟨vs,ty,z,(heap_alloc_old w o (pU e)).trans e,f⟩
 ·intro d cs A;obtain⟨e,f,q,vs,ty,i,r⟩:=h.box d cs A;exact⟨e,f,q,vs,ty,(heap_alloc_old w o (pU i)).trans i,r⟩
 ·intro k m B b c sz C;obtain⟨e,f,q,s,⟨vs,ty,i,r⟩,D⟩:=h.tok k m B b c sz C;exact⟨e,f,q,s,⟨vs,ty,(heap_alloc_old w o (pU i)).trans i,r⟩,D⟩
 ·intro b x;exact h.mB b (by omega)
def s8.grow(he:s8 F ρ fr a)(hg:ur F F' ρ ρ'):s8 F' ρ' fr a:=λt=>(he t).grow hg
def sO{α:Type}(f:Nat->Nat->α)(i j:Nat)(x:α):Nat->Nat->α:=λa b=>if a=i/\b=j then x else f a b
def WR.VK(h:WR T n B0 ρ F R fr H a w){b:Nat}{vs:Array Value}{ty:TypeId}{cs:List AV}(K:B0<=b)(q:R b=.free)(hF:∀j,F b j=none)
  (J:w.heap[b]?=some (.cells vs ty (0,0))) (A:iA (j8 F ρ) cs vs.toList) (u:∀c∈cs,c.hZ=true) {d:Nat} (M:d<n):∃ρ' y,ρ'.G=ρ.G/\WR T n B0 ρ' F y {fr with env:=hS fr.env d (.eC d (fr.gen d+1) 0),box:=hS fr.box d (some cs),gen:=hS fr.gen d (fr.gen d+1)} H
   (a.put (some d) (.pointer (some ⟨b,0,none⟩))) w:=by
 let ρ':Maps:={ρ with L:=sO ρ.L d (fr.gen d+1) b,lg:=hS ρ.lg d (fr.gen d+1)}
 let y:Nat->pX:=hS R b (.box d)
 have r:ur F F ρ ρ':=by
  refine⟨.refl,λf=>?_,λf g hg=>?_,λ_=>jo _,λ_ _ _=>rfl⟩
  ·show ρ.lg f<=hS ρ.lg d (fr.gen d+1) f;unfold hS
   split
   ·rename_i N;subst N;rw[h.lg];omega
   ·exact jo _
  ·show sO ρ.L d (fr.gen d+1) b f g=ρ.L f g;unfold sO;rw[ea];rintro⟨rfl,rfl⟩;rw[h.lg] at hg;omega
 have l:∀i,R i≠ .free->y i=R i:=by
  intro i s;show hS R b (.box d) i=R i;unfold hS;rw[ea];rintro rfl;exact s q
 refine⟨ρ',y,rfl,?_⟩;refine⟨⟨h.g.EX,h.g.mc,h.g.inj,h.g.gF,h.g.fresh,h.g.AO,h.g.row⟩,by rw[Cn];exact h.size,by rw[put_defers];exact h.defers,?_,h.hn,?_,h.ag,?_,?_,?_,?_,?_,h.rF⟩
 ·have O:=(h.env.grow r).put (d:=some d) (by intro f he;injection he with he;subst he;rw[h.size];exact M) (x:=.eC d (fr.gen d+1) 0) (v:=.pointer (some ⟨b,0,none⟩))
   (by
    have:=j8.eC (F:=F) (ρ:=ρ') (b:=d) (g:=fr.gen d+1) (off:=0) (by show _<=hS ρ.lg d (fr.gen d+1) d;simp[hS])
    have e:ρ'.L d (fr.gen d+1)=b:=by show sO ρ.L d (fr.gen d+1) b d (fr.gen d+1)=b;simp[sO]
    rw[e] at this
    exact .cell this)
  exact O
 ·intro f;show hS ρ.lg d (fr.gen d+1) f=hS fr.gen d (fr.gen d+1) f;unfold hS
  split
  ·rfl
  ·exact h.lg f
 ·intro f B p;simp only[hS] at p|-
  by_cases he:f=d
  ·subst he;simp only[if_true] at p|-;cases p
   have e:ρ'.L f (fr.gen f+1)=b:=by show sO ρ.L f (fr.gen f+1) b f (fr.gen f+1)=b;simp[sO]
   rw[e];refine⟨K,?_,u,vs,ty,J,A.mono λ_ _ _ h=>h.grow r⟩;show hS R b (.box f) b=.box f;simp[hS]
  ·simp only[ea he] at p|-;obtain⟨C,z,D,vs',E,P,Q⟩:=h.box f B p
   have e:ρ'.L f (fr.gen f)=ρ.L f (fr.gen f):=by show sO ρ.L d (fr.gen d+1) b f (fr.gen f)=_;simp[sO,he]
   rw[e];exact⟨C,by rw[l _ (by rw[z];simp)];exact z,D,vs',E,P,Q.mono λ_ _ _ h=>h.grow r⟩
 ·intro k m S i c sz U;obtain⟨C,z,D⟩:=h.tok k m S i c sz U;exact⟨C,by rw[l _ (by rw[z];simp)];exact z,D⟩
 ·intro i j v I
  have t:i≠b:=by rintro rfl;rw[hF j] at I;cases I
  have e:y i=R i:=by show hS R b (.box d) i=R i;simp[hS,t]
  rw[e];exact h.rZ i j v I
 ·intro o V;have:=h.oz o V;rw[l _ (by show R (ρ.G o)≠_;rw[this];simp)];exact this
 ·intro i s
  have t:i≠b:=by rintro rfl;have:=pU J;omega
  show hS R b (.box d) i=.free;simp only[hS,ea t];exact h.mB i s
def WR.O8(h:WR T n B0 ρ F R fr H a w){b:Nat}{C:Obj}{cs:List AV}(i:R b=.free)(hF:∀j,F b j=none)
  (P:w.heap[b]?=some C) (D:mi F ρ.G ρ.n cs C):∃ρ' y,(∀o,o<H.length->ρ'.G o=ρ.G o)/\ρ'.G H.length=b/\ρ'.n=H.length+1/\WR T n B0 ρ' F y fr (H++[cs]) a w:=by
 let ρ':Maps:={ρ with G:=hS ρ.G H.length b,n:=H.length+1}
 let y:Nat->pX:=hS R b .mc
 have hG:∀o,o<H.length->ρ'.G o=ρ.G o:=by
  intro o f;show hS ρ.G H.length b o=ρ.G o;simp only[hS];rw[ea (by omega)]
 have r:DZ F F ρ.G ρ'.G ρ.n ρ'.n:=⟨λ_ _ _ h=>h,by show ρ.n<=H.length+1;rw[h.hn];omega,λo f=>hG o (by rw[h.hn] at f;exact f)⟩;have z:ur F F ρ ρ':=⟨r,λ_=>jo _,λ_ _ _=>rfl,λ_=>jo _,λ_ _ _=>rfl⟩
 have q:DZ F F ρ.G ρ'.G H.length (H++[cs]).length:=by
  have:=r;rw[h.hn] at this;simpa using this
 have l:∀d,R d≠ .free->y d=R d:=by
  intro d s;show hS R b .mc d=R d;unfold hS;rw[ea];rintro rfl;exact s i
 have p:ρ'.G H.length=b:=by show hS ρ.G H.length b H.length=b;simp[hS]
 refine⟨ρ',y,hG,p,rfl,?_⟩;refine⟨⟨h.g.EX,?_,?_,?_,h.g.fresh,λg x Q=>(h.g.AO g x Q).grow q,h.g.row⟩,h.size,h.defers,h.env.grow z,by show H.length+1=_;simp,h.lg,h.ag,?_,?_,?_,?_,?_,h.rF⟩
 ·intro o t f;rcases sH o H.length with A|hge
  ·rw[tF A] at f;obtain⟨E,h1,h2⟩:=h.g.mc o t f;rw[hG o A];exact⟨E,h1,h2.grow q⟩
  ·have:o=H.length:=by
    have:=(pz.1 f).1;simp at this;omega
   subst this;simp at f;subst f;rw[p];exact⟨C,P,(by have:=D.grow r;simpa using this)⟩
 ·intro o o' f I he;simp at f I
  have key:∀o,o<H.length->ρ'.G o≠b:=by
   intro o f he;rw[hG o f] at he;have:=h.oz o f;rw[he,i] at this;cases this
  rcases sH o H.length with h1|h1
  ·rcases sH o' H.length with h2|h2
   ·rw[hG o h1,hG o' h2] at he;exact h.g.inj o o' h1 h2 he
   ·have e:o'=H.length:=by omega
    subst e;rw[p] at he;exact absurd he (key o h1)
  ·grind
 ·intro o j f B;simp at f;rcases sH o H.length with h1|h1
  ·rw[hG o h1];exact h.g.gF o j h1 (by rw[tF h1] at B;exact B)
  ·have e:o=H.length:=by omega
   subst e;rw[p];exact hF j
 ·intro J t K;obtain⟨h1,h2,M,vs',N,S,U⟩:=h.box J t K;exact⟨h1,by rw[l _ (by show R (ρ.L J (fr.gen J))≠_;rw[h2];simp)];exact h2,M,vs',N,S,U.mono λ_ _ _ h=>h.grow z⟩
 ·intro k m V d c sz W;obtain⟨h1,h2,M⟩:=h.tok k m V d c sz W;exact⟨h1,by rw[l _ (by rw[h2];simp)];exact h2,M⟩
 ·intro d j v O
  have u:d≠b:=by rintro rfl;rw[hF j] at O;cases O
  have e:y d=R d:=by show hS R b .mc d=R d;simp[hS,u]
  rw[e];exact h.rZ d j v O
 ·intro o f;simp at f;rcases sH o H.length with h1|h1
  ·have:=h.oz o h1;rw[hG o h1,l _ (by rw[this];simp)];exact this
  ·have e:o=H.length:=by omega
   subst e;rw[p];show hS R b .mc b=.mc;simp[hS]
 ·intro d s
  have u:d≠b:=by rintro rfl;have:=pU P;omega
  show hS R b .mc d=.free;simp only[hS,ea u];exact h.mB d s
def WR.V0(h:WR T n B0 ρ F R fr H a w){b:Nat}{vs:Array Value}{ty:TypeId}{cs:List AV}(e:R b=.free)(hF:∀j,F b j=none)
  (l:w.heap[b]?=some (.cells vs ty (0,0))) (i:iA (ib F ρ.G ρ.n) cs vs.toList) (f:∀c∈cs,c.hZ=true) {d:Nat} (m:d<n):∃ρ' k,(∀o,o<H.length->ρ'.G o=ρ.G o)/\ρ'.G H.length=b/\WR T n B0 ρ' F k {fr with env:=hS fr.env d (.fO H.length 0)} (H++[cs])
   (a.put (some d) (.pointer (some ⟨b,0,none⟩))) w:=by
 obtain⟨ρ',k,hG,g,q,hw⟩:=h.O8 e hF l (.cells (.inl rfl) i f);refine⟨ρ',k,hG,g,hw.put (d:=some d) (by intro r he;injection he with he;subst he;exact m) (x:=.fO H.length 0) ?_⟩;have:=ib.fO (F:=F) (G:=ρ'.G) (n:=ρ'.n) (o:=H.length) (off:=0) (by grind);rw[g] at this;exact .p this
end
def cell_setRow_other(w:World)(g:Nat)(cs:Array Value)(b o:Nat)(h:b≠g):(w.setRow g cs).cell? ⟨b,o,none⟩=w.cell? ⟨b,o,none⟩:=
 World.cell?_of_block (w:=w) (a:=⟨b,o,none⟩) (setRow_other w g b cs h)
def size_setRow(w:World)(g:Nat)(cs:Array Value):(w.setRow g cs).heap.size=w.heap.size:=by simp_all
section
variable{T:fa} {n B0:Nat} {ρ:Maps} {F:lF} {R:Nat->pX} {fr:Fr} {H:eD} {a:Act} {w:World}
def WR.RX(h:WR T n B0 ρ F R fr H a w){d:Nat}{cs q:List AV}{vs':Array Value}(N:fr.box d=some cs)(z:iA (j8 F ρ) q vs'.toList)(t:∀c∈q,c.hZ=true):WR T n B0 ρ F R {fr with box:=hS fr.box d (some q)} H a (w.setRow (ρ.L d (fr.gen d)) vs'):=by
 obtain⟨O,J,W,vs,ty,P,X⟩:=h.box d cs N
 have e:∀b,R b≠ .box d->b≠ρ.L d (fr.gen d):=by
  rintro b r rfl;exact r J
 refine⟨⟨?_,?_,h.g.inj,h.g.gF,?_,h.g.AO,?_⟩,h.size,h.defers,h.env,h.hn,h.lg,h.ag,?_,?_,h.rZ,h.oz,?_,by rw[size_setRow];exact h.rF⟩
 ·intro b o v u;rw[cell_setRow_other]
  ·exact h.g.EX b o v u
  ·exact e b (h.rZ b o v u d)
 ·intro o f K;obtain⟨x,y,s⟩:=h.g.mc o f K;refine⟨x,?_,s⟩;rw[setRow_other]
  ·exact y
  ·refine e _ ?_;rw[h.oz o (pz.1 K).1];simp
 ·intro b j r;rw[size_setRow] at r;exact h.g.fresh b j r
 ·intro Q b j v u;obtain⟨A,B,C,g1,g2⟩:=h.g.row Q b j v u;exact⟨A,B,C,by rw[setRow_other _ _ _ _ (e b (h.rZ b j v u d))];exact g1,g2⟩
 ·intro M f i;simp only[hS] at i
  by_cases he:M=d
  ·subst he;simp only[if_true] at i;cases i;exact⟨O,J,t,vs',ty,setRow_heap w _ vs vs' ty (0,0) P,z⟩
  ·simp only[ea he] at i;obtain⟨y,s,D,l,p,E,G⟩:=h.box M f i;refine⟨y,s,D,l,p,?_,G⟩;rw[setRow_other]
   ·exact E
   ·refine e _ ?_;rw[s];simp[he]
 ·intro k m S b c sz U;obtain⟨y,s,D,I,⟨l,p,E,G⟩,V⟩:=h.tok k m S b c sz U;refine⟨y,s,D,I,⟨l,p,?_,G⟩,V⟩;rw[setRow_other]
  ·exact E
  ·refine e _ ?_;rw[s];simp
 ·intro b r;rw[size_setRow] at r;exact h.mB b r
def WR.GY(h:WR T n B0 ρ F R fr H a w){o:Nat}{cs s:List AV}{w':World}{t:Obj}(I:H[o]?=some cs)(u:cs≠[])(x:w'.heap.size=w.heap.size)(B:w'.heap[ρ.G o]?=some t)
  (d:∀b,b≠ρ.G o->w'.heap[b]?=w.heap[b]?) (K:mi F ρ.G ρ.n s t):WR T n B0 ρ F R fr (H.set o s) a w':=by
 have f:=(pz.1 I).1;have L:=h.oz o f
 have M:∀b,R b≠ .mc->b≠ρ.G o:=by
  rintro b l rfl;exact l L
 have A:(H.set o s).length=H.length:=by simp
 refine⟨⟨?_,?_,?_,?_,?_,?_,?_⟩,h.size,h.defers,h.env,by rw[A];exact h.hn,h.lg,h.ag,?_,?_,h.rZ,?_,?_,by rw[x];exact h.rF⟩
 ·intro b o' v y
  have l:b≠ρ.G o:=by
   rintro rfl;rw[h.g.gF o o' f (by rw[I];exactλe=>u (iy e))] at y;cases y
  have e:w'.cell? ⟨b,o',none⟩=w.cell? ⟨b,o',none⟩:=by simp[World.cell?,d b l]
  rw[e];exact h.g.EX b o' v y
 ·intro o' i C;rw[A]
  by_cases he:o=o'
  ·subst he;simp only[Lf f] at C;cases C;refine⟨t,B,?_⟩;rw[<-h.hn];exact K
  ·rw[Ud he] at C;obtain⟨D,J,E⟩:=h.g.mc o' i C;refine⟨D,?_,E⟩;rw[d]
   ·exact J
   ·exactλe=>he (h.g.inj o' o (pz.1 C).1 f e).symm
 ·rw[A];exact h.g.inj
 ·intro o' j z p;rw[A] at z
  by_cases he:o=o'
  ·subst he;exact h.g.gF o j z (by rw[I];exactλe=>u (iy e))
  ·rw[Ud he] at p;exact h.g.gF o' j z p
 ·intro b j l;rw[x] at l;exact h.g.fresh b j l
 ·rw[A];exact h.g.AO
 ·intro W b j v y;obtain⟨N,O,P,g1,g2⟩:=h.g.row W b j v y;refine⟨N,O,P,?_,g2⟩;rw[d]
  ·exact g1
  ·rintro rfl;rw[h.g.gF o j f (by rw[I];exactλe=>u (iy e))] at y;cases y
 ·intro X i Q;obtain⟨J,E,S,q,r,U,V⟩:=h.box X i Q;refine⟨J,E,S,q,r,?_,V⟩;rw[d]
  ·exact U
  ·refine M _ ?_;rw[E];simp
 ·intro k m Y b c sz Z;obtain⟨J,E,S,aa,⟨q,r,U,V⟩,e6⟩:=h.tok k m Y b c sz Z
  grind
 ·rw[A];exact h.oz
 ·intro b l;rw[x] at l;exact h.mB b l
def WR.UK(h:WR T n B0 ρ F R fr H a w){o:Nat}{cs d:List AV}{vs':Array Value}(m:H[o]?=some cs)(e:wG cs=true)(f:iA (ib F ρ.G ρ.n) d vs'.toList)(hlen:d.length=cs.length)(i:∀c∈d,c.hZ=true):WR T n B0 ρ F R fr (H.set o d) a (w.setRow (ρ.G o) vs'):=by
 obtain⟨t,p,q⟩:=h.g.mc o cs m;obtain⟨vs,ty,r,rfl,j,k,_⟩:=q.FE e
 have l:vs'.size=vs.size:=by
  have u:=f.length;have v:=k.length
  grind
 exact h.GY m (by rintro rfl;simp[wG] at e) (size_setRow w _ _) (setRow_heap w _ vs vs' ty r p) (λb s=>setRow_other w _ b _ s) (.cells (by rw[l];exact j) f i)
end
end Go.m7
