/- Part of the proof of TranslateStable: layer. -/
import Derived.Laws.Build
import Derived.Laws.StructEq
import Derived.Laws.BytesArg
import Derived.Test.YtffcgfpaakhbjaaGreatDoorL1
set_option linter.all false
namespace Go.jN
open Go
def jm(sz:Nat)(l:List AV):Bool:=
 match l with
 |[]=>true|x::_=>x.cells.length==sz
def pN{sz a:Nat}{l:List AV}(h:jm sz l=true)(hs:∀x∈l,x.cells.length=a):∀x∈l,x.cells.length=sz:=by
 cases l with
 |nil=>simp|cons x l=>
  have b:x.cells.length=sz:=by simpa[jm] using h
  have c:=hs x aas;intro y hy;rw[hs y hy,<-c,b]
def RC:Option AV->Option (Option Nat)
 |none=>some none|some (.sc (.int _ n))=>if 0<=n then some (some n.toNat)else none|_=>none
def xl(P:Program)(t:TypeId)(x:AV)(lo hi a:Option AV):Option AV:=
 match RC lo,RC hi,RC a with
 |some lo,some hi,some a=>
  match P.underlying t,x with
  |some (.slice e),.slice _ l=>
   match dE P e with
   |none=>none|some (_,sz)=>
    if hi.getD l.length<=l.length/\lo.getD 0<=hi.getD l.length/\jm sz l then
     match a with
     |none=>some (.slice .gY ((l.take (hi.getD l.length)).drop (lo.getD 0)))|some m=>if hi.isSome/\hi.getD l.length<=m/\m<=l.length then some (.slice (if m=hi.getD l.length then .full else .gY) ((l.take (hi.getD l.length)).drop (lo.getD 0)))else none
    else none
  |some .string,.sc (.string s)=>
   if a.isNone/\hi.getD s.size<=s.size/\lo.getD 0<=hi.getD s.size then some (.sc (.string (s.extract (lo.getD 0) (hi.getD s.size))))else none
  |_,_=>none
 |_,_,_=>none
def yo(F:js)(ρ:Maps):Option AV->Option Value->Prop
 |none,none=>True|some x,some v=>eJ F ρ x v|_,_=>False
section
variable{P:Program} {F:js} {ρ:Maps}
def ED{x:Option AV}{v:Option Value}{r:Option Nat}(h:RC x=some r)(a:yo F ρ x v):(r=none/\v=none)\/∃k n,v=some (.int k n)/\0<=n/\r=some n.toNat:=by
 unfold RC at h
 split at h
 ·cases v with
  |none=>injection h with h;exact .inl ⟨h.symm,rfl⟩|some v=>exact a.elim
 ·rename_i k n
  split at h
  ·injection h with h;cases v with
   |none=>exact a.elim|some v=>
    cases eb a;exact .inr ⟨k,n,rfl,by assumption,h.symm⟩
  ·cases h
 ·cases h
def oA(w:World)(k:IntKind)(n:Int)(y:Nat)(c:BoundsCode)(a:0<=n)(b:n.toNat<=y):(Instr.sliceBound (.int k n) y c).run P w=.ok n.toNat w:=by
 unfold Instr.sliceBound;simp only[asIntOf,fq,m8,hJ];rw[bX ⟨a,VW⟩];rfl
def GC(w:World)(f:Bool){lo hi j:Option AV}{l o p:Option Value}{a h m:Option Nat}{len cap:Nat}
  (q:RC lo=some a) (r:RC hi=some h) (s:RC j=some m) (t:yo F ρ lo l) (u:yo F ρ hi o) (v:yo F ρ j p)
  (hm:m.getD cap<=cap) (d:h.getD len<=m.getD cap) (e:a.getD 0<=h.getD len) (g:m.isSome=true->h.isSome=true):(Instr.sliceBounds f len cap l o p).run P w=.ok (a.getD 0,h.getD len,m.getD cap) w:=by
 rcases ED s v with⟨rfl,rfl⟩|⟨k,n,rfl,hn,rfl⟩<;>rcases ED r u with⟨rfl,rfl⟩|⟨k2,n2,rfl,b,rfl⟩<;>
  rcases ED q t with⟨rfl,rfl⟩|⟨i,n1,rfl,c,rfl⟩<;>simp only[Option.getD_none,Option.getD_some] at hm d e|-<;>
  (first
   |(simp at g;done)
   |(simp only[Instr.sliceBounds,fq,m8,hJ];done)
   |(simp only[Instr.sliceBounds,fq,m8,hJ,oA (P:=P) w i n1 _ _ c e];done)
   |(simp only[Instr.sliceBounds,fq,m8,hJ,oA (P:=P) w k2 n2 _ _ b d];done)
   |(simp only[Instr.sliceBounds,fq,m8,hJ,oA (P:=P) w k2 n2 _ _ b d,oA (P:=P) w i n1 _ _ c e];done)
   |(simp only[Instr.sliceBounds,fq,m8,hJ,oA (P:=P) w k n _ _ hn hm,oA (P:=P) w k2 n2 _ _ b d];done)
   |(simp only[Instr.sliceBounds,fq,m8,hJ,oA (P:=P) w k n _ _ hn hm,oA (P:=P) w k2 n2 _ _ b d,oA (P:=P) w i n1 _ _ c e];done))
def PO(w:World){t:TypeId}{x r:AV}{u:Value}{lo hi R:Option AV}{C D A:Option Value}(h:xl P t x lo hi R=some r)(n:eJ F ρ x u)
  (S:yo F ρ lo C) (T:yo F ρ hi D) (E:yo F ρ R A):∃v,(Instr.sliceAt t u C D A).run P w=.ok v w/\eJ F ρ r v:=by
 unfold xl at h
 split at h
 ·rename_i a f m U V G
  split at h
  ·rename_i e tag l hu
   split at h
   ·cases h
   ·rename_i ag sz X
    split at h
    ·rename_i H;obtain⟨I,i,j⟩:=H;obtain⟨base,cap,b,o,Y,vs,rfl,hs,_,_⟩:=lX n;have k:=pN j hs.sz
     have step:∀(g:Nat),g=m.getD cap->g<=cap->f.getD l.length<=g->(m.isSome=true->f.isSome=true)->∀B,(B=Tag.gY\/B=Tag.full/\g=f.getD l.length)->∃v,(Instr.sliceAt t (.slice base l.length cap) C D A).run P w=.ok v w/\eJ F ρ (.slice B ((l.take (f.getD l.length)).drop (a.getD 0))) v:=by
      intro g J Z aa K B L;have M:=GC (P:=P) (F:=F) (ρ:=ρ) w true (len:=l.length) (cap:=cap) U V G S T E VW VW i K
      refine⟨.slice (if g=a.getD 0 then base else base.map (·.add (a.getD 0*sz))) (f.getD l.length-a.getD 0) (g-a.getD 0),?_,?_⟩
      ·unfold Instr.sliceAt;rw[fq,run_underlying hu];simp only[hJ];unfold Instr.slice;rw[fq,run_underlying hu];simp only[hJ,fq,M,jh X,m8,<-J]
      ·have hlen:((l.take (f.getD l.length)).drop (a.getD 0)).length=f.getD l.length-a.getD 0:=by
        rw[M1,xn];omega
       rw[<-hlen]
       have d:((l.take (f.getD l.length)).drop (a.getD 0)).flatMap AV.cells=((l.flatMap AV.cells).take (f.getD l.length*sz)).drop (a.getD 0*sz):=by
        rw[xh (sz:=sz) (λx n=>k x (AF n)),Bk k]
       refine .p (.slice (b:=b) (o:=o+a.getD 0*sz) (sz:=sz) (vs:=(vs.take (f.getD l.length*sz)).drop (a.getD 0*sz)) ?_ ?_ ?_ ?_ ?_ ?_ ?_ ?_)
       ·rw[d];exact(hs.cells.take _).drop _
       ·exact(hs.has.take _).drop _
       ·intro q;have W:0<((l.take (f.getD l.length)).drop (a.getD 0)).length:=O5.2 q
        have N:l≠[]:=by rintro rfl;simp at q
        rw[bV VW,hs.base N];simp[Addr.add_lit]
       ·exactλx n=>k x (AF (Gt n))
       ·intro c y;rw[d] at y;exact hs.qu c (AF (Gt y))
       ·omega
       ·have:=hs.Ak;omega
       ·rcases L with h|⟨h,h'⟩
        ·exact .inl h
        ·exact .inr ⟨h,VW⟩
     split at h
     ·cases h;exact step cap rfl (fT _) (by have:=hs.yd;omega) aas .gY (.inl rfl)
     ·rename_i g
      split at h
      ·rename_i z;cases h;have ab:=hs.yd;refine step g rfl VW z.2.1 (λ_=>z.1) _ ?_
       by_cases he:g=f.getD l.length
       ·rw[bX he];exact .inr ⟨rfl,he⟩
       ·rw[bV he];exact .inl rfl
      ·cases h
    ·cases h
  ·rename_i s hu
   split at h
   ·rename_i H;obtain⟨I,i,j⟩:=H;cases h;cases eb n
    have O:m=none:=by cases m<;>simp_all
    subst O
    have Q:A=none:=by
     rcases ED G E with⟨_,h⟩|⟨_,_,_,_,h⟩
     ·exact h
     ·cases h
    subst Q;have M:=GC (P:=P) (F:=F) (ρ:=ρ) w false (len:=s.size) (cap:=s.size) U V G S T E aas (by simpa using i) j aas;refine⟨_,?_,.p (.sc rfl)⟩;unfold Instr.sliceAt;rw[fq,run_underlying hu];simp only[hJ];unfold Instr.slice;rw[fq,run_underlying hu];simp only[hJ,Option.isSome_none,gX,fL,fq,m8,M]
   ·cases h
  ·cases h
 ·cases h
end
def placesOf(P:Program)(t:TypeId):Option (List (Nat×Nat)):=
 match P.underlying t with
 |some (.struct fs)=>fs.toList.mapM λf=>(P.info? f.type).map λi=>(f.offset,i.size)|_=>none
def eR(P:Program)(t i:Nat):Option (Nat×Nat):=
 match placesOf P t with
 |some ps=>ps[i]?|none=>match Md P t with
  |some (_,e)=>(P.info? e).map λf=>(i*f.size,f.size)|none=>none
def dn:AV->Bool
 |.tuple _=>false|_=>true
def Dm(P:Program)(t:TypeId):List AV->List (Nat×AV)->Option (List AV)
 |cs,[]=>some cs|cs,(i,x)::rest=>
  match eR P t i with
  |some (off,size)=>if x.cells.length=size/\off+size<=cs.length/\dn x then Dm P t (setCells cs off x.cells) rest else none|none=>none
def p7(P:Program)(t:TypeId):Option (List AV):=
 match zeroOf P t with
 |some (.agg z)=>if z.all (·.oneCell')=true/\((placesOf P t).isSome\/((Md P t).bind λp=>P.info? p.2).isSome)then some (z.toList.map oX)else none|_=>none
def CQ(P:Program)(t:TypeId)(parts:List (Nat×AV)):Option AV:=
 match p7 P t with
 |some z=>(Dm P t z parts).map .agg|none=>none
def foldl_set(new:List Value):∀(k off:Nat) (vs:Array Value),off+k+new.length<=vs.size->((new.zipIdx k).foldl (λcs (x:Value×Nat)=>cs.setIfInBounds (off+x.2) x.1) vs).toList=vs.toList.take (off+k)++new++vs.toList.drop (off+k+new.length):=by
 induction new with
 |nil=>intro k off vs h;simp|cons v new b=>
  intro k off vs h;simp only[List.zipIdx_cons,List.foldl_cons,j0] at h|-;rw[b (k+1) off _ aaQ]
  have a:off+k<vs.toList.length:=aaQ
  simp only[ZV]
  have c:(vs.toList.set (off+k) v).take (off+(k+1))=vs.toList.take (off+k)++[v]:=by
    rw[<-Pp,List.take_succ_eq_append_getElem (by simpa using a),List.take_set]
    congr 1
    ·apply List.set_eq_of_length_le;simp[xn];omega
    ·simp
  have d:(vs.toList.set (off+k) v).drop (off+(k+1)+new.length)=vs.toList.drop (off+k+(new.length+1)):=by
    rw[List.drop_set_of_lt VW]
    congr 1
    omega
  rw[c,d];simp
section
variable{P:Program} {F:js} {ρ:Maps}
def fi.setCells{R:AV->Value->Prop}{cs new:List AV}{vs nv:List Value}(h:fi R cs vs)(a:fi R new nv)(off:Nat):fi R (setCells cs off new) (vs.take off++nv++vs.drop (off+new.length)):=by
 unfold jN.setCells;exact((h.take off).append a).append (h.drop _)
def gl{x:AV}(h:dn x=true):∀vs,x≠ .tuple vs:=by
 rintro vs rfl;simp[dn] at h
def LS{t:TypeId}(place:Nat->Option (Nat×Nat))(A:∀i y,eR P t i=some y->place i=some y):∀(parts:List (Nat×AV)) (pv:List (Nat×Value)) (cs r:List AV) (vs:Array Value),Dm P t cs parts=some r->fi (ir F ρ) cs vs.toList->(∀c∈cs,c.ej=true)->fi (λ(x:Nat×AV) (y:Nat×Value)=>x.1=y.1/\eJ F ρ x.2 y.2) parts pv->∃ws:Array Value,Instr.fill place vs pv=some ws/\fi (ir F ρ) r ws.toList/\∀c∈r,c.ej=true:=by
 intro parts
 induction parts with
 |nil=>
  intro pv cs r vs h f a d;cases d;simp[Dm] at h;subst h;exact⟨vs,rfl,f,a⟩
 |cons p parts B=>
  intro pv cs r vs h f a d;obtain⟨i,x⟩:=p;cases d with
  |cons C g=>
   rename_i q pv;obtain⟨j,v⟩:=q;obtain⟨l,o⟩:=C;simp only at l o;subst l;simp only[Dm] at h
   split at h
   ·rename_i off size s
    split at h
    ·rename_i D;obtain⟨E,G,m⟩:=D;have b:=o.cells (gl m);have hlen:=b.length
     have H:vs.size=cs.length:=by simpa using f.length.symm
     have I:v.cells.toList.length=v.cells.size:=aas
     have e:=foldl_set v.cells.toList 0 off vs (by simp only[Ec];omega);have dx:=f.setCells b off;rw[hlen] at dx;simp only[Ec] at e;rw[<-e] at dx
     obtain⟨ws,u,w,z⟩:=B pv _ _ _ h dx (by
      intro c n;simp only[jN.setCells,qO] at n;rcases n with(hm|hm)|hm
      ·exact a c (AF hm)
      ·exact o.qu (gl m) c hm
      ·exact a c (Gt hm)) g
     refine⟨ws,?_,w,z⟩;unfold Instr.fill;rw[A _ _ s]
     have k:(v.cells.size≠size||decide (off+v.cells.size>vs.size))=false:=by
      simp only[Jg,M6,ne_eq,Decidable.not_not];constructor<;>omega
     show(if(decide (v.cells.size≠size)||decide (off+v.cells.size>vs.size)) then none else Instr.fill place (v.cells.zipIdx.foldl (λcs (x:Value×Nat)=>cs.setIfInBounds (off+x.2) x.1) vs) pv)=some ws;rw[bV (by rw[k];simp),<-aaC,ZG];exact u
    ·cases h
   ·cases h
def D5(w:World):∀(fs:List Field) (ps:List (Nat×Nat)),(fs.mapM λf=>(P.info? f.type).map λi=>(f.offset,i.size))=some ps->(fs.mapM λf=>(do pure (f.offset,<-sizeOf f.type):Sem (Nat×Nat))).run P w=.ok ps w:=by
 intro fs
 induction fs with
 |nil=>intro ps h;simp at h;subst h;rfl
 |cons f fs d=>
  intro ps h;simp only[UY,Option.bind_eq_bind,Yj] at h;obtain⟨p,a,b,c,h⟩:=h;cases hi:P.info? f.type with
  |none=>rw[hi] at a;cases a
  |some i=>
   rw[hi] at a;simp at a h;subst a;subst h;simp only[UY,fq,sizeOf,typeInfo,program,Sem.run,hi,hJ,m8];have:=d b c;simp only[fq,sizeOf,typeInfo,program] at this;rw[this];rfl
def run_map{α β:Type}(w:World)(f:α->β)(x:Sem α):(Functor.map f x).run P w=(x.run P w).andThen λa w'=>.ok (f a) w':=by
 show(x>>=λa=>pure (f a)).run P w=_;rw[fq];rfl
def run_build(w:World){t:TypeId}{parts:List (Nat×AV)}{r:AV}{pv:List (Nat×Value)}(h:CQ P t parts=some r)
  (k:fi (λ(x:Nat×AV) (y:Nat×Value)=>x.1=y.1/\eJ F ρ x.2 y.2) parts pv):∃v,(Instr.build t pv.toArray).run P w=.ok v w/\eJ F ρ r v:=by
 have h:∃z:Array Value,zeroOf P t=some (.agg z)/\(z.all (·.oneCell')=true/\((placesOf P t).isSome\/((Md P t).bind λp=>P.info? p.2).isSome))/\(Dm P t (z.toList.map oX) parts).map .agg=some r:=by
  unfold CQ p7 at h
  split at h
  ·rename_i z0 d
   split at d
   ·rename_i z l
    split at d
    ·rename_i u;injection d with d;subst d;exact⟨z,l,u,h⟩
    ·cases d
   ·cases d
  ·cases h
 obtain⟨z,l,u,h⟩:=h
 ·--K literal
  ·obtain⟨A,j⟩:=u;cases E:Dm P t (z.toList.map oX) parts with
   |none=>rw[E] at h;cases h
   |some cs=>
    rw[E] at h;cases h
    have B:(zeroValue t).run P w=.ok (.agg z) w:=by
     unfold zeroOf at l;cases hi:P.info? t with
     |none=>rw[hi] at l;cases l
     |some i=>
      rw[hi] at l;simp at l;simp[zeroValue,typeInfo,hi,l]
    have m:∀v∈z.toList,v.oneCell'=true:=λv L=>HI.1 A v (uX.1 L);have C:fi (ir F ρ) (z.toList.map oX) z.toList:=(pd F ρ.G ρ.n _ m).sy.mono λ_ _ _ h=>.p h
    have D:∀c∈z.toList.map oX,c.ej=true:=by
     intro c u;obtain⟨a,_,rfl⟩:=ll.1 u;exact wY a
    cases b:placesOf P t with
    |some ps=>
     have H:∃fs,P.underlying t=some (.struct fs)/\(fs.toList.mapM λf=>(P.info? f.type).map λi=>(f.offset,i.size))=some ps:=by
      unfold placesOf at b
      split at b
      ·exact⟨_,by assumption,b⟩
      ·cases b
     obtain⟨fs,hu,hm⟩:=H
     obtain⟨ws,o,q,s⟩:=LS (P:=P) (F:=F) (ρ:=ρ) (t:=t) (ps.toArray[·]?) (by
      intro i y hy;unfold eR at hy;rw[b] at hy
      simpa using hy) parts pv _ _ z E C D k
     refine⟨.agg ws,?_,by simpa using eJ.agg (vs:=ws.toList) q s⟩;unfold Instr.build;simp only[fq,B,hJ,run_underlying hu];have I:=D5 (P:=P) w fs.toList ps hm;rw[<-Nh (xs:=fs),ZH,run_map,I];simp only[m8,hJ,Value.cells,o]
    |none=>
     cases g:Md P t with
     |none=>simp[b,g] at j
     |some ne=>
      obtain⟨n,e⟩:=ne
      have hu:P.underlying t=some (.array n e):=by
       unfold Md at g
       split at g
       ·rename_i hu;cases g;exact hu
       ·cases g
      cases hi:P.info? e with
      |none=>simp[b,g,hi] at j
      |some J=>
       obtain⟨ws,o,q,s⟩:=LS (P:=P) (F:=F) (ρ:=ρ) (t:=t) (λi=>some (i*J.size,J.size)) (by
        intro i y hy;unfold eR at hy;rw[b] at hy;simp[g,hi] at hy
        simp[hy]) parts pv _ _ z E C D k
       refine⟨.agg ws,?_,by simpa using eJ.agg (vs:=ws.toList) q s⟩;unfold Instr.build;simp only[fq,B,hJ,run_underlying hu,sizeOf,typeInfo,program,Sem.run,hi,m8,Value.cells,o]
end
end Go.jN
namespace Go.jN
open Go
def vm(P:Program):List Field->List AV->List AV->Option Bool
 |[],_,_=>some true|f::fs,xs,ys=>
  if f.name= "_" then vm P fs xs ys else
  match P.underlying f.type,k0 P f.type xs f.offset,k0 P f.type ys f.offset with
  |some (.int _),some (.sc (.int k a)),some (.sc (.int k' b))=>if k=k' then(vm P fs xs ys).map λr=>(a==b)&&r else none|some .string,some (.sc (.string a)),some (.sc (.string b))=>(vm P fs xs ys).map λr=>(a.toList==b.toList)&&r|some .bool,some (.sc (.bool a)),some (.sc (.bool b))=>(vm P fs xs ys).map λr=>(a==b)&&r|_,_,_=>none
def Z0(P:Program)(t:TypeId):Bool:=!P.eqGuardType P.depth t&&!P.stoodInHeld t
def Ih(P:Program)(t:TypeId)(xs a:List AV):Option Bool:=
 match P.underlying t with
 |some (.struct fs)=>if Z0 P t then vm P fs.toList xs a else none|_=>none
def oW(P:Program)(op:BinOp)(t:TypeId)(x y:AV):Option AV:=
 match op,x,y with
 |.eql,.agg xs,.agg a=>(Ih P t xs a).map λb=>.sc (.bool b)|.neq,.agg xs,.agg a=>(Ih P t xs a).map λb=>.sc (.bool (!b))|op,x,y=>vx P op t x y
def Eb(P:Program)(op:BinOp)(t:TypeId):Operand->AV->AV->Option AV
 |.const .nilIface,.sc .nilIface,_=>match op,P.underlying t with
  |.eql,some (.interface _)=>some (.sc (.bool true))|.neq,some (.interface _)=>some (.sc (.bool false))|_,_=>none
 |_,u,v=>oW P op t u v
def FY:List AV->Option (List Int)
 |[]=>some []|.sc (.int .u8 n)::l=>(FY l).map (n:: ·)|_::_=>none
def VM(P:Program)(s d:TypeId)(l:List AV):Option AV:=
 match P.underlying s,P.underlying d with
 |some (.slice e),some .string=>match P.underlying e,FY l with
  |some (.int .u8),some a=>some (.sc (.string (strOfNums a)))|_,_=>none
 |_,_=>none
def Rn(P:Program)(s d:TypeId)(x:AV):Option AV:=
 match P.underlying s,P.underlying d,x with
 |some _,some (.int k),.sc (.int _ n)=>some (.sc (.int k (k.wrap n)))|some _,some .string,.sc (.string b)=>some (.sc (.string b))|_,_,_=>none
def KC(P:Program)(s d:TypeId)(x:AV):Option AV:=
 match x with
 |.slice _ l=>VM P s d l|x=>Rn P s d x
def BE(P:Program)(t:TypeId)(x:AV):Option AV:=
 match P.underlying t,x with
 |some (.slice _),.slice _ l=>some (.sc (.int .i64 l.length))|some (.slice _),.um _ _ len _=>some (.sc (.int .i64 len))|some (.slice _),.DI=>some (.sc (.int .i64 0))|some (.slice _),.oZ _ _ len _=>some (.sc (.int .i64 len))|some .string,.sc (.string s)=>some (.sc (.int .i64 s.size))|some (.array n _),_=>some (.sc (.int .i64 n))|_,_=>none
def OF:AV->AV->Option AV
 |.sc (.int k a),.sc (.int _ b)=>some (.sc (.int k (if b>a then b else a)))|_,_=>none
def Oy:AV->AV->Option AV
 |.sc (.int k a),.sc (.int _ b)=>some (.sc (.int k (if b<a then b else a)))|_,_=>none
def H8(f:AV->AV->Option AV):AV->List AV->Option AV
 |x,[]=>some x|x,y::l=>(f x y).bind λz=>H8 f z l
def sJ(P:Program)(T:cV)(fr:Fr)(c:Call):Option AV:=
 match c.callee with
 |.builtin .len=>match c.argTypes[0]?,c.args[0]?with
  |some t,some x=>BE P t (ev T fr x)|_,_=>none
 |.builtin .max=>match c.args.toList with
  |x::l=>H8 OF (ev T fr x) (l.map (ev T fr))|[]=>none
 |.builtin .min=>match c.args.toList with
  |x::l=>H8 Oy (ev T fr x) (l.map (ev T fr))|[]=>none
 |_=>none
def nN(P:Program)(t:TypeId)(x:AV):Option AV:=
 match x with
 |.iface a v=>match P.underlying t with
  |some (.interface _)=>none|some _=>if a=t then some (.tuple [v,.sc (.bool true)])else match zeroOf P t with
   |some z=>if rL z then some (.tuple [ofValue z,.sc (.bool false)])else none|none=>none
  |none=>none
 |_=>none
def vZ(P:Program)(T:cV)(fr:Fr)(o:Oper):Option AV:=
 match o.op with
 |.typeAssert x _ t true=>nN P t (ev T fr x)|.move x=>some (ev T fr x)|.assign x=>some (ev T fr x)|.pick c a b=>match ev T fr c with
  |.sc (.bool t)=>some (if t then ev T fr a else ev T fr b)|_=>none
 |.build t ps=>CQ P t (ps.toList.map λp=>(p.1,ev T fr p.2))|.binOp op t x y _=>Eb P op t y (ev T fr x) (ev T fr y)|.unOp op _ x=>YI op (ev T fr x)|.convert s d x=>KC P s d (ev T fr x)|.makeFunc fn f c=>some (.func fn (f.toList.map λx=>(ev T fr x).norm) (c.toList.map λx=>(ev T fr x).norm))|.fieldAddr t x i=>re P t (ev T fr x) i|.field t x i=>CR P t (ev T fr x) i|.indexAddr t x i=>f_ P t (ev T fr x) (ev T fr i)|.index t x i=>Gb P t (ev T fr x) (ev T fr i)|.slice t x lo hi e=>xl P t (ev T fr x) (lo.map (ev T fr)) (hi.map (ev T fr)) (e.map (ev T fr))|.extract x i=>match ev T fr x with
  |.tuple vs=>vs[i]?|_=>none
 |.nilCheck x=>match ev T fr x with
  |.func (.func f) a b=>some (.func (.func f) a b)|x=>if Br x then some x else none
 |.makeInterface t x=>if P.concrete t then some (.iface t (ev T fr x).norm)else none|.call c=>sJ P T fr c|_=>none
section
variable{P:Program} {T:cV} {F:js} {ρ:Maps} {fr:Fr} {a:Act}
def Ki(w:World){t j:TypeId}{x r:AV}{u:Value}(h:nN P t x=some r)(l:eJ F ρ x u):∃v,(Instr.typeAssert u j t true).run P w=.ok v w/\eJ F ρ r v:=by
 unfold nN at h
 split at h
 ·rename_i c v
  obtain⟨b,rfl,m⟩:∃b,u=.iface c b/\eZ F ρ.G ρ.n v b:=by
   cases l with
   |cell h=>cases h with
    |p h=>cases h with|iface h=>exact⟨_,rfl,h⟩
  split at h
  ·cases h
  ·rename_i ty d hu
   have k:(Instr.typeAssert (.iface c b) j t true).run P w=(if c=t then(pure (.tuple #[b,.bool true]):Sem Value)else do pure (.tuple #[<-zeroValue t,.bool false])).run P w:=by
    unfold Instr.typeAssert;simp only[fq,run_underlying hu,hJ]
    cases ty<;>first|rfl|exact absurd rfl (d _)
   split at h
   ·rename_i e;subst e;cases h;refine⟨_,by rw[k,bX rfl];rfl,.p ?_⟩;exact .tuple (vs:=[b,.bool true]) (.cons m (.cons (.sc rfl) .nil))
   ·rename_i f
    split at h
    ·rename_i z a
     split at h
     ·rename_i o;cases h;refine⟨.tuple #[z,.bool false],?_,.p ?_⟩
      ·rw[k,bV f]
       have g:(zeroValue t).run P w=.ok z w:=by
        unfold zeroOf at a;cases hi:P.info? t with
        |none=>rw[hi] at a;cases a
        |some i=>
         rw[hi] at a;have a:i.zero=some z:=a;simp[zeroValue,typeInfo,hi,a]
       simp only[fq,g,hJ];rfl
      ·exact .tuple (vs:=[z,.bool false]) (.cons (wM _ _ _ z o) (.cons (.sc rfl) .nil))
     ·cases h
    ·cases h
  ·cases h
 ·cases h
def EC(he:q4 F ρ fr a)(b:wO T F ρ):∀(xs:List Operand),(∀x∈xs,gW x=true)->fi (eJ F ρ) (xs.map (ev T fr)) (xs.map a.eval)
 |[],_=>.nil|x::xs,h=>.cons (eF he b x (h x aas)) (EC he b xs λy hy=>h y (by simp[hy]))
def Fo(he:q4 F ρ fr a)(b:wO T F ρ)(xs:List Operand)(h:∀x∈xs,gW x=true):ft F ρ.G ρ.n (xs.map λx=>(ev T fr x).norm) (xs.map a.eval):=by
 have:=(EC he b xs h).tE AV.norm λ_ _ _ h=>eJ.norm h;rw[D4] at this;exact .nK this
def E0(he:q4 F ρ fr a)(b:wO T F ρ):∀(ps:List (Nat×Operand)),(∀p∈ps,gW p.2=true)->fi (λ(x:Nat×AV) (y:Nat×Value)=>x.1=y.1/\eJ F ρ x.2 y.2) (ps.map λp=>(p.1,ev T fr p.2)) (ps.map λp=>(p.1,a.eval p.2))
 |[],_=>.nil|p::ps,h=>.cons ⟨rfl,eF he b p.2 (h p aas)⟩ (E0 he b ps λq c=>h q (by simp[c]))
def Nk(he:q4 F ρ fr a)(b:wO T F ρ)(x:Option Operand)(h:∀y,x=some y->gW y=true):yo F ρ (x.map (ev T fr)) (x.map a.eval):=by
 cases x with
 |none=>trivial|some y=>exact eF he b y (h y rfl)
def LZ{v:Value}(h:eJ F ρ .DI v):∃base,v=.slice base 0 0:=by
 cases h with
 |cell h=>cases h with
  |p h=>cases h with|DI=>exact⟨_,rfl⟩
def RZ(w:World){t ty:TypeId}{x r:AV}{u:Value}(h:BE P t x=some r)(a:eJ F ρ x u){ts:Array TypeId}{us:Array Value}(c:ts[0]?=some t)(d:us[0]?=some u):∃v,(Builtin.len_ ts ty us).run P w=.ok v w/\eJ F ρ r v:=by
 unfold BE at h;unfold Builtin.len_;simp only[c,d]
 split at h
 ·rename_i e tag l hu;cases h;obtain⟨base,cap,b,o,sz,vs,rfl,hs,_,_⟩:=lX a;exact⟨_,by simp only[fq,run_underlying hu,hJ];rfl,.p (.sc rfl)⟩
 ·rename_i e b g len cap hu;cases h;obtain⟨rfl,_,_,_⟩:=xY a;exact⟨_,by simp only[fq,run_underlying hu,hJ];rfl,.p (.sc rfl)⟩
 ·rename_i e hu;cases h;obtain⟨base,rfl⟩:=LZ a;exact⟨_,by simp only[fq,run_underlying hu,hJ];rfl,.p (.sc rfl)⟩
 ·rename_i e b len cap hu;cases h;obtain⟨rfl,_,_,_⟩:=FM a;exact⟨_,by simp only[fq,run_underlying hu,hJ];rfl,.p (.sc rfl)⟩
 ·rename_i s hu;cases h;cases eb a;exact⟨_,by simp only[fq,run_underlying hu,hJ];rfl,.p (.sc rfl)⟩
 ·rename_i n e hu;cases h;exact⟨_,by simp only[fq,run_underlying hu,hJ];rfl,.p (.sc rfl)⟩
 ·cases h
def HY(w:World){f:AV->AV->Option AV}{g:Value->Value->Sem Value}(j:∀x y r u v,f x y=some r->eJ F ρ x u->eJ F ρ y v->∃z,(g u v).run P w=.ok z w/\eJ F ρ r z):∀(l:List AV) (x r:AV) (u:Value) (us:List Value),H8 f x l=some r->eJ F ρ x u->fi (eJ F ρ) l us->∃z,(us.foldlM g u).run P w=.ok z w/\eJ F ρ r z:=by
 intro l
 induction l with
 |nil=>
  intro x r u us h a b;cases b;cases h;exact⟨u,rfl,a⟩
 |cons y l k=>
  intro x r u us h a b;cases b with
  |cons m n=>
   simp only[H8,Yj] at h;obtain⟨z,o,h⟩:=h;obtain⟨q,c,d⟩:=j _ _ _ _ _ o a m;obtain⟨p,e,i⟩:=k _ _ _ _ h d n;exact⟨p,by simp only[List.foldlM_cons,fq,c,hJ,e],i⟩
def Ta(w:World)(x y r:AV)(u v:Value)(h:OF x y=some r)(a:eJ F ρ x u)(hy:eJ F ρ y v):∃z,(Builtin.max2 u v).run P w=.ok z w/\eJ F ρ r z:=by
 unfold OF at h
 split at h
 ·cases eb a;cases eb hy;cases h;exact⟨_,rfl,.p (.sc rfl)⟩
 ·cases h
def RI(w:World)(x y r:AV)(u v:Value)(h:Oy x y=some r)(a:eJ F ρ x u)(hy:eJ F ρ y v):∃z,(Builtin.min2 u v).run P w=.ok z w/\eJ F ρ r z:=by
 unfold Oy at h
 split at h
 ·cases eb a;cases eb hy;cases h;exact⟨_,rfl,.p (.sc rfl)⟩
 ·cases h
def MF(w:World){xs g:List AV}{us vs:List Value}(m:fi (ir F ρ) xs us)(o1:∀c∈xs,c.ej=true)(n:fi (ir F ρ) g vs)(o2:∀c∈g,c.ej=true):∀(fs:List Field) (b:Bool),vm P fs xs g=some b->(Op.eqFields 9999 us.toArray vs.toArray fs).run P w=.ok b w:=by
 intro fs
 induction fs with
 |nil=>intro b h;simp[vm] at h;subst h;rfl
 |cons f fs l=>
  intro b h;unfold vm at h;unfold Op.eqFields
  split at h
  ·rename_i hn;rw[bV (by simpa using hn)];exact l b h
  ·rename_i hn;rw[bX (by simpa using hn)]
   have step:∀{x y:Value} {r:Bool},k0 P f.type xs f.offset=some (.sc x)->k0 P f.type g f.offset=some (.sc y)->(Op.equalIn 9999 f.type x y).run P w=.ok r w->(vm P fs xs g).map (λq=>r&&q)=some b->(do
      let a<-part f.type us.toArray f.offset
      let b<-part f.type vs.toArray f.offset
      let r<-Op.equalIn 9999 f.type a b
      if(!r) then pure false else Op.eqFields 9999 us.toArray vs.toArray fs:Sem Bool).run P w=.ok b w:=by
    intro x y r e hy o d;obtain⟨A,p,s⟩:=A0 (P:=P) w m o1 e;obtain⟨B,t,u⟩:=A0 (P:=P) w n o2 hy;obtain rfl:=eb s;obtain rfl:=eb u;simp only[fq,p,t,o,hJ];cases j:vm P fs xs g with
    |none=>rw[j] at d;cases d
    |some q=>
     rw[j] at d;simp only[O8,uq] at d;cases r
     ·simp at d;subst d;rfl
     ·simp at d;subst d;simpa using l q j
   split at h
   ·rename_i k v a k2 i hu e hy
    split at h
    ·rename_i z;subst z;exact step e hy (run_equalIn_int w 9998 f.type v k a i hu) h
    ·cases h
   ·rename_i a i hu e hy;exact step e hy (run_equalIn_string w 9998 f.type a i hu) h
   ·rename_i a i hu e hy;exact step e hy (run_equalIn_bool' w 9998 f.type a i hu) h
   ·cases h
def OY(P:Program)(w:World){t:TypeId}{ms:Array (String×TypeId)}(hu:P.underlying t=some (.interface ms)):(binOp .eql t .nilIface .nilIface).run P w=.ok (.bool true) w/\(binOp .neq t .nilIface .nilIface).run P w=.ok (.bool false) w:=by
 have h:∀d,(Op.equalIn (d+1) t .nilIface .nilIface).run P w=.ok true w:=λd=>by simp[Op.equalIn,run_underlying hu]
 have a:binOp .eql t .nilIface .nilIface=(do pure (.bool (<-Op.equalIn (9999+1) t .nilIface .nilIface))):=rfl;have b:binOp .neq t .nilIface .nilIface=(do pure (.bool (!(<-Op.equalIn (9999+1) t .nilIface .nilIface)))):=rfl;rw[a,b,fq,fq,h 9999];exact⟨rfl,rfl⟩
def So(w:World){op:BinOp}{t:TypeId}{x y r:AV}{u v:Value}(h:oW P op t x y=some r)(e:eJ F ρ x u)(hy:eJ F ρ y v):∃z,(binOp op t u v).run P w=.ok z w/\r=.sc z/\xi z=true/\∀a b,(eqGuard op t a b u v).run P w=.ok () w:=by
 have agg:∀{xs i:List AV} {b:Bool},Ih P t xs i=some b->eJ F ρ (.agg xs) u->eJ F ρ (.agg i) v->∃us vs:List Value,u=.agg us.toArray/\v=.agg vs.toArray/\(Op.equalIn (9999+1) t u v).run P w=.ok b w/\P.eqGuardType P.depth t=false:=by
  intro xs i b c e hy;obtain⟨us,rfl,u1,u2⟩:=BO e;obtain⟨vs,rfl,v1,v2⟩:=BO hy;unfold Ih at c
  split at c
  ·rename_i fs hu
   split at c
   ·rename_i d;simp only[Z0,eg,T6] at d
    have k:P.fieldsOf t=fs:=by simp[Program.fieldsOf,hu]
    refine⟨us,vs,rfl,rfl,?_,d.1⟩;rw[run_equalIn_struct w 9999 t us.toArray vs.toArray (by rw[k];exact hu) d.2,k];exact MF w u1 u2 v1 v2 _ _ c
   ·cases c
  ·cases c
 unfold oW at h
 split at h
 ·cases c:Ih P t _ _ with
  |none=>rw[c] at h;cases h
  |some b=>
   rw[c] at h;cases h;obtain⟨us,vs,rfl,rfl,f,g⟩:=agg c e hy;refine⟨.bool b,?_,rfl,rfl,λa b=>?_⟩
   ·have j:binOp .eql t (.agg us.toArray) (.agg vs.toArray)=(do pure (.bool (<-Op.equalIn (9999+1) t (.agg us.toArray) (.agg vs.toArray)))):=rfl;rw[j,fq,f];rfl
   ·simp[eqGuard,g,Result.andThen]
 ·cases c:Ih P t _ _ with
  |none=>rw[c] at h;cases h
  |some b=>
   rw[c] at h;cases h;obtain⟨us,vs,rfl,rfl,f,g⟩:=agg c e hy;refine⟨.bool !b,?_,rfl,rfl,λa b=>?_⟩
   ·have j:binOp .neq t (.agg us.toArray) (.agg vs.toArray)=(do pure (.bool (!(<-Op.equalIn (9999+1) t (.agg us.toArray) (.agg vs.toArray))))):=rfl;rw[j,fq,f];rfl
   ·simp[eqGuard,g,Result.andThen]
 ·obtain⟨z,f,g,l,m⟩:=O9 P w h e hy;exact⟨z,f,g,l,λa b=>Me P w op t a b m⟩
def De{G:Nat->Nat}{n:Nat}:∀{a:List Int} {vs:List Value},ft F G n (a.map (λn=>AV.sc (.int .u8 n))) vs->vs=a.map (Value.int .u8)
 |[],_,.nil=>rfl|n::a,_,.cons b c=>by
  cases b;rw[De c];rfl
def BC:∀{l:List AV} {a:List Int},FY l=some a->l.flatMap AV.cells=a.map (λn=>AV.sc (.int .u8 n))/\l.length=a.length
 |[],a,h=>by simp[FY] at h;subst h;exact⟨rfl,rfl⟩
 |x::l,a,h=>by
  unfold FY at h
  split at h
  ·rename_i e;cases e
  ·rename_i n f e;injection e with b c;subst b;subst c;simp only[T2] at h;obtain⟨ms,d,rfl⟩:=h;obtain⟨i1,i2⟩:=BC d;exact⟨by simp[AV.cells,i1],by simp[i2]⟩
  ·cases h
def AO(w:World)(H:∀b o v,F b o=some v->w.cell? ⟨b,o,none⟩=some v)(he:q4 F ρ fr a)(k:wO T F ρ){o:Oper}{r:AV}(I:o.op.operands.all gW=true)(h:vZ P T fr o=some r):∃v,(execOp a.eval o).run P w=.ok (.value v) w/\eJ F ρ r v:=by
 obtain⟨dst,op,type,pos,after,guard⟩:=o;have g:∀x∈op.operands,gW x=true:=λx j=>HI.1 I x j;clear I
 have lift:∀{s:Sem Value},(∃v,s.run P w=.ok v w/\eJ F ρ r v)->∃v,((do pure (.value (<-s))):Sem Next).run P w=.ok (.value v) w/\eJ F ρ r v:=by
  rintro s ⟨v,A,C⟩;exact⟨v,by rw[fq,A];rfl,C⟩
 cases op<;>simp only[vZ] at h<;>simp only[Op.operands] at g<;>simp only[execOp]
 case move x=>cases h;exact⟨_,rfl,eF he k x (g x aas)⟩
 case assign x=>cases h;exact⟨_,rfl,eF he k x (g x aas)⟩
 case pick c x y=>
  split at h
  ·rename_i t n;cases h;have J:=eF he k c (g c aas);rw[n] at J;have L:=eb J;refine⟨if t then a.eval x else a.eval y,?_,?_⟩
   ·rw[L];rfl
   ·cases t
    ·exact eF he k y (g y aas)
    ·exact eF he k x (g x aas)
  ·cases h
 case build t ps=>
  refine lift ?_;have B:=E0 he k ps.toList λp B=>g p.2 (by simp;exact⟨p.1,by simpa using B⟩);have:=run_build (P:=P) w h B
  have e:(ps.toList.map λp=>(p.1,a.eval p.2)).toArray=ps.map λp=>(p.1,a.eval p.2):=by rw[<-KP,Nh]
  rw[e] at this;exact this
 case binOp op t x y Z=>
  obtain⟨z,q,D,M,N⟩:∃z,(binOp op t (a.eval x) (a.eval y)).run P w=.ok z w/\r=.sc z/\xi z=true/\(eqGuard op t x y (a.eval x) (a.eval y)).run P w=.ok () w:=by
   have j:=eF he k x (g x aas);have hy:=eF he k y (g y aas);change Eb P op t y (ev T fr x) (ev T fr y)=some r at h;generalize ev T fr x=u at h j;generalize ev T fr y=v at h hy;unfold Eb at h
   split at h
   ·have j:=eb j;rw[j]
    split at h
    ·rename_i hu;cases h;exact⟨.bool true,(OY P w hu).1,rfl,rfl,by simp[eqGuard,Act.eval]⟩
    ·rename_i hu;cases h;exact⟨.bool false,(OY P w hu).2,rfl,rfl,by simp[eqGuard,Act.eval]⟩
    ·cases h
   ·obtain⟨z,q,D,M,N⟩:=So (P:=P) w h j hy;exact⟨z,q,D,M,N _ _⟩
  subst D;refine⟨z,?_,.p (.sc M)⟩;simp only[fq,N,hJ,q];rfl
 case unOp op t x=>
  refine lift ?_;have j:=eF he k x (g x aas);generalize a.eval x=u at j|-;unfold YI at h
  split at h
  ·rename_i n;rw[n] at j;cases eb j;cases h;exact⟨_,by simp[Op.unary,Op.intArith],.p (.sc rfl)⟩
  ·rename_i n;rw[n] at j;cases eb j;cases h;exact⟨_,by simp[Op.unary],.p (.sc rfl)⟩
  ·cases h
 case convert s d x=>
  refine lift ?_;have j:=eF he k x (g x aas);generalize a.eval x=u at j|-;unfold KC at h
  split at h
  ·rename_i tag l n;unfold VM at h
   split at h
   ·rename_i e hs E
    split at h
    ·rename_i K hu O;cases h;rw[n] at j;obtain⟨S,hlen⟩:=BC O;obtain⟨base,cap,b,o,sz,vs,rfl,G,_,_⟩:=lX j;refine⟨.string (strOfNums K),?_,.p (.sc rfl)⟩
     have Q:vs=K.map (Value.int .u8):=by
      have B:=G.cells;rw[S] at B;exact De B
     by_cases hn:l=[]
     ·subst hn;have R:K=[]:=zI (by simpa using hlen.symm);subst R;cases base with
      |none=>exact run_convert_bytes_nil w s e hs hu 0 cap d E|some U=>
       obtain⟨V,W,X⟩:=U;show(convert s d (.slice (some ⟨V,W,X⟩) 0 cap)).run P w=_;rw[run_convert_bytes_string w s d e _ 0 cap hs hu E,run_bytesToString w _ 0 cap [] (by simp[loadCells,loadCellsFrom])];rfl
     ·rw[G.base hn];refine run_convert_bytes_arg w s e hs hu b o l.length cap K hlen.symm (λi hi=>?_) d E;refine H b (o+i) _ (G.has i _ ?_);rw[Q,sw,mi VW];simp[List.getD,mi (show i<K.length by omega)]
    ·cases h
   ·cases h
  ·unfold Rn at h
   split at h
   ·rename_i hs E n;rw[n] at j;cases eb j;cases h;refine⟨_,?_,.p (.sc rfl)⟩;unfold convert;simp only[fq,run_underlying hs,run_underlying E,hJ];rfl
   ·rename_i hs E n;rw[n] at j;cases eb j;cases h;refine⟨_,?_,.p (.sc rfl)⟩;unfold convert;simp only[fq,run_underlying hs,run_underlying E,hJ];rfl
   ·cases h
 case makeFunc fn f c=>
  cases h;refine lift ⟨.func fn (f.map a.eval) (c.map a.eval),rfl,?_⟩;have q:=Fo he k f.toList λx j=>g x (by simp[uX.1 j]);have D:=Fo he k c.toList λx j=>g x (by simp[uX.1 j]);have:=eZ.func (fn:=fn) q D
  have e:∀l:Array Operand,(l.toList.map a.eval).toArray=l.map a.eval:=λl=>by rw[<-KP,Nh]
  rw[e,e] at this;exact .p this
 case fieldAddr t x i=>exact lift (G9 w h (eF he k x (g x aas)))
 case field t x i=>exact lift (Pa w h (eF he k x (g x aas)))
 case indexAddr t x i=>exact lift (HD w h (eF he k x (g x aas)) (eF he k i (g i aas)))
 case index t x i=>exact lift (PA w h (eF he k x (g x aas)) (eF he k i (g i aas)))
 case slice t x lo hi Y=>
  exact lift (PO w h (eF he k x (g x aas)) (Nk he k lo λy hy=>g y (by simp[hy])) (Nk he k hi λy hy=>g y (by simp[hy]))
   (Nk he k Y λy hy=>g y (by simp[hy])))
 case extract x i=>
  refine lift ?_;have j:=eF he k x (g x aas)
  split at h
  ·rename_i vs n;rw[n] at j;obtain⟨us,hu,C⟩:=Nu j;obtain⟨v,A,B⟩:=C.get h;refine⟨v,?_,.p B⟩;rw[hu];simp[Instr.extract,A]
  ·cases h
 case nilCheck x=>
  have j:=eF he k x (g x aas)
  split at h
  ·rename_i f b c n;cases h;rw[n] at j;obtain⟨vf,vc,A,_,_⟩:=zq j;refine⟨a.eval x,?_,j⟩;rw[A];rfl
  ·rename_i n
   split at h
   ·rename_i B;cases h;obtain⟨b,O⟩:=C6 B j;refine⟨a.eval x,?_,j⟩;rw[O];rfl
   ·cases h
 case makeInterface t x=>
  refine lift ?_
  split at h
  ·rename_i n;cases h;exact⟨_,run_makeInterface w t _ n,.p (.iface (eF he k x (g x aas)).norm)⟩
  ·cases h
 case typeAssert x xt t ok=>
  cases ok with
  |true=>exact lift (Ki w h (eF he k x (g x aas)))|false=>cases h
 case call c=>
  obtain⟨callee,args,argTypes⟩:=c;have m:∀x∈args.toList,gW x=true:=λx j=>g x (by simp[Call.operands,uX.1 j]);simp only[sJ] at h
  split at h
  ·split at h
   ·rename_i t x q D;simp only[resolve,invoke,builtin,fq,m8,hJ];have j:x∈args:=R4 D;obtain⟨v,A,C⟩:=RZ (P:=P) (ty:=type) w h (eF he k x (m x (uX.2 j))) q (us:=args.map a.eval) (by simp[D]);exact⟨v,by rw[A];rfl,C⟩
   ·cases h
  ·split at h
   ·rename_i x l q;simp only[resolve,invoke,builtin,fq,m8,hJ];obtain⟨v,A,C⟩:=HY w (Ta (P:=P) w) _ _ _ _ _ h (eF he k x (m x (by simp[q]))) (EC he k l λy hy=>m y (by simp[q,hy]));refine⟨v,?_,C⟩
    have e:(args.map a.eval).toList=a.eval x::l.map a.eval:=by simp[q]
    simp only[Builtin.max_,e,A,hJ]
   ·cases h
  ·split at h
   ·rename_i x l q;simp only[resolve,invoke,builtin,fq,m8,hJ];obtain⟨v,A,C⟩:=HY w (RI (P:=P) w) _ _ _ _ _ h (eF he k x (m x (by simp[q]))) (EC he k l λy hy=>m y (by simp[q,hy]));refine⟨v,?_,C⟩
    have e:(args.map a.eval).toList=a.eval x::l.map a.eval:=by simp[q]
    simp only[Builtin.min_,e,A,hJ]
   ·cases h
  ·cases h
 all_goals cases h
end
end Go.jN
namespace Go.jN
open Go
def MS(a:Nat×Nat)(n:Nat):Prop:=a=(0,0)\/n<=a.1
inductive kc (F:js) (G:Nat->Nat) (n:Nat):List AV->Obj->Prop
 |cells {cs vs ty fz}:MS fz vs.size->fi (eZ F G n) cs vs.toList->(∀c∈cs,c.ej=true)->kc F G n cs (.cells vs ty fz)|map {ks xs es clock}:es.toList.map (·.key)=ks->fi (eZ F G n) xs (es.toList.map (·.val))->es.toList.map (·.born)=List.range ks.length->clock=ks.length->ks.Nodup->kc F G n [.vp ks xs] (.map es clock)|iter {o since seen}:o<n->kc F G n [.lb o since seen] (.mapIter (some (G o)) since seen.toArray since)|dead {ob}:kc F G n [] ob
def kc.grow{F F':js}{G G':Nat->Nat}{n n':Nat}(hg:Et F F' G G' n n'){cs c}(h:kc F G n cs c):kc F' G' n' cs c:=by
 cases h with
 |cells d a b=>exact .cells d (a.mono λ_ _ _ h=>h.grow hg) b|map a b e f g=>exact .map a (b.mono λ_ _ _ h=>h.grow hg) e f g|iter h=>rw[<-hg.mG _ h];exact .iter (O6 h hg.mn)|dead=>exact .dead
def mg:List AV->Bool
 |[]=>false|c::_=>c.ej
def kc.EN{F:js}{G:Nat->Nat}{n:Nat}{cs b}(h:kc F G n cs b)(a:mg cs=true):∃vs ty d,b=.cells vs ty d/\MS d vs.size/\fi (eZ F G n) cs vs.toList/\∀c∈cs,c.ej=true:=by
 cases h with
 |cells e f g=>exact⟨_,_,_,rfl,e,f,g⟩|map=>simp[mg,AV.ej] at a
 |iter=>simp[mg,AV.ej] at a
 |dead=>simp[mg] at a
def Fj(vs:Array Value):Prop:=∀u∈vs.toList,u.oneCell'=true
structure GW (T:cV) (G:Nat->Nat) (F:js) (H:cc) (w:World):Prop where
 Fz:∀b o v,F b o=some v->w.cell? ⟨b,o,none⟩=some v
 kQ:∀o cs,H[o]?=some cs->∃ob,w.heap[G o]?=some ob/\kc F G H.length cs ob
 inj:∀o o',o<H.length->o'<H.length->G o=G o'->o=o'
 gF:∀o j,o<H.length->H[o]?≠some []->F (G o) j=none
 fresh:∀b j,w.heap.size<=b->F b j=none
 DW:∀g x,T g=some x->eZ F G H.length (.ju x) (.pointer (some ⟨g,0,none⟩))
 row:(∀g,T g=none)->∀b o v,F b o=some v->∃vs ty fz,w.heap[b]?=some (.cells vs ty fz)/\MS fz vs.size/\Fj vs
structure Ext (B:Nat) (G:Nat->Nat) (F:js) (n:Nat) (w:World) (G':Nat->Nat) (F':js) (n':Nat) (w':World):Prop where
 os:w'.os=w.os
 tape:w'.tape=w.tape
 output:w'.output=w.output
 size:w.heap.size<=w'.heap.size
 len:n<=n'
 hG:∀o,o<n->G' o=G o
 Lh:∀o,n<=o->o<n'->B<=G' o
 hF:∀b j,b<B->(∀o,o<n->G o≠b)->F' b j=F b j
 mF:∀b j v,b<B->F b j=some v->F' b j=some v
 heap:∀b,b<B->(∀o,o<n->G o≠b)->w'.heap[b]?=w.heap[b]?
section
variable{B B':Nat} {G G' G'':Nat->Nat} {F F' F'':js} {n n' n'':Nat} {w w' w'':World}
def Ext.refl:Ext B G F n w G F n w:=⟨rfl,rfl,rfl,fT _,fT _,λ_ _=>rfl,λ_ h a=>absurd a VW,λ_ _ _ _=>rfl,λ_ _ _ _ h=>h,λ_ _ _=>rfl⟩
def Ext.trans(h:Ext B G F n w G' F' n' w')(k:Ext B G' F' n' w' G'' F'' n'' w''):Ext B G F n w G'' F'' n'' w'' where
 os:=k.os.trans h.os
 tape:=k.tape.trans h.tape
 output:=k.output.trans h.output
 size:=Ei h.size k.size
 len:=Ei h.len k.len
 hG o c:=(k.hG o (O6 c h.len)).trans (h.hG o c)
 Lh o d e:=by
  rcases sA o n' with h3|h3
  ·rw[k.hG o h3];exact h.Lh o d h3
  ·exact k.Lh o h3 e
 hF b j a hg:=by
  refine(k.hF b j a λo c=>?_).trans (h.hF b j a hg);rcases sA o n with h3|h3
  ·rw[h.hG o h3];exact hg o h3
  ·have:=h.Lh o h3 c;omega
 mF b j v a f:=k.mF b j v a (h.mF b j v a f)
 heap b a hg:=by
  refine(k.heap b a λo c=>?_).trans (h.heap b a hg);rcases sA o n with h3|h3
  ·rw[h.hG o h3];exact hg o h3
  ·have:=h.Lh o h3 c;omega
def Ext.mono(h:Ext B G F n w G' F' n' w')(c:B'<=B):Ext B' G F n w G' F' n' w':=
 ⟨h.os,h.tape,h.output,h.size,h.len,h.hG,λo d e=>Ei c (h.Lh o d e),λb j a=>h.hF b j VW,λb j v a=>h.mF b j v VW,λb a hg=>h.heap b VW hg⟩
end
inductive mP where
 |free|box (d:Nat)|kQ|arr (k:Nat)
 deriving DecidableEq
structure WR (T:cV) (n B0:Nat) (ρ:Maps) (F:js) (R:Nat->mP) (fr:Fr) (H:cc) (a:Act) (w:World):Prop where
 g:GW T ρ.G F H w
 size:a.tmps.size=n
 defers:a.defers=[]
 env:q4 F ρ fr a
 hn:ρ.n=H.length
 lg:∀d,ρ.lg d=fr.gen d
 ag:∀k,ρ.ag k=fr.dv k
 box:∀d cs,fr.box d=some cs->B0<=ρ.L d (fr.gen d)/\R (ρ.L d (fr.gen d))=.box d/\(∀c∈cs,c.ej=true)/\∃vs ty,w.heap[ρ.L d (fr.gen d)]?=some (.cells vs ty (0,0))/\fi (ir F ρ) cs vs.toList
 tok:∀k m,fr.r_ k=some m->∀b c sz,ρ.A k (fr.dv k)=some (b,c,sz)->B0<=b/\R b=.arr k/\(0<m/\m<=c)/\c<=maxLen/\(∃vs ty,w.heap[b]?=some (.cells vs ty (0,0))/\vs.size=c*sz/\Fj vs)/\∀j,m*sz<=j->F b j=none
 oV:∀b j v,F b j=some v->∀d,R b≠ .box d
 mL:∀o,o<H.length->R (ρ.G o)=.kQ
 ki:∀b,w.heap.size<=b->R b=.free
 oY:B0<=w.heap.size
section
variable{T:cV} {n B0:Nat} {ρ ρ':Maps} {F F':js} {R:Nat->mP} {fr:Fr} {H:cc} {a:Act} {w w':World}
def WR.fM(h:WR T n B0 ρ F R fr H a w):wO T F ρ:=λg x b=>by rw[h.hn];exact h.g.DW g x b
def WR.Zx(h:WR T n B0 ρ F R fr H a w){b j:Nat}{v:Value}(c:F b j=some v):b<w.heap.size:=by
 rcases sA b w.heap.size with h'|h'
 ·exact h'
 ·rw[h.g.fresh b j h'] at c;cases c
def Fr.rX(fr:Fr)(d:Option Nat)(x:AV)(t:Nat):(fr.put d x).env t=if d=some t then x else fr.env t:=by
 cases d with
 |none=>simp[Fr.put]|some d=>
  simp only[Fr.put,eO,uq]
  by_cases h:t=d
  ·subst h;simp
  ·rw[bV h,bV (λa=>h a.symm)]
def Fr.v_(fr:Fr)(d:Option Nat)(x:AV):(fr.put d x).box=fr.box/\(fr.put d x).gen=fr.gen/\(fr.put d x).r_=fr.r_/\(fr.put d x).dv=fr.dv:=by
 cases d<;>exact⟨rfl,rfl,rfl,rfl⟩
def Lg(a:Act)(d:Option Nat)(v:Value)(t:Nat)(c:∀b,d=some b->b<a.tmps.size):(a.put d v).tmps.getD t undef=if d=some t then v else a.tmps.getD t undef:=by
 cases d with
 |none=>simp[Act.put]|some d=>
  have:=c d rfl;simp only[Act.put,uq,Jz,Array.getElem?_setIfInBounds]
  by_cases h:d=t
  ·subst h;simp[this]
  ·simp[h]
def q4.put(he:q4 F ρ fr a){d:Option Nat}(c:∀b,d=some b->b<a.tmps.size){x:AV}{v:Value}(e:eJ F ρ x v):q4 F ρ (fr.put d x) (a.put d v):=by
 intro t;rw[Fr.rX,Lg a d v t c]
 split
 ·exact e
 ·exact he t
def A1(a:Act)(d:Option Nat)(v:Value):(a.put d v).tmps.size=a.tmps.size:=by cases d<;>simp[Act.put]
def put_defers(a:Act)(d:Option Nat)(v:Value):(a.put d v).defers=a.defers:=by cases d<;>rfl
def WR.put(h:WR T n B0 ρ F R fr H a w){d:Option Nat}(f:∀b,d=some b->b<n){x:AV}{v:Value}(i:eJ F ρ x v):WR T n B0 ρ F R (fr.put d x) H (a.put d v) w:=by
 obtain⟨j,c,k,e⟩:=Fr.v_ fr d x;refine⟨h.g,by rw[A1];exact h.size,by rw[put_defers];exact h.defers,h.env.put (by rw[h.size];exact f) i,h.hn,?_,?_,?_,?_,h.oV,h.mL,h.ki,h.oY⟩
 ·rw[c];exact h.lg
 ·rw[e];exact h.ag
 ·rw[j,c];exact h.box
 ·rw[k,e];exact h.tok
def WR.drew(h:WR T n B0 ρ F R fr H a w):WR T n B0 ρ F R fr H a w.drew:=
 ⟨⟨h.g.Fz,h.g.kQ,h.g.inj,h.g.gF,h.g.fresh,h.g.DW,h.g.row⟩,h.size,h.defers,h.env,h.hn,h.lg,h.ag,h.box,h.tok,h.oV,h.mL,h.ki,h.oY⟩
def oB{w:World}{b:Nat}{o:Obj}(h:w.heap[b]?=some o):b<w.heap.size:=(PM.1 h).1
def WR.alloc(h:WR T n B0 ρ F R fr H a w)(o:Obj):WR T n B0 ρ F R fr H a (w.alloc o):=by
 have hs:(w.alloc o).heap.size=w.heap.size+1:=World.size_alloc w o;refine⟨⟨?_,?_,h.g.inj,h.g.gF,?_,h.g.DW,?_⟩,h.size,h.defers,h.env,h.hn,h.lg,h.ag,?_,?_,h.oV,h.mL,?_,by have:=h.oY;omega⟩
 ·intro b j v l;rw[World.cell?_alloc_lt w o ⟨b,j,none⟩ (h.Zx l)];exact h.g.Fz b j v l
 ·intro t cs u;obtain⟨p,e,f⟩:=h.g.kQ t cs u;exact⟨p,(heap_alloc_old w o (oB e)).trans e,f⟩
 ·intro b j x;exact h.g.fresh b j VW
 ·intro y b j v l;obtain⟨vs,ty,z,e,f⟩:=h.g.row y b j v l;exact⟨vs,ty,z,(heap_alloc_old w o (oB e)).trans e,f⟩
 ·intro d cs A;obtain⟨e,f,q,vs,ty,i,r⟩:=h.box d cs A;exact⟨e,f,q,vs,ty,(heap_alloc_old w o (oB i)).trans i,r⟩
 ·intro k m B b c sz C;obtain⟨e,f,q,s,⟨vs,ty,i,r⟩,D⟩:=h.tok k m B b c sz C;exact⟨e,f,q,s,⟨vs,ty,(heap_alloc_old w o (oB i)).trans i,r⟩,D⟩
 ·intro b x;exact h.ki b VW
def q4.grow(he:q4 F ρ fr a)(hg:uT F F' ρ ρ'):q4 F' ρ' fr a:=λt=>(he t).grow hg
def qM{α:Type}(f:Nat->Nat->α)(i j:Nat)(x:α):Nat->Nat->α:=λa b=>if a=i/\b=j then x else f a b
def WR.Vl(h:WR T n B0 ρ F R fr H a w){b:Nat}{vs:Array Value}{ty:TypeId}{cs:List AV}(K:B0<=b)(q:R b=.free)(hF:∀j,F b j=none)
  (J:w.heap[b]?=some (.cells vs ty (0,0))) (A:fi (ir F ρ) cs vs.toList) (u:∀c∈cs,c.ej=true) {d:Nat} (M:d<n):∃ρ' y,ρ'.G=ρ.G/\WR T n B0 ρ' F y {fr with env:=eO fr.env d (.gx d (fr.gen d+1) 0),box:=eO fr.box d (some cs),gen:=eO fr.gen d (fr.gen d+1)} H
   (a.put (some d) (.pointer (some ⟨b,0,none⟩))) w:=by
 let ρ':Maps:={ρ with L:=qM ρ.L d (fr.gen d+1) b,lg:=eO ρ.lg d (fr.gen d+1)}
 let y:Nat->mP:=eO R b (.box d)
 have r:uT F F ρ ρ':=by
  refine⟨.refl,λf=>?_,λf g hg=>?_,λ_=>fT _,λ_ _ _=>rfl⟩
  ·show ρ.lg f<=eO ρ.lg d (fr.gen d+1) f;unfold eO
   split
   ·rename_i N;subst N;rw[h.lg];omega
   ·exact fT _
  ·show qM ρ.L d (fr.gen d+1) b f g=ρ.L f g;unfold qM;rw[bV];rintro⟨rfl,rfl⟩;rw[h.lg] at hg;omega
 have l:∀i,R i≠ .free->y i=R i:=by
  intro i s;show eO R b (.box d) i=R i;unfold eO;rw[bV];rintro rfl;exact s q
 refine⟨ρ',y,rfl,?_⟩;refine⟨⟨h.g.Fz,h.g.kQ,h.g.inj,h.g.gF,h.g.fresh,h.g.DW,h.g.row⟩,by rw[A1];exact h.size,by rw[put_defers];exact h.defers,?_,h.hn,?_,h.ag,?_,?_,?_,?_,?_,h.oY⟩
 ·have O:=(h.env.grow r).put (d:=some d) (by intro f he;injection he with he;subst he;rw[h.size];exact M) (x:=.gx d (fr.gen d+1) 0) (v:=.pointer (some ⟨b,0,none⟩))
   (by
    have:=ir.gx (F:=F) (ρ:=ρ') (b:=d) (g:=fr.gen d+1) (off:=0) (by show _<=eO ρ.lg d (fr.gen d+1) d;simp[eO])
    have e:ρ'.L d (fr.gen d+1)=b:=by show qM ρ.L d (fr.gen d+1) b d (fr.gen d+1)=b;simp[qM]
    rw[e] at this
    exact .cell this)
  exact O
 ·intro f;show eO ρ.lg d (fr.gen d+1) f=eO fr.gen d (fr.gen d+1) f;unfold eO
  split
  ·rfl
  ·exact h.lg f
 ·intro f B p;simp only[eO] at p|-
  by_cases he:f=d
  ·subst he;simp only[if_true] at p|-;cases p
   have e:ρ'.L f (fr.gen f+1)=b:=by show qM ρ.L f (fr.gen f+1) b f (fr.gen f+1)=b;simp[qM]
   rw[e];refine⟨K,?_,u,vs,ty,J,A.mono λ_ _ _ h=>h.grow r⟩;show eO R b (.box f) b=.box f;simp[eO]
  ·simp only[bV he] at p|-;obtain⟨C,z,D,vs',E,P,Q⟩:=h.box f B p
   have e:ρ'.L f (fr.gen f)=ρ.L f (fr.gen f):=by show qM ρ.L d (fr.gen d+1) b f (fr.gen f)=_;simp[qM,he]
   rw[e];exact⟨C,by rw[l _ (by rw[z];simp)];exact z,D,vs',E,P,Q.mono λ_ _ _ h=>h.grow r⟩
 ·intro k m S i c sz U;obtain⟨C,z,D⟩:=h.tok k m S i c sz U;exact⟨C,by rw[l _ (by rw[z];simp)];exact z,D⟩
 ·intro i j v I
  have t:i≠b:=by rintro rfl;rw[hF j] at I;cases I
  have e:y i=R i:=by show eO R b (.box d) i=R i;simp[eO,t]
  rw[e];exact h.oV i j v I
 ·intro o V;have:=h.mL o V;rw[l _ (by show R (ρ.G o)≠_;rw[this];simp)];exact this
 ·intro i s
  have t:i≠b:=by rintro rfl;have:=oB J;omega
  show eO R b (.box d) i=.free;simp only[eO,bV t];exact h.ki i s
def WR.Jm(h:WR T n B0 ρ F R fr H a w){b:Nat}{C:Obj}{cs:List AV}(l:R b=.free)(hF:∀j,F b j=none)
  (P:w.heap[b]?=some C) (D:kc F ρ.G ρ.n cs C):∃ρ' y,(∀o,o<H.length->ρ'.G o=ρ.G o)/\ρ'.G H.length=b/\ρ'.n=H.length+1/\WR T n B0 ρ' F y fr (H++[cs]) a w:=by
 let ρ':Maps:={ρ with G:=eO ρ.G H.length b,n:=H.length+1}
 let y:Nat->mP:=eO R b .kQ
 have hG:∀o,o<H.length->ρ'.G o=ρ.G o:=by
  intro o f;show eO ρ.G H.length b o=ρ.G o;simp only[eO];rw[bV VW]
 have r:Et F F ρ.G ρ'.G ρ.n ρ'.n:=⟨λ_ _ _ h=>h,by show ρ.n<=H.length+1;rw[h.hn];omega,λo f=>hG o (by rw[h.hn] at f;exact f)⟩;have z:uT F F ρ ρ':=⟨r,λ_=>fT _,λ_ _ _=>rfl,λ_=>fT _,λ_ _ _=>rfl⟩
 have q:Et F F ρ.G ρ'.G H.length (H++[cs]).length:=by
  have:=r;rw[h.hn] at this;simpa using this
 have p:∀d,R d≠ .free->y d=R d:=by
  intro d s;show eO R b .kQ d=R d;unfold eO;rw[bV];rintro rfl;exact s l
 have i:ρ'.G H.length=b:=by show eO ρ.G H.length b H.length=b;simp[eO]
 refine⟨ρ',y,hG,i,rfl,?_⟩;refine⟨⟨h.g.Fz,?_,?_,?_,h.g.fresh,λg x Q=>(h.g.DW g x Q).grow q,h.g.row⟩,h.size,h.defers,h.env.grow z,by show H.length+1=_;simp,h.lg,h.ag,?_,?_,?_,?_,?_,h.oY⟩
 ·intro o t f;rcases sA o H.length with A|hge
  ·rw[oy A] at f;obtain⟨E,h1,h2⟩:=h.g.kQ o t f;rw[hG o A];exact⟨E,h1,h2.grow q⟩
  ·have:o=H.length:=by
    have:=(jj.1 f).1;simp at this;omega
   subst this;simp at f;subst f;rw[i];exact⟨C,P,(by have:=D.grow r;simpa using this)⟩
 ·intro o o' f I he;simp at f I
  have key:∀o,o<H.length->ρ'.G o≠b:=by
   intro o f he;rw[hG o f] at he;have:=h.mL o f;rw[he,l] at this;cases this
  rcases sA o H.length with h1|h1
  ·rcases sA o' H.length with h2|h2
   ·rw[hG o h1,hG o' h2] at he;exact h.g.inj o o' h1 h2 he
   ·have e:o'=H.length:=VW
    subst e;rw[i] at he;exact absurd he (key o h1)
  ·have e:o=H.length:=VW
   subst e;rcases sA o' H.length with h2|h2
   ·rw[i] at he;exact absurd he.symm (key o' h2)
   ·omega
 ·intro o j f B;simp at f;rcases sA o H.length with h1|h1
  ·rw[hG o h1];exact h.g.gF o j h1 (by rw[oy h1] at B;exact B)
  ·have e:o=H.length:=VW
   subst e;rw[i];exact hF j
 ·intro J t K;obtain⟨h1,h2,M,vs',N,S,U⟩:=h.box J t K;exact⟨h1,by rw[p _ (by show R (ρ.L J (fr.gen J))≠_;rw[h2];simp)];exact h2,M,vs',N,S,U.mono λ_ _ _ h=>h.grow z⟩
 ·intro k m V d c sz W;obtain⟨h1,h2,M⟩:=h.tok k m V d c sz W;exact⟨h1,by rw[p _ (by rw[h2];simp)];exact h2,M⟩
 ·intro d j v O
  have u:d≠b:=by rintro rfl;rw[hF j] at O;cases O
  have e:y d=R d:=by show eO R b .kQ d=R d;simp[eO,u]
  rw[e];exact h.oV d j v O
 ·intro o f;simp at f;rcases sA o H.length with h1|h1
  ·have:=h.mL o h1;rw[hG o h1,p _ (by rw[this];simp)];exact this
  ·have e:o=H.length:=VW
   subst e;rw[i];show eO R b .kQ b=.kQ;simp[eO]
 ·intro d s
  have u:d≠b:=by rintro rfl;have:=oB P;omega
  show eO R b .kQ d=.free;simp only[eO,bV u];exact h.ki d s
def WR.XJ(h:WR T n B0 ρ F R fr H a w){b:Nat}{vs:Array Value}{ty:TypeId}{cs:List AV}(e:R b=.free)(hF:∀j,F b j=none)
  (m:w.heap[b]?=some (.cells vs ty (0,0))) (i:fi (eZ F ρ.G ρ.n) cs vs.toList) (f:∀c∈cs,c.ej=true) {d:Nat} (q:d<n):∃ρ' k,(∀o,o<H.length->ρ'.G o=ρ.G o)/\ρ'.G H.length=b/\WR T n B0 ρ' F k {fr with env:=eO fr.env d (.di H.length 0)} (H++[cs])
   (a.put (some d) (.pointer (some ⟨b,0,none⟩))) w:=by
 obtain⟨ρ',k,hG,g,l,hw⟩:=h.Jm e hF m (.cells (.inl rfl) i f);refine⟨ρ',k,hG,g,hw.put (d:=some d) (by intro r he;injection he with he;subst he;exact q) (x:=.di H.length 0) ?_⟩;have:=eZ.di (F:=F) (G:=ρ'.G) (n:=ρ'.n) (o:=H.length) (off:=0) (by rw[l];omega);rw[g] at this;exact .p this
end
def cell_setRow_other(w:World)(g:Nat)(cs:Array Value)(b o:Nat)(h:b≠g):(w.setRow g cs).cell? ⟨b,o,none⟩=w.cell? ⟨b,o,none⟩:=
 World.cell?_of_block (w:=w) (a:=⟨b,o,none⟩) (setRow_other w g b cs h)
def size_setRow(w:World)(g:Nat)(cs:Array Value):(w.setRow g cs).heap.size=w.heap.size:=by simp[World.setRow]
section
variable{T:cV} {n B0:Nat} {ρ:Maps} {F:js} {R:Nat->mP} {fr:Fr} {H:cc} {a:Act} {w:World}
def WR.R3(h:WR T n B0 ρ F R fr H a w){d:Nat}{cs q:List AV}{vs':Array Value}(N:fr.box d=some cs)(z:fi (ir F ρ) q vs'.toList)(t:∀c∈q,c.ej=true):WR T n B0 ρ F R {fr with box:=eO fr.box d (some q)} H a (w.setRow (ρ.L d (fr.gen d)) vs'):=by
 obtain⟨O,J,W,vs,ty,P,X⟩:=h.box d cs N
 have e:∀b,R b≠ .box d->b≠ρ.L d (fr.gen d):=by
  rintro b r rfl;exact r J
 refine⟨⟨?_,?_,h.g.inj,h.g.gF,?_,h.g.DW,?_⟩,h.size,h.defers,h.env,h.hn,h.lg,h.ag,?_,?_,h.oV,h.mL,?_,by rw[size_setRow];exact h.oY⟩
 ·intro b o v u;rw[cell_setRow_other]
  ·exact h.g.Fz b o v u
  ·exact e b (h.oV b o v u d)
 ·intro o f K;obtain⟨x,y,s⟩:=h.g.kQ o f K;refine⟨x,?_,s⟩;rw[setRow_other]
  ·exact y
  ·refine e _ ?_;rw[h.mL o (jj.1 K).1];simp
 ·intro b j r;rw[size_setRow] at r;exact h.g.fresh b j r
 ·intro Q b j v u;obtain⟨A,B,C,g1,g2⟩:=h.g.row Q b j v u;exact⟨A,B,C,by rw[setRow_other _ _ _ _ (e b (h.oV b j v u d))];exact g1,g2⟩
 ·intro M f i;simp only[eO] at i
  by_cases he:M=d
  ·subst he;simp only[if_true] at i;cases i;exact⟨O,J,t,vs',ty,setRow_heap w _ vs vs' ty (0,0) P,z⟩
  ·simp only[bV he] at i;obtain⟨y,s,D,l,p,E,G⟩:=h.box M f i;refine⟨y,s,D,l,p,?_,G⟩;rw[setRow_other]
   ·exact E
   ·refine e _ ?_;rw[s];simp[he]
 ·intro k m S b c sz U;obtain⟨y,s,D,I,⟨l,p,E,G⟩,V⟩:=h.tok k m S b c sz U;refine⟨y,s,D,I,⟨l,p,?_,G⟩,V⟩;rw[setRow_other]
  ·exact E
  ·refine e _ ?_;rw[s];simp
 ·intro b r;rw[size_setRow] at r;exact h.ki b r
def WR.Gm(h:WR T n B0 ρ F R fr H a w){o:Nat}{cs s:List AV}{w':World}{t:Obj}(K:H[o]?=some cs)(u:cs≠[])(x:w'.heap.size=w.heap.size)(C:w'.heap[ρ.G o]?=some t)
  (d:∀b,b≠ρ.G o->w'.heap[b]?=w.heap[b]?) (L:kc F ρ.G ρ.n s t):WR T n B0 ρ F R fr (H.set o s) a w':=by
 have f:=(jj.1 K).1;have M:=h.mL o f
 have D:∀b,R b≠ .kQ->b≠ρ.G o:=by
  rintro b q rfl;exact q M
 have B:(H.set o s).length=H.length:=aas
 refine⟨⟨?_,?_,?_,?_,?_,?_,?_⟩,h.size,h.defers,h.env,by rw[B];exact h.hn,h.lg,h.ag,?_,?_,h.oV,?_,?_,by rw[x];exact h.oY⟩
 ·intro b o' v y
  have q:b≠ρ.G o:=by
   rintro rfl;rw[h.g.gF o o' f (by rw[K];exactλe=>u (fS e))] at y;cases y
  have e:w'.cell? ⟨b,o',none⟩=w.cell? ⟨b,o',none⟩:=by simp[World.cell?,d b q]
  rw[e];exact h.g.Fz b o' v y
 ·intro o' i E;rw[B]
  by_cases he:o=o'
  ·subst he;simp only[J2 f] at E;cases E;refine⟨t,C,?_⟩;rw[<-h.hn];exact L
  ·rw[yZ he] at E;obtain⟨I,J,z⟩:=h.g.kQ o' i E;refine⟨I,?_,z⟩;rw[d]
   ·exact J
   ·exactλe=>he (h.g.inj o' o (jj.1 E).1 f e).symm
 ·rw[B];exact h.g.inj
 ·intro o' j A r;rw[B] at A
  by_cases he:o=o'
  ·subst he;exact h.g.gF o j A (by rw[K];exactλe=>u (fS e))
  ·rw[yZ he] at r;exact h.g.gF o' j A r
 ·intro b j q;rw[x] at q;exact h.g.fresh b j q
 ·rw[B];exact h.g.DW
 ·intro X b j v y;obtain⟨N,O,P,g1,g2⟩:=h.g.row X b j v y;refine⟨N,O,P,?_,g2⟩;rw[d]
  ·exact g1
  ·rintro rfl;rw[h.g.gF o j f (by rw[K];exactλe=>u (fS e))] at y;cases y
 ·intro Y i Q;obtain⟨J,z,S,l,p,U,V⟩:=h.box Y i Q;refine⟨J,z,S,l,p,?_,V⟩;rw[d]
  ·exact U
  ·refine D _ ?_;rw[z];simp
 ·intro k m Z b c sz hA;obtain⟨J,z,S,W,⟨l,p,U,V⟩,e6⟩:=h.tok k m Z b c sz hA;refine⟨J,z,S,W,⟨l,p,?_,V⟩,e6⟩;rw[d]
  ·exact U
  ·refine D _ ?_;rw[z];simp
 ·rw[B];exact h.mL
 ·intro b q;rw[x] at q;exact h.ki b q
def WR.OG(h:WR T n B0 ρ F R fr H a w){o:Nat}{cs d:List AV}{vs':Array Value}(m:H[o]?=some cs)(e:mg cs=true)(f:fi (eZ F ρ.G ρ.n) d vs'.toList)(hlen:d.length=cs.length)(i:∀c∈d,c.ej=true):WR T n B0 ρ F R fr (H.set o d) a (w.setRow (ρ.G o) vs'):=by
 obtain⟨v,p,q⟩:=h.g.kQ o cs m;obtain⟨vs,ty,r,rfl,j,k,_⟩:=q.EN e
 have l:vs'.size=vs.size:=by
  have s:=f.length;have t:=k.length;simp only[Mq] at s t;omega
 exact h.Gm m (by rintro rfl;simp[mg] at e) (size_setRow w _ _) (setRow_heap w _ vs vs' ty r p) (λb u=>setRow_other w _ b _ u) (.cells (by rw[l];exact j) f i)
end
end Go.jN
