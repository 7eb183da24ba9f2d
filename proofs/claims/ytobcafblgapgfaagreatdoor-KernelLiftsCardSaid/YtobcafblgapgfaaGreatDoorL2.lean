/- Part of the proof of KernelLifts, KernelPuts, KernelCuts: layer. -/
import Derived.Laws.Build
import Derived.Laws.StructEq
import Derived.Laws.BytesArg
import Derived.Test.YtobcafblgapgfaaGreatDoorL1
set_option linter.all false
namespace Go.tq
open Go
def ui(sz:Nat)(l:List AV):Bool:=
 match l with
 |[]=>true|x::_=>x.cells.length==sz
def DW{sz a:Nat}{l:List AV}(h:ui sz l=true)(hs:∀x∈l,x.cells.length=a):∀x∈l,x.cells.length=sz:=by
 cases l with
 |nil=>simp|cons x l=>grind[ui]
def pA:Option AV->Option (Option Nat)
 |none=>some none|some (.sc (.int _ n))=>if 0<=n then some (some n.toNat)else none|_=>none
def vp(P:Program)(t:TypeId)(x:AV)(lo hi a:Option AV):Option AV:=
 match pA lo,pA hi,pA a with
 |some lo,some hi,some a=>
  match P.underlying t,x with
  |some (.slice e),.slice _ l=>
   match jd P e with
   |none=>none|some (_,sz)=>
    if hi.getD l.length<=l.length/\lo.getD 0<=hi.getD l.length/\ui sz l then
     match a with
     |none=>some (.slice .pw ((l.take (hi.getD l.length)).drop (lo.getD 0)))|some m=>if hi.isSome/\hi.getD l.length<=m/\m<=l.length then some (.slice (if m=hi.getD l.length then .full else .pw) ((l.take (hi.getD l.length)).drop (lo.getD 0)))else none
    else none
  |some .string,.sc (.string s)=>
   if a.isNone/\hi.getD s.size<=s.size/\lo.getD 0<=hi.getD s.size then some (.sc (.string (s.extract (lo.getD 0) (hi.getD s.size))))else none
  |_,_=>none
 |_,_,_=>none
def IC(F:rv)(ρ:Maps):Option AV->Option Value->Prop
 |none,none=>True|some x,some v=>kI F ρ x v|_,_=>False
section
variable{P:Program} {F:rv} {ρ:Maps}
def Og{x:Option AV}{v:Option Value}{r:Option Nat}(h:pA x=some r)(a:IC F ρ x v):(r=none/\v=none)\/∃k n,v=some (.int k n)/\0<=n/\r=some n.toNat:=by
 unfold pA at h
 split at h
 ·cases v with
  |none=>injection h with h;exact .inl ⟨h.symm,rfl⟩|some v=>exact a.elim
 ·rename_i k n
  split at h
  ·injection h with h;cases v with
   |none=>exact a.elim|some v=>
    cases jG a
    grind
  ·cases h
 ·cases h
def Gr(w:World)(k:IntKind)(n:Int)(y:Nat)(c:BoundsCode)(a:0<=n)(b:n.toNat<=y):(Instr.sliceBound (.int k n) y c).run P w=.ok n.toNat w:=by
 unfold Instr.sliceBound;simp only[asIntOf,mb,yr,qP];rw[cL ⟨a,Zb⟩];rfl
def Pg(w:World)(d:Bool){lo hi i:Option AV}{j l o:Option Value}{a h m:Option Nat}{len cap:Nat}
  (q:pA lo=some a) (r:pA hi=some h) (s:pA i=some m) (t:IC F ρ lo j) (u:IC F ρ hi l) (v:IC F ρ i o)
  (hm:m.getD cap<=cap) (e:h.getD len<=m.getD cap) (f:a.getD 0<=h.getD len) (g:m.isSome=true->h.isSome=true):(Instr.sliceBounds d len cap j l o).run P w=.ok (a.getD 0,h.getD len,m.getD cap) w:=by
 rcases Og s v with⟨rfl,rfl⟩|⟨k,n,rfl,hn,rfl⟩<;>rcases Og r u with⟨rfl,rfl⟩|⟨k2,n2,rfl,b,rfl⟩<;>
  rcases Og q t with⟨rfl,rfl⟩|⟨p,n1,rfl,c,rfl⟩<;>simp only[Option.getD_none,Option.getD_some] at hm e f|-<;>
  (first
   |(simp at g;done)
   |(simp only[Instr.sliceBounds,mb,yr,qP];done)
   |(simp only[Instr.sliceBounds,mb,yr,qP,Gr (P:=P) w p n1 _ _ c f];done)
   |(simp only[Instr.sliceBounds,mb,yr,qP,Gr (P:=P) w k2 n2 _ _ b e];done)
   |(simp only[Instr.sliceBounds,mb,yr,qP,Gr (P:=P) w k n _ _ hn hm,Gr (P:=P) w k2 n2 _ _ b e,Gr (P:=P) w p n1 _ _ c f];done))
def Vu(w:World){t:TypeId}{x r:AV}{u:Value}{lo hi R:Option AV}{C D A:Option Value}(h:vp P t x lo hi R=some r)(n:kI F ρ x u)
  (S:IC F ρ lo C) (T:IC F ρ hi D) (E:IC F ρ R A):∃v,(Instr.sliceAt t u C D A).run P w=.ok v w/\kI F ρ r v:=by
 unfold vp at h
 split at h
 ·rename_i a f m U V G
  split at h
  ·rename_i e tag l hu
   split at h
   ·cases h
   ·rename_i ag sz X
    split at h
    ·rename_i H;obtain⟨I,i,j⟩:=H;obtain⟨base,cap,b,o,Y,vs,rfl,hs,_,_⟩:=yV n;have k:=DW j hs.sz
     have step:∀(g:Nat),g=m.getD cap->g<=cap->f.getD l.length<=g->(m.isSome=true->f.isSome=true)->∀B,(B=Tag.pw\/B=Tag.full/\g=f.getD l.length)->∃v,(Instr.sliceAt t (.slice base l.length cap) C D A).run P w=.ok v w/\kI F ρ (.slice B ((l.take (f.getD l.length)).drop (a.getD 0))) v:=by
      intro g J Z aa K B L;have M:=Pg (P:=P) (F:=F) (ρ:=ρ) w true (len:=l.length) (cap:=cap) U V G S T E Zb Zb i K
      refine⟨.slice (if g=a.getD 0 then base else base.map (·.add (a.getD 0*sz))) (f.getD l.length-a.getD 0) (g-a.getD 0),?_,?_⟩
      ·unfold Instr.sliceAt;rw[mb,run_underlying hu];simp only[qP];unfold Instr.slice;rw[mb,run_underlying hu];simp only[qP,mb,M,qM X,yr,<-J]
      ·have hlen:((l.take (f.getD l.length)).drop (a.getD 0)).length=f.getD l.length-a.getD 0:=by
        rw[YC,Kn];omega
       rw[<-hlen]
       have d:((l.take (f.getD l.length)).drop (a.getD 0)).flatMap AV.cells=((l.flatMap AV.cells).take (f.getD l.length*sz)).drop (a.getD 0*sz):=by
        rw[HG (sz:=sz) (λx n=>k x (MG n)),Lf k]
       refine .p (.slice (b:=b) (o:=o+a.getD 0*sz) (sz:=sz) (vs:=(vs.take (f.getD l.length*sz)).drop (a.getD 0*sz)) ?_ ?_ ?_ ?_ ?_ ?_ ?_ ?_)
       ·rw[d];exact(hs.cells.take _).drop _
       ·exact(hs.has.take _).drop _
       ·intro q;have W:0<((l.take (f.getD l.length)).drop (a.getD 0)).length:=XC.2 q
        have N:l≠[]:=by rintro rfl;simp at q
        rw[cJ Zb,hs.base N];simp[Addr.add_lit]
       ·exactλx n=>k x (MG (QH n))
       ·intro c y;rw[d] at y;exact hs.F5 c (MG (QH y))
       ·omega
       ·have:=hs.NI;omega
       ·rcases L with h|⟨h,h'⟩
        ·exact .inl h
        ·exact .inr ⟨h,Zb⟩
     split at h
     ·cases h;exact step cap rfl (jM _) (by have:=hs.Lr;omega) aae .pw (.inl rfl)
     ·rename_i g
      split at h
      ·rename_i z;cases h;have ab:=hs.Lr;refine step g rfl Zb z.2.1 (λ_=>z.1) _ ?_
       by_cases he:g=f.getD l.length
       ·rw[cL he];exact .inr ⟨rfl,he⟩
       ·rw[cJ he];exact .inl rfl
      ·cases h
    ·cases h
  ·rename_i s hu
   split at h
   ·rename_i H;obtain⟨I,i,j⟩:=H;cases h;cases jG n
    have O:m=none:=by cases m<;>simp_all
    subst O
    have Q:A=none:=by
     rcases Og G E with⟨_,h⟩|⟨_,_,_,_,h⟩
     ·exact h
     ·cases h
    subst Q;have M:=Pg (P:=P) (F:=F) (ρ:=ρ) w false (len:=s.size) (cap:=s.size) U V G S T E aae (by simpa using i) j aae;refine⟨_,?_,.p (.sc rfl)⟩;unfold Instr.sliceAt;rw[mb,run_underlying hu];simp only[qP];unfold Instr.slice;rw[mb,run_underlying hu];simp only[qP,Option.isSome_none,qa,jm,mb,yr,M]
   ·cases h
  ·cases h
 ·cases h
end
def placesOf(P:Program)(t:TypeId):Option (List (Nat×Nat)):=
 match P.underlying t with
 |some (.struct fs)=>fs.toList.mapM λf=>(P.info? f.type).map λi=>(f.offset,i.size)|_=>none
def kP(P:Program)(t i:Nat):Option (Nat×Nat):=
 match placesOf P t with
 |some ps=>ps[i]?|none=>match To P t with
  |some (_,e)=>(P.info? e).map λf=>(i*f.size,f.size)|none=>none
def iu:AV->Bool
 |.tuple _=>false|_=>true
def Nf(P:Program)(t:TypeId):List AV->List (Nat×AV)->Option (List AV)
 |cs,[]=>some cs|cs,(i,x)::rest=>
  match kP P t i with
  |some (off,size)=>if x.cells.length=size/\off+size<=cs.length/\iu x then Nf P t (setCells cs off x.cells) rest else none|none=>none
def zE(P:Program)(t:TypeId):Option (List AV):=
 match zeroOf P t with
 |some (.agg z)=>if z.all (·.oneCell')=true/\((placesOf P t).isSome\/((To P t).bind λp=>P.info? p.2).isSome)then some (z.toList.map zp)else none|_=>none
def MB(P:Program)(t:TypeId)(parts:List (Nat×AV)):Option AV:=
 match zE P t with
 |some z=>(Nf P t z parts).map .agg|none=>none
def foldl_set(new:List Value):∀(k off:Nat) (vs:Array Value),off+k+new.length<=vs.size->((new.zipIdx k).foldl (λcs (x:Value×Nat)=>cs.setIfInBounds (off+x.2) x.1) vs).toList=vs.toList.take (off+k)++new++vs.toList.drop (off+k+new.length):=by
 induction new with
 |nil=>intro k off vs h;simp|cons v new b=>
  intro k off vs h;simp only[List.zipIdx_cons,List.foldl_cons,hQ] at h|-;rw[b (k+1) off _ aaV]
  have a:off+k<vs.toList.length:=aaV
  simp only[abU]
  have c:(vs.toList.set (off+k) v).take (off+(k+1))=vs.toList.take (off+k)++[v]:=by
    rw[<-Ml,List.take_succ_eq_append_getElem (by simpa using a),List.take_set]
    congr 1
    ·apply List.set_eq_of_length_le;simp[Kn];omega
    ·simp
  have d:(vs.toList.set (off+k) v).drop (off+(k+1)+new.length)=vs.toList.drop (off+k+(new.length+1)):=by
    rw[List.drop_set_of_lt Zb]
    congr 1
    omega
  rw[c,d];simp
section
variable{P:Program} {F:rv} {ρ:Maps}
def lY.setCells{R:AV->Value->Prop}{cs new:List AV}{vs nv:List Value}(h:lY R cs vs)(a:lY R new nv)(off:Nat):lY R (setCells cs off new) (vs.take off++nv++vs.drop (off+new.length)):=by
 exact((h.take off).append a).append (h.drop _)
def m_{x:AV}(h:iu x=true):∀vs,x≠ .tuple vs:=by grind[iu]
def SD{t:TypeId}(place:Nat->Option (Nat×Nat))(A:∀i y,kP P t i=some y->place i=some y):∀(parts:List (Nat×AV)) (pv:List (Nat×Value)) (cs r:List AV) (vs:Array Value),Nf P t cs parts=some r->lY (pj F ρ) cs vs.toList->(∀c∈cs,c.k7=true)->lY (λ(x:Nat×AV) (y:Nat×Value)=>x.1=y.1/\kI F ρ x.2 y.2) parts pv->∃ws:Array Value,Instr.fill place vs pv=some ws/\lY (pj F ρ) r ws.toList/\∀c∈r,c.k7=true:=by
 intro parts
 induction parts with
 |nil=>
  intro pv cs r vs h f a d;cases d;simp[Nf] at h;subst h;exact⟨vs,rfl,f,a⟩
 |cons p parts B=>
  intro pv cs r vs h f a d;obtain⟨i,x⟩:=p;cases d with
  |cons C g=>
   rename_i q pv;obtain⟨j,v⟩:=q;obtain⟨l,o⟩:=C;simp only at l o;subst l;simp only[Nf] at h
   split at h
   ·rename_i off size s
    split at h
    ·rename_i D;obtain⟨E,G,m⟩:=D;have b:=o.cells (m_ m);have hlen:=b.length
     have H:vs.size=cs.length:=by simpa using f.length.symm
     have I:v.cells.toList.length=v.cells.size:=aae
     have e:=foldl_set v.cells.toList 0 off vs (by simp only[oH];omega);have iE:=f.setCells b off;rw[hlen] at iE;simp only[oH] at e;rw[<-e] at iE
     obtain⟨ws,u,w,z⟩:=B pv _ _ _ h iE (by
      intro c n;simp only[tq.setCells,tA] at n;rcases n with(hm|hm)|hm
      ·exact a c (MG hm)
      ·exact o.F5 (m_ m) c hm
      ·exact a c (QH hm)) g
     refine⟨ws,?_,w,z⟩;unfold Instr.fill;rw[A _ _ s]
     have k:(v.cells.size≠size||decide (off+v.cells.size>vs.size))=false:=by
      simp only[Bool.or_eq_false_iff,RQ,ne_eq,Decidable.not_not];constructor<;>omega
     show(if(decide (v.cells.size≠size)||decide (off+v.cells.size>vs.size)) then none else Instr.fill place (v.cells.zipIdx.foldl (λcs (x:Value×Nat)=>cs.setIfInBounds (off+x.2) x.1) vs) pv)=some ws;rw[cJ (by rw[k];simp),<-adA,ac2];exact u
    ·cases h
   ·cases h
def NV(w:World):∀(fs:List Field) (ps:List (Nat×Nat)),(fs.mapM λf=>(P.info? f.type).map λi=>(f.offset,i.size))=some ps->(fs.mapM λf=>(do pure (f.offset,<-sizeOf f.type):Sem (Nat×Nat))).run P w=.ok ps w:=by
 intro fs
 induction fs with
 |nil=>intro ps h;simp at h;subst h;rfl
 |cons f fs d=>
  intro ps h;simp only[Yb,Option.bind_eq_bind,aba] at h;obtain⟨p,a,b,c,h⟩:=h;cases hi:P.info? f.type with
  |none=>rw[hi] at a;cases a
  |some i=>
   rw[hi] at a;simp at a h;subst a;subst h;simp only[Yb,mb,sizeOf,typeInfo,program,Sem.run,hi,qP,yr];have:=d b c;simp only[mb,sizeOf,typeInfo,program] at this;rw[this];rfl
def run_map{α β:Type}(w:World)(f:α->β)(x:Sem α):(Functor.map f x).run P w=(x.run P w).andThen λa w'=>.ok (f a) w':=by
 show(x>>=λa=>pure (f a)).run P w=_;rw[mb];rfl
def run_build(w:World){t:TypeId}{parts:List (Nat×AV)}{r:AV}{pv:List (Nat×Value)}(h:MB P t parts=some r)
  (k:lY (λ(x:Nat×AV) (y:Nat×Value)=>x.1=y.1/\kI F ρ x.2 y.2) parts pv):∃v,(Instr.build t pv.toArray).run P w=.ok v w/\kI F ρ r v:=by
 have h:∃z:Array Value,zeroOf P t=some (.agg z)/\(z.all (·.oneCell')=true/\((placesOf P t).isSome\/((To P t).bind λp=>P.info? p.2).isSome))/\(Nf P t (z.toList.map zp) parts).map .agg=some r:=by
  unfold MB zE at h
  split at h
  ·rename_i z0 d
   split at d
   ·rename_i z l
    split at d
    ·rename_i u;injection d with d;subst d;exact⟨z,l,u,h⟩
    ·cases d
   ·cases d
  ·cases h
 obtain⟨z,l,u,h⟩:=h
 ·--K literal
  ·obtain⟨A,j⟩:=u;cases E:Nf P t (z.toList.map zp) parts with
   |none=>rw[E] at h;cases h
   |some cs=>
    rw[E] at h;cases h
    have B:(zeroValue t).run P w=.ok (.agg z) w:=by
     unfold zeroOf at l;cases hi:P.info? t with
     |none=>rw[hi] at l;cases l
     |some i=>
      rw[hi] at l;simp at l;simp[zeroValue,typeInfo,hi,l]
    have m:∀v∈z.toList,v.oneCell'=true:=λv L=>QF.1 A v (Ib.1 L);have C:lY (pj F ρ) (z.toList.map zp) z.toList:=(zJ F ρ.G ρ.n _ m).DL.mono λ_ _ _ h=>.p h
    have D:∀c∈z.toList.map zp,c.k7=true:=by
     intro c u;obtain⟨a,_,rfl⟩:=nj.1 u;exact Ht a
    cases b:placesOf P t with
    |some ps=>
     have H:∃fs,P.underlying t=some (.struct fs)/\(fs.toList.mapM λf=>(P.info? f.type).map λi=>(f.offset,i.size))=some ps:=by
      unfold placesOf at b
      split at b
      ·exact⟨_,by assumption,b⟩
      ·cases b
     obtain⟨fs,hu,hm⟩:=H
     obtain⟨ws,o,q,s⟩:=SD (P:=P) (F:=F) (ρ:=ρ) (t:=t) (ps.toArray[·]?) (by
      intro i y hy;unfold kP at hy;rw[b] at hy
      simpa using hy) parts pv _ _ z E C D k
     refine⟨.agg ws,?_,by simpa using kI.agg (vs:=ws.toList) q s⟩;unfold Instr.build;simp only[mb,B,qP,run_underlying hu];have I:=NV (P:=P) w fs.toList ps hm;rw[<-Vl (xs:=fs),abZ,run_map,I];simp only[yr,qP,Value.cells,o]
    |none=>
     cases g:To P t with
     |none=>simp[b,g] at j
     |some ne=>
      obtain⟨n,e⟩:=ne
      have hu:P.underlying t=some (.array n e):=by
       unfold To at g
       split at g
       ·rename_i hu;cases g;exact hu
       ·cases g
      cases hi:P.info? e with
      |none=>simp[b,g,hi] at j
      |some J=>
       obtain⟨ws,o,q,s⟩:=SD (P:=P) (F:=F) (ρ:=ρ) (t:=t) (λi=>some (i*J.size,J.size)) (by
        intro i y hy;unfold kP at hy;rw[b] at hy;simp[g,hi] at hy
        simp[hy]) parts pv _ _ z E C D k
       refine⟨.agg ws,?_,by simpa using kI.agg (vs:=ws.toList) q s⟩;unfold Instr.build;simp only[mb,B,qP,run_underlying hu,sizeOf,typeInfo,program,Sem.run,hi,yr,Value.cells,o]
end
end Go.tq
namespace Go.tq
open Go
def Gb(P:Program):List Field->List AV->List AV->Option Bool
 |[],_,_=>some true|f::fs,xs,ys=>
  if f.name= "_" then Gb P fs xs ys else
  match P.underlying f.type,tH P f.type xs f.offset,tH P f.type ys f.offset with
  |some (.int _),some (.sc (.int k a)),some (.sc (.int k' b))=>if k=k' then(Gb P fs xs ys).map λr=>(a==b)&&r else none|some .string,some (.sc (.string a)),some (.sc (.string b))=>(Gb P fs xs ys).map λr=>(a.toList==b.toList)&&r|some .bool,some (.sc (.bool a)),some (.sc (.bool b))=>(Gb P fs xs ys).map λr=>(a==b)&&r|_,_,_=>none
def acP(P:Program)(t:TypeId):Bool:=!P.eqGuardType P.depth t&&!P.stoodInHeld t
def Ri(P:Program)(t:TypeId)(xs a:List AV):Option Bool:=
 match P.underlying t with
 |some (.struct fs)=>if acP P t then Gb P fs.toList xs a else none|_=>none
def wx(P:Program)(op:BinOp)(t:TypeId)(x y:AV):Option AV:=
 match op,x,y with
 |.eql,.agg xs,.agg a=>(Ri P t xs a).map λb=>.sc (.bool b)|.neq,.agg xs,.agg a=>(Ri P t xs a).map λb=>.sc (.bool (!b))|op,x,y=>BO P op t x y
def RG(P:Program)(op:BinOp)(t:TypeId):Operand->AV->AV->Option AV
 |.const .nilIface,.sc .nilIface,_=>match op,P.underlying t with
  |.eql,some (.interface _)=>some (.sc (.bool true))|.neq,some (.interface _)=>some (.sc (.bool false))|_,_=>none
 |_,u,v=>wx P op t u v
def Pc:List AV->Option (List Int)
 |[]=>some []|.sc (.int .u8 n)::l=>(Pc l).map (n:: ·)|_::_=>none
def Zh(P:Program)(s d:TypeId)(l:List AV):Option AV:=
 match P.underlying s,P.underlying d with
 |some (.slice e),some .string=>match P.underlying e,Pc l with
  |some (.int .u8),some a=>some (.sc (.string (strOfNums a)))|_,_=>none
 |_,_=>none
def Xn(P:Program)(s d:TypeId)(x:AV):Option AV:=
 match P.underlying s,P.underlying d,x with
 |some _,some (.int k),.sc (.int _ n)=>some (.sc (.int k (k.wrap n)))|some _,some .string,.sc (.string b)=>some (.sc (.string b))|_,_,_=>none
def Wx(P:Program)(s d:TypeId)(x:AV):Option AV:=
 match x with
 |.slice _ l=>Zh P s d l|x=>Xn P s d x
def Qu(P:Program)(t:TypeId)(x:AV):Option AV:=
 match P.underlying t,x with
 |some (.slice _),.slice _ l=>some (.sc (.int .i64 l.length))|some (.slice _),.FZ _ _ len _=>some (.sc (.int .i64 len))|some (.slice _),.Iv _ _ len _=>some (.sc (.int .i64 len))|some .string,.sc (.string s)=>some (.sc (.int .i64 s.size))|some (.array n _),_=>some (.sc (.int .i64 n))|_,_=>none
def U6:AV->AV->Option AV
 |.sc (.int k a),.sc (.int _ b)=>some (.sc (.int k (if b>a then b else a)))|_,_=>none
def XJ:AV->AV->Option AV
 |.sc (.int k a),.sc (.int _ b)=>some (.sc (.int k (if b<a then b else a)))|_,_=>none
def Rf(f:AV->AV->Option AV):AV->List AV->Option AV
 |x,[]=>some x|x,y::l=>(f x y).bind λz=>Rf f z l
def Fp(P:Program)(T:fx)(fr:Fr)(c:Call):Option AV:=
 match c.callee with
 |.builtin .len=>match c.argTypes[0]?,c.args[0]?with
  |some t,some x=>Qu P t (ev T fr x)|_,_=>none
 |.builtin .max=>match c.args.toList with
  |x::l=>Rf U6 (ev T fr x) (l.map (ev T fr))|[]=>none
 |.builtin .min=>match c.args.toList with
  |x::l=>Rf XJ (ev T fr x) (l.map (ev T fr))|[]=>none
 |_=>none
def Hx(P:Program)(T:fx)(fr:Fr)(o:Oper):Option AV:=
 match o.op with
 |.move x=>some (ev T fr x)|.assign x=>some (ev T fr x)|.pick c a b=>match ev T fr c with
  |.sc (.bool t)=>some (if t then ev T fr a else ev T fr b)|_=>none
 |.build t ps=>MB P t (ps.toList.map λp=>(p.1,ev T fr p.2))|.binOp op t x y _=>RG P op t y (ev T fr x) (ev T fr y)|.unOp op _ x=>unA op (ev T fr x)|.convert s d x=>Wx P s d (ev T fr x)|.makeFunc fn f c=>some (.func fn (f.toList.map λx=>(ev T fr x).norm) (c.toList.map λx=>(ev T fr x).norm))|.fieldAddr t x i=>Al P t (ev T fr x) i|.field t x i=>Kt P t (ev T fr x) i|.indexAddr t x i=>jN P t (ev T fr x) (ev T fr i)|.index t x i=>Ul P t (ev T fr x) (ev T fr i)|.slice t x lo hi e=>vp P t (ev T fr x) (lo.map (ev T fr)) (hi.map (ev T fr)) (e.map (ev T fr))|.extract x i=>match ev T fr x with
  |.tuple vs=>vs[i]?|_=>none
 |.nilCheck x=>match ev T fr x with
  |.func (.func f) a b=>some (.func (.func f) a b)|x=>if Md x then some x else none
 |.makeInterface t x=>if P.concrete t then some (.iface t (ev T fr x).norm)else none|.call c=>Fp P T fr c|_=>none
section
variable{P:Program} {T:fx} {F:rv} {ρ:Maps} {fr:Fr} {a:Act}
def Oe(he:B1 F ρ fr a)(b:HJ T F ρ):∀(xs:List Operand),(∀x∈xs,oX x=true)->lY (kI F ρ) (xs.map (ev T fr)) (xs.map a.eval)
 |[],_=>.nil|x::xs,h=>.cons (kS he b x (h x aae)) (Oe he b xs λy hy=>h y (by simp[hy]))
def O4(he:B1 F ρ fr a)(b:HJ T F ρ)(xs:List Operand)(h:∀x∈xs,oX x=true):kR F ρ.G ρ.n (xs.map λx=>(ev T fr x).norm) (xs.map a.eval):=by
 have:=(Oe he b xs h).G1 AV.norm λ_ _ _ h=>kI.norm h;rw[wR] at this;exact .xU this
def PM(he:B1 F ρ fr a)(b:HJ T F ρ):∀(ps:List (Nat×Operand)),(∀p∈ps,oX p.2=true)->lY (λ(x:Nat×AV) (y:Nat×Value)=>x.1=y.1/\kI F ρ x.2 y.2) (ps.map λp=>(p.1,ev T fr p.2)) (ps.map λp=>(p.1,a.eval p.2))
 |[],_=>.nil|p::ps,h=>.cons ⟨rfl,kS he b p.2 (h p aae)⟩ (PM he b ps λq c=>h q (by simp[c]))
def Uz(he:B1 F ρ fr a)(b:HJ T F ρ)(x:Option Operand)(h:∀y,x=some y->oX y=true):IC F ρ (x.map (ev T fr)) (x.map a.eval):=by
 cases x with
 |none=>trivial|some y=>exact kS he b y (h y rfl)
def XB(w:World){t ty:TypeId}{x r:AV}{u:Value}(h:Qu P t x=some r)(a:kI F ρ x u){ts:Array TypeId}{us:Array Value}(c:ts[0]?=some t)(d:us[0]?=some u):∃v,(Builtin.len_ ts ty us).run P w=.ok v w/\kI F ρ r v:=by
 unfold Qu at h;unfold Builtin.len_;simp only[c,d]
 split at h
 ·rename_i e tag l hu;cases h;obtain⟨base,cap,b,o,sz,vs,rfl,hs,_,_⟩:=yV a;exact⟨_,by simp only[mb,run_underlying hu,qP];rfl,.p (.sc rfl)⟩
 ·rename_i e b g len cap hu;cases h;obtain⟨rfl,_,_,_⟩:=JF a;exact⟨_,by simp only[mb,run_underlying hu,qP];rfl,.p (.sc rfl)⟩
 ·rename_i e b len cap hu;cases h;obtain⟨rfl,_,_,_⟩:=O1 a;exact⟨_,by simp only[mb,run_underlying hu,qP];rfl,.p (.sc rfl)⟩
 ·rename_i s hu;cases h;cases jG a;exact⟨_,by simp only[mb,run_underlying hu,qP];rfl,.p (.sc rfl)⟩
 ·rename_i n e hu;cases h;exact⟨_,by simp only[mb,run_underlying hu,qP];rfl,.p (.sc rfl)⟩
 ·cases h
def Rk(w:World){f:AV->AV->Option AV}{g:Value->Value->Sem Value}(d:∀x y r u v,f x y=some r->kI F ρ x u->kI F ρ y v->∃z,(g u v).run P w=.ok z w/\kI F ρ r z):∀(l:List AV) (x r:AV) (u:Value) (us:List Value),Rf f x l=some r->kI F ρ x u->lY (kI F ρ) l us->∃z,(us.foldlM g u).run P w=.ok z w/\kI F ρ r z:=by
 intro l
 induction l with
 |nil=>
  intro x r u us h a b;cases b;cases h;exact⟨u,rfl,a⟩
 |cons y l e=>
  intro x r u us h a b;cases b with
  |cons i j=>
   simp only[Rf,aba] at h;obtain⟨z,k,h⟩:=h;obtain⟨p,m,c⟩:=d _ _ _ _ _ k a i;obtain⟨q,n,o⟩:=e _ _ _ _ h c j
   simp_all
def Xd(w:World)(x y r:AV)(u v:Value)(h:U6 x y=some r)(a:kI F ρ x u)(hy:kI F ρ y v):∃z,(Builtin.max2 u v).run P w=.ok z w/\kI F ρ r z:=by
 unfold U6 at h
 split at h
 ·cases jG a;cases jG hy;cases h;exact⟨_,rfl,.p (.sc rfl)⟩
 ·cases h
def WX(w:World)(x y r:AV)(u v:Value)(h:XJ x y=some r)(a:kI F ρ x u)(hy:kI F ρ y v):∃z,(Builtin.min2 u v).run P w=.ok z w/\kI F ρ r z:=by
 unfold XJ at h
 split at h
 ·cases jG a;cases jG hy;cases h;exact⟨_,rfl,.p (.sc rfl)⟩
 ·cases h
def Uk(w:World){xs e:List AV}{us vs:List Value}(l:lY (pj F ρ) xs us)(o1:∀c∈xs,c.k7=true)(m:lY (pj F ρ) e vs)(o2:∀c∈e,c.k7=true):∀(fs:List Field) (b:Bool),Gb P fs xs e=some b->(Op.eqFields 9999 us.toArray vs.toArray fs).run P w=.ok b w:=by
 intro fs
 induction fs with
 |nil=>intro b h;simp[Gb] at h;subst h;rfl
 |cons f fs n=>
  intro b h;unfold Gb at h;unfold Op.eqFields
  split at h
  ·rename_i hn;rw[cJ (by simpa using hn)];exact n b h
  ·rename_i hn;rw[cL (by simpa using hn)]
   have step:∀{x y:Value} {r:Bool},tH P f.type xs f.offset=some (.sc x)->tH P f.type e f.offset=some (.sc y)->(Op.equalIn 9999 f.type x y).run P w=.ok r w->(Gb P fs xs e).map (λq=>r&&q)=some b->(do
      let a<-part f.type us.toArray f.offset
      let b<-part f.type vs.toArray f.offset
      let r<-Op.equalIn 9999 f.type a b
      if(!r) then pure false else Op.eqFields 9999 us.toArray vs.toArray fs:Sem Bool).run P w=.ok b w:=by
    intro x y r d hy o i;obtain⟨A,p,s⟩:=Ly (P:=P) w l o1 d;obtain⟨B,t,u⟩:=Ly (P:=P) w m o2 hy;obtain rfl:=jG s;obtain rfl:=jG u;simp only[mb,p,t,o,qP];cases j:Gb P fs xs e with
    |none=>rw[j] at i;cases i
    |some q=>
     rw[j] at i;simp only[XF,zq] at i;cases r
     all_goals simp_all
   split at h
   ·rename_i k v a k2 g hu d hy
    split at h
    ·rename_i z;subst z;exact step d hy (run_equalIn_int w 9998 f.type v k a g hu) h
    ·cases h
   ·rename_i a g hu d hy;exact step d hy (run_equalIn_string w 9998 f.type a g hu) h
   ·rename_i a g hu d hy;exact step d hy (run_equalIn_bool' w 9998 f.type a g hu) h
   ·cases h
def Vf(P:Program)(w:World){t:TypeId}{ms:Array (String×TypeId)}(hu:P.underlying t=some (.interface ms)):(binOp .eql t .nilIface .nilIface).run P w=.ok (.bool true) w/\(binOp .neq t .nilIface .nilIface).run P w=.ok (.bool false) w:=by
 have h:∀d,(Op.equalIn (d+1) t .nilIface .nilIface).run P w=.ok true w:=λd=>by simp[Op.equalIn,run_underlying hu]
 have a:binOp .eql t .nilIface .nilIface=(do pure (.bool (<-Op.equalIn (9999+1) t .nilIface .nilIface))):=rfl;have b:binOp .neq t .nilIface .nilIface=(do pure (.bool (!(<-Op.equalIn (9999+1) t .nilIface .nilIface)))):=rfl;rw[a,b,mb,mb,h 9999];exact⟨rfl,rfl⟩
def Xg(w:World){op:BinOp}{t:TypeId}{x y r:AV}{u v:Value}(h:wx P op t x y=some r)(e:kI F ρ x u)(hy:kI F ρ y v):∃z,(binOp op t u v).run P w=.ok z w/\r=.sc z/\J_ z=true/\∀a b,(eqGuard op t a b u v).run P w=.ok () w:=by
 have agg:∀{xs i:List AV} {b:Bool},Ri P t xs i=some b->kI F ρ (.agg xs) u->kI F ρ (.agg i) v->∃us vs:List Value,u=.agg us.toArray/\v=.agg vs.toArray/\(Op.equalIn (9999+1) t u v).run P w=.ok b w/\P.eqGuardType P.depth t=false:=by
  intro xs i b c e hy;obtain⟨us,rfl,u1,u2⟩:=LJ e;obtain⟨vs,rfl,v1,v2⟩:=LJ hy;unfold Ri at c
  split at c
  ·rename_i fs hu
   split at c
   ·rename_i d;simp only[acP,ew,Sx] at d
    have k:P.fieldsOf t=fs:=by simp[Program.fieldsOf,hu]
    refine⟨us,vs,rfl,rfl,?_,d.1⟩;rw[run_equalIn_struct w 9999 t us.toArray vs.toArray (by rw[k];exact hu) d.2,k];exact Uk w u1 u2 v1 v2 _ _ c
   ·cases c
  ·cases c
 unfold wx at h
 split at h
 ·cases c:Ri P t _ _ with
  |none=>rw[c] at h;cases h
  |some b=>
   rw[c] at h;cases h;obtain⟨us,vs,rfl,rfl,f,g⟩:=agg c e hy;refine⟨.bool b,?_,rfl,rfl,λa b=>?_⟩
   ·have j:binOp .eql t (.agg us.toArray) (.agg vs.toArray)=(do pure (.bool (<-Op.equalIn (9999+1) t (.agg us.toArray) (.agg vs.toArray)))):=rfl;rw[j,mb,f];rfl
   ·simp[eqGuard,g,Result.andThen]
 ·cases c:Ri P t _ _ with
  |none=>rw[c] at h;cases h
  |some b=>
   rw[c] at h;cases h;obtain⟨us,vs,rfl,rfl,f,g⟩:=agg c e hy;refine⟨.bool !b,?_,rfl,rfl,λa b=>?_⟩
   ·have j:binOp .neq t (.agg us.toArray) (.agg vs.toArray)=(do pure (.bool (!(<-Op.equalIn (9999+1) t (.agg us.toArray) (.agg vs.toArray))))):=rfl;rw[j,mb,f];rfl
   ·simp[eqGuard,g,Result.andThen]
 ·obtain⟨z,f,g,l,m⟩:=Vp P w h e hy;exact⟨z,f,g,l,λa b=>S8 P w op t a b m⟩
def M6{G:Nat->Nat}{n:Nat}:∀{a:List Int} {vs:List Value},kR F G n (a.map (λn=>AV.sc (.int .u8 n))) vs->vs=a.map (Value.int .u8)
 |[],_,.nil=>rfl|n::a,_,.cons b c=>by
  cases b;rw[M6 c];rfl
def K0:∀{l:List AV} {a:List Int},Pc l=some a->l.flatMap AV.cells=a.map (λn=>AV.sc (.int .u8 n))/\l.length=a.length
 |[],a,h=>by grind[Pc]|x::l,a,h=>by
  unfold Pc at h
  split at h
  ·rename_i e;cases e
  ·rename_i n c e;injection e with d f;simp only[X'] at h;obtain⟨ms,b,rfl⟩:=h;obtain⟨i1,i2⟩:=K0 b
   grind[AV.cells]
  ·cases h
def KI(w:World)(H:∀b o v,F b o=some v->w.cell? ⟨b,o,none⟩=some v)(he:B1 F ρ fr a)(k:HJ T F ρ){o:Oper}{r:AV}(I:o.op.operands.all oX=true)(h:Hx P T fr o=some r):∃v,(execOp a.eval o).run P w=.ok (.value v) w/\kI F ρ r v:=by
 obtain⟨dst,op,type,pos,after,guard⟩:=o;have g:∀x∈op.operands,oX x=true:=λx j=>QF.1 I x j;clear I
 have lift:∀{s:Sem Value},(∃v,s.run P w=.ok v w/\kI F ρ r v)->∃v,((do pure (.value (<-s))):Sem Next).run P w=.ok (.value v) w/\kI F ρ r v:=by
  rintro s ⟨v,A,C⟩;exact⟨v,by rw[mb,A];rfl,C⟩
 cases op<;>simp only[Hx] at h<;>simp only[Op.operands] at g<;>simp only[execOp]
 case move x=>cases h;exact⟨_,rfl,kS he k x (g x aae)⟩
 case assign x=>cases h;exact⟨_,rfl,kS he k x (g x aae)⟩
 case pick c x y=>
  split at h
  ·rename_i t n;cases h;have J:=kS he k c (g c aae);rw[n] at J;have L:=jG J;refine⟨if t then a.eval x else a.eval y,?_,?_⟩
   ·rw[L];rfl
   ·cases t
    ·exact kS he k y (g y aae)
    ·exact kS he k x (g x aae)
  ·cases h
 case build t ps=>
  refine lift ?_;have B:=PM he k ps.toList λp B=>g p.2 (by simp;exact⟨p.1,by simpa using B⟩);have:=run_build (P:=P) w h B
  have e:(ps.toList.map λp=>(p.1,a.eval p.2)).toArray=ps.map λp=>(p.1,a.eval p.2):=by rw[<-UP,Vl]
  rw[e] at this;exact this
 case binOp op t x y Z=>
  obtain⟨z,q,D,M,N⟩:∃z,(binOp op t (a.eval x) (a.eval y)).run P w=.ok z w/\r=.sc z/\J_ z=true/\(eqGuard op t x y (a.eval x) (a.eval y)).run P w=.ok () w:=by
   have j:=kS he k x (g x aae);have hy:=kS he k y (g y aae);change RG P op t y (ev T fr x) (ev T fr y)=some r at h;generalize ev T fr x=u at h j;generalize ev T fr y=v at h hy;unfold RG at h
   split at h
   ·have j:=jG j;rw[j]
    split at h
    ·rename_i hu;cases h;exact⟨.bool true,(Vf P w hu).1,rfl,rfl,by simp[eqGuard,Act.eval]⟩
    ·rename_i hu;cases h;exact⟨.bool false,(Vf P w hu).2,rfl,rfl,by simp[eqGuard,Act.eval]⟩
    ·cases h
   ·obtain⟨z,q,D,M,N⟩:=Xg (P:=P) w h j hy;exact⟨z,q,D,M,N _ _⟩
  subst D;refine⟨z,?_,.p (.sc M)⟩;simp only[mb,N,qP,q];rfl
 case unOp op t x=>
  refine lift ?_;have j:=kS he k x (g x aae);generalize a.eval x=u at j|-;unfold unA at h
  split at h
  ·rename_i n;rw[n] at j;cases jG j;cases h;exact⟨_,by simp[Op.unary,Op.intArith],.p (.sc rfl)⟩
  ·rename_i n;rw[n] at j;cases jG j;cases h;exact⟨_,by simp[Op.unary],.p (.sc rfl)⟩
  ·cases h
 case convert s d x=>
  refine lift ?_;have j:=kS he k x (g x aae);generalize a.eval x=u at j|-;unfold Wx at h
  split at h
  ·rename_i tag l n;unfold Zh at h
   split at h
   ·rename_i e hs E
    split at h
    ·rename_i K hu O;cases h;rw[n] at j;obtain⟨S,hlen⟩:=K0 O;obtain⟨base,cap,b,o,sz,vs,rfl,G,_,_⟩:=yV j;refine⟨.string (strOfNums K),?_,.p (.sc rfl)⟩
     have Q:vs=K.map (Value.int .u8):=by
      have B:=G.cells;rw[S] at B;exact M6 B
     by_cases hn:l=[]
     ·subst hn;have R:K=[]:=Df (by simpa using hlen.symm);subst R;cases base with
      |none=>exact run_convert_bytes_nil w s e hs hu 0 cap d E|some U=>
       obtain⟨V,W,X⟩:=U;show(convert s d (.slice (some ⟨V,W,X⟩) 0 cap)).run P w=_;rw[run_convert_bytes_string w s d e _ 0 cap hs hu E,run_bytesToString w _ 0 cap [] (by simp[loadCells,loadCellsFrom])];rfl
     ·rw[G.base hn];refine run_convert_bytes_arg w s e hs hu b o l.length cap K hlen.symm (λi hi=>?_) d E;refine H b (o+i) _ (G.has i _ ?_);rw[Q,x_,mr Zb];simp[List.getD,mr (show i<K.length by omega)]
    ·cases h
   ·cases h
  ·unfold Xn at h
   split at h
   ·rename_i hs E n;rw[n] at j;cases jG j;cases h;refine⟨_,?_,.p (.sc rfl)⟩;unfold convert;simp only[mb,run_underlying hs,run_underlying E,qP];rfl
   ·rename_i hs E n;rw[n] at j;cases jG j;cases h;refine⟨_,?_,.p (.sc rfl)⟩;unfold convert;simp only[mb,run_underlying hs,run_underlying E,qP];rfl
   ·cases h
 case makeFunc fn f c=>
  cases h;refine lift ⟨.func fn (f.map a.eval) (c.map a.eval),rfl,?_⟩;have q:=O4 he k f.toList λx j=>g x (by simp[Ib.1 j]);have D:=O4 he k c.toList λx j=>g x (by simp[Ib.1 j]);have:=k5.func (fn:=fn) q D
  have e:∀l:Array Operand,(l.toList.map a.eval).toArray=l.map a.eval:=λl=>by rw[<-UP,Vl]
  rw[e,e] at this;exact .p this
 case fieldAddr t x i=>exact lift (QV w h (kS he k x (g x aae)))
 case field t x i=>exact lift (VJ w h (kS he k x (g x aae)))
 case indexAddr t x i=>exact lift (QX w h (kS he k x (g x aae)) (kS he k i (g i aae)))
 case index t x i=>exact lift (VI w h (kS he k x (g x aae)) (kS he k i (g i aae)))
 case slice t x lo hi Y=>
  exact lift (Vu w h (kS he k x (g x aae)) (Uz he k lo λy hy=>g y (by simp[hy])) (Uz he k hi λy hy=>g y (by simp[hy]))
   (Uz he k Y λy hy=>g y (by simp[hy])))
 case extract x i=>
  refine lift ?_;have j:=kS he k x (g x aae)
  split at h
  ·rename_i vs n;rw[n] at j;obtain⟨us,hu,C⟩:=UT j;obtain⟨v,A,B⟩:=C.get h;refine⟨v,?_,.p B⟩;rw[hu];simp[Instr.extract,A]
  ·cases h
 case nilCheck x=>
  have j:=kS he k x (g x aae)
  split at h
  ·rename_i f b c n;cases h;rw[n] at j;obtain⟨vf,vc,A,_,_⟩:=JV j;refine⟨a.eval x,?_,j⟩;rw[A];rfl
  ·rename_i n
   split at h
   ·rename_i B;cases h;obtain⟨b,O⟩:=MZ B j;refine⟨a.eval x,?_,j⟩;rw[O];rfl
   ·cases h
 case makeInterface t x=>
  refine lift ?_
  split at h
  ·rename_i n;cases h;exact⟨_,run_makeInterface w t _ n,.p (.iface (kS he k x (g x aae)).norm)⟩
  ·cases h
 case call c=>
  obtain⟨callee,args,argTypes⟩:=c;have m:∀x∈args.toList,oX x=true:=λx j=>g x (by simp[Call.operands,Ib.1 j]);simp only[Fp] at h
  split at h
  ·split at h
   ·rename_i t x q D;simp only[resolve,invoke,builtin,mb,yr,qP];have j:x∈args:=VE D;obtain⟨v,A,C⟩:=XB (P:=P) (ty:=type) w h (kS he k x (m x (Ib.2 j))) q (us:=args.map a.eval) (by simp[D]);exact⟨v,by rw[A];rfl,C⟩
   ·cases h
  ·split at h
   ·rename_i x l q;simp only[resolve,invoke,builtin,mb,yr,qP];obtain⟨v,A,C⟩:=Rk w (Xd (P:=P) w) _ _ _ _ _ h (kS he k x (m x (by simp[q]))) (Oe he k l λy hy=>m y (by simp[q,hy]));refine⟨v,?_,C⟩
    have e:(args.map a.eval).toList=a.eval x::l.map a.eval:=by simp[q]
    simp only[Builtin.max_,e,A,qP]
   ·cases h
  ·split at h
   ·rename_i x l q;simp only[resolve,invoke,builtin,mb,yr,qP];obtain⟨v,A,C⟩:=Rk w (WX (P:=P) w) _ _ _ _ _ h (kS he k x (m x (by simp[q]))) (Oe he k l λy hy=>m y (by simp[q,hy]));refine⟨v,?_,C⟩
    have e:(args.map a.eval).toList=a.eval x::l.map a.eval:=by simp[q]
    simp only[Builtin.min_,e,A,qP]
   ·cases h
  ·cases h
 all_goals cases h
end
end Go.tq
namespace Go.tq
open Go
def V0(a:Nat×Nat)(n:Nat):Prop:=a=(0,0)\/n<=a.1
inductive sQ (F:rv) (G:Nat->Nat) (n:Nat):List AV->Obj->Prop
 |cells {cs vs ty fz}:V0 fz vs.size->lY (k5 F G n) cs vs.toList->(∀c∈cs,c.k7=true)->sQ F G n cs (.cells vs ty fz)|map {ks xs es clock}:es.toList.map (·.key)=ks->lY (k5 F G n) xs (es.toList.map (·.val))->es.toList.map (·.born)=List.range ks.length->clock=ks.length->ks.Nodup->sQ F G n [.Dd ks xs] (.map es clock)|iter {o since seen}:o<n->sQ F G n [.ue o since seen] (.mapIter (some (G o)) since seen.toArray since)
  |dead {ob}:sQ F G n [] ob
def sQ.grow{F F':rv}{G G':Nat->Nat}{n n':Nat}(hg:M4 F F' G G' n n'){cs c}(h:sQ F G n cs c):sQ F' G' n' cs c:=by
 cases h with
 |cells d a b=>exact .cells d (a.mono λ_ _ _ h=>h.grow hg) b|map a b e f g=>exact .map a (b.mono λ_ _ _ h=>h.grow hg) e f g|iter h=>rw[<-hg.mG _ h];exact .iter (Tl h hg.mn)|dead=>exact .dead
def Fe:List AV->Bool
 |[]=>false|c::_=>c.k7
def sQ.Oh{F:rv}{G:Nat->Nat}{n:Nat}{cs a}(h:sQ F G n cs a)(d:Fe cs=true):∃vs ty b,a=.cells vs ty b/\V0 b vs.size/\lY (k5 F G n) cs vs.toList/\∀c∈cs,c.k7=true:=by
 cases h with
 |cells e f g=>grind|map=>grind[Fe,AV.k7]|iter=>grind[Fe,AV.k7]|dead=>grind[Fe]
def OD(vs:Array Value):Prop:=∀u∈vs.toList,u.oneCell'=true
structure GW (T:fx) (G:Nat->Nat) (F:rv) (H:dM) (w:World):Prop where
 NK:∀b o v,F b o=some v->w.cell? ⟨b,o,none⟩=some v
 sN:∀o cs,H[o]?=some cs->∃ob,w.heap[G o]?=some ob/\sQ F G H.length cs ob
 inj:∀o o',o<H.length->o'<H.length->G o=G o'->o=o'
 gF:∀o j,o<H.length->H[o]?≠some []->F (G o) j=none
 fresh:∀b j,w.heap.size<=b->F b j=none
 J4:∀g x,T g=some x->k5 F G H.length (.tB x) (.pointer (some ⟨g,0,none⟩))
 row:(∀g,T g=none)->∀b o v,F b o=some v->∃vs ty fz,w.heap[b]?=some (.cells vs ty fz)/\V0 fz vs.size/\OD vs
structure Ext (B:Nat) (G:Nat->Nat) (F:rv) (n:Nat) (w:World) (G':Nat->Nat) (F':rv) (n':Nat) (w':World):Prop where
 os:w'.os=w.os
 tape:w'.tape=w.tape
 output:w'.output=w.output
 size:w.heap.size<=w'.heap.size
 len:n<=n'
 hG:∀o,o<n->G' o=G o
 R3:∀o,n<=o->o<n'->B<=G' o
 hF:∀b j,b<B->(∀o,o<n->G o≠b)->F' b j=F b j
 mF:∀b j v,b<B->F b j=some v->F' b j=some v
 heap:∀b,b<B->(∀o,o<n->G o≠b)->w'.heap[b]?=w.heap[b]?
section
variable{B B':Nat} {G G' G'':Nat->Nat} {F F' F'':rv} {n n' n'':Nat} {w w' w'':World}
def Ext.refl:Ext B G F n w G F n w:=⟨rfl,rfl,rfl,jM _,jM _,λ_ _=>rfl,λ_ h a=>absurd a Zb,λ_ _ _ _=>rfl,λ_ _ _ _ h=>h,λ_ _ _=>rfl⟩
def Ext.trans(h:Ext B G F n w G' F' n' w')(k:Ext B G' F' n' w' G'' F'' n'' w''):Ext B G F n w G'' F'' n'' w'' where
 os:=k.os.trans h.os
 tape:=k.tape.trans h.tape
 output:=k.output.trans h.output
 size:=DJ h.size k.size
 len:=DJ h.len k.len
 hG o c:=(k.hG o (Tl c h.len)).trans (h.hG o c)
 R3 o d e:=by
  rcases zj o n' with h3|h3
  ·rw[k.hG o h3];exact h.R3 o d h3
  ·exact k.R3 o h3 e
 hF b j a hg:=by
  refine(k.hF b j a λo c=>?_).trans (h.hF b j a hg);rcases zj o n with h3|h3
  ·rw[h.hG o h3];exact hg o h3
  ·have:=h.R3 o h3 c;omega
 mF b j v a f:=k.mF b j v a (h.mF b j v a f)
 heap b a hg:=by
  refine(k.heap b a λo c=>?_).trans (h.heap b a hg);rcases zj o n with h3|h3
  ·rw[h.hG o h3];exact hg o h3
  ·have:=h.R3 o h3 c;omega
theorem Ext.mono(h:Ext B G F n w G' F' n' w')(c:B'<=B):Ext B' G F n w G' F' n' w':=
 ⟨h.os,h.tape,h.output,h.size,h.len,h.hG,λo d e=>DJ c (h.R3 o d e),λb j a=>h.hF b j Zb,λb j v a=>h.mF b j v Zb,λb a hg=>h.heap b Zb hg⟩
end
inductive x0 where
 |free|box (d:Nat)|sN|arr (k:Nat)
 deriving DecidableEq
structure WR (T:fx) (n B0:Nat) (ρ:Maps) (F:rv) (R:Nat->x0) (fr:Fr) (H:dM) (a:Act) (w:World):Prop where
 g:GW T ρ.G F H w
 size:a.tmps.size=n
 defers:a.defers=[]
 env:B1 F ρ fr a
 hn:ρ.n=H.length
 lg:∀d,ρ.lg d=fr.gen d
 ag:∀k,ρ.ag k=fr.gN k
 box:∀d cs,fr.box d=some cs->B0<=ρ.L d (fr.gen d)/\R (ρ.L d (fr.gen d))=.box d/\(∀c∈cs,c.k7=true)/\∃vs ty,w.heap[ρ.L d (fr.gen d)]?=some (.cells vs ty (0,0))/\lY (pj F ρ) cs vs.toList
 tok:∀k m,fr.CX k=some m->∀b c sz,ρ.A k (fr.gN k)=some (b,c,sz)->B0<=b/\R b=.arr k/\(0<m/\m<=c)/\c<=maxLen/\(∃vs ty,w.heap[b]?=some (.cells vs ty (0,0))/\vs.size=c*sz/\OD vs)/\∀j,m*sz<=j->F b j=none
 AG:∀b j v,F b j=some v->∀d,R b≠ .box d
 vQ:∀o,o<H.length->R (ρ.G o)=.sN
 tf:∀b,w.heap.size<=b->R b=.free
 Ag:B0<=w.heap.size
section
variable{T:fx} {n B0:Nat} {ρ ρ':Maps} {F F':rv} {R:Nat->x0} {fr:Fr} {H:dM} {a:Act} {w w':World}
def WR.nA(h:WR T n B0 ρ F R fr H a w):HJ T F ρ:=λg x b=>by rw[h.hn];exact h.g.J4 g x b
def WR.adt(h:WR T n B0 ρ F R fr H a w){b j:Nat}{v:Value}(c:F b j=some v):b<w.heap.size:=by
 rcases zj b w.heap.size with h'|h'
 ·exact h'
 ·rw[h.g.fresh b j h'] at c;cases c
theorem Fr.Lk(fr:Fr)(d:Option Nat)(x:AV)(t:Nat):(fr.put d x).env t=if d=some t then x else fr.env t:=by
 cases d with
 |none=>simp[Fr.put]|some d=>
  simp only[Fr.put,kQ]
  grind
theorem Fr.Gi(fr:Fr)(d:Option Nat)(x:AV):(fr.put d x).box=fr.box/\(fr.put d x).gen=fr.gen/\(fr.put d x).CX=fr.CX/\(fr.put d x).gN=fr.gN:=by
 cases d<;>exact⟨rfl,rfl,rfl,rfl⟩
def TW(a:Act)(d:Option Nat)(v:Value)(t:Nat)(c:∀b,d=some b->b<a.tmps.size):(a.put d v).tmps.getD t undef=if d=some t then v else a.tmps.getD t undef:=by
 cases d with
 |none=>simp[Act.put]|some d=>
  simp only[Act.put,TB]
  grind
theorem B1.put(he:B1 F ρ fr a){d:Option Nat}(c:∀b,d=some b->b<a.tmps.size){x:AV}{v:Value}(e:kI F ρ x v):B1 F ρ (fr.put d x) (a.put d v):=by
 intro t;rw[Fr.Lk,TW a d v t c]
 split
 ·exact e
 ·exact he t
def Le(a:Act)(d:Option Nat)(v:Value):(a.put d v).tmps.size=a.tmps.size:=by cases d<;>simp[Act.put]
def put_defers(a:Act)(d:Option Nat)(v:Value):(a.put d v).defers=a.defers:=by cases d<;>rfl
theorem WR.put(h:WR T n B0 ρ F R fr H a w){d:Option Nat}(f:∀b,d=some b->b<n){x:AV}{v:Value}(i:kI F ρ x v):WR T n B0 ρ F R (fr.put d x) H (a.put d v) w:=by
 obtain⟨j,c,k,e⟩:=Fr.Gi fr d x;refine⟨h.g,by rw[Le];exact h.size,by rw[put_defers];exact h.defers,h.env.put (by rw[h.size];exact f) i,h.hn,?_,?_,?_,?_,h.AG,h.vQ,h.tf,h.Ag⟩
 ·rw[c];exact h.lg
 ·rw[e];exact h.ag
 ·rw[j,c];exact h.box
 ·rw[k,e];exact h.tok
def WR.drew(h:WR T n B0 ρ F R fr H a w):WR T n B0 ρ F R fr H a w.drew:=
 ⟨⟨h.g.NK,h.g.sN,h.g.inj,h.g.gF,h.g.fresh,h.g.J4,h.g.row⟩,h.size,h.defers,h.env,h.hn,h.lg,h.ag,h.box,h.tok,h.AG,h.vQ,h.tf,h.Ag⟩
def xR{w:World}{b:Nat}{o:Obj}(h:w.heap[b]?=some o):b<w.heap.size:=(VC.1 h).1
def WR.alloc(h:WR T n B0 ρ F R fr H a w)(o:Obj):WR T n B0 ρ F R fr H a (w.alloc o):=by
 have hs:(w.alloc o).heap.size=w.heap.size+1:=World.size_alloc w o;refine⟨⟨?_,?_,h.g.inj,h.g.gF,?_,h.g.J4,?_⟩,h.size,h.defers,h.env,h.hn,h.lg,h.ag,?_,?_,h.AG,h.vQ,?_,by have:=h.Ag;omega⟩
 ·intro b j v l;rw[World.cell?_alloc_lt w o ⟨b,j,none⟩ (h.adt l)];exact h.g.NK b j v l
 ·intro t cs u;obtain⟨p,e,f⟩:=h.g.sN t cs u;exact⟨p,(heap_alloc_old w o (xR e)).trans e,f⟩
 ·intro b j x;exact h.g.fresh b j Zb
 ·intro y b j v l;obtain⟨vs,ty,z,e,f⟩:=h.g.row y b j v l;exact⟨vs,ty,z,(heap_alloc_old w o (xR e)).trans e,f⟩
 ·intro d cs A;obtain⟨e,f,q,vs,ty,i,r⟩:=h.box d cs A;exact⟨e,f,q,vs,ty,(heap_alloc_old w o (xR i)).trans i,r⟩
 ·intro k m B b c sz C;obtain⟨e,f,q,s,⟨vs,ty,i,r⟩,D⟩:=h.tok k m B b c sz C;exact⟨e,f,q,s,⟨vs,ty,(heap_alloc_old w o (xR i)).trans i,r⟩,D⟩
 ·intro b x;exact h.tf b Zb
def B1.grow(he:B1 F ρ fr a)(hg:Dr F F' ρ ρ'):B1 F' ρ' fr a:=λt=>(he t).grow hg
def BU{α:Type}(f:Nat->Nat->α)(i j:Nat)(x:α):Nat->Nat->α:=λa b=>if a=i/\b=j then x else f a b
def WR.Zn(h:WR T n B0 ρ F R fr H a w){b:Nat}{vs:Array Value}{ty:TypeId}{cs:List AV}(K:B0<=b)(q:R b=.free)(hF:∀j,F b j=none)
  (J:w.heap[b]?=some (.cells vs ty (0,0))) (A:lY (pj F ρ) cs vs.toList) (u:∀c∈cs,c.k7=true) {d:Nat} (M:d<n):∃ρ' y,ρ'.G=ρ.G/\WR T n B0 ρ' F y {fr with env:=kQ fr.env d (.mD d (fr.gen d+1) 0),box:=kQ fr.box d (some cs),gen:=kQ fr.gen d (fr.gen d+1)} H
   (a.put (some d) (.pointer (some ⟨b,0,none⟩))) w:=by
 let ρ':Maps:={ρ with L:=BU ρ.L d (fr.gen d+1) b,lg:=kQ ρ.lg d (fr.gen d+1)}
 let y:Nat->x0:=kQ R b (.box d)
 have r:Dr F F ρ ρ':=by
  refine⟨.refl,λf=>?_,λf g hg=>?_,λ_=>jM _,λ_ _ _=>rfl⟩
  ·show ρ.lg f<=kQ ρ.lg d (fr.gen d+1) f;unfold kQ
   split
   ·rename_i N;subst N;rw[h.lg];omega
   ·exact jM _
  ·show BU ρ.L d (fr.gen d+1) b f g=ρ.L f g;unfold BU;rw[cJ];rintro⟨rfl,rfl⟩;rw[h.lg] at hg;omega
 have l:∀i,R i≠ .free->y i=R i:=by
  intro i s;show kQ R b (.box d) i=R i;unfold kQ;rw[cJ];rintro rfl;exact s q
 refine⟨ρ',y,rfl,?_⟩;refine⟨⟨h.g.NK,h.g.sN,h.g.inj,h.g.gF,h.g.fresh,h.g.J4,h.g.row⟩,by rw[Le];exact h.size,by rw[put_defers];exact h.defers,?_,h.hn,?_,h.ag,?_,?_,?_,?_,?_,h.Ag⟩
 ·have O:=(h.env.grow r).put (d:=some d) (by intro f he;injection he with he;subst he;rw[h.size];exact M) (x:=.mD d (fr.gen d+1) 0) (v:=.pointer (some ⟨b,0,none⟩))
   (by
    have:=pj.mD (F:=F) (ρ:=ρ') (b:=d) (g:=fr.gen d+1) (off:=0) (by show _<=kQ ρ.lg d (fr.gen d+1) d;simp[kQ])
    have e:ρ'.L d (fr.gen d+1)=b:=by show BU ρ.L d (fr.gen d+1) b d (fr.gen d+1)=b;simp[BU]
    rw[e] at this
    exact .cell this)
  exact O
 ·intro f;show kQ ρ.lg d (fr.gen d+1) f=kQ fr.gen d (fr.gen d+1) f;unfold kQ
  split
  ·rfl
  ·exact h.lg f
 ·intro f B p;simp only[kQ] at p|-
  by_cases he:f=d
  ·subst he;simp only[if_true] at p|-;cases p
   have e:ρ'.L f (fr.gen f+1)=b:=by show BU ρ.L f (fr.gen f+1) b f (fr.gen f+1)=b;simp[BU]
   rw[e];refine⟨K,?_,u,vs,ty,J,A.mono λ_ _ _ h=>h.grow r⟩;show kQ R b (.box f) b=.box f;simp[kQ]
  ·simp only[cJ he] at p|-;obtain⟨C,z,D,vs',E,P,Q⟩:=h.box f B p
   have e:ρ'.L f (fr.gen f)=ρ.L f (fr.gen f):=by show BU ρ.L d (fr.gen d+1) b f (fr.gen f)=_;simp[BU,he]
   rw[e];exact⟨C,by rw[l _ (by rw[z];simp)];exact z,D,vs',E,P,Q.mono λ_ _ _ h=>h.grow r⟩
 ·intro k m S i c sz U;obtain⟨C,z,D⟩:=h.tok k m S i c sz U;exact⟨C,by rw[l _ (by rw[z];simp)];exact z,D⟩
 ·intro i j v I
  have t:i≠b:=by rintro rfl;rw[hF j] at I;cases I
  have e:y i=R i:=by show kQ R b (.box d) i=R i;simp[kQ,t]
  rw[e];exact h.AG i j v I
 ·intro o V;have:=h.vQ o V;rw[l _ (by show R (ρ.G o)≠_;rw[this];simp)];exact this
 ·intro i s
  have t:i≠b:=by rintro rfl;have:=xR J;omega
  show kQ R b (.box d) i=.free;simp only[kQ,cJ t];exact h.tf i s
def WR.Vd(h:WR T n B0 ρ F R fr H a w){b:Nat}{C:Obj}{cs:List AV}(i:R b=.free)(hF:∀j,F b j=none)
  (P:w.heap[b]?=some C) (D:sQ F ρ.G ρ.n cs C):∃ρ' y,(∀o,o<H.length->ρ'.G o=ρ.G o)/\ρ'.G H.length=b/\ρ'.n=H.length+1/\WR T n B0 ρ' F y fr (H++[cs]) a w:=by
 let ρ':Maps:={ρ with G:=kQ ρ.G H.length b,n:=H.length+1}
 let y:Nat->x0:=kQ R b .sN
 have hG:∀o,o<H.length->ρ'.G o=ρ.G o:=by
  intro o f;show kQ ρ.G H.length b o=ρ.G o;simp only[kQ];rw[cJ Zb]
 have r:M4 F F ρ.G ρ'.G ρ.n ρ'.n:=⟨λ_ _ _ h=>h,by show ρ.n<=H.length+1;rw[h.hn];omega,λo f=>hG o (by rw[h.hn] at f;exact f)⟩;have z:Dr F F ρ ρ':=⟨r,λ_=>jM _,λ_ _ _=>rfl,λ_=>jM _,λ_ _ _=>rfl⟩
 have q:M4 F F ρ.G ρ'.G H.length (H++[cs]).length:=by
  have:=r;rw[h.hn] at this;simpa using this
 have l:∀d,R d≠ .free->y d=R d:=by
  intro d s;show kQ R b .sN d=R d;unfold kQ;rw[cJ];rintro rfl;exact s i
 have p:ρ'.G H.length=b:=by show kQ ρ.G H.length b H.length=b;simp[kQ]
 refine⟨ρ',y,hG,p,rfl,?_⟩;refine⟨⟨h.g.NK,?_,?_,?_,h.g.fresh,λg x Q=>(h.g.J4 g x Q).grow q,h.g.row⟩,h.size,h.defers,h.env.grow z,by show H.length+1=_;simp,h.lg,h.ag,?_,?_,?_,?_,?_,h.Ag⟩
 ·intro o t f;rcases zj o H.length with A|hge
  ·rw[uj A] at f;obtain⟨E,h1,h2⟩:=h.g.sN o t f;rw[hG o A];exact⟨E,h1,h2.grow q⟩
  ·have:o=H.length:=by
    have:=(qR.1 f).1;simp at this;omega
   subst this;simp at f;subst f;rw[p];exact⟨C,P,(by have:=D.grow r;simpa using this)⟩
 ·intro o o' f I he;simp at f I
  have key:∀o,o<H.length->ρ'.G o≠b:=by
   intro o f he;rw[hG o f] at he;have:=h.vQ o f;rw[he,i] at this;cases this
  rcases zj o H.length with h1|h1
  ·rcases zj o' H.length with h2|h2
   ·rw[hG o h1,hG o' h2] at he;exact h.g.inj o o' h1 h2 he
   ·have e:o'=H.length:=Zb
    subst e;rw[p] at he;exact absurd he (key o h1)
  ·grind
 ·intro o j f B;simp at f;rcases zj o H.length with h1|h1
  ·rw[hG o h1];exact h.g.gF o j h1 (by rw[uj h1] at B;exact B)
  ·have e:o=H.length:=Zb
   subst e;rw[p];exact hF j
 ·intro J t K;obtain⟨h1,h2,M,vs',N,S,U⟩:=h.box J t K;exact⟨h1,by rw[l _ (by show R (ρ.L J (fr.gen J))≠_;rw[h2];simp)];exact h2,M,vs',N,S,U.mono λ_ _ _ h=>h.grow z⟩
 ·intro k m V d c sz W;obtain⟨h1,h2,M⟩:=h.tok k m V d c sz W;exact⟨h1,by rw[l _ (by rw[h2];simp)];exact h2,M⟩
 ·intro d j v O
  have u:d≠b:=by rintro rfl;rw[hF j] at O;cases O
  have e:y d=R d:=by show kQ R b .sN d=R d;simp[kQ,u]
  rw[e];exact h.AG d j v O
 ·intro o f;simp at f;rcases zj o H.length with h1|h1
  ·have:=h.vQ o h1;rw[hG o h1,l _ (by rw[this];simp)];exact this
  ·have e:o=H.length:=Zb
   subst e;rw[p];show kQ R b .sN b=.sN;simp[kQ]
 ·intro d s
  have u:d≠b:=by rintro rfl;have:=xR P;omega
  show kQ R b .sN d=.free;simp only[kQ,cJ u];exact h.tf d s
def WR.aay(h:WR T n B0 ρ F R fr H a w){b:Nat}{vs:Array Value}{ty:TypeId}{cs:List AV}(e:R b=.free)(hF:∀j,F b j=none)
  (l:w.heap[b]?=some (.cells vs ty (0,0))) (i:lY (k5 F ρ.G ρ.n) cs vs.toList) (f:∀c∈cs,c.k7=true) {d:Nat} (m:d<n):∃ρ' k,(∀o,o<H.length->ρ'.G o=ρ.G o)/\ρ'.G H.length=b/\WR T n B0 ρ' F k {fr with env:=kQ fr.env d (.gS H.length 0)} (H++[cs])
   (a.put (some d) (.pointer (some ⟨b,0,none⟩))) w:=by
 obtain⟨ρ',k,hG,g,q,hw⟩:=h.Vd e hF l (.cells (.inl rfl) i f);refine⟨ρ',k,hG,g,hw.put (d:=some d) (by intro r he;injection he with he;subst he;exact m) (x:=.gS H.length 0) ?_⟩;have:=k5.gS (F:=F) (G:=ρ'.G) (n:=ρ'.n) (o:=H.length) (off:=0) (by grind);rw[g] at this;exact .p this
end
def cell_setRow_other(w:World)(g:Nat)(cs:Array Value)(b o:Nat)(h:b≠g):(w.setRow g cs).cell? ⟨b,o,none⟩=w.cell? ⟨b,o,none⟩:=
 World.cell?_of_block (w:=w) (a:=⟨b,o,none⟩) (setRow_other w g b cs h)
def size_setRow(w:World)(g:Nat)(cs:Array Value):(w.setRow g cs).heap.size=w.heap.size:=by simp_all
section
variable{T:fx} {n B0:Nat} {ρ:Maps} {F:rv} {R:Nat->x0} {fr:Fr} {H:dM} {a:Act} {w:World}
def WR.W7(h:WR T n B0 ρ F R fr H a w){d:Nat}{cs q:List AV}{vs':Array Value}(N:fr.box d=some cs)(z:lY (pj F ρ) q vs'.toList)(t:∀c∈q,c.k7=true):WR T n B0 ρ F R {fr with box:=kQ fr.box d (some q)} H a (w.setRow (ρ.L d (fr.gen d)) vs'):=by
 obtain⟨O,J,W,vs,ty,P,X⟩:=h.box d cs N
 have e:∀b,R b≠ .box d->b≠ρ.L d (fr.gen d):=by
  rintro b r rfl;exact r J
 refine⟨⟨?_,?_,h.g.inj,h.g.gF,?_,h.g.J4,?_⟩,h.size,h.defers,h.env,h.hn,h.lg,h.ag,?_,?_,h.AG,h.vQ,?_,by rw[size_setRow];exact h.Ag⟩
 ·intro b o v u;rw[cell_setRow_other]
  ·exact h.g.NK b o v u
  ·exact e b (h.AG b o v u d)
 ·intro o f K;obtain⟨x,y,s⟩:=h.g.sN o f K;refine⟨x,?_,s⟩;rw[setRow_other]
  ·exact y
  ·refine e _ ?_;rw[h.vQ o (qR.1 K).1];simp
 ·intro b j r;rw[size_setRow] at r;exact h.g.fresh b j r
 ·intro Q b j v u;obtain⟨A,B,C,g1,g2⟩:=h.g.row Q b j v u;exact⟨A,B,C,by rw[setRow_other _ _ _ _ (e b (h.AG b j v u d))];exact g1,g2⟩
 ·intro M f i;simp only[kQ] at i
  by_cases he:M=d
  ·subst he;simp only[if_true] at i;cases i;exact⟨O,J,t,vs',ty,setRow_heap w _ vs vs' ty (0,0) P,z⟩
  ·simp only[cJ he] at i;obtain⟨y,s,D,l,p,E,G⟩:=h.box M f i;refine⟨y,s,D,l,p,?_,G⟩;rw[setRow_other]
   ·exact E
   ·refine e _ ?_;rw[s];simp[he]
 ·intro k m S b c sz U;obtain⟨y,s,D,I,⟨l,p,E,G⟩,V⟩:=h.tok k m S b c sz U;refine⟨y,s,D,I,⟨l,p,?_,G⟩,V⟩;rw[setRow_other]
  ·exact E
  ·refine e _ ?_;rw[s];simp
 ·intro b r;rw[size_setRow] at r;exact h.tf b r
def WR.Po(h:WR T n B0 ρ F R fr H a w){o:Nat}{cs s:List AV}{w':World}{t:Obj}(I:H[o]?=some cs)(u:cs≠[])(x:w'.heap.size=w.heap.size)(B:w'.heap[ρ.G o]?=some t)
  (d:∀b,b≠ρ.G o->w'.heap[b]?=w.heap[b]?) (K:sQ F ρ.G ρ.n s t):WR T n B0 ρ F R fr (H.set o s) a w':=by
 have f:=(qR.1 I).1;have L:=h.vQ o f
 have M:∀b,R b≠ .sN->b≠ρ.G o:=by
  rintro b l rfl;exact l L
 have A:(H.set o s).length=H.length:=aae
 refine⟨⟨?_,?_,?_,?_,?_,?_,?_⟩,h.size,h.defers,h.env,by rw[A];exact h.hn,h.lg,h.ag,?_,?_,h.AG,?_,?_,by rw[x];exact h.Ag⟩
 ·intro b o' v y
  have l:b≠ρ.G o:=by
   rintro rfl;rw[h.g.gF o o' f (by rw[I];exactλe=>u (hZ e))] at y;cases y
  have e:w'.cell? ⟨b,o',none⟩=w.cell? ⟨b,o',none⟩:=by simp[World.cell?,d b l]
  rw[e];exact h.g.NK b o' v y
 ·intro o' i C;rw[A]
  by_cases he:o=o'
  ·subst he;simp only[ZF f] at C;cases C;refine⟨t,B,?_⟩;rw[<-h.hn];exact K
  ·rw[Pp he] at C;obtain⟨D,J,E⟩:=h.g.sN o' i C;refine⟨D,?_,E⟩;rw[d]
   ·exact J
   ·exactλe=>he (h.g.inj o' o (qR.1 C).1 f e).symm
 ·rw[A];exact h.g.inj
 ·intro o' j z p;rw[A] at z
  by_cases he:o=o'
  ·subst he;exact h.g.gF o j z (by rw[I];exactλe=>u (hZ e))
  ·rw[Pp he] at p;exact h.g.gF o' j z p
 ·intro b j l;rw[x] at l;exact h.g.fresh b j l
 ·rw[A];exact h.g.J4
 ·intro W b j v y;obtain⟨N,O,P,g1,g2⟩:=h.g.row W b j v y;refine⟨N,O,P,?_,g2⟩;rw[d]
  ·exact g1
  ·rintro rfl;rw[h.g.gF o j f (by rw[I];exactλe=>u (hZ e))] at y;cases y
 ·intro X i Q;obtain⟨J,E,S,q,r,U,V⟩:=h.box X i Q;refine⟨J,E,S,q,r,?_,V⟩;rw[d]
  ·exact U
  ·refine M _ ?_;rw[E];simp
 ·intro k m Y b c sz Z;obtain⟨J,E,S,aa,⟨q,r,U,V⟩,e6⟩:=h.tok k m Y b c sz Z
  grind
 ·rw[A];exact h.vQ
 ·intro b l;rw[x] at l;exact h.tf b l
def WR.Yr(h:WR T n B0 ρ F R fr H a w){o:Nat}{cs d:List AV}{vs':Array Value}(m:H[o]?=some cs)(e:Fe cs=true)(f:lY (k5 F ρ.G ρ.n) d vs'.toList)(hlen:d.length=cs.length)(i:∀c∈d,c.k7=true):WR T n B0 ρ F R fr (H.set o d) a (w.setRow (ρ.G o) vs'):=by
 obtain⟨t,p,q⟩:=h.g.sN o cs m;obtain⟨vs,ty,r,rfl,j,k,_⟩:=q.Oh e
 have l:vs'.size=vs.size:=by
  have u:=f.length;have v:=k.length
  grind
 exact h.Po m (by rintro rfl;simp[Fe] at e) (size_setRow w _ _) (setRow_heap w _ vs vs' ty r p) (λb s=>setRow_other w _ b _ s) (.cells (by rw[l];exact j) f i)
end
end Go.tq
