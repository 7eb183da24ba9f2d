/- Part of the proof of KernelUniform: layer. -/
import Derived.Orders
import Derived.Below
import Derived.Laws.AppendOwn
import Derived.Laws.Cells
import Derived.Laws.CopyRow
import Derived.Laws.Small
import Derived.Laws.Pointers
import Derived.WalkSpells
import Derived.Test.YtobcafblgapgfaaGreatDoorB1
set_option linter.all false
namespace Go.mS
open Go
inductive Tag where
 |iN|full|loc (k g:Nat)
inductive AV where
 |undef|sc (v:Value)|na (x:AV)|eB (b g off:Nat)|fE (o off:Nat)|slice (tag:Tag) (l:List AV)|agg (cs:List AV)|tuple (vs:List AV)|func (fn:Fn) (first cap:List AV)
 |iface (t:TypeId) (x:AV)|we (b g len cap:Nat)|nZ (o:Nat)|tz (ks:List Value) (xs:List AV)|nb (o since:Nat) (seen:List Nat)|yZ (o off len cap:Nat)
instance:Inhabited AV:=⟨.undef⟩
def AV.cells:AV->List AV
 |.agg cs=>cs|x=>[x]
def AV.hX:AV->Bool
 |.agg _=>false|.tuple _=>false|.tz _ _=>false|.nb _ _ _=>false|_=>true
def z_:Value->Bool
 |.bool _=>true|.int _ _=>true|.float _ _=>true|.string _=>true|.pointer none=>true|.map none=>true|.nilFunc=>true|.nilIface=>true|_=>false
inductive iy {α β:Type} (R:α->β->Prop):List α->List β->Prop
 |nil:iy R [] []|cons {a b as bs}:R a b->iy R as bs->iy R (a::as) (b::bs)
def iy.length{α β:Type}{R:α->β->Prop}{as:List α}{bs:List β}(h:iy R as bs):as.length=bs.length:=by
 induction h with
 |nil=>rfl|cons _ _ a=>simp[a]
def iy.mono{α β:Type}{R S:α->β->Prop}{as:List α}{bs:List β}(h:iy R as bs)(hs:∀a b,a∈as->R a b->S a b):iy S as bs:=by
 induction h with
 |nil=>exact .nil|cons c _ d=>exact .cons (hs _ _ (by simp) c) (d λa b e=>hs a b (by simp[e]))
def iy.append{α β:Type}{R:α->β->Prop}{as a:List α}{bs b:List β}(h:iy R as bs)(c:iy R a b):iy R (as++a) (bs++b):=by
 induction h with
 |nil=>exact c|cons d _ e=>exact .cons d e
def iy.take{α β:Type}{R:α->β->Prop}{as:List α}{bs:List β}(h:iy R as bs)(n:Nat):iy R (as.take n) (bs.take n):=by
 induction h generalizing n with
 |nil=>simp;exact .nil|cons a _ b=>cases n with
  |zero=>exact .nil|succ n=>exact .cons a (b n)
def iy.drop{α β:Type}{R:α->β->Prop}{as:List α}{bs:List β}(h:iy R as bs)(n:Nat):iy R (as.drop n) (bs.drop n):=by
 induction h generalizing n with
 |nil=>simp;exact .nil|cons a b c=>cases n with
  |zero=>exact .cons a b|succ n=>exact c n
def iy.get{α β:Type}{R:α->β->Prop}{as:List α}{bs:List β}(h:iy R as bs){i:Nat}{a:α}(c:as[i]?=some a):∃b,bs[i]?=some b/\R a b:=by
 induction h generalizing i with
 |nil=>simp at c
 |cons d _ e=>cases i with
  |zero=>simp at c;subst c;exact⟨_,rfl,d⟩
  |succ i=>simp at c;simpa using e c
def iy.mem{α β:Type}{R:α->β->Prop}{as:List α}{bs:List β}(h:iy R as bs){b:β}(hb:b∈bs):∃a∈as,R a b:=by
 induction h with
 |nil=>simp at hb
 |cons c _ d=>
  rcases lF.1 hb with rfl|hb
  ·exact⟨_,by simp,c⟩
  ·obtain⟨a,e,f⟩:=d hb;exact⟨a,by simp[e],f⟩
def iy.w8{α α' β:Type}{R:α->β->Prop}{S:α'->β->Prop}{as:List α}{bs:List β}(f:α->α')(h:iy R as bs)(hs:∀a b,a∈as->R a b->S (f a) b):iy S (as.map f) bs:=by
 induction h with
 |nil=>exact .nil|cons c _ d=>exact .cons (hs _ _ (by simp) c) (d λa b e=>hs a b (by simp[e]))
abbrev lE:=Nat->Nat->Option Value
def lE.has(F:lE)(b o:Nat)(vs:List Value):Prop:=∀i v,vs[i]?=some v->F b (o+i)=some v
mutual
inductive ia (F:lE) (G:Nat->Nat) (n:Nat):AV->Value->Prop
 |undef {v}:v.oneCell'=true->ia F G n .undef v|sc {v}:z_ v=true->ia F G n (.sc v) v|na {x b o vs}:hR F G n x.cells vs->F.has b o vs->(∀c∈x.cells,c.hX=true)->ia F G n (.na x) (.pointer (some ⟨b,o,none⟩))|fE {o off}:o<n->ia F G n (.fE o off) (.pointer (some ⟨G o,off,none⟩))|nZ {o}:o<n->ia F G n (.nZ o) (.map (some (G o)))|yZ {o off len cap}:o<n->len<=cap->cap<=maxLen->ia F G n (.yZ o off len cap) (.slice (some ⟨G o,off,none⟩) len cap)|slice {tag l vs b o base cap sz}:hR F G n (l.flatMap AV.cells) vs->F.has b o vs->(l≠[]->base=some ⟨b,o,none⟩)->(∀x∈l,x.cells.length=sz)->(∀c∈l.flatMap AV.cells,c.hX=true)->l.length<=cap->cap<=maxLen->tag=.iN\/tag=.full/\cap=l.length->ia F G n (.slice tag l) (.slice base l.length cap)|agg {cs vs}:hR F G n cs vs->(∀c∈cs,c.hX=true)->ia F G n (.agg cs) (.agg vs.toArray)|tuple {cs vs}:hR F G n cs vs->ia F G n (.tuple cs) (.tuple vs.toArray)|func {fn f c vf vc}:hR F G n f vf->hR F G n c vc->ia F G n (.func fn f c) (.func fn vf.toArray vc.toArray)|iface {t x v}:ia F G n x v->ia F G n (.iface t x) (.iface t v)
inductive hR (F:lE) (G:Nat->Nat) (n:Nat):List AV->List Value->Prop
 |nil:hR F G n [] []|cons {x v xs vs}:ia F G n x v->hR F G n xs vs->hR F G n (x::xs) (v::vs)
end
section
variable{F F':lE} {G G':Nat->Nat} {n n':Nat}
def hR.uh{xs vs}(h:hR F G n xs vs):iy (ia F G n) xs vs:=by
 induction xs generalizing vs with
 |nil=>cases h;exact .nil
 |cons x xs a=>cases h with|cons b c=>exact .cons b (a c)
def hR.pN{xs vs}(h:iy (ia F G n) xs vs):hR F G n xs vs:=by
 induction h with
 |nil=>exact .nil|cons a _ b=>exact .cons a b
structure CW (F F':lE) (G G':Nat->Nat) (n n':Nat):Prop where
 mF:∀b o v,F b o=some v->F' b o=some v
 mn:n<=n'
 mG:∀o,o<n->G' o=G o
def CW.refl:CW F F G G n n:=⟨λ_ _ _ h=>h,jh _,λ_ _=>rfl⟩
def lE.has.grow{b o vs}(h:F.has b o vs)(hg:CW F F' G G' n n'):F'.has b o vs:=λi v a=>hg.mF _ _ _ (h i v a)
mutual
def ia.grow(hg:CW F F' G G' n n'):∀{x v},ia F G n x v->ia F' G' n' x v
 |_,_,.undef h=>.undef h|_,_,.sc h=>.sc h|_,_,.na a b c=>.na (a.grow hg) (b.grow hg) c|_,_,.fE (o:=o) (off:=off) h=>by
  rw[<-hg.mG o h];exact .fE (Pt h hg.mn)
 |_,_,.nZ (o:=o) h=>by
  rw[<-hg.mG o h];exact .nZ (Pt h hg.mn)
 |_,_,.yZ (o:=o) h b c=>by
  rw[<-hg.mG o h];exact .yZ (Pt h hg.mn) b c
 |_,_,.slice a b c d e f g i=>.slice (a.grow hg) (b.grow hg) c d e f g i|_,_,.agg a b=>.agg (a.grow hg) b|_,_,.tuple a=>.tuple (a.grow hg)|_,_,.func a b=>.func (a.grow hg) (b.grow hg)|_,_,.iface a=>.iface (a.grow hg)
def hR.grow(hg:CW F F' G G' n n'):∀{xs vs},hR F G n xs vs->hR F' G' n' xs vs
 |_,_,.nil=>.nil|_,_,.cons a b=>.cons (a.grow hg) (b.grow hg)
end
def ia.Km{x v}(h:ia F G n x v)(a:x.hX=true):v.oneCell'=true:=by
 cases h with
 |undef h=>exact h|sc h=>revert h;cases v<;>simp[z_,Value.oneCell']
 |agg b c=>simp[AV.hX] at a
 |tuple b=>simp[AV.hX] at a
 |_=>rfl
def ia.cells{x v}(h:ia F G n x v)(d:∀vs,x≠ .tuple vs):hR F G n x.cells v.cells.toList:=by
 cases h with
 |undef h=>cases v<;>first|exact .cons (.undef h) .nil|(simp[Value.oneCell'] at h;done)
 |sc h=>cases v<;>first|exact .cons (.sc h) .nil|(simp[z_] at h;done)
 |na a b c=>exact .cons (.na a b c) .nil|fE a=>exact .cons (.fE a) .nil|nZ a=>exact .cons (.nZ a) .nil|yZ a b c=>exact .cons (.yZ a b c) .nil|slice a b c e f g i j=>exact .cons (.slice a b c e f g i j) .nil|agg a b=>exact a|tuple a=>exact absurd rfl (d _)|func a b=>exact .cons (.func a b) .nil|iface a=>exact .cons (.iface a) .nil
end
structure Maps where
 G:Nat->Nat
 n:Nat
 L:Nat->Nat->Nat
 lg:Nat->Nat
 A:Nat->Nat->Option (Nat×Nat×Nat)
 ag:Nat->Nat
def sZ(ρ:Maps)(k g:Nat)(l:List AV)(base:Option Addr)(cap:Nat):Prop:=
 match ρ.A k g with
 |none=>cap=l.length|some (b,c,sz)=>base=some ⟨b,0,none⟩/\cap=c/\∀x∈l,x.cells.length=sz
inductive jY (F:lE) (ρ:Maps):AV->Value->Prop
 |p {x v}:ia F ρ.G ρ.n x v->jY F ρ x v|eB {b g off}:g<=ρ.lg b->jY F ρ (.eB b g off) (.pointer (some ⟨ρ.L b g,off,none⟩))|loc {k g l base cap}:ia F ρ.G ρ.n (.slice .iN l) (.slice base l.length cap)->g<=ρ.ag k->sZ ρ k g l base cap->jY F ρ (.slice (.loc k g) l) (.slice base l.length cap)|we {b g len cap}:g<=ρ.lg b->len<=cap->cap<=maxLen->jY F ρ (.we b g len cap) (.slice (some ⟨ρ.L b g,0,none⟩) len cap)
inductive hI (F:lE) (ρ:Maps):AV->Value->Prop
 |cell {x v}:jY F ρ x v->hI F ρ x v|agg {cs vs}:iy (jY F ρ) cs vs->(∀c∈cs,c.hX=true)->hI F ρ (.agg cs) (.agg vs.toArray)
structure tZ (F F':lE) (ρ ρ':Maps):Prop where
 g:CW F F' ρ.G ρ'.G ρ.n ρ'.n
 lg:∀b,ρ.lg b<=ρ'.lg b
 L:∀b g,g<=ρ.lg b->ρ'.L b g=ρ.L b g
 ag:∀k,ρ.ag k<=ρ'.ag k
 A:∀k g,g<=ρ.ag k->ρ'.A k g=ρ.A k g
section
variable{F F':lE} {ρ ρ':Maps}
def jY.grow(hg:tZ F F' ρ ρ'){x v}(h:jY F ρ x v):jY F' ρ' x v:=by
 cases h with
 |p h=>exact .p (h.grow hg.g)|eB h=>
  rename_i b g off;rw[<-hg.L b g h];exact .eB (B4 h (hg.lg b))
 |loc d a c=>
  refine .loc (d.grow hg.g) (B4 a (hg.ag _)) ?_;unfold sZ;rw[hg.A _ _ a];exact c
 |we h a c=>
  rename_i b g len cap;rw[<-hg.L b g h];exact .we (B4 h (hg.lg b)) a c
def hI.grow(hg:tZ F F' ρ ρ'){x v}(h:hI F ρ x v):hI F' ρ' x v:=by
 cases h with
 |cell h=>exact .cell (h.grow hg)|agg a b=>exact .agg (a.mono λ_ _ _ h=>h.grow hg) b
def hI.p{x v}(h:ia F ρ.G ρ.n x v):hI F ρ x v:=.cell (.p h)
end
def AV.lr:AV->AV
 |.slice _ l=>.slice .iN l|.eB _ _ _=>.undef|.we _ _ _ _=>.undef|x=>x
def AV.norm:AV->AV
 |.agg cs=>.agg (cs.map AV.lr)|x=>x.lr
section
variable{F F':lE} {ρ ρ':Maps}
def ia.iN{G:Nat->Nat}{n:Nat}{tag l v}(h:ia F G n (.slice tag l) v):ia F G n (.slice .iN l) v:=by
 cases h with
 |slice a b c d e f g i=>exact .slice a b c d e f g (.inl rfl)
def ia.lr{G:Nat->Nat}{n:Nat}{x v}(h:ia F G n x v):ia F G n x.lr v:=by
 cases x with
 |slice tag l=>exact h.iN|eB b g off=>cases h
 |we b g len cap=>cases h
 |_=>exact h
def jY.lr{x v}(h:jY F ρ x v):ia F ρ.G ρ.n x.lr v:=by
 cases h with
 |p h=>exact h.lr|eB h=>exact .undef rfl|loc a b c=>exact a|we a b c=>exact .undef rfl
def AV.Eg(x:AV):x.lr.hX=x.hX:=by cases x<;>rfl
def hI.norm{x v}(h:hI F ρ x v):ia F ρ.G ρ.n x.norm v:=by
 have d:∀{cs:List AV} {vs:List Value},iy (jY F ρ) cs vs->(∀c∈cs,c.hX=true)->ia F ρ.G ρ.n (AV.agg cs).norm (.agg vs.toArray):=by
  intro cs vs e f;refine .agg (hR.pN (e.w8 AV.lr λa b _ h=>h.lr)) ?_;intro c g;obtain⟨a,i,rfl⟩:=od.1 g;rw[AV.Eg];exact f a i
 cases h with
 |agg e f=>exact d e f|cell h=>
  cases x with
  |agg cs=>
   cases h with
   |p h=>
    cases h with
    |agg e f=>exact d (e.uh.mono λ_ _ _ h=>.p h) f
  |_=>exact h.lr
def hI.cells{x v}(h:hI F ρ x v)(d:∀vs,x≠ .tuple vs):iy (jY F ρ) x.cells v.cells.toList:=by
 cases h with
 |agg a b=>exact a|cell h=>
  cases h with
  |p h=>exact(h.cells d).uh.mono λ_ _ _ h=>.p h|eB h=>exact .cons (.eB h) .nil|loc a b c=>exact .cons (.loc a b c) .nil|we a b c=>exact .cons (.we a b c) .nil
def jY.Km{x v}(h:jY F ρ x v)(a:x.hX=true):v.oneCell'=true:=by
 cases h with
 |p h=>exact h.Km a|eB h=>rfl|loc b c d=>rfl|we b c d=>rfl
def hI.wy{x v}(h:hI F ρ x v)(d:∀vs,x≠ .tuple vs):∀c∈x.cells,c.hX=true:=by
 cases h with
 |agg b a=>exact a|cell h=>
  cases h with
  |p h=>
   cases h with
   |agg b a=>exact a|tuple b=>exact absurd rfl (d _)|_=>simp[AV.cells,AV.hX]
  |eB h=>simp[AV.cells,AV.hX]|loc b a e=>simp[AV.cells,AV.hX]|we b a e=>simp[AV.cells,AV.hX]
end
end Go.mS
namespace Go.mS
open Go
abbrev eD:=List (List AV)
abbrev fg:=Nat->Option AV
structure Fr where
 env:Nat->AV
 box:Nat->Option (List AV)
 gen:Nat->Nat
 tx:Nat->Option Nat
 fN:Nat->Nat
def hQ{α:Type}(f:Nat->α)(i:Nat)(x:α):Nat->α:=λj=>if j=i then x else f j
def Fr.put(fr:Fr)(d:Option Nat)(x:AV):Fr:=
 match d with
 |some d=>{fr with env:=hQ fr.env d x}|none=>fr
section
variable(P:Program)
def gz(t:TypeId):Option (Bool×Nat):=
 match P.underlying t,P.info? t with
 |some d,some i=>some (match d with|.struct _|.array _ _=>true|_=>false,i.size)
 |_,_=>none
def zeroOf(t:TypeId):Option Value:=(P.info? t).bind (·.zero)
def fC(t i:Nat):Option (Nat×TypeId):=
 match P.underlying t with
 |some (.struct fs)=>(fs[i]?).map λf=>(f.offset,f.type)|_=>none
def Kz(t:TypeId):Option (Nat×TypeId):=
 match P.underlying t with
 |some (.array n e)=>some (n,e)|_=>none
def mY(t:TypeId)(cs:List AV)(off:Nat):Option AV:=
 match gz P t with
 |some (true,n)=>if off+n<=cs.length then some (.agg ((cs.drop off).take n))else none|some (false,_)=>cs[off]?|none=>none
def ss(t:TypeId)(x:AV):Bool:=
 match gz P t,x with
 |some (true,n),.agg cs=>cs.length==n|some (false,_),.agg _=>false|some (false,_),.tuple _=>false|some (false,_),.tz _ _=>false|some (false,_),.nb _ _ _=>false|some (false,_),_=>true|_,_=>false
end
def setCells(cs:List AV)(off:Nat)(new:List AV):List AV:=cs.take off++new++cs.drop (off+new.length)
def qR:Value->AV
 |.slice none 0 0=>.slice .full []|.func fn f c=>if f.size=0/\c.size=0 then .func fn [] [] else .undef|.agg _=>.undef|.tuple _=>.undef|v=>if z_ v then .sc v else .undef
def ofValue:Value->AV
 |.agg cs=>.agg (cs.toList.map qR)|.tuple cs=>.tuple (cs.toList.map qR)|v=>qR v
def zZ:Value->Bool
 |.agg cs=>cs.all (·.oneCell')|.tuple cs=>cs.all (·.oneCell')|_=>true
def xJ(v:Value):(qR v).hX=true:=by
 unfold qR
 split<;>first|rfl|(split<;>rfl)
def DP(F:lE)(G:Nat->Nat)(n:Nat)(v:Value)(h:v.oneCell'=true):ia F G n (qR v) v:=by
 unfold qR
 split
 ·exact .slice (l:=[]) (vs:=[]) (b:=0) (o:=0) (sz:=0) .nil (λ_ _ h=>by simp at h) (by simp) (by simp) (by simp) (by simp) (by simp[maxLen]) (.inr ⟨rfl,rfl⟩)
 ·rename_i fn f c
  split
  ·rename_i hs;obtain⟨a,d⟩:=hs;have e:f=#[]:=Tj a;have g:c=#[]:=Tj d;subst e;subst g;exact .func (vf:=[]) (vc:=[]) .nil .nil
  ·exact .undef rfl
 ·simp[Value.oneCell'] at h
 ·simp[Value.oneCell'] at h
 ·split
  ·exact .sc (by assumption)
  ·exact .undef h
def q4(F:lE)(G:Nat->Nat)(n:Nat):∀(vs:List Value),(∀v∈vs,v.oneCell'=true)->hR F G n (vs.map qR) vs
 |[],_=>.nil|v::vs,h=>.cons (DP F G n v (h v (by simp))) (q4 F G n vs λu hu=>h u (by simp[hu]))
def Eh{v:Value}(h:v.oneCell'=true):ofValue v=qR v:=by
 cases v<;>first|rfl|(simp[Value.oneCell'] at h)
def BN(F:lE)(G:Nat->Nat)(n:Nat)(v:Value)(h:zZ v=true):ia F G n (ofValue v) v:=by
 cases v with
 |agg cs=>
  have b:∀v∈cs.toList,v.oneCell'=true:=λv d=>by
   have e:cs.all (·.oneCell')=true:=h
   exact Hs.1 e v (xQ.1 d)
  exact .agg (vs:=cs.toList) (q4 F G n cs.toList b) (by
   intro c f;obtain⟨a,_,rfl⟩:=od.1 f
   exact xJ a)
 |tuple cs=>
  have b:∀v∈cs.toList,v.oneCell'=true:=λv d=>by
   have e:cs.all (·.oneCell')=true:=h
   exact Hs.1 e v (xQ.1 d)
  exact .tuple (vs:=cs.toList) (q4 F G n cs.toList b)
 |_=>(rw[Eh rfl];exact DP F G n _ rfl)
section
variable(T:fg) (fr:Fr)
def ev:Operand->AV
 |.tmp t=>fr.env t|.const v=>ofValue v|.global g=>match T g with|some x=>.na x|none=>.undef
 |.func f=>.func (.func f) [] []
def jT:Operand->Bool
 |.const v=>zZ v|_=>true
end
def s6(F:lE)(ρ:Maps)(fr:Fr)(a:Act):Prop:=∀t,hI F ρ (fr.env t) (a.tmps.getD t undef)
def xH(T:fg)(F:lE)(ρ:Maps):Prop:=∀g x,T g=some x->ia F ρ.G ρ.n (.na x) (.pointer (some ⟨g,0,none⟩))
def hS{T:fg}{fr:Fr}{F:lE}{ρ:Maps}{a:Act}(he:s6 F ρ fr a)(b:xH T F ρ)(x:Operand)(c:jT x=true):hI F ρ (ev T fr x) (a.eval x):=by
 cases x with
 |tmp t=>exact he t|const v=>exact .p (BN _ _ _ v c)|global g=>
  show hI F ρ (match T g with|some x=>.na x|none=>.undef) _;cases h:T g with
  |none=>exact .p (.undef rfl)|some x=>exact .p (b g x h)
 |func f=>exact .p (.func (vf:=[]) (vc:=[]) .nil .nil)
def qQ(op:BinOp)(k:IntKind)(a b:Int):Option Value:=
 match op with
 |.add=>some (.int k (k.wrap (a+b)))|.sub=>some (.int k (k.wrap (a-b)))|.mul=>some (.int k (k.wrap (a*b)))|.quo=>if b=0 then none else some (.int k (k.wrap (a.tdiv b)))|.rem=>if b=0 then none else some (.int k (a.tmod b))|.and=>some (.int k (k.wrap (BitVec.ofInt k.bits a&&&BitVec.ofInt k.bits b).toNat))|.or=>some (.int k (k.wrap (BitVec.ofInt k.bits a|||BitVec.ofInt k.bits b).toNat))|.xor=>some (.int k (k.wrap (BitVec.ofInt k.bits a^^^BitVec.ofInt k.bits b).toNat))|.andNot=>some (.int k (k.wrap (BitVec.ofInt k.bits a&&&~~~BitVec.ofInt k.bits b).toNat))|.eql=>some (.bool (a==b))|.neq=>some (.bool (a !=b))|.lss=>some (.bool (a<b))|.leq=>some (.bool (a<=b))|.gtr=>some (.bool (a>b))|.geq=>some (.bool (a>=b))|_=>none
def Kf(op:BinOp)(x y:ByteArray):Option Value:=
 match op with
 |.add=>if((x.size+y.size:Nat):Int)>IntKind.i64.max then none else some (.string (x++y))|.eql=>some (.bool (x.toList==y.toList))|.neq=>some (.bool !(x.toList==y.toList))|.lss=>some (.bool (Op.bytesLess x.toList y.toList))|.leq=>some (.bool (Op.bytesLess x.toList y.toList||x.toList==y.toList))|.gtr=>some (.bool !(Op.bytesLess x.toList y.toList||x.toList==y.toList))|.geq=>some (.bool !(Op.bytesLess x.toList y.toList))|_=>none
def CK:AV->Bool
 |.na _|.eB _ _ _|.fE _ _=>true|_=>false
def rv(P:Program)(op:BinOp)(t:TypeId)(x y:AV):Option AV:=
 match op,x,y with
 |.shl,.sc (.int k a),.sc (.int _ b)=>if b<0 then none else some (.sc (.int k (k.wrap (a*2^min b.toNat k.bits))))|.shr,.sc (.int k a),.sc (.int _ b)=>if b<0 then none else some (.sc (.int k (a.fdiv (2^min b.toNat k.bits))))|op,.sc (.int k a),.sc (.int k' b)=>if k=k' then(qQ op k a b).map .sc else none|op,.sc (.string a),.sc (.string b)=>(Kf op a b).map .sc|.eql,.sc (.bool a),.sc (.bool b)=>match P.underlying t with|some .bool=>some (.sc (.bool (a==b)))|_=>none
 |.neq,.sc (.bool a),.sc (.bool b)=>match P.underlying t with|some .bool=>some (.sc (.bool (!(a==b))))|_=>none
 |.eql,x,.sc (.pointer none)=>match P.underlying t with
  |some (.pointer _)=>if CK x then some (.sc (.bool false))else(match x with|.sc (.pointer none)=>some (.sc (.bool true))|_=>none)
  |_=>none
 |.neq,x,.sc (.pointer none)=>match P.underlying t with
  |some (.pointer _)=>if CK x then some (.sc (.bool true))else(match x with|.sc (.pointer none)=>some (.sc (.bool false))|_=>none)
  |_=>none
 |.eql,.func _ _ _,.sc .nilFunc=>match P.underlying t with|some (.func ..)=>some (.sc (.bool false))|_=>none
 |.neq,.func _ _ _,.sc .nilFunc=>match P.underlying t with|some (.func ..)=>some (.sc (.bool true))|_=>none
 |.eql,.sc .nilFunc,.sc .nilFunc=>match P.underlying t with|some (.func ..)=>some (.sc (.bool true))|_=>none
 |.neq,.sc .nilFunc,.sc .nilFunc=>match P.underlying t with|some (.func ..)=>some (.sc (.bool false))|_=>none
 |_,_,_=>none
def W7(op:UnOp)(x:AV):Option AV:=
 match op,x with
 |.neg,.sc (.int k n)=>some (.sc (.int k (k.wrap (0-n))))|.not,.sc (.bool b)=>some (.sc (.bool !b))|_,_=>none
def gJ{F:lE}{ρ:Maps}{u v:Value}(h:hI F ρ (.sc u) v):v=u:=by
 cases h with
 |cell h=>cases h with|p h=>cases h;rfl
def Gy(P:Program)(w:World){op:BinOp}{k:IntKind}{a b:Int}{v:Value}(t:TypeId)(h:qQ op k a b=some v):(binOp op t (.int k a) (.int k b)).run P w=.ok v w/\z_ v=true:=by
 cases op<;>simp only[qQ,sH,reduceCtorEq] at h<;>(try(split at h))<;>
  (first
   |(subst h;refine⟨?_,rfl⟩;simp[binOp,Op.intArith,Op.intBits,Op.intCmp,Op.intDiv, *])
   |(cases h;refine⟨?_,rfl⟩;simp[binOp,Op.intArith,Op.intBits,Op.intCmp,Op.intDiv, *])
   |cases h)
def Gj(P:Program)(w:World){op:BinOp}{a b:ByteArray}{v:Value}(t:TypeId)(h:Kf op a b=some v):(binOp op t (.string a) (.string b)).run P w=.ok v w/\z_ v=true:=by
 cases op<;>simp only[Kf,sH,reduceCtorEq] at h<;>(try(split at h))<;>
  (first
   |(subst h;refine⟨?_,rfl⟩;simp[binOp,Op.stringOp, *])
   |(cases h;refine⟨?_,rfl⟩;simp_all [binOp,Op.stringOp])
   |cases h)
def DC{F:lE}{ρ:Maps}{x:AV}{v:Value}(b:CK x=true)(h:hI F ρ x v):∃a,v=.pointer (some a):=by
 cases h with
 |agg c d=>simp[CK] at b
 |cell h=>
  cases h with
  |eB h=>exact⟨_,rfl⟩|loc c d e=>simp[CK] at b
  |we c d e=>simp[CK] at b
  |p h=>cases h<;>first|(simp[CK] at b;done)|exact⟨_,rfl⟩
def xy{P:Program}{t e:TypeId}(h:P.underlying t=some (.pointer e)):P.underlying t=some (.pointer (P.pointee t)):=by
 simp[Program.pointee,h]
def zY{F:lE}{ρ:Maps}{fn:Fn}{f c:List AV}{v:Value}(h:hI F ρ (.func fn f c) v):∃vf vc:List Value,v=.func fn vf.toArray vc.toArray/\iy (ia F ρ.G ρ.n) f vf/\iy (ia F ρ.G ρ.n) c vc:=by
 cases h with
 |cell h=>cases h with
  |p h=>cases h with|func a b=>exact⟨_,_,rfl,a.uh,b.uh⟩
def N2(P:Program)(w:World){t:TypeId}{ps rs:Array TypeId}{b:Bool}(hu:P.underlying t=some (.func ps rs b))(fn:Fn)(f c:Array Value):(binOp .eql t (.func fn f c) .nilFunc).run P w=.ok (.bool false) w/\(binOp .neq t (.func fn f c) .nilFunc).run P w=.ok (.bool true) w:=by
 have h:∀d,(Op.equalIn (d+1) t (.func fn f c) .nilFunc).run P w=.ok false w:=λd=>by simp[Op.equalIn,run_underlying hu]
 have a:binOp .eql t (.func fn f c) .nilFunc=(do pure (.bool (<-Op.equalIn (9999+1) t (.func fn f c) .nilFunc))):=rfl;have e:binOp .neq t (.func fn f c) .nilFunc=(do pure (.bool (!(<-Op.equalIn (9999+1) t (.func fn f c) .nilFunc)))):=rfl;rw[a,e,iv,iv,h 9999];exact⟨rfl,rfl⟩
def Ou(P:Program)(w:World){t:TypeId}{ps rs:Array TypeId}{b:Bool}(hu:P.underlying t=some (.func ps rs b)):(binOp .eql t .nilFunc .nilFunc).run P w=.ok (.bool true) w/\(binOp .neq t .nilFunc .nilFunc).run P w=.ok (.bool false) w:=by
 have h:∀d,(Op.equalIn (d+1) t .nilFunc .nilFunc).run P w=.ok true w:=λd=>by simp[Op.equalIn,run_underlying hu]
 have a:binOp .eql t .nilFunc .nilFunc=(do pure (.bool (<-Op.equalIn (9999+1) t .nilFunc .nilFunc))):=rfl;have c:binOp .neq t .nilFunc .nilFunc=(do pure (.bool (!(<-Op.equalIn (9999+1) t .nilFunc .nilFunc)))):=rfl;rw[a,c,iv,iv,h 9999];exact⟨rfl,rfl⟩
def Ki:Value->Bool
 |.nilIface=>false|.agg _=>false|_=>true
def KT(P:Program)(w:World)(op:BinOp)(t:TypeId)(x y:Operand){u v:Value}(h:Ki u=true):(eqGuard op t x y u v).run P w=.ok () w:=by
 unfold eqGuard
 cases u<;>first|(simp[Ki] at h;done)|(cases op<;>rfl)
def O2(P:Program)(w:World){F:lE}{ρ:Maps}{op:BinOp}{t:TypeId}{x y r:AV}{u v:Value}(h:rv P op t x y=some r)
  (b:hI F ρ x u) (hy:hI F ρ y v):∃z,(binOp op t u v).run P w=.ok z w/\r=.sc z/\z_ z=true/\Ki u=true:=by
 unfold rv at h
 split at h
 ·cases gJ b;cases gJ hy
  split at h
  ·cases h
  ·rename_i c;cases h;exact⟨_,by simp[binOp,Op.shift,c],rfl,rfl,rfl⟩
 ·cases gJ b;cases gJ hy
  split at h
  ·cases h
  ·rename_i c;cases h;exact⟨_,by simp[binOp,Op.shift,c],rfl,rfl,rfl⟩
 ·cases gJ b;cases gJ hy
  split at h
  ·rename_i e;subst e;cases hi:qQ op _ _ _ with
   |none=>rw[hi] at h;cases h
   |some z=>
    rw[hi] at h;cases h;exact⟨z,(Gy P w t hi).1,rfl,(Gy P w t hi).2,rfl⟩
  ·cases h
 ·cases gJ b;cases gJ hy;cases hi:Kf op _ _ with
  |none=>rw[hi] at h;cases h
  |some z=>
   rw[hi] at h;cases h;exact⟨z,(Gj P w t hi).1,rfl,(Gj P w t hi).2,rfl⟩
 ·cases gJ b;cases gJ hy
  split at h
  ·rename_i hu;cases h;exact⟨_,run_eql_bool w t _ _ hu,rfl,rfl,rfl⟩
  ·cases h
 ·cases gJ b;cases gJ hy
  split at h
  ·rename_i hu;cases h;exact⟨_,run_neq_bool w t _ _ hu,rfl,rfl,rfl⟩
  ·cases h
 ·cases gJ hy
  split at h
  ·rename_i hu
   split at h
   ·rename_i d;obtain⟨a,rfl⟩:=DC d b;cases h;exact⟨_,run_eql_pointer_nil w t _ (xy hu),by simp,rfl,rfl⟩
   ·split at h
    ·cases gJ b;cases h;exact⟨_,run_eql_pointer_nil w t _ (xy hu),by simp,rfl,rfl⟩
    ·cases h
  ·cases h
 ·cases gJ hy
  split at h
  ·rename_i hu
   split at h
   ·rename_i d;obtain⟨a,rfl⟩:=DC d b;cases h;exact⟨_,run_neq_pointer_nil w t _ (xy hu),by simp,rfl,rfl⟩
   ·split at h
    ·cases gJ b;cases h;exact⟨_,run_neq_pointer_nil w t _ (xy hu),by simp,rfl,rfl⟩
    ·cases h
  ·cases h
 ·cases gJ hy;obtain⟨vf,vc,rfl,_,_⟩:=zY b
  split at h
  ·rename_i hu;cases h;exact⟨.bool false,(N2 P w hu _ _ _).1,rfl,rfl,rfl⟩
  ·cases h
 ·cases gJ hy;obtain⟨vf,vc,rfl,_,_⟩:=zY b
  split at h
  ·rename_i hu;cases h;exact⟨.bool true,(N2 P w hu _ _ _).2,rfl,rfl,rfl⟩
  ·cases h
 ·cases gJ b;cases gJ hy
  split at h
  ·rename_i hu;cases h;exact⟨.bool true,(Ou P w hu).1,rfl,rfl,rfl⟩
  ·cases h
 ·cases gJ b;cases gJ hy
  split at h
  ·rename_i hu;cases h;exact⟨.bool false,(Ou P w hu).2,rfl,rfl,rfl⟩
  ·cases h
 ·cases h
end Go.mS
namespace Go.mS
open Go
def rQ{l:List AV}{sz:Nat}(h:∀x∈l,x.cells.length=sz):(l.flatMap AV.cells).length=l.length*sz:=by
 induction l with
 |nil=>simp|cons x l a=>
  rw[AZ,so,a λy hy=>h y (by simp[hy]),h x (by simp),lL,Au,Qp,V3]
def CL{l:List AV}{sz:Nat}(h:∀x∈l,x.cells.length=sz)(n:Nat):(l.take n).flatMap AV.cells=(l.flatMap AV.cells).take (n*sz):=by
 induction l generalizing n with
 |nil=>simp|cons x l a=>
  cases n with
  |zero=>simp|succ n=>
   have b:=h x (by simp)
   rw[List.take_succ_cons,AZ,AZ,a (λy hy=>h y (by simp[hy])),Au,Qp,List.take_append,b,Tf (l:=x.cells) (by omega),SD]
def x_{l:List AV}{sz:Nat}(h:∀x∈l,x.cells.length=sz)(n:Nat):(l.drop n).flatMap AV.cells=(l.flatMap AV.cells).drop (n*sz):=by
 induction l generalizing n with
 |nil=>simp|cons x l a=>
  cases n with
  |zero=>simp|succ n=>
   have b:=h x (by simp)
   rw[List.drop_succ_cons,AZ,a (λy hy=>h y (by simp[hy])),Au,Qp,Vk,b,Hh (as:=x.cells) (by omega),SD,oh]
def Mp{l:List AV}{sz:Nat}(h:∀x∈l,x.cells.length=sz){i:Nat}{x:AV}(hi:l[i]?=some x):((l.flatMap AV.cells).drop (i*sz)).take sz=x.cells:=by
 have b:=x_ h i;have a:i<l.length:=(pG.1 hi).1
 have c:l.drop i=x::l.drop (i+1):=by
  have:=Lm a;rw[this]
  congr 1
  exact(pG.1 hi).2
 rw[<-b,c,AZ,List.take_append,Tf (by have:=h x (Dc hi);omega)];simp[h x (Dc hi)]
def lE.has.drop{F:lE}{b o:Nat}{vs:List Value}(h:F.has b o vs)(n:Nat):F.has b (o+n) (vs.drop n):=by
 intro i v a;rw[O4] at a;have:=h _ v a
 rwa [<-PJ] at this
def lE.has.take{F:lE}{b o:Nat}{vs:List Value}(h:F.has b o vs)(n:Nat):F.has b o (vs.take n):=by
 intro i v a;rw[HW] at a
 split at a
 ·exact h i v a
 ·cases a
section
variable{F:lE} {G:Nat->Nat} {n:Nat}
def hR.drop{xs vs}(h:hR F G n xs vs)(k:Nat):hR F G n (xs.drop k) (vs.drop k):=.pN (h.uh.drop k)
def hR.take{xs vs}(h:hR F G n xs vs)(k:Nat):hR F G n (xs.take k) (vs.take k):=.pN (h.uh.take k)
def hR.get{xs vs}(h:hR F G n xs vs){i:Nat}{x:AV}(a:xs[i]?=some x):∃v,vs[i]?=some v/\ia F G n x v:=h.uh.get a
def hR.length{xs vs}(h:hR F G n xs vs):xs.length=vs.length:=h.uh.length
def hR.append{xs vs a vs'}(h:hR F G n xs vs)(b:hR F G n a vs'):hR F G n (xs++a) (vs++vs'):=.pN (h.uh.append b.uh)
end
def AV.zS{x:AV}(h:x.hX=true):x.cells=[x]:=by cases x<;>first|rfl|(simp[AV.hX] at h)
section
variable{P:Program}
def D9{t:TypeId}{b:Bool}{n:Nat}(h:gz P t=some (b,n)):∃d i,P.underlying t=some d/\P.info? t=some i/\i.size=n/\(match d with|.struct _|.array _ _=>true|_=>false)=b:=by
 unfold gz at h
 split at h
 ·rename_i d i a hi;injection h with h;injection h with c e;exact⟨d,i,a,hi,e,c⟩
 ·cases h
def kX{t:TypeId}{b:Bool}{n:Nat}(h:gz P t=some (b,n))(w:World):(sizeOf t).run P w=.ok n w:=by
 obtain⟨d,i,a,hi,hn,_⟩:=D9 h;simp[sizeOf,typeInfo,hi,hn]
def xV{t:TypeId}{b:Bool}{n:Nat}(h:gz P t=some (b,n))(w:World):(isAgg t).run P w=.ok b w:=by
 obtain⟨d,i,a,hi,hn,c⟩:=D9 h;subst c;unfold isAgg;rw[iv,run_underlying a];cases d<;>rfl
def yN{t:TypeId}{cs:List AV}{off:Nat}{z:AV}(h:mY P t cs off=some z):(∃k,gz P t=some (true,k)/\off+k<=cs.length/\z=.agg ((cs.drop off).take k))\/(∃k,gz P t=some (false,k)/\cs[off]?=some z):=by
 unfold mY at h
 split at h
 ·split at h
  ·rename_i k a hle;injection h with h;exact .inl ⟨k,a,hle,h.symm⟩
  ·cases h
 ·rename_i k a;exact .inr ⟨k,a,h⟩
 ·cases h
def yh{t:TypeId}{k:Nat}(h:gz P t=some (true,k))(w:World)(a:Addr)(vs:List Value)(b:vs.length=k)
  (c:∀j v,vs[j]?=some v->w.cell? (a.add j)=some v):(loadVar t a).run P w=.ok (.agg vs.toArray) w:=by
 unfold loadVar;rw[iv,xV h];simp only[j8,if_true];rw[iv,kX h,j8,iv,<-b,run_loadCells_list w a vs c];rfl
def yk{t:TypeId}{k:Nat}(h:gz P t=some (false,k))(w:World)(a:Addr)(v:Value)(b:w.cell? a=some v):(loadVar t a).run P w=.ok v w:=by
 unfold loadVar;rw[iv,xV h];simp[load,Sem.run,b]
end
def rh(P:Program)(t:TypeId)(x:AV)(i:Nat):Option AV:=
 match fC P t i with
 |none=>none|some (off,a)=>
  match gz P a with
  |none=>none|some (_,n)=>
   if n=0 then none else
   match x with
   |.eB b g o=>some (.eB b g (o+off))|.fE o f=>some (.fE o (f+off))|.na y=>(mY P a y.cells off).map .na|_=>none
def Be(P:Program)(t:TypeId)(x:AV)(i:Nat):Option AV:=
 match fC P t i,x with
 |some (off,a),.agg cs=>mY P a cs off|_,_=>none
def gN(P:Program)(t:TypeId)(x i:AV):Option AV:=
 match i with
 |.sc (.int _ n)=>
  match P.underlying t,x with
  |some (.slice e),.slice _ l=>
   if 0<=n then
    match l[n.toNat]?,gz P e with
    |some y,some (_,sz)=>if y.cells.length=sz then some (.na y)else none|_,_=>none
   else none
  |some (.slice e),.we b g len _=>
   match gz P e with
   |some (_,sz)=>if 0<=n/\n<len then some (.eB b g (n.toNat*sz))else none|none=>none
  |some (.slice e),.yZ b off len _=>
   match gz P e with
   |some (_,sz)=>if 0<=n/\n<len then some (.fE b (off+n.toNat*sz))else none|none=>none
  |some (.array len e),.eB b g o=>
   match gz P e with
   |some (_,sz)=>if 0<=n/\n<len then some (.eB b g (o+n.toNat*sz))else none|none=>none
  |some (.array len e),.fE a o=>
   match gz P e with
   |some (_,sz)=>if 0<=n/\n<len then some (.fE a (o+n.toNat*sz))else none|none=>none
  |some (.array len e),.na y=>
   match gz P e with
   |some (_,sz)=>if 0<=n/\n<len then(mY P e y.cells (n.toNat*sz)).map .na else none|none=>none
  |_,_=>none
 |_=>none
def Mu(P:Program)(t:TypeId)(x i:AV):Option AV:=
 match i with
 |.sc (.int _ n)=>
  match P.underlying t,x with
  |some .string,.sc (.string s)=>if 0<=n then(s[n.toNat]?).map λb=>.sc (.int .u8 b.toNat)else none|some (.array len e),.agg cs=>
   match gz P e with
   |some (_,sz)=>if 0<=n/\n<len then mY P e cs (n.toNat*sz)else none|none=>none
  |_,_=>none
 |_=>none
section
variable{P:Program} {F:lE} {ρ:Maps}
def Ch{cs:List AV}{v:Value}(h:hI F ρ (.agg cs) v):∃vs:List Value,v=.agg vs.toArray/\iy (jY F ρ) cs vs/\∀c∈cs,c.hX=true:=by
 cases h with
 |agg a b=>exact⟨_,rfl,a,b⟩|cell h=>cases h with
  |p h=>cases h with|agg a b=>exact⟨_,rfl,a.uh.mono λ_ _ _ h=>.p h,b⟩
def MG{cs:List AV}{v:Value}(h:hI F ρ (.tuple cs) v):∃vs:List Value,v=.tuple vs.toArray/\iy (ia F ρ.G ρ.n) cs vs:=by
 cases h with
 |cell h=>cases h with
  |p h=>cases h with|tuple a=>exact⟨_,rfl,a.uh⟩
def xh{b g off:Nat}{v:Value}(h:hI F ρ (.eB b g off) v):v=.pointer (some ⟨ρ.L b g,off,none⟩)/\g<=ρ.lg b:=by
 cases h with
 |cell h=>cases h with
  |p h=>cases h
  |eB h=>exact⟨rfl,h⟩
def uE{o off:Nat}{v:Value}(h:hI F ρ (.fE o off) v):v=.pointer (some ⟨ρ.G o,off,none⟩)/\o<ρ.n:=by
 cases h with
 |cell h=>cases h with
  |p h=>cases h with|fE h=>exact⟨rfl,h⟩
def DK{x:AV}{v:Value}(h:hI F ρ (.na x) v):∃b o vs,v=.pointer (some ⟨b,o,none⟩)/\hR F ρ.G ρ.n x.cells vs/\F.has b o vs/\∀c∈x.cells,c.hX=true:=by
 cases h with
 |cell h=>cases h with
  |p h=>cases h with|na a d e=>exact⟨_,_,_,rfl,a,d,e⟩
def ze{b g len cap:Nat}{v:Value}(h:hI F ρ (.we b g len cap) v):v=.slice (some ⟨ρ.L b g,0,none⟩) len cap/\g<=ρ.lg b/\len<=cap/\cap<=maxLen:=by
 cases h with
 |cell h=>cases h with
  |p h=>cases h
  |we a c d=>exact⟨rfl,a,c,d⟩
def FQ{o off len cap:Nat}{v:Value}(h:hI F ρ (.yZ o off len cap) v):v=.slice (some ⟨ρ.G o,off,none⟩) len cap/\o<ρ.n/\len<=cap/\cap<=maxLen:=by
 cases h with
 |cell h=>cases h with
  |p h=>cases h with|yZ a b c=>exact⟨rfl,a,b,c⟩
structure T4 (F:lE) (ρ:Maps) (l:List AV) (base:Option Addr) (cap b o sz:Nat) (vs:List Value):Prop where
 cells:hR F ρ.G ρ.n (l.flatMap AV.cells) vs
 has:F.has b o vs
 base:l≠[]->base=some ⟨b,o,none⟩
 sz:∀x∈l,x.cells.length=sz
 wy:∀c∈l.flatMap AV.cells,c.hX=true
 B8:l.length<=cap
 CX:cap<=maxLen
def ia.I2{G:Nat->Nat}{n:Nat}{tag:Tag}{l:List AV}{v:Value}(h:ia F G n (.slice tag l) v):∃base cap b o sz vs,v=.slice base l.length cap/\hR F G n (l.flatMap AV.cells) vs/\F.has b o vs/\(l≠[]->base=some ⟨b,o,none⟩)/\(∀x∈l,x.cells.length=sz)/\(∀c∈l.flatMap AV.cells,c.hX=true)/\l.length<=cap/\cap<=maxLen/\(tag=.iN\/tag=.full/\cap=l.length):=by
 cases h with|slice a d e f g i j k=>exact⟨_,_,_,_,_,_,rfl,a,d,e,f,g,i,j,k⟩
def qs{tag:Tag}{l:List AV}{v:Value}(h:hI F ρ (.slice tag l) v):∃base cap b o sz vs,v=.slice base l.length cap/\T4 F ρ l base cap b o sz vs/\(tag=.full->cap=l.length)/\(∀k g,tag=.loc k g->g<=ρ.ag k/\sZ ρ k g l base cap):=by
 cases h with
 |cell h=>cases h with
  |p h=>
   obtain⟨base,cap,b,o,sz,vs,rfl,a,c,d,e,f,i,j,h8⟩:=h.I2;refine⟨base,cap,b,o,sz,vs,rfl,⟨a,c,d,e,f,i,j⟩,?_,?_⟩
   ·rintro rfl;rcases h8 with h8|h8
    ·cases h8
    ·exact h8.2
   ·rintro k g rfl;rcases h8 with h8|h8
    ·cases h8
    ·cases h8.1
  |loc a c d=>
   obtain⟨base,cap,b,o,sz,vs,he,a,m,n,e,f,i,j,h8⟩:=a.I2;injection he with q r s;subst q;subst s;refine⟨_,_,b,o,sz,vs,rfl,⟨a,m,n,e,f,i,j⟩,(by intro h;cases h),?_⟩;rintro k g he;injection he with q r;subst q;subst r;exact⟨c,d⟩
def I'{G:Nat->Nat}{n:Nat}{cs:List AV}{vs:List Value}{b o:Nat}{t:TypeId}{off:Nat}{z:AV}(e:hR F G n cs vs)(f:F.has b o vs)(g:∀c∈cs,c.hX=true)
  (h:mY P t cs off=some z):ia F G n (.na z) (.pointer (some ⟨b,o+off,none⟩)):=by
 rcases yN h with⟨k,j,hle,rfl⟩|⟨k,j,d⟩
 ·exact .na ((e.drop off).take k) ((f.drop off).take k) (λc d=>g c (Ii (DA d)))
 ·obtain⟨v,l,m⟩:=e.get d;have a:=g z (Dc d);refine .na (vs:=[v]) (by rw[AV.zS a];exact .cons m .nil) ?_ (by rw[AV.zS a];simpa using a);intro i u hu;cases i with
  |zero=>simp at hu;subst hu;exact f off _ l
  |succ i=>simp at hu
def HR(w:World){t:TypeId}{x r:AV}{u:Value}{i:Nat}(h:rh P t x i=some r)(e:hI F ρ x u):∃v,(Instr.fieldAt t u i).run P w=.ok v w/\hI F ρ r v:=by
 unfold rh at h
 split at h
 ·cases h
 ·rename_i off k c
  split at h
  ·cases h
  ·rename_i agg n l
   split at h
   ·cases h
   ·rename_i hn
    have d:∃fs f,P.underlying t=some (.struct fs)/\fs[i]?=some f/\f.offset=off/\f.type=k:=by
     unfold fC at c
     split at c
     ·rename_i fs hu;cases a:fs[i]?with
      |none=>rw[a] at c;cases c
      |some f=>
       rw[a] at c;simp at c;exact⟨fs,f,hu,a,c.1,c.2⟩
     ·cases c
    obtain⟨fs,f,hu,a,rfl,rfl⟩:=d
    have key:∀b o:Nat,(Instr.fieldAt t (.pointer (some ⟨b,o,none⟩)) i).run P w=.ok (.pointer (some ⟨b,o+f.offset,none⟩)) w:=by
     intro b o;unfold Instr.fieldAt;rw[iv,run_underlying hu,j8];simp only[a,Instr.sureAddr,iv,o0,j8,fieldPlace,kX l,hn,pE,Addr.add_lit]
    split at h
    ·rename_i b g o;cases h;obtain⟨rfl,hg⟩:=xh e;exact⟨_,key _ _,.cell (.eB hg)⟩
    ·rename_i o A;cases h;obtain⟨rfl,hg⟩:=uE e;exact⟨_,key _ _,.p (.fE hg)⟩
    ·rename_i y;obtain⟨b,o,vs,rfl,m,q,s⟩:=DK e;cases j:mY P f.type y.cells f.offset with
     |none=>rw[j] at h;cases h
     |some z=>
      rw[j] at h;cases h;exact⟨_,key _ _,.p (I' m q s j)⟩
    ·cases h
def Cj(w:World){t:TypeId}{cs:List AV}{vs:List Value}{off:Nat}{z:AV}(d:iy (jY F ρ) cs vs)(e:∀c∈cs,c.hX=true)(f:mY P t cs off=some z):∃v,(part t vs.toArray off).run P w=.ok v w/\hI F ρ z v:=by
 rcases yN f with⟨k,a,hle,rfl⟩|⟨k,a,b⟩
 ·refine⟨.agg ((vs.drop off).take k).toArray,?_,.agg ((d.drop off).take k) (λc b=>e c (Ii (DA b)))⟩;unfold part;rw[iv,xV a];simp only[j8,if_true,iv,kX a,o0]
  congr 3
  simp[List.drop_take]
 ·obtain⟨v,g,h⟩:=d.get b;refine⟨v,?_,.cell h⟩;unfold part;rw[iv,xV a];simp[g]
def Pd(w:World){t:TypeId}{x r:AV}{u:Value}{i:Nat}(h:Be P t x i=some r)(d:hI F ρ x u):∃v,(Instr.field t u i).run P w=.ok v w/\hI F ρ r v:=by
 unfold Be at h
 split at h
 ·rename_i off e cs b;obtain⟨vs,rfl,g,j⟩:=Ch d
  have c:∃fs f,P.underlying t=some (.struct fs)/\fs[i]?=some f/\f.offset=off/\f.type=e:=by
   unfold fC at b
   split at b
   ·rename_i fs hu;cases a:fs[i]?with
    |none=>rw[a] at b;cases b
    |some f=>
     rw[a] at b;simp at b;exact⟨fs,f,hu,a,b.1,b.2⟩
   ·cases b
  obtain⟨fs,f,hu,a,rfl,rfl⟩:=c;obtain⟨v,k,l⟩:=Cj w g j h;refine⟨v,?_,l⟩;unfold Instr.field;rw[iv,run_underlying hu,j8];simp only[a,asAgg,iv,o0,j8,k]
 ·cases h
def HI(w:World){t:TypeId}{x i r:AV}{u j:Value}(h:gN P t x i=some r)(m:hI F ρ x u)(hi:hI F ρ i j):∃v,(Instr.indexAt t u j).run P w=.ok v w/\hI F ρ r v:=by
 unfold gN at h
 split at h
 ·rename_i k n;cases gJ hi
  split at h
  ·rename_i e tag l hu
   split at h
   ·rename_i hn
    split at h
    ·rename_i y agg sz hy a
     split at h
     ·rename_i s;cases h;obtain⟨base,cap,b,o,d,vs,rfl,hs,_,_⟩:=qs m;have A:n.toNat<l.length:=(pG.1 hy).1
      have B:l≠[]:=by rintro rfl;simp at A
      have f:=Dc hy
      have q:d=sz:=by rw[<-hs.sz y f,s]
      subst q;rw[hs.base B];refine⟨.pointer (some ⟨b,o+n.toNat*d,none⟩),?_,.p (.na (vs:=(vs.drop (n.toNat*d)).take d) ?_ ?_ ?_)⟩
      ·unfold Instr.indexAt;simp only[asIntOf,iv,o0,j8,run_underlying hu];rw[ee ⟨hn,by omega⟩];simp only[iv,o0,j8,kX a,Addr.add_lit]
      ·rw[<-Mp hs.sz hy];exact(hs.cells.drop _).take _
      ·exact(hs.has.drop _).take _
      ·intro c D;exact hs.wy c (S5.2 ⟨y,f,D⟩)
     ·cases h
    ·cases h
   ·cases h
  ·rename_i e b g len cap hu
   split at h
   ·rename_i agg sz a
    split at h
    ·rename_i hn;cases h;obtain⟨rfl,hg,_,_⟩:=ze m;refine⟨.pointer (some ⟨ρ.L b g,n.toNat*sz,none⟩),?_,.cell (.eB hg)⟩;unfold Instr.indexAt;simp only[asIntOf,iv,o0,j8,run_underlying hu];rw[ee ⟨hn.1,by omega⟩];simp only[iv,o0,j8,kX a,Addr.add_lit,vt]
    ·cases h
   ·cases h
  ·rename_i e b off len cap hu
   split at h
   ·rename_i agg sz a
    split at h
    ·rename_i hn;cases h;obtain⟨rfl,hg,_,_⟩:=FQ m;refine⟨.pointer (some ⟨ρ.G b,off+n.toNat*sz,none⟩),?_,.p (.fE hg)⟩;unfold Instr.indexAt;simp only[asIntOf,iv,o0,j8,run_underlying hu];rw[ee ⟨hn.1,by omega⟩];simp only[iv,o0,j8,kX a,Addr.add_lit]
    ·cases h
   ·cases h
  ·rename_i len e b g o hu
   split at h
   ·rename_i agg sz a
    split at h
    ·rename_i hn;cases h;obtain⟨rfl,hg⟩:=xh m;refine⟨.pointer (some ⟨ρ.L b g,o+n.toNat*sz,none⟩),?_,.cell (.eB hg)⟩;unfold Instr.indexAt;simp only[asIntOf,Instr.sureAddr,iv,o0,j8,run_underlying hu];rw[ee hn];simp only[iv,o0,j8,kX a,Addr.add_lit]
    ·cases h
   ·cases h
  ·rename_i len e E o hu
   split at h
   ·rename_i agg sz a
    split at h
    ·rename_i hn;cases h;obtain⟨rfl,hg⟩:=uE m;refine⟨.pointer (some ⟨ρ.G E,o+n.toNat*sz,none⟩),?_,.p (.fE hg)⟩;unfold Instr.indexAt;simp only[asIntOf,Instr.sureAddr,iv,o0,j8,run_underlying hu];rw[ee hn];simp only[iv,o0,j8,kX a,Addr.add_lit]
    ·cases h
   ·cases h
  ·rename_i len e y hu
   split at h
   ·rename_i agg sz a
    split at h
    ·rename_i hn;obtain⟨b,o,vs,rfl,H,I,J⟩:=DK m;cases C:mY P e y.cells (n.toNat*sz)with
     |none=>rw[C] at h;cases h
     |some z=>
      rw[C] at h;cases h;refine⟨.pointer (some ⟨b,o+n.toNat*sz,none⟩),?_,.p (I' H I J C)⟩;unfold Instr.indexAt;simp only[asIntOf,Instr.sureAddr,iv,o0,j8,run_underlying hu];rw[ee hn];simp only[iv,o0,j8,kX a,Addr.add_lit]
    ·cases h
   ·cases h
  ·cases h
 ·cases h
def OF(w:World){t:TypeId}{x i r:AV}{u j:Value}(h:Mu P t x i=some r)(c:hI F ρ x u)(hi:hI F ρ i j):∃v,(Instr.index t u j).run P w=.ok v w/\hI F ρ r v:=by
 unfold Mu at h
 split at h
 ·rename_i k n;cases gJ hi
  split at h
  ·rename_i s hu;cases gJ c
   split at h
   ·rename_i hn;cases a:s[n.toNat]?with
    |none=>rw[a] at h;cases h
    |some b=>
     rw[a] at h;cases h;refine⟨.int .u8 b.toNat,?_,.p (.sc rfl)⟩;unfold Instr.index;simp[asIntOf,run_underlying hu,hn,a]
   ·cases h
  ·rename_i len e cs hu
   split at h
   ·rename_i agg sz d
    split at h
    ·rename_i hn;obtain⟨vs,rfl,f,g⟩:=Ch c;obtain⟨v,l,m⟩:=Cj w f g h;refine⟨v,?_,m⟩;unfold Instr.index;simp only[asIntOf,iv,o0,j8,run_underlying hu];rw[ee hn];simp only[iv,kX d,j8,l]
    ·cases h
   ·cases h
  ·cases h
 ·cases h
end
end Go.mS
