/- Part of the proof of SchemeAccepted: layer. -/
import Derived.Orders
import Derived.Below
import Derived.Laws.AppendOwn
import Derived.Laws.Cells
import Derived.Laws.CopyRow
import Derived.Laws.Small
import Derived.Laws.Pointers
import Derived.WalkSpells
import Derived.Test.YtpgdkkomegalnaaGreatDoorL1
set_option linter.all false
namespace Go.kY
open Go
inductive Tag where
 |gx|full|loc (k g:Nat)
inductive AV where
 |undef|sc (v:Value)|kU (x:AV)|gX (b g off:Nat)|eK (o off:Nat)|slice (tag:Tag) (l:List AV)|agg (cs:List AV)|tuple (vs:List AV)|func (fn:Fn) (first cap:List AV)
 |iface (t:TypeId) (x:AV)|v' (b g len cap:Nat)|nH (o:Nat)|tO (ks:List Value) (xs:List AV)|mH (o since:Nat) (seen:List Nat)|vj (o off len cap:Nat)|Gb
instance:Inhabited AV:=⟨.undef⟩
def AV.cells:AV->List AV
 |.agg cs=>cs|x=>[x]
def AV.gf:AV->Bool
 |.agg _=>false|.tuple _=>false|.tO _ _=>false|.mH _ _ _=>false|_=>true
def yk:Value->Bool
 |.bool _=>true|.int _ _=>true|.float _ _=>true|.string _=>true|.pointer none=>true|.map none=>true|.nilFunc=>true|.nilIface=>true|_=>false
inductive gY {α β:Type} (R:α->β->Prop):List α->List β->Prop
 |nil:gY R [] []|cons {a b as bs}:R a b->gY R as bs->gY R (a::as) (b::bs)
def gY.length{α β:Type}{R:α->β->Prop}{as:List α}{bs:List β}(h:gY R as bs):as.length=bs.length:=by
 induction h with
 |nil=>rfl|cons _ _ ih=>simp[ih]
theorem gY.mono{α β:Type}{R S:α->β->Prop}{as:List α}{bs:List β}(h:gY R as bs)(hs:∀a b,a∈as->R a b->S a b):gY S as bs:=by
 induction h with
 |nil=>exact .nil|cons c _ ih=>exact .cons (hs _ _ LA c) (ih λa b d=>hs a b (by simp[d]))
def gY.append{α β:Type}{R:α->β->Prop}{as a:List α}{bs b:List β}(h:gY R as bs)(c:gY R a b):gY R (as++a) (bs++b):=by
 induction h with
 |nil=>exact c|cons d _ ih=>exact .cons d ih
def gY.take{α β:Type}{R:α->β->Prop}{as:List α}{bs:List β}(h:gY R as bs)(n:Nat):gY R (as.take n) (bs.take n):=by
 induction h generalizing n with
 |nil=>simp;exact .nil|cons a _ ih=>cases n with
  |zero=>exact .nil|succ n=>exact .cons a (ih n)
def gY.drop{α β:Type}{R:α->β->Prop}{as:List α}{bs:List β}(h:gY R as bs)(n:Nat):gY R (as.drop n) (bs.drop n):=by
 induction h generalizing n with
 |nil=>simp;exact .nil|cons a b ih=>cases n with
  |zero=>exact .cons a b|succ n=>exact ih n
def gY.get{α β:Type}{R:α->β->Prop}{as:List α}{bs:List β}(h:gY R as bs){i:Nat}{a:α}(c:as[i]?=some a):∃b,bs[i]?=some b/\R a b:=by
 induction h generalizing i with
 |nil=>simp at c
 |cons d _ ih=>grind
def gY.mem{α β:Type}{R:α->β->Prop}{as:List α}{bs:List β}(h:gY R as bs){b:β}(c:b∈bs):∃a∈as,R a b:=by
 induction h with
 |nil=>simp at c
 |cons d _ ih=>grind
def gY.vS{α α' β:Type}{R:α->β->Prop}{S:α'->β->Prop}{as:List α}{bs:List β}(f:α->α')(h:gY R as bs)(hs:∀a b,a∈as->R a b->S (f a) b):gY S (as.map f) bs:=by
 induction h with
 |nil=>exact .nil|cons c _ ih=>exact .cons (hs _ _ LA c) (ih λa b d=>hs a b (by simp[d]))
abbrev kD:=Nat->Nat->Option Value
def kD.has(F:kD)(b o:Nat)(vs:List Value):Prop:=∀i v,vs[i]?=some v->F b (o+i)=some v
mutual
inductive gG (F:kD) (G:Nat->Nat) (n:Nat):AV->Value->Prop
 |undef {v}:v.oneCell'=true->gG F G n .undef v|sc {v}:yk v=true->gG F G n (.sc v) v|kU {x b o vs}:gV F G n x.cells vs->F.has b o vs->(∀c∈x.cells,c.gf=true)->gG F G n (.kU x) (.pointer (some ⟨b,o,none⟩))|eK {o off}:o<n->gG F G n (.eK o off) (.pointer (some ⟨G o,off,none⟩))|nH {o}:o<n->gG F G n (.nH o) (.map (some (G o)))|vj {o off len cap}:o<n->len<=cap->cap<=maxLen->gG F G n (.vj o off len cap) (.slice (some ⟨G o,off,none⟩) len cap)|slice {tag l vs b o base cap sz}:gV F G n (l.flatMap AV.cells) vs->F.has b o vs->(l≠[]->base=some ⟨b,o,none⟩)->(∀x∈l,x.cells.length=sz)->(∀c∈l.flatMap AV.cells,c.gf=true)->l.length<=cap->cap<=maxLen->tag=.gx\/tag=.full/\cap=l.length->gG F G n (.slice tag l) (.slice base l.length cap)|Gb {base}:gG F G n .Gb (.slice base 0 0)|agg {cs vs}:gV F G n cs vs->(∀c∈cs,c.gf=true)->gG F G n (.agg cs) (.agg vs.toArray)|tuple {cs vs}:gV F G n cs vs->gG F G n (.tuple cs) (.tuple vs.toArray)|func {fn f c vf vc}:gV F G n f vf->gV F G n c vc->gG F G n (.func fn f c) (.func fn vf.toArray vc.toArray)|iface {t x v}:gG F G n x v->gG F G n (.iface t x) (.iface t v)
inductive gV (F:kD) (G:Nat->Nat) (n:Nat):List AV->List Value->Prop
 |nil:gV F G n [] []|cons {x v xs vs}:gG F G n x v->gV F G n xs vs->gV F G n (x::xs) (v::vs)
end
section
variable{F F':kD} {G G':Nat->Nat} {n n':Nat}
def gV.rz{xs vs}(h:gV F G n xs vs):gY (gG F G n) xs vs:=by
 induction xs generalizing vs with
 |nil=>cases h;exact .nil
 |cons x xs ih=>cases h with|cons a b=>exact .cons a (ih b)
def gV.oT{xs vs}(h:gY (gG F G n) xs vs):gV F G n xs vs:=by
 induction h with
 |nil=>exact .nil|cons a _ ih=>exact .cons a ih
structure GR (F F':kD) (G G':Nat->Nat) (n n':Nat):Prop where
 mF:∀b o v,F b o=some v->F' b o=some v
 mn:n<=n'
 mG:∀o,o<n->G' o=G o
theorem GR.refl:GR F F G G n n:=⟨λ_ _ _ h=>h,jy _,λ_ _=>rfl⟩
def kD.has.grow{b o vs}(h:F.has b o vs)(hg:GR F F' G G' n n'):F'.has b o vs:=λi v a=>hg.mF _ _ _ (h i v a)
mutual
def gG.grow(hg:GR F F' G G' n n'):∀{x v},gG F G n x v->gG F' G' n' x v
 |_,_,.undef h=>.undef h|_,_,.sc h=>.sc h|_,_,.kU a b c=>.kU (a.grow hg) (b.grow hg) c|_,_,.eK (o:=o) (off:=off) h=>by
  rw[<-hg.mG o h];exact .eK (Vy h hg.mn)
 |_,_,.nH (o:=o) h=>by
  rw[<-hg.mG o h];exact .nH (Vy h hg.mn)
 |_,_,.vj (o:=o) h b c=>by
  rw[<-hg.mG o h];exact .vj (Vy h hg.mn) b c
 |_,_,.slice a b c d f i j k=>.slice (a.grow hg) (b.grow hg) c d f i j k|_,_,.Gb=>.Gb|_,_,.agg a b=>.agg (a.grow hg) b|_,_,.tuple a=>.tuple (a.grow hg)|_,_,.func a b=>.func (a.grow hg) (b.grow hg)|_,_,.iface a=>.iface (a.grow hg)
def gV.grow(hg:GR F F' G G' n n'):∀{xs vs},gV F G n xs vs->gV F' G' n' xs vs
 |_,_,.nil=>.nil|_,_,.cons a b=>.cons (a.grow hg) (b.grow hg)
end
def gG.Mx{x v}(h:gG F G n x v)(b:x.gf=true):v.oneCell'=true:=by
 cases h with
 |undef h=>exact h|sc h=>revert h;cases v<;>simp[yk,Value.oneCell']
 |agg a c=>grind[AV.gf]|tuple a=>grind[AV.gf]|_=>rfl
theorem gG.cells{x v}(h:gG F G n x v)(l:∀vs,x≠ .tuple vs):gV F G n x.cells v.cells.toList:=by
 cases h with
 |undef h=>cases v<;>first|exact .cons (.undef h) .nil|(simp[Value.oneCell'] at h;done)
 |sc h=>cases v<;>first|exact .cons (.sc h) .nil|(simp[yk] at h;done)
 |kU a b c=>exact .cons (.kU a b c) .nil|eK a=>exact .cons (.eK a) .nil|nH a=>exact .cons (.nH a) .nil|vj a b c=>exact .cons (.vj a b c) .nil|slice a b c d f i j k=>exact .cons (.slice a b c d f i j k) .nil|Gb=>exact .cons .Gb .nil|agg a b=>exact a|tuple a=>grind|func a b=>exact .cons (.func a b) .nil|iface a=>exact .cons (.iface a) .nil
end
structure Maps where
 G:Nat->Nat
 n:Nat
 L:Nat->Nat->Nat
 lg:Nat->Nat
 A:Nat->Nat->Option (Nat×Nat×Nat)
 ag:Nat->Nat
def ub(ρ:Maps)(k g:Nat)(l:List AV)(base:Option Addr)(cap:Nat):Prop:=
 match ρ.A k g with
 |none=>cap=l.length|some (b,c,sz)=>base=some ⟨b,0,none⟩/\cap=c/\∀x∈l,x.cells.length=sz
inductive jM (F:kD) (ρ:Maps):AV->Value->Prop
 |p {x v}:gG F ρ.G ρ.n x v->jM F ρ x v|gX {b g off}:g<=ρ.lg b->jM F ρ (.gX b g off) (.pointer (some ⟨ρ.L b g,off,none⟩))|loc {k g l base cap}:gG F ρ.G ρ.n (.slice .gx l) (.slice base l.length cap)->g<=ρ.ag k->ub ρ k g l base cap->jM F ρ (.slice (.loc k g) l) (.slice base l.length cap)|v' {b g len cap}:g<=ρ.lg b->len<=cap->cap<=maxLen->jM F ρ (.v' b g len cap) (.slice (some ⟨ρ.L b g,0,none⟩) len cap)
inductive gw (F:kD) (ρ:Maps):AV->Value->Prop
 |cell {x v}:jM F ρ x v->gw F ρ x v|agg {cs vs}:gY (jM F ρ) cs vs->(∀c∈cs,c.gf=true)->gw F ρ (.agg cs) (.agg vs.toArray)
structure wN (F F':kD) (ρ ρ':Maps):Prop where
 g:GR F F' ρ.G ρ'.G ρ.n ρ'.n
 lg:∀b,ρ.lg b<=ρ'.lg b
 L:∀b g,g<=ρ.lg b->ρ'.L b g=ρ.L b g
 ag:∀k,ρ.ag k<=ρ'.ag k
 A:∀k g,g<=ρ.ag k->ρ'.A k g=ρ.A k g
section
variable{F F':kD} {ρ ρ':Maps}
def jM.grow(hg:wN F F' ρ ρ'){x v}(h:jM F ρ x v):jM F' ρ' x v:=by
 cases h with
 |p h=>exact .p (h.grow hg.g)|gX h=>
  rename_i b g off;rw[<-hg.L b g h];exact .gX (Gk h (hg.lg b))
 |loc d a c=>
  refine .loc (d.grow hg.g) (Gk a (hg.ag _)) ?_;unfold ub;rw[hg.A _ _ a];exact c
 |v' h a c=>
  rename_i b g len cap;rw[<-hg.L b g h];exact .v' (Gk h (hg.lg b)) a c
def gw.grow(hg:wN F F' ρ ρ'){x v}(h:gw F ρ x v):gw F' ρ' x v:=by
 cases h with
 |cell h=>exact .cell (h.grow hg)|agg a b=>exact .agg (a.mono λ_ _ _ h=>h.grow hg) b
def gw.p{x v}(h:gG F ρ.G ρ.n x v):gw F ρ x v:=.cell (.p h)
end
def AV.iV:AV->AV
 |.slice _ l=>.slice .gx l|.gX _ _ _=>.undef|.v' _ _ _ _=>.undef|x=>x
def AV.norm:AV->AV
 |.agg cs=>.agg (cs.map AV.iV)|x=>x.iV
section
variable{F F':kD} {ρ ρ':Maps}
def gG.gx{G:Nat->Nat}{n:Nat}{tag l v}(h:gG F G n (.slice tag l) v):gG F G n (.slice .gx l) v:=by
 cases h with
 |slice a b c d f i j k=>exact .slice a b c d f i j (.inl rfl)
def gG.iV{G:Nat->Nat}{n:Nat}{x v}(h:gG F G n x v):gG F G n x.iV v:=by
 cases x with
 |slice tag l=>exact h.gx|gX b g off=>cases h
 |v' b g len cap=>cases h
 |_=>exact h
def jM.iV{x v}(h:jM F ρ x v):gG F ρ.G ρ.n x.iV v:=by
 cases h with
 |p h=>exact h.iV|gX h=>exact .undef rfl|loc a b c=>exact a|v' a b c=>exact .undef rfl
theorem AV.F7(x:AV):x.iV.gf=x.gf:=by cases x<;>rfl
def gw.norm{x v}(h:gw F ρ x v):gG F ρ.G ρ.n x.norm v:=by
 have d:∀{cs:List AV} {vs:List Value},gY (jM F ρ) cs vs->(∀c∈cs,c.gf=true)->gG F ρ.G ρ.n (AV.agg cs).norm (.agg vs.toArray):=by
  intro cs vs f i;refine .agg (gV.oT (f.vS AV.iV λa b _ h=>h.iV)) ?_
  grind[AV.F7]
 cases h with
 |agg f i=>grind|cell h=>
  cases x with
  |agg cs=>
   cases h with
   |p h=>
    cases h with
    |agg f i=>exact d (f.rz.mono λ_ _ _ h=>.p h) i
  |_=>exact h.iV
theorem gw.cells{x v}(h:gw F ρ x v)(d:∀vs,x≠ .tuple vs):gY (jM F ρ) x.cells v.cells.toList:=by
 cases h with
 |agg a b=>exact a|cell h=>
  cases h with
  |p h=>exact(h.cells d).rz.mono λ_ _ _ h=>.p h|gX h=>exact .cons (.gX h) .nil|loc a b c=>exact .cons (.loc a b c) .nil|v' a b c=>exact .cons (.v' a b c) .nil
def jM.Mx{x v}(h:jM F ρ x v)(a:x.gf=true):v.oneCell'=true:=by
 cases h with
 |p h=>exact h.Mx a|gX h=>rfl|loc b c d=>rfl|v' b c d=>rfl
def gw.rW{x v}(h:gw F ρ x v)(f:∀vs,x≠ .tuple vs):∀c∈x.cells,c.gf=true:=by
 cases h with
 |agg b a=>exact a|cell h=>
  cases h with
  |p h=>
   cases h with
   |agg b a=>exact a|tuple b=>grind|_=>simp[AV.cells,AV.gf]
  |gX h=>simp[AV.cells,AV.gf]|loc b a d=>simp[AV.cells,AV.gf]|v' b a d=>simp[AV.cells,AV.gf]
end
end Go.kY
namespace Go.kY
open Go
abbrev dS:=List (List AV)
abbrev eA:=Nat->Option AV
structure Fr where
 env:Nat->AV
 box:Nat->Option (List AV)
 gen:Nat->Nat
 qb:Nat->Option Nat
 fa:Nat->Nat
def gA{α:Type}(f:Nat->α)(i:Nat)(x:α):Nat->α:=λj=>if j=i then x else f j
def Fr.put(fr:Fr)(d:Option Nat)(x:AV):Fr:=
 match d with
 |some d=>{fr with env:=gA fr.env d x}|none=>fr
section
variable(P:Program)
def fu(t:TypeId):Option (Bool×Nat):=
 match P.underlying t,P.info? t with
 |some d,some i=>some (match d with|.struct _|.array _ _=>true|_=>false,i.size)
 |_,_=>none
def zeroOf(t:TypeId):Option Value:=(P.info? t).bind (·.zero)
def eG(t i:Nat):Option (Nat×TypeId):=
 match P.underlying t with
 |some (.struct fs)=>(fs[i]?).map λf=>(f.offset,f.type)|_=>none
def Qa(t:TypeId):Option (Nat×TypeId):=
 match P.underlying t with
 |some (.array n e)=>some (n,e)|_=>none
def mr(t:TypeId)(cs:List AV)(off:Nat):Option AV:=
 match fu P t with
 |some (true,n)=>if off+n<=cs.length then some (.agg ((cs.drop off).take n))else none|some (false,_)=>cs[off]?|none=>none
def tx(t:TypeId)(x:AV):Bool:=
 match fu P t,x with
 |some (true,n),.agg cs=>cs.length==n|some (false,_),.agg _=>false|some (false,_),.tuple _=>false|some (false,_),.tO _ _=>false|some (false,_),.mH _ _ _=>false|some (false,_),_=>true|_,_=>false
end
def setCells(cs:List AV)(off:Nat)(new:List AV):List AV:=cs.take off++new++cs.drop (off+new.length)
def qk:Value->AV
 |.slice none 0 0=>.slice .full []|.func fn f c=>if f.size=0/\c.size=0 then .func fn [] [] else .undef|.agg _=>.undef|.tuple _=>.undef|v=>if yk v then .sc v else .undef
def ofValue:Value->AV
 |.agg cs=>.agg (cs.toList.map qk)|.tuple cs=>.tuple (cs.toList.map qk)|v=>qk v
def yB:Value->Bool
 |.agg cs=>cs.all (·.oneCell')|.tuple cs=>cs.all (·.oneCell')|_=>true
def yx(v:Value):(qk v).gf=true:=by
 unfold qk
 split<;>first|rfl|(split<;>rfl)
def F1(F:kD)(G:Nat->Nat)(n:Nat)(v:Value)(h:v.oneCell'=true):gG F G n (qk v) v:=by
 unfold qk
 split
 ·exact .slice (l:=[]) (vs:=[]) (b:=0) (o:=0) (sz:=0) .nil (λ_ _ h=>by simp at h) LA LA LA LA (by simp[maxLen]) (.inr ⟨rfl,rfl⟩)
 ·rename_i fn f c
  split
  ·rename_i hs;obtain⟨a,d⟩:=hs;have i:f=#[]:=afO a;have j:c=#[]:=afO d;subst i;subst j;exact .func (vf:=[]) (vc:=[]) .nil .nil
  ·exact .undef rfl
 ·simp[Value.oneCell'] at h
 ·simp[Value.oneCell'] at h
 ·split
  ·exact .sc (by assumption)
  ·exact .undef h
def qw(F:kD)(G:Nat->Nat)(n:Nat):∀(vs:List Value),(∀v∈vs,v.oneCell'=true)->gV F G n (vs.map qk) vs
 |[],_=>.nil|v::vs,h=>.cons (F1 F G n v (h v LA)) (qw F G n vs λu hu=>h u (by simp[hu]))
def F5{v:Value}(h:v.oneCell'=true):ofValue v=qk v:=by
 cases v<;>first|rfl|(simp[Value.oneCell'] at h)
def yA(F:kD)(G:Nat->Nat)(n:Nat)(v:Value)(h:yB v=true):gG F G n (ofValue v) v:=by
 cases v with
 |agg cs=>
  have b:∀v∈cs.toList,v.oneCell'=true:=λv d=>by
   have f:cs.all (·.oneCell')=true:=h
   exact Kj.1 f v (xD.1 d)
  exact .agg (vs:=cs.toList) (qw F G n cs.toList b) (by
   intro c i;obtain⟨a,_,rfl⟩:=qq.1 i
   exact yx a)
 |tuple cs=>
  have b:∀v∈cs.toList,v.oneCell'=true:=λv d=>by
   have f:cs.all (·.oneCell')=true:=h
   exact Kj.1 f v (xD.1 d)
  exact .tuple (vs:=cs.toList) (qw F G n cs.toList b)
 |_=>(rw[F5 rfl];exact F1 F G n _ rfl)
section
variable(T:eA) (fr:Fr)
def ev:Operand->AV
 |.tmp t=>fr.env t|.const v=>ofValue v|.global g=>match T g with|some x=>.kU x|none=>.undef
 |.func f=>.func (.func f) [] []
def jk:Operand->Bool
 |.const v=>yB v|_=>true
end
def sW(F:kD)(ρ:Maps)(fr:Fr)(a:Act):Prop:=∀t,gw F ρ (fr.env t) (a.tmps.getD t undef)
def x0(T:eA)(F:kD)(ρ:Maps):Prop:=∀g x,T g=some x->gG F ρ.G ρ.n (.kU x) (.pointer (some ⟨g,0,none⟩))
def gu{T:eA}{fr:Fr}{F:kD}{ρ:Maps}{a:Act}(he:sW F ρ fr a)(b:x0 T F ρ)(x:Operand)(c:jk x=true):gw F ρ (ev T fr x) (a.eval x):=by
 cases x with
 |tmp t=>exact he t|const v=>exact .p (yA _ _ _ v c)|global g=>
  show gw F ρ (match T g with|some x=>.kU x|none=>.undef) _;cases h:T g with
  |none=>exact .p (.undef rfl)|some x=>exact .p (b g x h)
 |func f=>exact .p (.func (vf:=[]) (vc:=[]) .nil .nil)
def qm(op:BinOp)(k:IntKind)(a b:Int):Option Value:=
 match op with
 |.add=>some (.int k (k.wrap (a+b)))|.sub=>some (.int k (k.wrap (a-b)))|.mul=>some (.int k (k.wrap (a*b)))|.quo=>if b=0 then none else some (.int k (k.wrap (a.tdiv b)))|.rem=>if b=0 then none else some (.int k (a.tmod b))|.and=>some (.int k (k.wrap (BitVec.ofInt k.bits a&&&BitVec.ofInt k.bits b).toNat))|.or=>some (.int k (k.wrap (BitVec.ofInt k.bits a|||BitVec.ofInt k.bits b).toNat))|.xor=>some (.int k (k.wrap (BitVec.ofInt k.bits a^^^BitVec.ofInt k.bits b).toNat))|.andNot=>some (.int k (k.wrap (BitVec.ofInt k.bits a&&&~~~BitVec.ofInt k.bits b).toNat))|.eql=>some (.bool (a==b))|.neq=>some (.bool (a !=b))|.lss=>some (.bool (a<b))|.leq=>some (.bool (a<=b))|.gtr=>some (.bool (a>b))|.geq=>some (.bool (a>=b))|_=>none
def M_(op:BinOp)(x y:ByteArray):Option Value:=
 match op with
 |.add=>if((x.size+y.size:Nat):Int)>IntKind.i64.max then none else some (.string (x++y))|.eql=>some (.bool (x.toList==y.toList))|.neq=>some (.bool !(x.toList==y.toList))|.lss=>some (.bool (Op.bytesLess x.toList y.toList))|.leq=>some (.bool (Op.bytesLess x.toList y.toList||x.toList==y.toList))|.gtr=>some (.bool !(Op.bytesLess x.toList y.toList||x.toList==y.toList))|.geq=>some (.bool !(Op.bytesLess x.toList y.toList))|_=>none
def D8:AV->Bool
 |.kU _|.gX _ _ _|.eK _ _=>true|_=>false
def tj(P:Program)(op:BinOp)(t:TypeId)(x y:AV):Option AV:=
 match op,x,y with
 |.shl,.sc (.int k a),.sc (.int _ b)=>if b<0 then none else some (.sc (.int k (k.wrap (a*2^min b.toNat k.bits))))|.shr,.sc (.int k a),.sc (.int _ b)=>if b<0 then none else some (.sc (.int k (a.fdiv (2^min b.toNat k.bits))))|op,.sc (.int k a),.sc (.int k' b)=>if k=k' then(qm op k a b).map .sc else none|op,.sc (.string a),.sc (.string b)=>(M_ op a b).map .sc|.eql,.sc (.bool a),.sc (.bool b)=>match P.underlying t with|some .bool=>some (.sc (.bool (a==b)))|_=>none
 |.neq,.sc (.bool a),.sc (.bool b)=>match P.underlying t with|some .bool=>some (.sc (.bool (!(a==b))))|_=>none
 |.eql,x,.sc (.pointer none)=>match P.underlying t with
  |some (.pointer _)=>if D8 x then some (.sc (.bool false))else(match x with|.sc (.pointer none)=>some (.sc (.bool true))|_=>none)
  |_=>none
 |.neq,x,.sc (.pointer none)=>match P.underlying t with
  |some (.pointer _)=>if D8 x then some (.sc (.bool true))else(match x with|.sc (.pointer none)=>some (.sc (.bool false))|_=>none)
  |_=>none
 |.eql,.func _ _ _,.sc .nilFunc=>match P.underlying t with|some (.func ..)=>some (.sc (.bool false))|_=>none
 |.neq,.func _ _ _,.sc .nilFunc=>match P.underlying t with|some (.func ..)=>some (.sc (.bool true))|_=>none
 |.eql,.sc .nilFunc,.sc .nilFunc=>match P.underlying t with|some (.func ..)=>some (.sc (.bool true))|_=>none
 |.neq,.sc .nilFunc,.sc .nilFunc=>match P.underlying t with|some (.func ..)=>some (.sc (.bool false))|_=>none
 |_,_,_=>none
def unA(op:UnOp)(x:AV):Option AV:=
 match op,x with
 |.neg,.sc (.int k n)=>some (.sc (.int k (k.wrap (0-n))))|.not,.sc (.bool b)=>some (.sc (.bool !b))|_,_=>none
def fX{F:kD}{ρ:Maps}{u v:Value}(h:gw F ρ (.sc u) v):v=u:=by
 cases h with
 |cell h=>cases h with|p h=>cases h;rfl
def Ik(P:Program)(w:World){op:BinOp}{k:IntKind}{a b:Int}{v:Value}(t:TypeId)(h:qm op k a b=some v):(binOp op t (.int k a) (.int k b)).run P w=.ok v w/\yk v=true:=by
 cases op<;>simp only[qm] at h<;>(try(split at h))<;>
  (first
   |(cases h;refine⟨?_,rfl⟩;simp[binOp,Op.intArith,Op.intBits,Op.intCmp,Op.intDiv, *])
   |cases h)
def HS(P:Program)(w:World){op:BinOp}{a b:ByteArray}{v:Value}(t:TypeId)(h:M_ op a b=some v):(binOp op t (.string a) (.string b)).run P w=.ok v w/\yk v=true:=by
 cases op<;>simp only[M_] at h<;>(try(split at h))<;>
  (first
   |(cases h;refine⟨?_,rfl⟩;simp_all [binOp,Op.stringOp])
   |cases h)
def FE{F:kD}{ρ:Maps}{x:AV}{v:Value}(b:D8 x=true)(h:gw F ρ x v):∃a,v=.pointer (some a):=by
 cases h with
 |agg c d=>grind[D8]|cell h=>
  cases h with
  |gX h=>grind|loc c d f=>simp[D8] at b
  |v' c d f=>simp[D8] at b
  |p h=>cases h<;>first|(simp[D8] at b;done)|exact⟨_,rfl⟩
def yh{P:Program}{t e:TypeId}(h:P.underlying t=some (.pointer e)):P.underlying t=some (.pointer (P.pointee t)):=by
 simp[Program.pointee,h]
def Bh{F:kD}{ρ:Maps}{fn:Fn}{f c:List AV}{v:Value}(h:gw F ρ (.func fn f c) v):∃vf vc:List Value,v=.func fn vf.toArray vc.toArray/\gY (gG F ρ.G ρ.n) f vf/\gY (gG F ρ.G ρ.n) c vc:=by
 cases h with
 |cell h=>cases h with
  |p h=>cases h with|func a b=>exact⟨_,_,rfl,a.rz,b.rz⟩
def TU(P:Program)(w:World){t:TypeId}{a rs:Array TypeId}{b:Bool}(hu:P.underlying t=some (.func a rs b))(fn:Fn)(f c:Array Value):(binOp .eql t (.func fn f c) .nilFunc).run P w=.ok (.bool false) w/\(binOp .neq t (.func fn f c) .nilFunc).run P w=.ok (.bool true) w:=by
 have h:∀d,(Op.equalIn (d+1) t (.func fn f c) .nilFunc).run P w=.ok false w:=λd=>by simp[Op.equalIn,run_underlying hu]
 have i:binOp .eql t (.func fn f c) .nilFunc=(do pure (.bool (<-Op.equalIn (9999+1) t (.func fn f c) .nilFunc))):=rfl;have j:binOp .neq t (.func fn f c) .nilFunc=(do pure (.bool (!(<-Op.equalIn (9999+1) t (.func fn f c) .nilFunc)))):=rfl;rw[i,j,hW,hW,h 9999];exact⟨rfl,rfl⟩
def TT(P:Program)(w:World){t:TypeId}{a rs:Array TypeId}{b:Bool}(hu:P.underlying t=some (.func a rs b)):(binOp .eql t .nilFunc .nilFunc).run P w=.ok (.bool true) w/\(binOp .neq t .nilFunc .nilFunc).run P w=.ok (.bool false) w:=by
 have h:∀d,(Op.equalIn (d+1) t .nilFunc .nilFunc).run P w=.ok true w:=λd=>by simp[Op.equalIn,run_underlying hu]
 have c:binOp .eql t .nilFunc .nilFunc=(do pure (.bool (<-Op.equalIn (9999+1) t .nilFunc .nilFunc))):=rfl;have f:binOp .neq t .nilFunc .nilFunc=(do pure (.bool (!(<-Op.equalIn (9999+1) t .nilFunc .nilFunc)))):=rfl;rw[c,f,hW,hW,h 9999];exact⟨rfl,rfl⟩
def M3:Value->Bool
 |.nilIface=>false|.agg _=>false|_=>true
def PX(P:Program)(w:World)(op:BinOp)(t:TypeId)(x y:Operand){u v:Value}(h:M3 u=true):(eqGuard op t x y u v).run P w=.ok () w:=by
 cases u<;>first|(simp[M3] at h;done)|(cases op<;>rfl)
def V_(P:Program)(w:World){F:kD}{ρ:Maps}{op:BinOp}{t:TypeId}{x y r:AV}{u v:Value}(h:tj P op t x y=some r)
  (b:gw F ρ x u) (c:gw F ρ y v):∃z,(binOp op t u v).run P w=.ok z w/\r=.sc z/\yk z=true/\M3 u=true:=by
 unfold tj at h
 split at h
 ·cases fX b;cases fX c
  split at h
  ·cases h
  ·rename_i d;cases h;exact⟨_,by simp[binOp,Op.shift,d],rfl,rfl,rfl⟩
 ·cases fX b;cases fX c
  split at h
  ·cases h
  ·rename_i d;cases h;exact⟨_,by simp[binOp,Op.shift,d],rfl,rfl,rfl⟩
 ·cases fX b;cases fX c
  split at h
  ·rename_i i;subst i;cases hi:qm op _ _ _ with
   |none=>rw[hi] at h;cases h
   |some z=>
    rw[hi] at h;cases h;exact⟨z,(Ik P w t hi).1,rfl,(Ik P w t hi).2,rfl⟩
  ·cases h
 ·cases fX b;cases fX c;cases hi:M_ op _ _ with
  |none=>rw[hi] at h;cases h
  |some z=>
   rw[hi] at h;cases h;exact⟨z,(HS P w t hi).1,rfl,(HS P w t hi).2,rfl⟩
 ·cases fX b;cases fX c
  split at h
  ·rename_i hu;cases h;exact⟨_,run_eql_bool w t _ _ hu,rfl,rfl,rfl⟩
  ·cases h
 ·cases fX b;cases fX c
  split at h
  ·rename_i hu;cases h;exact⟨_,run_neq_bool w t _ _ hu,rfl,rfl,rfl⟩
  ·cases h
 ·cases fX c
  split at h
  ·rename_i hu
   split at h
   ·rename_i f;obtain⟨a,rfl⟩:=FE f b;cases h;exact⟨_,run_eql_pointer_nil w t _ (yh hu),LA,rfl,rfl⟩
   ·split at h
    ·cases fX b;cases h;exact⟨_,run_eql_pointer_nil w t _ (yh hu),LA,rfl,rfl⟩
    ·cases h
  ·cases h
 ·cases fX c
  split at h
  ·rename_i hu
   split at h
   ·rename_i f;obtain⟨a,rfl⟩:=FE f b;cases h;exact⟨_,run_neq_pointer_nil w t _ (yh hu),LA,rfl,rfl⟩
   ·split at h
    ·cases fX b;cases h;exact⟨_,run_neq_pointer_nil w t _ (yh hu),LA,rfl,rfl⟩
    ·cases h
  ·cases h
 ·cases fX c;obtain⟨vf,vc,rfl,_,_⟩:=Bh b
  split at h
  ·rename_i hu;cases h;exact⟨.bool false,(TU P w hu _ _ _).1,rfl,rfl,rfl⟩
  ·cases h
 ·cases fX c;obtain⟨vf,vc,rfl,_,_⟩:=Bh b
  split at h
  ·rename_i hu;cases h;exact⟨.bool true,(TU P w hu _ _ _).2,rfl,rfl,rfl⟩
  ·cases h
 ·cases fX b;cases fX c
  split at h
  ·rename_i hu;cases h;exact⟨.bool true,(TT P w hu).1,rfl,rfl,rfl⟩
  ·cases h
 ·cases fX b;cases fX c
  split at h
  ·rename_i hu;cases h;exact⟨.bool false,(TT P w hu).2,rfl,rfl,rfl⟩
  ·cases h
 ·cases h
end Go.kY
namespace Go.kY
open Go
def oc{l:List AV}{sz:Nat}(h:∀x∈l,x.cells.length=sz):(l.flatMap AV.cells).length=l.length*sz:=by
 induction l with
 |nil=>simp|cons x l ih=>grind
def DQ{l:List AV}{sz:Nat}(h:∀x∈l,x.cells.length=sz)(n:Nat):(l.take n).flatMap AV.cells=(l.flatMap AV.cells).take (n*sz):=by
 induction l generalizing n with
 |nil=>simp|cons x l ih=>
  cases n with
  |zero=>simp|succ n=>
   have a:=h x LA
   rw[List.take_succ_cons,Ju,Ju,ih (λy b=>h y (by simp[b])),CQ,abu,List.take_append,a,List.take_of_length_le (l:=x.cells) xL,ahc]
def yN{l:List AV}{sz:Nat}(h:∀x∈l,x.cells.length=sz)(n:Nat):(l.drop n).flatMap AV.cells=(l.flatMap AV.cells).drop (n*sz):=by
 induction l generalizing n with
 |nil=>simp|cons x l ih=>
  cases n with
  |zero=>simp|succ n=>
   have a:=h x LA
   rw[List.drop_succ_cons,Ju,ih (λy b=>h y (by simp[b])),CQ,abu,afq,a,Ku (as:=x.cells) xL,ahc,p5]
def QP{l:List AV}{sz:Nat}(h:∀x∈l,x.cells.length=sz){i:Nat}{x:AV}(hi:l[i]?=some x):((l.flatMap AV.cells).drop (i*sz)).take sz=x.cells:=by
 have b:=yN h i;have a:i<l.length:=(sX.1 hi).1
 have c:l.drop i=x::l.drop (i+1):=by
  have:=M5 a
  grind
 grind
def kD.has.drop{F:kD}{b o:Nat}{vs:List Value}(h:F.has b o vs)(n:Nat):F.has b (o+n) (vs.drop n):=by
 intro i v a;rw[Vz] at a;have:=h _ v a
 grind
def kD.has.take{F:kD}{b o:Nat}{vs:List Value}(h:F.has b o vs)(n:Nat):F.has b o (vs.take n):=by
 intro i v a;rw[RQ] at a
 split at a
 ·exact h i v a
 ·cases a
section
variable{F:kD} {G:Nat->Nat} {n:Nat}
def gV.drop{xs vs}(h:gV F G n xs vs)(k:Nat):gV F G n (xs.drop k) (vs.drop k):=.oT (h.rz.drop k)
def gV.take{xs vs}(h:gV F G n xs vs)(k:Nat):gV F G n (xs.take k) (vs.take k):=.oT (h.rz.take k)
def gV.get{xs vs}(h:gV F G n xs vs){i:Nat}{x:AV}(a:xs[i]?=some x):∃v,vs[i]?=some v/\gG F G n x v:=h.rz.get a
def gV.length{xs vs}(h:gV F G n xs vs):xs.length=vs.length:=h.rz.length
def gV.append{xs vs a vs'}(h:gV F G n xs vs)(b:gV F G n a vs'):gV F G n (xs++a) (vs++vs'):=.oT (h.rz.append b.rz)
end
def AV.A7{x:AV}(h:x.gf=true):x.cells=[x]:=by cases x<;>first|rfl|(simp[AV.gf] at h)
section
variable{P:Program}
def FT{t:TypeId}{b:Bool}{n:Nat}(h:fu P t=some (b,n)):∃d i,P.underlying t=some d/\P.info? t=some i/\i.size=n/\(match d with|.struct _|.array _ _=>true|_=>false)=b:=by grind[fu]
def kv{t:TypeId}{b:Bool}{n:Nat}(h:fu P t=some (b,n))(w:World):(sizeOf t).run P w=.ok n w:=by
 obtain⟨d,i,a,hi,hn,_⟩:=FT h;simp[sizeOf,typeInfo,hi,hn]
def xX{t:TypeId}{b:Bool}{n:Nat}(h:fu P t=some (b,n))(w:World):(isAgg t).run P w=.ok b w:=by
 obtain⟨d,i,a,hi,hn,c⟩:=FT h;subst c;unfold isAgg;rw[hW,run_underlying a];cases d<;>rfl
def Aw{t:TypeId}{cs:List AV}{off:Nat}{z:AV}(h:mr P t cs off=some z):(∃k,fu P t=some (true,k)/\off+k<=cs.length/\z=.agg ((cs.drop off).take k))\/(∃k,fu P t=some (false,k)/\cs[off]?=some z):=by grind[mr]
def y7{t:TypeId}{k:Nat}(h:fu P t=some (true,k))(w:World)(a:Addr)(vs:List Value)(b:vs.length=k)
  (c:∀j v,vs[j]?=some v->w.cell? (a.add j)=some v):(loadVar t a).run P w=.ok (.agg vs.toArray) w:=by
 unfold loadVar;rw[hW,xX h];simp only[j4,if_true];rw[hW,kv h,j4,hW,<-b,run_loadCells_list w a vs c];rfl
def yY{t:TypeId}{k:Nat}(h:fu P t=some (false,k))(w:World)(a:Addr)(v:Value)(b:w.cell? a=some v):(loadVar t a).run P w=.ok v w:=by
 unfold loadVar;rw[hW,xX h]
 simp_all
end
def sO(P:Program)(t:TypeId)(x:AV)(i:Nat):Option AV:=
 match eG P t i with
 |none=>none|some (off,a)=>
  match fu P a with
  |none=>none|some (_,n)=>
   if n=0 then none else
   match x with
   |.gX b g o=>some (.gX b g (o+off))|.eK o f=>some (.eK o (f+off))|.kU y=>(mr P a y.cells off).map .kU|_=>none
def zP(P:Program)(t:TypeId)(x:AV)(i:Nat):Option AV:=
 match eG P t i,x with
 |some (off,a),.agg cs=>mr P a cs off|_,_=>none
def gy(P:Program)(t:TypeId)(x i:AV):Option AV:=
 match i with
 |.sc (.int _ n)=>
  match P.underlying t,x with
  |some (.slice e),.slice _ l=>
   if 0<=n then
    match l[n.toNat]?,fu P e with
    |some y,some (_,sz)=>if y.cells.length=sz then some (.kU y)else none|_,_=>none
   else none
  |some (.slice e),.v' b g len _=>
   match fu P e with
   |some (_,sz)=>if 0<=n/\n<len then some (.gX b g (n.toNat*sz))else none|none=>none
  |some (.slice e),.vj b off len _=>
   match fu P e with
   |some (_,sz)=>if 0<=n/\n<len then some (.eK b (off+n.toNat*sz))else none|none=>none
  |some (.array len e),.gX b g o=>
   match fu P e with
   |some (_,sz)=>if 0<=n/\n<len then some (.gX b g (o+n.toNat*sz))else none|none=>none
  |some (.array len e),.eK a o=>
   match fu P e with
   |some (_,sz)=>if 0<=n/\n<len then some (.eK a (o+n.toNat*sz))else none|none=>none
  |some (.array len e),.kU y=>
   match fu P e with
   |some (_,sz)=>if 0<=n/\n<len then(mr P e y.cells (n.toNat*sz)).map .kU else none|none=>none
  |_,_=>none
 |_=>none
def Jg(P:Program)(t:TypeId)(x i:AV):Option AV:=
 match i with
 |.sc (.int _ n)=>
  match P.underlying t,x with
  |some .string,.sc (.string s)=>if 0<=n then(s[n.toNat]?).map λb=>.sc (.int .u8 b.toNat)else none|some (.array len e),.agg cs=>
   match fu P e with
   |some (_,sz)=>if 0<=n/\n<len then mr P e cs (n.toNat*sz)else none|none=>none
  |_,_=>none
 |_=>none
section
variable{P:Program} {F:kD} {ρ:Maps}
def D6{cs:List AV}{v:Value}(h:gw F ρ (.agg cs) v):∃vs:List Value,v=.agg vs.toArray/\gY (jM F ρ) cs vs/\∀c∈cs,c.gf=true:=by
 cases h with
 |agg a b=>grind|cell h=>cases h with
  |p h=>cases h with|agg a b=>exact⟨_,rfl,a.rz.mono λ_ _ _ h=>.p h,b⟩
def Ti{cs:List AV}{v:Value}(h:gw F ρ (.tuple cs) v):∃vs:List Value,v=.tuple vs.toArray/\gY (gG F ρ.G ρ.n) cs vs:=by
 cases h with
 |cell h=>cases h with
  |p h=>cases h with|tuple a=>exact⟨_,rfl,a.rz⟩
def uH{b g off:Nat}{v:Value}(h:gw F ρ (.gX b g off) v):v=.pointer (some ⟨ρ.L b g,off,none⟩)/\g<=ρ.lg b:=by
 cases h with
 |cell h=>cases h with
  |p h=>cases h
  |gX h=>grind
def uP{o off:Nat}{v:Value}(h:gw F ρ (.eK o off) v):v=.pointer (some ⟨ρ.G o,off,none⟩)/\o<ρ.n:=by
 cases h with
 |cell h=>cases h with
  |p h=>cases h with|eK h=>exact⟨rfl,h⟩
def EZ{x:AV}{v:Value}(h:gw F ρ (.kU x) v):∃b o vs,v=.pointer (some ⟨b,o,none⟩)/\gV F ρ.G ρ.n x.cells vs/\F.has b o vs/\∀c∈x.cells,c.gf=true:=by
 cases h with
 |cell h=>cases h with
  |p h=>cases h with|kU a d f=>exact⟨_,_,_,rfl,a,d,f⟩
def Am{b g len cap:Nat}{v:Value}(h:gw F ρ (.v' b g len cap) v):v=.slice (some ⟨ρ.L b g,0,none⟩) len cap/\g<=ρ.lg b/\len<=cap/\cap<=maxLen:=by
 cases h with
 |cell h=>cases h with
  |p h=>cases h
  |v' a c d=>grind
def Iv{o off len cap:Nat}{v:Value}(h:gw F ρ (.vj o off len cap) v):v=.slice (some ⟨ρ.G o,off,none⟩) len cap/\o<ρ.n/\len<=cap/\cap<=maxLen:=by
 cases h with
 |cell h=>cases h with
  |p h=>cases h with|vj a b c=>exact⟨rfl,a,b,c⟩
structure ac0 (F:kD) (ρ:Maps) (l:List AV) (base:Option Addr) (cap b o sz:Nat) (vs:List Value):Prop where
 cells:gV F ρ.G ρ.n (l.flatMap AV.cells) vs
 has:F.has b o vs
 base:l≠[]->base=some ⟨b,o,none⟩
 sz:∀x∈l,x.cells.length=sz
 rW:∀c∈l.flatMap AV.cells,c.gf=true
 Bp:l.length<=cap
 Du:cap<=maxLen
def gG.Lo{G:Nat->Nat}{n:Nat}{tag:Tag}{l:List AV}{v:Value}(h:gG F G n (.slice tag l) v):∃base cap b o sz vs,v=.slice base l.length cap/\gV F G n (l.flatMap AV.cells) vs/\F.has b o vs/\(l≠[]->base=some ⟨b,o,none⟩)/\(∀x∈l,x.cells.length=sz)/\(∀c∈l.flatMap AV.cells,c.gf=true)/\l.length<=cap/\cap<=maxLen/\(tag=.gx\/tag=.full/\cap=l.length):=by
 cases h with|slice a d f i j k q r=>exact⟨_,_,_,_,_,_,rfl,a,d,f,i,j,k,q,r⟩
def nw{tag:Tag}{l:List AV}{v:Value}(h:gw F ρ (.slice tag l) v):∃base cap b o sz vs,v=.slice base l.length cap/\ac0 F ρ l base cap b o sz vs/\(tag=.full->cap=l.length)/\(∀k g,tag=.loc k g->g<=ρ.ag k/\ub ρ k g l base cap):=by
 cases h with
 |cell h=>cases h with
  |p h=>
   obtain⟨base,cap,b,o,sz,vs,rfl,a,q,r,c,d,f,i,s⟩:=h.Lo;refine⟨base,cap,b,o,sz,vs,rfl,⟨a,q,r,c,d,f,i⟩,?_,?_⟩
   all_goals grind
  |loc a q r=>
   obtain⟨base,cap,b,o,sz,vs,he,a,j,n,c,d,f,i,s⟩:=a.Lo;injection he with t w u;subst t;subst u;refine⟨_,_,b,o,sz,vs,rfl,⟨a,j,n,c,d,f,i⟩,(by intro h;cases h),?_⟩
   grind
def LL{G:Nat->Nat}{n:Nat}{cs:List AV}{vs:List Value}{b o:Nat}{t:TypeId}{off:Nat}{z:AV}(f:gV F G n cs vs)(h:F.has b o vs)(j:∀c∈cs,c.gf=true)
  (l:mr P t cs off=some z):gG F G n (.kU z) (.pointer (some ⟨b,o+off,none⟩)):=by
 rcases Aw l with⟨k,q,hle,rfl⟩|⟨k,q,d⟩
 ·exact .kU ((f.drop off).take k) ((h.drop off).take k) (λc d=>j c (IV (C8 d)))
 ·obtain⟨v,r,s⟩:=f.get d;have a:=j z (H9 d);refine .kU (vs:=[v]) (by rw[AV.A7 a];exact .cons s .nil) ?_ (by rw[AV.A7 a];simpa using a);intro i u hu;cases i with
  |zero=>simp at hu;subst hu;exact h off _ r
  |succ i=>simp at hu
def KJ(w:World){t:TypeId}{x r:AV}{u:Value}{i:Nat}(h:sO P t x i=some r)(c:gw F ρ x u):∃v,(Instr.fieldAt t u i).run P w=.ok v w/\gw F ρ r v:=by
 unfold sO at h
 split at h
 ·cases h
 ·rename_i off k B
  split at h
  ·cases h
  ·rename_i agg n l
   split at h
   ·cases h
   ·rename_i hn
    have a:∃fs f,P.underlying t=some (.struct fs)/\fs[i]?=some f/\f.offset=off/\f.type=k:=by grind[eG]
    obtain⟨fs,f,hu,d,rfl,rfl⟩:=a
    have key:∀b o:Nat,(Instr.fieldAt t (.pointer (some ⟨b,o,none⟩)) i).run P w=.ok (.pointer (some ⟨b,o+f.offset,none⟩)) w:=by
     intro b o;unfold Instr.fieldAt;rw[hW,run_underlying hu,j4];simp only[d,Instr.sureAddr,hW,pq,j4,fieldPlace,kv l,hn,lU,Addr.add_lit]
    split at h
    ·rename_i b g o;cases h;obtain⟨rfl,hg⟩:=uH c;exact⟨_,key _ _,.cell (.gX hg)⟩
    ·rename_i o C;cases h;obtain⟨rfl,hg⟩:=uP c;exact⟨_,key _ _,.p (.eK hg)⟩
    ·rename_i y;obtain⟨b,o,vs,rfl,q,s,A⟩:=EZ c;cases j:mr P f.type y.cells f.offset with
     |none=>rw[j] at h;cases h
     |some z=>
      rw[j] at h;cases h;exact⟨_,key _ _,.p (LL q s A j)⟩
    ·cases h
def DZ(w:World){t:TypeId}{cs:List AV}{vs:List Value}{off:Nat}{z:AV}(d:gY (jM F ρ) cs vs)(f:∀c∈cs,c.gf=true)(h:mr P t cs off=some z):∃v,(part t vs.toArray off).run P w=.ok v w/\gw F ρ z v:=by
 rcases Aw h with⟨k,a,hle,rfl⟩|⟨k,a,b⟩
 ·refine⟨.agg ((vs.drop off).take k).toArray,?_,.agg ((d.drop off).take k) (λc b=>f c (IV (C8 b)))⟩;unfold part;rw[hW,xX a];simp only[j4,if_true,hW,kv a,pq]
  grind
 ·obtain⟨v,i,j⟩:=d.get b;refine⟨v,?_,.cell j⟩;unfold part;rw[hW,xX a];simp[i]
def WH(w:World){t:TypeId}{x r:AV}{u:Value}{i:Nat}(h:zP P t x i=some r)(c:gw F ρ x u):∃v,(Instr.field t u i).run P w=.ok v w/\gw F ρ r v:=by
 unfold zP at h
 split at h
 ·rename_i off d cs o;obtain⟨vs,rfl,j,k⟩:=D6 c
  have a:∃fs f,P.underlying t=some (.struct fs)/\fs[i]?=some f/\f.offset=off/\f.type=d:=by grind[eG]
  obtain⟨fs,f,hu,b,rfl,rfl⟩:=a;obtain⟨v,l,n⟩:=DZ w j k h;refine⟨v,?_,n⟩;unfold Instr.field;rw[hW,run_underlying hu];simp only[b,asAgg,hW,pq,j4,l]
 ·cases h
def KE(w:World){t:TypeId}{x i r:AV}{u j:Value}(h:gy P t x i=some r)(q:gw F ρ x u)(hi:gw F ρ i j):∃v,(Instr.indexAt t u j).run P w=.ok v w/\gw F ρ r v:=by
 unfold gy at h
 split at h
 ·rename_i k n;cases fX hi
  split at h
  ·rename_i e tag l hu
   split at h
   ·rename_i hn
    split at h
    ·rename_i y agg sz A a
     split at h
     ·rename_i B;cases h;obtain⟨base,cap,b,o,d,vs,rfl,hs,_,_⟩:=nw q;have C:n.toNat<l.length:=(sX.1 A).1
      have D:l≠[]:=by rintro rfl;simp at C
      have f:=H9 A
      have s:d=sz:=by rw[<-hs.sz y f,B]
      subst s;rw[hs.base D];refine⟨.pointer (some ⟨b,o+n.toNat*d,none⟩),?_,.p (.kU (vs:=(vs.drop (n.toNat*d)).take d) ?_ ?_ ?_)⟩
      ·unfold Instr.indexAt;simp only[asIntOf,hW,pq,j4,run_underlying hu];rw[dO ⟨hn,xL⟩];simp only[hW,pq,j4,kv a,Addr.add_lit]
      ·rw[<-QP hs.sz A];exact(hs.cells.drop _).take _
      ·exact(hs.has.drop _).take _
      ·intro c I;exact hs.rW c (acv.2 ⟨y,f,I⟩)
     ·cases h
    ·cases h
   ·cases h
  ·rename_i e b g len cap hu
   split at h
   ·rename_i agg sz a
    split at h
    ·rename_i hn;cases h;obtain⟨rfl,hg,_,_⟩:=Am q;refine⟨.pointer (some ⟨ρ.L b g,n.toNat*sz,none⟩),?_,.cell (.gX hg)⟩;unfold Instr.indexAt;simp only[asIntOf,hW,pq,j4,run_underlying hu];rw[dO ⟨hn.1,xL⟩];simp only[hW,pq,j4,kv a,Addr.add_lit,xR]
    ·cases h
   ·cases h
  ·rename_i e b off len cap hu
   split at h
   ·rename_i agg sz a
    split at h
    ·rename_i hn;cases h;obtain⟨rfl,hg,_,_⟩:=Iv q;refine⟨.pointer (some ⟨ρ.G b,off+n.toNat*sz,none⟩),?_,.p (.eK hg)⟩;unfold Instr.indexAt;simp only[asIntOf,hW,pq,j4,run_underlying hu];rw[dO ⟨hn.1,xL⟩];simp only[hW,pq,j4,kv a,Addr.add_lit]
    ·cases h
   ·cases h
  ·rename_i len e b g o hu
   split at h
   ·rename_i agg sz a
    split at h
    ·rename_i hn;cases h;obtain⟨rfl,hg⟩:=uH q;refine⟨.pointer (some ⟨ρ.L b g,o+n.toNat*sz,none⟩),?_,.cell (.gX hg)⟩;unfold Instr.indexAt;simp only[asIntOf,Instr.sureAddr,hW,pq,j4,run_underlying hu];rw[dO hn];simp only[hW,pq,j4,kv a,Addr.add_lit]
    ·cases h
   ·cases h
  ·rename_i len e J o hu
   split at h
   ·rename_i agg sz a
    split at h
    ·rename_i hn;cases h;obtain⟨rfl,hg⟩:=uP q;refine⟨.pointer (some ⟨ρ.G J,o+n.toNat*sz,none⟩),?_,.p (.eK hg)⟩;unfold Instr.indexAt;simp only[asIntOf,Instr.sureAddr,hW,pq,j4,run_underlying hu];rw[dO hn];simp only[hW,pq,j4,kv a,Addr.add_lit]
    ·cases h
   ·cases h
  ·rename_i len e y hu
   split at h
   ·rename_i agg sz a
    split at h
    ·rename_i hn;obtain⟨b,o,vs,rfl,K,M,N⟩:=EZ q;cases H:mr P e y.cells (n.toNat*sz)with
     |none=>rw[H] at h;cases h
     |some z=>
      rw[H] at h;cases h;refine⟨.pointer (some ⟨b,o+n.toNat*sz,none⟩),?_,.p (LL K M N H)⟩;unfold Instr.indexAt;simp only[asIntOf,Instr.sureAddr,hW,pq,j4,run_underlying hu];rw[dO hn];simp only[hW,pq,j4,kv a,Addr.add_lit]
    ·cases h
   ·cases h
  ·cases h
 ·cases h
def Wy(w:World){t:TypeId}{x i r:AV}{u j:Value}(h:Jg P t x i=some r)(c:gw F ρ x u)(hi:gw F ρ i j):∃v,(Instr.index t u j).run P w=.ok v w/\gw F ρ r v:=by
 unfold Jg at h
 split at h
 ·rename_i k n;cases fX hi
  split at h
  ·rename_i s hu;cases fX c
   split at h
   ·rename_i hn;cases a:s[n.toNat]?with
    |none=>rw[a] at h;cases h
    |some b=>
     rw[a] at h;cases h;refine⟨.int .u8 b.toNat,?_,.p (.sc rfl)⟩;unfold Instr.index;simp[asIntOf,run_underlying hu,hn,a]
   ·cases h
  ·rename_i len e cs hu
   split at h
   ·rename_i agg sz d
    split at h
    ·rename_i hn;obtain⟨vs,rfl,f,l⟩:=D6 c;obtain⟨v,o,q⟩:=DZ w f l h;refine⟨v,?_,q⟩;unfold Instr.index;simp only[asIntOf,hW,pq,j4,run_underlying hu];rw[dO hn];simp only[hW,kv d,j4,o]
    ·cases h
   ·cases h
  ·cases h
 ·cases h
end
end Go.kY
