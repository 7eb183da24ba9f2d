/- Part of the proof of SchemeComputes: layer. -/
import Derived.Orders
import Derived.Below
import Derived.Laws.AppendOwn
import Derived.Laws.Cells
import Derived.Laws.CopyRow
import Derived.Laws.Small
import Derived.Laws.Pointers
import Derived.WalkSpells
import Derived.Test.YtpgdkkomegalnaaGreatDoorCL1
set_option linter.all false
namespace Go.ld
open Go
inductive Tag where
 |gK|full|loc (k g:Nat)
inductive AV where
 |undef|sc (v:Value)|mA (x:AV)|ie (b g off:Nat)|fh (o off:Nat)|slice (tag:Tag) (l:List AV)|agg (cs:List AV)|tuple (vs:List AV)|func (fn:Fn) (first cap:List AV)
 |iface (t:TypeId) (x:AV)|xX (b g len cap:Nat)|nJ (o:Nat)|uS (ks:List Value) (xs:List AV)|mL (o since:Nat) (seen:List Nat)|z' (o off len cap:Nat)|NX
instance:Inhabited AV:=⟨.undef⟩
def AV.cells:AV->List AV
 |.agg cs=>cs|x=>[x]
def AV.gO:AV->Bool
 |.agg _=>false|.tuple _=>false|.uS _ _=>false|.mL _ _ _=>false|_=>true
def zs:Value->Bool
 |.bool _=>true|.int _ _=>true|.float _ _=>true|.string _=>true|.pointer none=>true|.map none=>true|.nilFunc=>true|.nilIface=>true|_=>false
inductive hQ {α β:Type} (R:α->β->Prop):List α->List β->Prop
 |nil:hQ R [] []|cons {a b as bs}:R a b->hQ R as bs->hQ R (a::as) (b::bs)
def hQ.length{α β:Type}{R:α->β->Prop}{as:List α}{bs:List β}(h:hQ R as bs):as.length=bs.length:=by
 induction h with
 |nil=>rfl|cons _ _ ih=>simp[ih]
theorem hQ.mono{α β:Type}{R S:α->β->Prop}{as:List α}{bs:List β}(h:hQ R as bs)(hs:∀a b,a∈as->R a b->S a b):hQ S as bs:=by
 induction h with
 |nil=>exact .nil|cons c _ ih=>exact .cons (hs _ _ aaA c) (ih λa b d=>hs a b (by simp[d]))
def hQ.append{α β:Type}{R:α->β->Prop}{as a:List α}{bs b:List β}(h:hQ R as bs)(c:hQ R a b):hQ R (as++a) (bs++b):=by
 induction h with
 |nil=>exact c|cons d _ ih=>exact .cons d ih
def hQ.take{α β:Type}{R:α->β->Prop}{as:List α}{bs:List β}(h:hQ R as bs)(n:Nat):hQ R (as.take n) (bs.take n):=by
 induction h generalizing n with
 |nil=>simp;exact .nil|cons a _ ih=>cases n with
  |zero=>exact .nil|succ n=>exact .cons a (ih n)
def hQ.drop{α β:Type}{R:α->β->Prop}{as:List α}{bs:List β}(h:hQ R as bs)(n:Nat):hQ R (as.drop n) (bs.drop n):=by
 induction h generalizing n with
 |nil=>simp;exact .nil|cons a b ih=>cases n with
  |zero=>exact .cons a b|succ n=>exact ih n
def hQ.get{α β:Type}{R:α->β->Prop}{as:List α}{bs:List β}(h:hQ R as bs){i:Nat}{a:α}(c:as[i]?=some a):∃b,bs[i]?=some b/\R a b:=by
 induction h generalizing i with
 |nil=>simp at c
 |cons d _ ih=>grind
def hQ.mem{α β:Type}{R:α->β->Prop}{as:List α}{bs:List β}(h:hQ R as bs){b:β}(c:b∈bs):∃a∈as,R a b:=by
 induction h with
 |nil=>simp at c
 |cons d _ ih=>grind
def hQ.wk{α α' β:Type}{R:α->β->Prop}{S:α'->β->Prop}{as:List α}{bs:List β}(f:α->α')(h:hQ R as bs)(hs:∀a b,a∈as->R a b->S (f a) b):hQ S (as.map f) bs:=by
 induction h with
 |nil=>exact .nil|cons c _ ih=>exact .cons (hs _ _ aaA c) (ih λa b d=>hs a b (by simp[d]))
abbrev kT:=Nat->Nat->Option Value
def kT.has(F:kT)(b o:Nat)(vs:List Value):Prop:=∀i v,vs[i]?=some v->F b (o+i)=some v
mutual
inductive gR (F:kT) (G:Nat->Nat) (n:Nat):AV->Value->Prop
 |undef {v}:v.oneCell'=true->gR F G n .undef v|sc {v}:zs v=true->gR F G n (.sc v) v|mA {x b o vs}:hO F G n x.cells vs->F.has b o vs->(∀c∈x.cells,c.gO=true)->gR F G n (.mA x) (.pointer (some ⟨b,o,none⟩))|fh {o off}:o<n->gR F G n (.fh o off) (.pointer (some ⟨G o,off,none⟩))|nJ {o}:o<n->gR F G n (.nJ o) (.map (some (G o)))|z' {o off len cap}:o<n->len<=cap->cap<=maxLen->gR F G n (.z' o off len cap) (.slice (some ⟨G o,off,none⟩) len cap)|slice {tag l vs b o base cap sz}:hO F G n (l.flatMap AV.cells) vs->F.has b o vs->(l≠[]->base=some ⟨b,o,none⟩)->(∀x∈l,x.cells.length=sz)->(∀c∈l.flatMap AV.cells,c.gO=true)->l.length<=cap->cap<=maxLen->tag=.gK\/tag=.full/\cap=l.length->gR F G n (.slice tag l) (.slice base l.length cap)|NX {base}:gR F G n .NX (.slice base 0 0)|agg {cs vs}:hO F G n cs vs->(∀c∈cs,c.gO=true)->gR F G n (.agg cs) (.agg vs.toArray)|tuple {cs vs}:hO F G n cs vs->gR F G n (.tuple cs) (.tuple vs.toArray)|func {fn f c vf vc}:hO F G n f vf->hO F G n c vc->gR F G n (.func fn f c) (.func fn vf.toArray vc.toArray)|iface {t x v}:gR F G n x v->gR F G n (.iface t x) (.iface t v)
inductive hO (F:kT) (G:Nat->Nat) (n:Nat):List AV->List Value->Prop
 |nil:hO F G n [] []|cons {x v xs vs}:gR F G n x v->hO F G n xs vs->hO F G n (x::xs) (v::vs)
end
section
variable{F F':kT} {G G':Nat->Nat} {n n':Nat}
def hO.qF{xs vs}(h:hO F G n xs vs):hQ (gR F G n) xs vs:=by
 induction xs generalizing vs with
 |nil=>cases h;exact .nil
 |cons x xs ih=>cases h with|cons a b=>exact .cons a (ih b)
def hO.pc{xs vs}(h:hQ (gR F G n) xs vs):hO F G n xs vs:=by
 induction h with
 |nil=>exact .nil|cons a _ ih=>exact .cons a ih
structure H_ (F F':kT) (G G':Nat->Nat) (n n':Nat):Prop where
 mF:∀b o v,F b o=some v->F' b o=some v
 mn:n<=n'
 mG:∀o,o<n->G' o=G o
theorem H_.refl:H_ F F G G n n:=⟨λ_ _ _ h=>h,g_ _,λ_ _=>rfl⟩
def kT.has.grow{b o vs}(h:F.has b o vs)(hg:H_ F F' G G' n n'):F'.has b o vs:=λi v a=>hg.mF _ _ _ (h i v a)
mutual
def gR.grow(hg:H_ F F' G G' n n'):∀{x v},gR F G n x v->gR F' G' n' x v
 |_,_,.undef h=>.undef h|_,_,.sc h=>.sc h|_,_,.mA a b c=>.mA (a.grow hg) (b.grow hg) c|_,_,.fh (o:=o) (off:=off) h=>by
  rw[<-hg.mG o h];exact .fh (Ua h hg.mn)
 |_,_,.nJ (o:=o) h=>by
  rw[<-hg.mG o h];exact .nJ (Ua h hg.mn)
 |_,_,.z' (o:=o) h b c=>by
  rw[<-hg.mG o h];exact .z' (Ua h hg.mn) b c
 |_,_,.slice a b c d f i j k=>.slice (a.grow hg) (b.grow hg) c d f i j k|_,_,.NX=>.NX|_,_,.agg a b=>.agg (a.grow hg) b|_,_,.tuple a=>.tuple (a.grow hg)|_,_,.func a b=>.func (a.grow hg) (b.grow hg)|_,_,.iface a=>.iface (a.grow hg)
def hO.grow(hg:H_ F F' G G' n n'):∀{xs vs},hO F G n xs vs->hO F' G' n' xs vs
 |_,_,.nil=>.nil|_,_,.cons a b=>.cons (a.grow hg) (b.grow hg)
end
def gR.MM{x v}(h:gR F G n x v)(b:x.gO=true):v.oneCell'=true:=by
 cases h with
 |undef h=>exact h|sc h=>revert h;cases v<;>simp[zs,Value.oneCell']
 |agg a c=>grind[AV.gO]|tuple a=>grind[AV.gO]|_=>rfl
theorem gR.cells{x v}(h:gR F G n x v)(l:∀vs,x≠ .tuple vs):hO F G n x.cells v.cells.toList:=by
 cases h with
 |undef h=>cases v<;>first|exact .cons (.undef h) .nil|(simp[Value.oneCell'] at h;done)
 |sc h=>cases v<;>first|exact .cons (.sc h) .nil|(simp[zs] at h;done)
 |mA a b c=>exact .cons (.mA a b c) .nil|fh a=>exact .cons (.fh a) .nil|nJ a=>exact .cons (.nJ a) .nil|z' a b c=>exact .cons (.z' a b c) .nil|slice a b c d f i j k=>exact .cons (.slice a b c d f i j k) .nil|NX=>exact .cons .NX .nil|agg a b=>exact a|tuple a=>grind|func a b=>exact .cons (.func a b) .nil|iface a=>exact .cons (.iface a) .nil
end
structure Maps where
 G:Nat->Nat
 n:Nat
 L:Nat->Nat->Nat
 lg:Nat->Nat
 A:Nat->Nat->Option (Nat×Nat×Nat)
 ag:Nat->Nat
def vo(ρ:Maps)(k g:Nat)(l:List AV)(base:Option Addr)(cap:Nat):Prop:=
 match ρ.A k g with
 |none=>cap=l.length|some (b,c,sz)=>base=some ⟨b,0,none⟩/\cap=c/\∀x∈l,x.cells.length=sz
inductive jZ (F:kT) (ρ:Maps):AV->Value->Prop
 |p {x v}:gR F ρ.G ρ.n x v->jZ F ρ x v|ie {b g off}:g<=ρ.lg b->jZ F ρ (.ie b g off) (.pointer (some ⟨ρ.L b g,off,none⟩))|loc {k g l base cap}:gR F ρ.G ρ.n (.slice .gK l) (.slice base l.length cap)->g<=ρ.ag k->vo ρ k g l base cap->jZ F ρ (.slice (.loc k g) l) (.slice base l.length cap)|xX {b g len cap}:g<=ρ.lg b->len<=cap->cap<=maxLen->jZ F ρ (.xX b g len cap) (.slice (some ⟨ρ.L b g,0,none⟩) len cap)
inductive gI (F:kT) (ρ:Maps):AV->Value->Prop
 |cell {x v}:jZ F ρ x v->gI F ρ x v|agg {cs vs}:hQ (jZ F ρ) cs vs->(∀c∈cs,c.gO=true)->gI F ρ (.agg cs) (.agg vs.toArray)
structure xD (F F':kT) (ρ ρ':Maps):Prop where
 g:H_ F F' ρ.G ρ'.G ρ.n ρ'.n
 lg:∀b,ρ.lg b<=ρ'.lg b
 L:∀b g,g<=ρ.lg b->ρ'.L b g=ρ.L b g
 ag:∀k,ρ.ag k<=ρ'.ag k
 A:∀k g,g<=ρ.ag k->ρ'.A k g=ρ.A k g
section
variable{F F':kT} {ρ ρ':Maps}
def jZ.grow(hg:xD F F' ρ ρ'){x v}(h:jZ F ρ x v):jZ F' ρ' x v:=by
 cases h with
 |p h=>exact .p (h.grow hg.g)|ie h=>
  rename_i b g off;rw[<-hg.L b g h];exact .ie (A5 h (hg.lg b))
 |loc d a c=>
  refine .loc (d.grow hg.g) (A5 a (hg.ag _)) ?_;unfold vo;rw[hg.A _ _ a];exact c
 |xX h a c=>
  rename_i b g len cap;rw[<-hg.L b g h];exact .xX (A5 h (hg.lg b)) a c
def gI.grow(hg:xD F F' ρ ρ'){x v}(h:gI F ρ x v):gI F' ρ' x v:=by
 cases h with
 |cell h=>exact .cell (h.grow hg)|agg a b=>exact .agg (a.mono λ_ _ _ h=>h.grow hg) b
def gI.p{x v}(h:gR F ρ.G ρ.n x v):gI F ρ x v:=.cell (.p h)
end
def AV.kq:AV->AV
 |.slice _ l=>.slice .gK l|.ie _ _ _=>.undef|.xX _ _ _ _=>.undef|x=>x
def AV.norm:AV->AV
 |.agg cs=>.agg (cs.map AV.kq)|x=>x.kq
section
variable{F F':kT} {ρ ρ':Maps}
def gR.gK{G:Nat->Nat}{n:Nat}{tag l v}(h:gR F G n (.slice tag l) v):gR F G n (.slice .gK l) v:=by
 cases h with
 |slice a b c d f i j k=>exact .slice a b c d f i j (.inl rfl)
def gR.kq{G:Nat->Nat}{n:Nat}{x v}(h:gR F G n x v):gR F G n x.kq v:=by
 cases x with
 |slice tag l=>exact h.gK|ie b g off=>cases h
 |xX b g len cap=>cases h
 |_=>exact h
def jZ.kq{x v}(h:jZ F ρ x v):gR F ρ.G ρ.n x.kq v:=by
 cases h with
 |p h=>exact h.kq|ie h=>exact .undef rfl|loc a b c=>exact a|xX a b c=>exact .undef rfl
theorem AV.HE(x:AV):x.kq.gO=x.gO:=by cases x<;>rfl
def gI.norm{x v}(h:gI F ρ x v):gR F ρ.G ρ.n x.norm v:=by
 have d:∀{cs:List AV} {vs:List Value},hQ (jZ F ρ) cs vs->(∀c∈cs,c.gO=true)->gR F ρ.G ρ.n (AV.agg cs).norm (.agg vs.toArray):=by
  intro cs vs f i;refine .agg (hO.pc (f.wk AV.kq λa b _ h=>h.kq)) ?_
  grind[AV.HE]
 cases h with
 |agg f i=>grind|cell h=>
  cases x with
  |agg cs=>
   cases h with
   |p h=>
    cases h with
    |agg f i=>exact d (f.qF.mono λ_ _ _ h=>.p h) i
  |_=>exact h.kq
theorem gI.cells{x v}(h:gI F ρ x v)(d:∀vs,x≠ .tuple vs):hQ (jZ F ρ) x.cells v.cells.toList:=by
 cases h with
 |agg a b=>exact a|cell h=>
  cases h with
  |p h=>exact(h.cells d).qF.mono λ_ _ _ h=>.p h|ie h=>exact .cons (.ie h) .nil|loc a b c=>exact .cons (.loc a b c) .nil|xX a b c=>exact .cons (.xX a b c) .nil
def jZ.MM{x v}(h:jZ F ρ x v)(a:x.gO=true):v.oneCell'=true:=by
 cases h with
 |p h=>exact h.MM a|ie h=>rfl|loc b c d=>rfl|xX b c d=>rfl
def gI.so{x v}(h:gI F ρ x v)(f:∀vs,x≠ .tuple vs):∀c∈x.cells,c.gO=true:=by
 cases h with
 |agg b a=>exact a|cell h=>
  cases h with
  |p h=>
   cases h with
   |agg b a=>exact a|tuple b=>grind|_=>simp[AV.cells,AV.gO]
  |ie h=>simp[AV.cells,AV.gO]|loc b a d=>simp[AV.cells,AV.gO]|xX b a d=>simp[AV.cells,AV.gO]
end
end Go.ld
namespace Go.ld
open Go
abbrev dZ:=List (List AV)
abbrev eO:=Nat->Option AV
structure Fr where
 env:Nat->AV
 box:Nat->Option (List AV)
 gen:Nat->Nat
 qs:Nat->Option Nat
 fo:Nat->Nat
def gL{α:Type}(f:Nat->α)(i:Nat)(x:α):Nat->α:=λj=>if j=i then x else f j
def Fr.put(fr:Fr)(d:Option Nat)(x:AV):Fr:=
 match d with
 |some d=>{fr with env:=gL fr.env d x}|none=>fr
section
variable(P:Program)
def gb(t:TypeId):Option (Bool×Nat):=
 match P.underlying t,P.info? t with
 |some d,some i=>some (match d with|.struct _|.array _ _=>true|_=>false,i.size)
 |_,_=>none
def zeroOf(t:TypeId):Option Value:=(P.info? t).bind (·.zero)
def fb(t i:Nat):Option (Nat×TypeId):=
 match P.underlying t with
 |some (.struct fs)=>(fs[i]?).map λf=>(f.offset,f.type)|_=>none
def Pv(t:TypeId):Option (Nat×TypeId):=
 match P.underlying t with
 |some (.array n e)=>some (n,e)|_=>none
def mB(t:TypeId)(cs:List AV)(off:Nat):Option AV:=
 match gb P t with
 |some (true,n)=>if off+n<=cs.length then some (.agg ((cs.drop off).take n))else none|some (false,_)=>cs[off]?|none=>none
def uL(t:TypeId)(x:AV):Bool:=
 match gb P t,x with
 |some (true,n),.agg cs=>cs.length==n|some (false,_),.agg _=>false|some (false,_),.tuple _=>false|some (false,_),.uS _ _=>false|some (false,_),.mL _ _ _=>false|some (false,_),_=>true|_,_=>false
end
def setCells(cs:List AV)(off:Nat)(new:List AV):List AV:=cs.take off++new++cs.drop (off+new.length)
def qx:Value->AV
 |.slice none 0 0=>.slice .full []|.func fn f c=>if f.size=0/\c.size=0 then .func fn [] [] else .undef|.agg _=>.undef|.tuple _=>.undef|v=>if zs v then .sc v else .undef
def ofValue:Value->AV
 |.agg cs=>.agg (cs.toList.map qx)|.tuple cs=>.tuple (cs.toList.map qx)|v=>qx v
def zB:Value->Bool
 |.agg cs=>cs.all (·.oneCell')|.tuple cs=>cs.all (·.oneCell')|_=>true
def zU(v:Value):(qx v).gO=true:=by
 unfold qx
 split<;>first|rfl|(split<;>rfl)
def He(F:kT)(G:Nat->Nat)(n:Nat)(v:Value)(h:v.oneCell'=true):gR F G n (qx v) v:=by
 unfold qx
 split
 ·exact .slice (l:=[]) (vs:=[]) (b:=0) (o:=0) (sz:=0) .nil (λ_ _ h=>by simp at h) aaA aaA aaA aaA (by simp[maxLen]) (.inr ⟨rfl,rfl⟩)
 ·rename_i fn f c
  split
  ·rename_i hs;obtain⟨a,d⟩:=hs;have i:f=#[]:=aeK a;have j:c=#[]:=aeK d;subst i;subst j;exact .func (vf:=[]) (vc:=[]) .nil .nil
  ·exact .undef rfl
 ·simp[Value.oneCell'] at h
 ·simp[Value.oneCell'] at h
 ·split
  ·exact .sc (by assumption)
  ·exact .undef h
def qM(F:kT)(G:Nat->Nat)(n:Nat):∀(vs:List Value),(∀v∈vs,v.oneCell'=true)->hO F G n (vs.map qx) vs
 |[],_=>.nil|v::vs,h=>.cons (He F G n v (h v aaA)) (qM F G n vs λu hu=>h u (by simp[hu]))
def Hb{v:Value}(h:v.oneCell'=true):ofValue v=qx v:=by
 cases v<;>first|rfl|(simp[Value.oneCell'] at h)
def zk(F:kT)(G:Nat->Nat)(n:Nat)(v:Value)(h:zB v=true):gR F G n (ofValue v) v:=by
 cases v with
 |agg cs=>
  have b:∀v∈cs.toList,v.oneCell'=true:=λv d=>by
   have f:cs.all (·.oneCell')=true:=h
   exact Lq.1 f v (yp.1 d)
  exact .agg (vs:=cs.toList) (qM F G n cs.toList b) (by
   intro c i;obtain⟨a,_,rfl⟩:=qz.1 i
   exact zU a)
 |tuple cs=>
  have b:∀v∈cs.toList,v.oneCell'=true:=λv d=>by
   have f:cs.all (·.oneCell')=true:=h
   exact Lq.1 f v (yp.1 d)
  exact .tuple (vs:=cs.toList) (qM F G n cs.toList b)
 |_=>(rw[Hb rfl];exact He F G n _ rfl)
section
variable(T:eO) (fr:Fr)
def ev:Operand->AV
 |.tmp t=>fr.env t|.const v=>ofValue v|.global g=>match T g with|some x=>.mA x|none=>.undef
 |.func f=>.func (.func f) [] []
def jq:Operand->Bool
 |.const v=>zB v|_=>true
end
def tJ(F:kT)(ρ:Maps)(fr:Fr)(a:Act):Prop:=∀t,gI F ρ (fr.env t) (a.tmps.getD t undef)
def zm(T:eO)(F:kT)(ρ:Maps):Prop:=∀g x,T g=some x->gR F ρ.G ρ.n (.mA x) (.pointer (some ⟨g,0,none⟩))
def gH{T:eO}{fr:Fr}{F:kT}{ρ:Maps}{a:Act}(he:tJ F ρ fr a)(b:zm T F ρ)(x:Operand)(c:jq x=true):gI F ρ (ev T fr x) (a.eval x):=by
 cases x with
 |tmp t=>exact he t|const v=>exact .p (zk _ _ _ v c)|global g=>
  show gI F ρ (match T g with|some x=>.mA x|none=>.undef) _;cases h:T g with
  |none=>exact .p (.undef rfl)|some x=>exact .p (b g x h)
 |func f=>exact .p (.func (vf:=[]) (vc:=[]) .nil .nil)
def qE(op:BinOp)(k:IntKind)(a b:Int):Option Value:=
 match op with
 |.add=>some (.int k (k.wrap (a+b)))|.sub=>some (.int k (k.wrap (a-b)))|.mul=>some (.int k (k.wrap (a*b)))|.quo=>if b=0 then none else some (.int k (k.wrap (a.tdiv b)))|.rem=>if b=0 then none else some (.int k (a.tmod b))|.and=>some (.int k (k.wrap (BitVec.ofInt k.bits a&&&BitVec.ofInt k.bits b).toNat))|.or=>some (.int k (k.wrap (BitVec.ofInt k.bits a|||BitVec.ofInt k.bits b).toNat))|.xor=>some (.int k (k.wrap (BitVec.ofInt k.bits a^^^BitVec.ofInt k.bits b).toNat))|.andNot=>some (.int k (k.wrap (BitVec.ofInt k.bits a&&&~~~BitVec.ofInt k.bits b).toNat))|.eql=>some (.bool (a==b))|.neq=>some (.bool (a !=b))|.lss=>some (.bool (a<b))|.leq=>some (.bool (a<=b))|.gtr=>some (.bool (a>b))|.geq=>some (.bool (a>=b))|_=>none
def M8(op:BinOp)(x y:ByteArray):Option Value:=
 match op with
 |.add=>if((x.size+y.size:Nat):Int)>IntKind.i64.max then none else some (.string (x++y))|.eql=>some (.bool (x.toList==y.toList))|.neq=>some (.bool !(x.toList==y.toList))|.lss=>some (.bool (Op.bytesLess x.toList y.toList))|.leq=>some (.bool (Op.bytesLess x.toList y.toList||x.toList==y.toList))|.gtr=>some (.bool !(Op.bytesLess x.toList y.toList||x.toList==y.toList))|.geq=>some (.bool !(Op.bytesLess x.toList y.toList))|_=>none
def E':AV->Bool
 |.mA _|.ie _ _ _|.fh _ _=>true|_=>false
def uN(P:Program)(op:BinOp)(t:TypeId)(x y:AV):Option AV:=
 match op,x,y with
 |.shl,.sc (.int k a),.sc (.int _ b)=>if b<0 then none else some (.sc (.int k (k.wrap (a*2^min b.toNat k.bits))))|.shr,.sc (.int k a),.sc (.int _ b)=>if b<0 then none else some (.sc (.int k (a.fdiv (2^min b.toNat k.bits))))|op,.sc (.int k a),.sc (.int k' b)=>if k=k' then(qE op k a b).map .sc else none|op,.sc (.string a),.sc (.string b)=>(M8 op a b).map .sc|.eql,.sc (.bool a),.sc (.bool b)=>match P.underlying t with|some .bool=>some (.sc (.bool (a==b)))|_=>none
 |.neq,.sc (.bool a),.sc (.bool b)=>match P.underlying t with|some .bool=>some (.sc (.bool (!(a==b))))|_=>none
 |.eql,x,.sc (.pointer none)=>match P.underlying t with
  |some (.pointer _)=>if E' x then some (.sc (.bool false))else(match x with|.sc (.pointer none)=>some (.sc (.bool true))|_=>none)
  |_=>none
 |.neq,x,.sc (.pointer none)=>match P.underlying t with
  |some (.pointer _)=>if E' x then some (.sc (.bool true))else(match x with|.sc (.pointer none)=>some (.sc (.bool false))|_=>none)
  |_=>none
 |.eql,.func _ _ _,.sc .nilFunc=>match P.underlying t with|some (.func ..)=>some (.sc (.bool false))|_=>none
 |.neq,.func _ _ _,.sc .nilFunc=>match P.underlying t with|some (.func ..)=>some (.sc (.bool true))|_=>none
 |.eql,.sc .nilFunc,.sc .nilFunc=>match P.underlying t with|some (.func ..)=>some (.sc (.bool true))|_=>none
 |.neq,.sc .nilFunc,.sc .nilFunc=>match P.underlying t with|some (.func ..)=>some (.sc (.bool false))|_=>none
 |_,_,_=>none
def unA(op:UnOp)(x:AV):Option AV:=
 match op,x with
 |.neg,.sc (.int k n)=>some (.sc (.int k (k.wrap (0-n))))|.not,.sc (.bool b)=>some (.sc (.bool !b))|_,_=>none
def gl{F:kT}{ρ:Maps}{u v:Value}(h:gI F ρ (.sc u) v):v=u:=by
 cases h with
 |cell h=>cases h with|p h=>cases h;rfl
def Jc(P:Program)(w:World){op:BinOp}{k:IntKind}{a b:Int}{v:Value}(t:TypeId)(h:qE op k a b=some v):(binOp op t (.int k a) (.int k b)).run P w=.ok v w/\zs v=true:=by
 cases op<;>simp only[qE] at h<;>(try(split at h))<;>
  (first
   |(cases h;refine⟨?_,rfl⟩;simp[binOp,Op.intArith,Op.intBits,Op.intCmp,Op.intDiv, *])
   |cases h)
def J1(P:Program)(w:World){op:BinOp}{a b:ByteArray}{v:Value}(t:TypeId)(h:M8 op a b=some v):(binOp op t (.string a) (.string b)).run P w=.ok v w/\zs v=true:=by
 cases op<;>simp only[M8] at h<;>(try(split at h))<;>
  (first
   |(cases h;refine⟨?_,rfl⟩;simp_all [binOp,Op.stringOp])
   |cases h)
def Gd{F:kT}{ρ:Maps}{x:AV}{v:Value}(b:E' x=true)(h:gI F ρ x v):∃a,v=.pointer (some a):=by
 cases h with
 |agg c d=>grind[E']|cell h=>
  cases h with
  |ie h=>grind|loc c d f=>simp[E'] at b
  |xX c d f=>simp[E'] at b
  |p h=>cases h<;>first|(simp[E'] at b;done)|exact⟨_,rfl⟩
def zF{P:Program}{t e:TypeId}(h:P.underlying t=some (.pointer e)):P.underlying t=some (.pointer (P.pointee t)):=by
 simp[Program.pointee,h]
def Cp{F:kT}{ρ:Maps}{fn:Fn}{f c:List AV}{v:Value}(h:gI F ρ (.func fn f c) v):∃vf vc:List Value,v=.func fn vf.toArray vc.toArray/\hQ (gR F ρ.G ρ.n) f vf/\hQ (gR F ρ.G ρ.n) c vc:=by
 cases h with
 |cell h=>cases h with
  |p h=>cases h with|func a b=>exact⟨_,_,rfl,a.qF,b.qF⟩
def Sn(P:Program)(w:World){t:TypeId}{a rs:Array TypeId}{b:Bool}(hu:P.underlying t=some (.func a rs b))(fn:Fn)(f c:Array Value):(binOp .eql t (.func fn f c) .nilFunc).run P w=.ok (.bool false) w/\(binOp .neq t (.func fn f c) .nilFunc).run P w=.ok (.bool true) w:=by
 have h:∀d,(Op.equalIn (d+1) t (.func fn f c) .nilFunc).run P w=.ok false w:=λd=>by simp[Op.equalIn,run_underlying hu]
 have i:binOp .eql t (.func fn f c) .nilFunc=(do pure (.bool (<-Op.equalIn (9999+1) t (.func fn f c) .nilFunc))):=rfl;have j:binOp .neq t (.func fn f c) .nilFunc=(do pure (.bool (!(<-Op.equalIn (9999+1) t (.func fn f c) .nilFunc)))):=rfl;rw[i,j,ia,ia,h 9999];exact⟨rfl,rfl⟩
def al7(P:Program)(w:World){t:TypeId}{a rs:Array TypeId}{b:Bool}(hu:P.underlying t=some (.func a rs b)):(binOp .eql t .nilFunc .nilFunc).run P w=.ok (.bool true) w/\(binOp .neq t .nilFunc .nilFunc).run P w=.ok (.bool false) w:=by
 have h:∀d,(Op.equalIn (d+1) t .nilFunc .nilFunc).run P w=.ok true w:=λd=>by simp[Op.equalIn,run_underlying hu]
 have c:binOp .eql t .nilFunc .nilFunc=(do pure (.bool (<-Op.equalIn (9999+1) t .nilFunc .nilFunc))):=rfl;have f:binOp .neq t .nilFunc .nilFunc=(do pure (.bool (!(<-Op.equalIn (9999+1) t .nilFunc .nilFunc)))):=rfl;rw[c,f,ia,ia,h 9999];exact⟨rfl,rfl⟩
def MS:Value->Bool
 |.nilIface=>false|.agg _=>false|_=>true
def Pn(P:Program)(w:World)(op:BinOp)(t:TypeId)(x y:Operand){u v:Value}(h:MS u=true):(eqGuard op t x y u v).run P w=.ok () w:=by
 cases u<;>first|(simp[MS] at h;done)|(cases op<;>rfl)
def UO(P:Program)(w:World){F:kT}{ρ:Maps}{op:BinOp}{t:TypeId}{x y r:AV}{u v:Value}(h:uN P op t x y=some r)
  (b:gI F ρ x u) (c:gI F ρ y v):∃z,(binOp op t u v).run P w=.ok z w/\r=.sc z/\zs z=true/\MS u=true:=by
 unfold uN at h
 split at h
 ·cases gl b;cases gl c
  split at h
  ·cases h
  ·rename_i d;cases h;exact⟨_,by simp[binOp,Op.shift,d],rfl,rfl,rfl⟩
 ·cases gl b;cases gl c
  split at h
  ·cases h
  ·rename_i d;cases h;exact⟨_,by simp[binOp,Op.shift,d],rfl,rfl,rfl⟩
 ·cases gl b;cases gl c
  split at h
  ·rename_i i;subst i;cases hi:qE op _ _ _ with
   |none=>rw[hi] at h;cases h
   |some z=>
    rw[hi] at h;cases h;exact⟨z,(Jc P w t hi).1,rfl,(Jc P w t hi).2,rfl⟩
  ·cases h
 ·cases gl b;cases gl c;cases hi:M8 op _ _ with
  |none=>rw[hi] at h;cases h
  |some z=>
   rw[hi] at h;cases h;exact⟨z,(J1 P w t hi).1,rfl,(J1 P w t hi).2,rfl⟩
 ·cases gl b;cases gl c
  split at h
  ·rename_i hu;cases h;exact⟨_,run_eql_bool w t _ _ hu,rfl,rfl,rfl⟩
  ·cases h
 ·cases gl b;cases gl c
  split at h
  ·rename_i hu;cases h;exact⟨_,run_neq_bool w t _ _ hu,rfl,rfl,rfl⟩
  ·cases h
 ·cases gl c
  split at h
  ·rename_i hu
   split at h
   ·rename_i f;obtain⟨a,rfl⟩:=Gd f b;cases h;exact⟨_,run_eql_pointer_nil w t _ (zF hu),aaA,rfl,rfl⟩
   ·split at h
    ·cases gl b;cases h;exact⟨_,run_eql_pointer_nil w t _ (zF hu),aaA,rfl,rfl⟩
    ·cases h
  ·cases h
 ·cases gl c
  split at h
  ·rename_i hu
   split at h
   ·rename_i f;obtain⟨a,rfl⟩:=Gd f b;cases h;exact⟨_,run_neq_pointer_nil w t _ (zF hu),aaA,rfl,rfl⟩
   ·split at h
    ·cases gl b;cases h;exact⟨_,run_neq_pointer_nil w t _ (zF hu),aaA,rfl,rfl⟩
    ·cases h
  ·cases h
 ·cases gl c;obtain⟨vf,vc,rfl,_,_⟩:=Cp b
  split at h
  ·rename_i hu;cases h;exact⟨.bool false,(Sn P w hu _ _ _).1,rfl,rfl,rfl⟩
  ·cases h
 ·cases gl c;obtain⟨vf,vc,rfl,_,_⟩:=Cp b
  split at h
  ·rename_i hu;cases h;exact⟨.bool true,(Sn P w hu _ _ _).2,rfl,rfl,rfl⟩
  ·cases h
 ·cases gl b;cases gl c
  split at h
  ·rename_i hu;cases h;exact⟨.bool true,(al7 P w hu).1,rfl,rfl,rfl⟩
  ·cases h
 ·cases gl b;cases gl c
  split at h
  ·rename_i hu;cases h;exact⟨.bool false,(al7 P w hu).2,rfl,rfl,rfl⟩
  ·cases h
 ·cases h
end Go.ld
namespace Go.ld
open Go
def oo{l:List AV}{sz:Nat}(h:∀x∈l,x.cells.length=sz):(l.flatMap AV.cells).length=l.length*sz:=by
 induction l with
 |nil=>simp|cons x l ih=>grind
def Fa{l:List AV}{sz:Nat}(h:∀x∈l,x.cells.length=sz)(n:Nat):(l.take n).flatMap AV.cells=(l.flatMap AV.cells).take (n*sz):=by
 induction l generalizing n with
 |nil=>simp|cons x l ih=>
  cases n with
  |zero=>simp|succ n=>
   have a:=h x aaA
   rw[List.take_succ_cons,JU,JU,ih (λy b=>h y (by simp[b])),DS,aa6,List.take_append,a,ahI (l:=x.cells) VW,ae8]
def y9{l:List AV}{sz:Nat}(h:∀x∈l,x.cells.length=sz)(n:Nat):(l.drop n).flatMap AV.cells=(l.flatMap AV.cells).drop (n*sz):=by
 induction l generalizing n with
 |nil=>simp|cons x l ih=>
  cases n with
  |zero=>simp|succ n=>
   have a:=h x aaA
   rw[List.drop_succ_cons,JU,ih (λy b=>h y (by simp[b])),DS,aa6,aea,a,OH (as:=x.cells) VW,ae8,oa]
def P4{l:List AV}{sz:Nat}(h:∀x∈l,x.cells.length=sz){i:Nat}{x:AV}(hi:l[i]?=some x):((l.flatMap AV.cells).drop (i*sz)).take sz=x.cells:=by
 have b:=y9 h i;have a:i<l.length:=(s7.1 hi).1
 have c:l.drop i=x::l.drop (i+1):=by
  have:=Nz a
  grind
 grind
def kT.has.drop{F:kT}{b o:Nat}{vs:List Value}(h:F.has b o vs)(n:Nat):F.has b (o+n) (vs.drop n):=by
 intro i v a;rw[Xh] at a;have:=h _ v a
 grind
def kT.has.take{F:kT}{b o:Nat}{vs:List Value}(h:F.has b o vs)(n:Nat):F.has b o (vs.take n):=by
 intro i v a;rw[Sh] at a
 split at a
 ·exact h i v a
 ·cases a
section
variable{F:kT} {G:Nat->Nat} {n:Nat}
def hO.drop{xs vs}(h:hO F G n xs vs)(k:Nat):hO F G n (xs.drop k) (vs.drop k):=.pc (h.qF.drop k)
def hO.take{xs vs}(h:hO F G n xs vs)(k:Nat):hO F G n (xs.take k) (vs.take k):=.pc (h.qF.take k)
def hO.get{xs vs}(h:hO F G n xs vs){i:Nat}{x:AV}(a:xs[i]?=some x):∃v,vs[i]?=some v/\gR F G n x v:=h.qF.get a
def hO.length{xs vs}(h:hO F G n xs vs):xs.length=vs.length:=h.qF.length
def hO.append{xs vs a vs'}(h:hO F G n xs vs)(b:hO F G n a vs'):hO F G n (xs++a) (vs++vs'):=.pc (h.qF.append b.qF)
end
def AV.Cn{x:AV}(h:x.gO=true):x.cells=[x]:=by cases x<;>first|rfl|(simp[AV.gO] at h)
section
variable{P:Program}
def Ht{t:TypeId}{b:Bool}{n:Nat}(h:gb P t=some (b,n)):∃d i,P.underlying t=some d/\P.info? t=some i/\i.size=n/\(match d with|.struct _|.array _ _=>true|_=>false)=b:=by grind[gb]
def kN{t:TypeId}{b:Bool}{n:Nat}(h:gb P t=some (b,n))(w:World):(sizeOf t).run P w=.ok n w:=by
 obtain⟨d,i,a,hi,hn,_⟩:=Ht h;simp[sizeOf,typeInfo,hi,hn]
def zi{t:TypeId}{b:Bool}{n:Nat}(h:gb P t=some (b,n))(w:World):(isAgg t).run P w=.ok b w:=by
 obtain⟨d,i,a,hi,hn,c⟩:=Ht h;subst c;unfold isAgg;rw[ia,run_underlying a];cases d<;>rfl
def AN{t:TypeId}{cs:List AV}{off:Nat}{z:AV}(h:mB P t cs off=some z):(∃k,gb P t=some (true,k)/\off+k<=cs.length/\z=.agg ((cs.drop off).take k))\/(∃k,gb P t=some (false,k)/\cs[off]?=some z):=by grind[mB]
def z8{t:TypeId}{k:Nat}(h:gb P t=some (true,k))(w:World)(a:Addr)(vs:List Value)(b:vs.length=k)
  (c:∀j v,vs[j]?=some v->w.cell? (a.add j)=some v):(loadVar t a).run P w=.ok (.agg vs.toArray) w:=by
 unfold loadVar;rw[ia,zi h];simp only[kl,if_true];rw[ia,kN h,kl,ia,<-b,run_loadCells_list w a vs c];rfl
def Ab{t:TypeId}{k:Nat}(h:gb P t=some (false,k))(w:World)(a:Addr)(v:Value)(b:w.cell? a=some v):(loadVar t a).run P w=.ok v w:=by
 unfold loadVar;rw[ia,zi h]
 simp_all
end
def tF(P:Program)(t:TypeId)(x:AV)(i:Nat):Option AV:=
 match fb P t i with
 |none=>none|some (off,a)=>
  match gb P a with
  |none=>none|some (_,n)=>
   if n=0 then none else
   match x with
   |.ie b g o=>some (.ie b g (o+off))|.fh o f=>some (.fh o (f+off))|.mA y=>(mB P a y.cells off).map .mA|_=>none
def DJ(P:Program)(t:TypeId)(x:AV)(i:Nat):Option AV:=
 match fb P t i,x with
 |some (off,a),.agg cs=>mB P a cs off|_,_=>none
def gJ(P:Program)(t:TypeId)(x i:AV):Option AV:=
 match i with
 |.sc (.int _ n)=>
  match P.underlying t,x with
  |some (.slice e),.slice _ l=>
   if 0<=n then
    match l[n.toNat]?,gb P e with
    |some y,some (_,sz)=>if y.cells.length=sz then some (.mA y)else none|_,_=>none
   else none
  |some (.slice e),.xX b g len _=>
   match gb P e with
   |some (_,sz)=>if 0<=n/\n<len then some (.ie b g (n.toNat*sz))else none|none=>none
  |some (.slice e),.z' b off len _=>
   match gb P e with
   |some (_,sz)=>if 0<=n/\n<len then some (.fh b (off+n.toNat*sz))else none|none=>none
  |some (.array len e),.ie b g o=>
   match gb P e with
   |some (_,sz)=>if 0<=n/\n<len then some (.ie b g (o+n.toNat*sz))else none|none=>none
  |some (.array len e),.fh a o=>
   match gb P e with
   |some (_,sz)=>if 0<=n/\n<len then some (.fh a (o+n.toNat*sz))else none|none=>none
  |some (.array len e),.mA y=>
   match gb P e with
   |some (_,sz)=>if 0<=n/\n<len then(mB P e y.cells (n.toNat*sz)).map .mA else none|none=>none
  |_,_=>none
 |_=>none
def Sf(P:Program)(t:TypeId)(x i:AV):Option AV:=
 match i with
 |.sc (.int _ n)=>
  match P.underlying t,x with
  |some .string,.sc (.string s)=>if 0<=n then(s[n.toNat]?).map λb=>.sc (.int .u8 b.toNat)else none|some (.array len e),.agg cs=>
   match gb P e with
   |some (_,sz)=>if 0<=n/\n<len then mB P e cs (n.toNat*sz)else none|none=>none
  |_,_=>none
 |_=>none
section
variable{P:Program} {F:kT} {ρ:Maps}
def Fv{cs:List AV}{v:Value}(h:gI F ρ (.agg cs) v):∃vs:List Value,v=.agg vs.toArray/\hQ (jZ F ρ) cs vs/\∀c∈cs,c.gO=true:=by
 cases h with
 |agg a b=>grind|cell h=>cases h with
  |p h=>cases h with|agg a b=>exact⟨_,rfl,a.qF.mono λ_ _ _ h=>.p h,b⟩
def Rm{cs:List AV}{v:Value}(h:gI F ρ (.tuple cs) v):∃vs:List Value,v=.tuple vs.toArray/\hQ (gR F ρ.G ρ.n) cs vs:=by
 cases h with
 |cell h=>cases h with
  |p h=>cases h with|tuple a=>exact⟨_,rfl,a.qF⟩
def v'{b g off:Nat}{v:Value}(h:gI F ρ (.ie b g off) v):v=.pointer (some ⟨ρ.L b g,off,none⟩)/\g<=ρ.lg b:=by
 cases h with
 |cell h=>cases h with
  |p h=>cases h
  |ie h=>grind
def wc{o off:Nat}{v:Value}(h:gI F ρ (.fh o off) v):v=.pointer (some ⟨ρ.G o,off,none⟩)/\o<ρ.n:=by
 cases h with
 |cell h=>cases h with
  |p h=>cases h with|fh h=>exact⟨rfl,h⟩
def Gx{x:AV}{v:Value}(h:gI F ρ (.mA x) v):∃b o vs,v=.pointer (some ⟨b,o,none⟩)/\hO F ρ.G ρ.n x.cells vs/\F.has b o vs/\∀c∈x.cells,c.gO=true:=by
 cases h with
 |cell h=>cases h with
  |p h=>cases h with|mA a d f=>exact⟨_,_,_,rfl,a,d,f⟩
def Bs{b g len cap:Nat}{v:Value}(h:gI F ρ (.xX b g len cap) v):v=.slice (some ⟨ρ.L b g,0,none⟩) len cap/\g<=ρ.lg b/\len<=cap/\cap<=maxLen:=by
 cases h with
 |cell h=>cases h with
  |p h=>cases h
  |xX a c d=>grind
def J9{o off len cap:Nat}{v:Value}(h:gI F ρ (.z' o off len cap) v):v=.slice (some ⟨ρ.G o,off,none⟩) len cap/\o<ρ.n/\len<=cap/\cap<=maxLen:=by
 cases h with
 |cell h=>cases h with
  |p h=>cases h with|z' a b c=>exact⟨rfl,a,b,c⟩
structure aaZ (F:kT) (ρ:Maps) (l:List AV) (base:Option Addr) (cap b o sz:Nat) (vs:List Value):Prop where
 cells:hO F ρ.G ρ.n (l.flatMap AV.cells) vs
 has:F.has b o vs
 base:l≠[]->base=some ⟨b,o,none⟩
 sz:∀x∈l,x.cells.length=sz
 so:∀c∈l.flatMap AV.cells,c.gO=true
 Cu:l.length<=cap
 EC:cap<=maxLen
def gR.LR{G:Nat->Nat}{n:Nat}{tag:Tag}{l:List AV}{v:Value}(h:gR F G n (.slice tag l) v):∃base cap b o sz vs,v=.slice base l.length cap/\hO F G n (l.flatMap AV.cells) vs/\F.has b o vs/\(l≠[]->base=some ⟨b,o,none⟩)/\(∀x∈l,x.cells.length=sz)/\(∀c∈l.flatMap AV.cells,c.gO=true)/\l.length<=cap/\cap<=maxLen/\(tag=.gK\/tag=.full/\cap=l.length):=by
 cases h with|slice a d f i j k q r=>exact⟨_,_,_,_,_,_,rfl,a,d,f,i,j,k,q,r⟩
def ny{tag:Tag}{l:List AV}{v:Value}(h:gI F ρ (.slice tag l) v):∃base cap b o sz vs,v=.slice base l.length cap/\aaZ F ρ l base cap b o sz vs/\(tag=.full->cap=l.length)/\(∀k g,tag=.loc k g->g<=ρ.ag k/\vo ρ k g l base cap):=by
 cases h with
 |cell h=>cases h with
  |p h=>
   obtain⟨base,cap,b,o,sz,vs,rfl,a,q,r,c,d,f,i,s⟩:=h.LR;refine⟨base,cap,b,o,sz,vs,rfl,⟨a,q,r,c,d,f,i⟩,?_,?_⟩
   all_goals grind
  |loc a q r=>
   obtain⟨base,cap,b,o,sz,vs,he,a,j,n,c,d,f,i,s⟩:=a.LR;injection he with t w u;subst t;subst u;refine⟨_,_,b,o,sz,vs,rfl,⟨a,j,n,c,d,f,i⟩,(by intro h;cases h),?_⟩
   grind
def LM{G:Nat->Nat}{n:Nat}{cs:List AV}{vs:List Value}{b o:Nat}{t:TypeId}{off:Nat}{z:AV}(f:hO F G n cs vs)(h:F.has b o vs)(j:∀c∈cs,c.gO=true)
  (l:mB P t cs off=some z):gR F G n (.mA z) (.pointer (some ⟨b,o+off,none⟩)):=by
 rcases AN l with⟨k,q,hle,rfl⟩|⟨k,q,d⟩
 ·exact .mA ((f.drop off).take k) ((h.drop off).take k) (λc d=>j c (Ib (DE d)))
 ·obtain⟨v,r,s⟩:=f.get d;have a:=j z (H9 d);refine .mA (vs:=[v]) (by rw[AV.Cn a];exact .cons s .nil) ?_ (by rw[AV.Cn a];simpa using a);intro i u hu;cases i with
  |zero=>simp at hu;subst hu;exact h off _ r
  |succ i=>simp at hu
def Ly(w:World){t:TypeId}{x r:AV}{u:Value}{i:Nat}(h:tF P t x i=some r)(c:gI F ρ x u):∃v,(Instr.fieldAt t u i).run P w=.ok v w/\gI F ρ r v:=by
 unfold tF at h
 split at h
 ·cases h
 ·rename_i off k B
  split at h
  ·cases h
  ·rename_i agg n l
   split at h
   ·cases h
   ·rename_i hn
    have a:∃fs f,P.underlying t=some (.struct fs)/\fs[i]?=some f/\f.offset=off/\f.type=k:=by grind[fb]
    obtain⟨fs,f,hu,d,rfl,rfl⟩:=a
    have key:∀b o:Nat,(Instr.fieldAt t (.pointer (some ⟨b,o,none⟩)) i).run P w=.ok (.pointer (some ⟨b,o+f.offset,none⟩)) w:=by
     intro b o;unfold Instr.fieldAt;rw[ia,run_underlying hu,kl];simp only[d,Instr.sureAddr,ia,pH,kl,fieldPlace,kN l,hn,jb,Addr.add_lit]
    split at h
    ·rename_i b g o;cases h;obtain⟨rfl,hg⟩:=v' c;exact⟨_,key _ _,.cell (.ie hg)⟩
    ·rename_i o C;cases h;obtain⟨rfl,hg⟩:=wc c;exact⟨_,key _ _,.p (.fh hg)⟩
    ·rename_i y;obtain⟨b,o,vs,rfl,q,s,A⟩:=Gx c;cases j:mB P f.type y.cells f.offset with
     |none=>rw[j] at h;cases h
     |some z=>
      rw[j] at h;cases h;exact⟨_,key _ _,.p (LM q s A j)⟩
    ·cases h
def Fs(w:World){t:TypeId}{cs:List AV}{vs:List Value}{off:Nat}{z:AV}(d:hQ (jZ F ρ) cs vs)(f:∀c∈cs,c.gO=true)(h:mB P t cs off=some z):∃v,(part t vs.toArray off).run P w=.ok v w/\gI F ρ z v:=by
 rcases AN h with⟨k,a,hle,rfl⟩|⟨k,a,b⟩
 ·refine⟨.agg ((vs.drop off).take k).toArray,?_,.agg ((d.drop off).take k) (λc b=>f c (Ib (DE b)))⟩;unfold part;rw[ia,zi a];simp only[kl,if_true,ia,kN a,pH]
  grind
 ·obtain⟨v,i,j⟩:=d.get b;refine⟨v,?_,.cell j⟩;unfold part;rw[ia,zi a];simp[i]
def Uw(w:World){t:TypeId}{x r:AV}{u:Value}{i:Nat}(h:DJ P t x i=some r)(c:gI F ρ x u):∃v,(Instr.field t u i).run P w=.ok v w/\gI F ρ r v:=by
 unfold DJ at h
 split at h
 ·rename_i off d cs o;obtain⟨vs,rfl,j,k⟩:=Fv c
  have a:∃fs f,P.underlying t=some (.struct fs)/\fs[i]?=some f/\f.offset=off/\f.type=d:=by grind[fb]
  obtain⟨fs,f,hu,b,rfl,rfl⟩:=a;obtain⟨v,l,n⟩:=Fs w j k h;refine⟨v,?_,n⟩;unfold Instr.field;rw[ia,run_underlying hu];simp only[b,asAgg,ia,pH,kl,l]
 ·cases h
def Ll(w:World){t:TypeId}{x i r:AV}{u j:Value}(h:gJ P t x i=some r)(q:gI F ρ x u)(hi:gI F ρ i j):∃v,(Instr.indexAt t u j).run P w=.ok v w/\gI F ρ r v:=by
 unfold gJ at h
 split at h
 ·rename_i k n;cases gl hi
  split at h
  ·rename_i e tag l hu
   split at h
   ·rename_i hn
    split at h
    ·rename_i y agg sz A a
     split at h
     ·rename_i B;cases h;obtain⟨base,cap,b,o,d,vs,rfl,hs,_,_⟩:=ny q;have C:n.toNat<l.length:=(s7.1 A).1
      have D:l≠[]:=by rintro rfl;simp at C
      have f:=H9 A
      have s:d=sz:=by rw[<-hs.sz y f,B]
      subst s;rw[hs.base D];refine⟨.pointer (some ⟨b,o+n.toNat*d,none⟩),?_,.p (.mA (vs:=(vs.drop (n.toNat*d)).take d) ?_ ?_ ?_)⟩
      ·unfold Instr.indexAt;simp only[asIntOf,ia,pH,kl,run_underlying hu];rw[dR ⟨hn,VW⟩];simp only[ia,pH,kl,kN a,Addr.add_lit]
      ·rw[<-P4 hs.sz A];exact(hs.cells.drop _).take _
      ·exact(hs.has.drop _).take _
      ·intro c I;exact hs.so c (ab1.2 ⟨y,f,I⟩)
     ·cases h
    ·cases h
   ·cases h
  ·rename_i e b g len cap hu
   split at h
   ·rename_i agg sz a
    split at h
    ·rename_i hn;cases h;obtain⟨rfl,hg,_,_⟩:=Bs q;refine⟨.pointer (some ⟨ρ.L b g,n.toNat*sz,none⟩),?_,.cell (.ie hg)⟩;unfold Instr.indexAt;simp only[asIntOf,ia,pH,kl,run_underlying hu];rw[dR ⟨hn.1,VW⟩];simp only[ia,pH,kl,kN a,Addr.add_lit,Ax]
    ·cases h
   ·cases h
  ·rename_i e b off len cap hu
   split at h
   ·rename_i agg sz a
    split at h
    ·rename_i hn;cases h;obtain⟨rfl,hg,_,_⟩:=J9 q;refine⟨.pointer (some ⟨ρ.G b,off+n.toNat*sz,none⟩),?_,.p (.fh hg)⟩;unfold Instr.indexAt;simp only[asIntOf,ia,pH,kl,run_underlying hu];rw[dR ⟨hn.1,VW⟩];simp only[ia,pH,kl,kN a,Addr.add_lit]
    ·cases h
   ·cases h
  ·rename_i len e b g o hu
   split at h
   ·rename_i agg sz a
    split at h
    ·rename_i hn;cases h;obtain⟨rfl,hg⟩:=v' q;refine⟨.pointer (some ⟨ρ.L b g,o+n.toNat*sz,none⟩),?_,.cell (.ie hg)⟩;unfold Instr.indexAt;simp only[asIntOf,Instr.sureAddr,ia,pH,kl,run_underlying hu];rw[dR hn];simp only[ia,pH,kl,kN a,Addr.add_lit]
    ·cases h
   ·cases h
  ·rename_i len e J o hu
   split at h
   ·rename_i agg sz a
    split at h
    ·rename_i hn;cases h;obtain⟨rfl,hg⟩:=wc q;refine⟨.pointer (some ⟨ρ.G J,o+n.toNat*sz,none⟩),?_,.p (.fh hg)⟩;unfold Instr.indexAt;simp only[asIntOf,Instr.sureAddr,ia,pH,kl,run_underlying hu];rw[dR hn];simp only[ia,pH,kl,kN a,Addr.add_lit]
    ·cases h
   ·cases h
  ·rename_i len e y hu
   split at h
   ·rename_i agg sz a
    split at h
    ·rename_i hn;obtain⟨b,o,vs,rfl,K,M,N⟩:=Gx q;cases H:mB P e y.cells (n.toNat*sz)with
     |none=>rw[H] at h;cases h
     |some z=>
      rw[H] at h;cases h;refine⟨.pointer (some ⟨b,o+n.toNat*sz,none⟩),?_,.p (LM K M N H)⟩;unfold Instr.indexAt;simp only[asIntOf,Instr.sureAddr,ia,pH,kl,run_underlying hu];rw[dR hn];simp only[ia,pH,kl,kN a,Addr.add_lit]
    ·cases h
   ·cases h
  ·cases h
 ·cases h
def Uu(w:World){t:TypeId}{x i r:AV}{u j:Value}(h:Sf P t x i=some r)(c:gI F ρ x u)(hi:gI F ρ i j):∃v,(Instr.index t u j).run P w=.ok v w/\gI F ρ r v:=by
 unfold Sf at h
 split at h
 ·rename_i k n;cases gl hi
  split at h
  ·rename_i s hu;cases gl c
   split at h
   ·rename_i hn;cases a:s[n.toNat]?with
    |none=>rw[a] at h;cases h
    |some b=>
     rw[a] at h;cases h;refine⟨.int .u8 b.toNat,?_,.p (.sc rfl)⟩;unfold Instr.index;simp[asIntOf,run_underlying hu,hn,a]
   ·cases h
  ·rename_i len e cs hu
   split at h
   ·rename_i agg sz d
    split at h
    ·rename_i hn;obtain⟨vs,rfl,f,l⟩:=Fv c;obtain⟨v,o,q⟩:=Fs w f l h;refine⟨v,?_,q⟩;unfold Instr.index;simp only[asIntOf,ia,pH,kl,run_underlying hu];rw[dR hn];simp only[ia,kN d,kl,o]
    ·cases h
   ·cases h
  ·cases h
 ·cases h
end
end Go.ld
