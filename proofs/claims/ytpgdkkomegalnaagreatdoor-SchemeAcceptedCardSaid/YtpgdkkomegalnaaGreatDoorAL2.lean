/- Part of the proof of SchemeAccepted: layer. -/
import Derived.Orders
import Derived.Below
import Derived.Laws.AppendOwn
import Derived.Laws.Cells
import Derived.Laws.CopyRow
import Derived.Laws.Small
import Derived.Laws.Pointers
import Derived.WalkSpells
import Derived.Test.YtpgdkkomegalnaaGreatDoorAL1
set_option linter.all false
namespace Go.kY
open Go
inductive Tag where
 |gx|full|loc (k g:Nat)
inductive AV where
 |undef|sc (v:Value)|mh (x:AV)|hU (b g off:Nat)|eT (o off:Nat)|slice (tag:Tag) (l:List AV)|agg (cs:List AV)|tuple (vs:List AV)|func (fn:Fn) (first cap:List AV)
 |iface (t:TypeId) (x:AV)|xb (b g len cap:Nat)|nB (o:Nat)|tU (ks:List Value) (xs:List AV)|mu (o since:Nat) (seen:List Nat)|zy (o off len cap:Nat)|Mw
instance:Inhabited AV:=⟨.undef⟩
def AV.cells:AV->List AV
 |.agg cs=>cs|x=>[x]
def AV.gA:AV->Bool
 |.agg _=>false|.tuple _=>false|.tU _ _=>false|.mu _ _ _=>false|_=>true
def yH:Value->Bool
 |.bool _=>true|.int _ _=>true|.float _ _=>true|.string _=>true|.pointer none=>true|.map none=>true|.nilFunc=>true|.nilIface=>true|_=>false
inductive gW {α β:Type} (R:α->β->Prop):List α->List β->Prop
 |nil:gW R [] []|cons {a b as bs}:R a b->gW R as bs->gW R (a::as) (b::bs)
def gW.length{α β:Type}{R:α->β->Prop}{as:List α}{bs:List β}(h:gW R as bs):as.length=bs.length:=by
 induction h with
 |nil=>rfl|cons _ _ ih=>simp[ih]
theorem gW.mono{α β:Type}{R S:α->β->Prop}{as:List α}{bs:List β}(h:gW R as bs)(hs:∀a b,a∈as->R a b->S a b):gW S as bs:=by
 induction h with
 |nil=>exact .nil|cons c _ ih=>exact .cons (hs _ _ aaF c) (ih λa b d=>hs a b (by simp[d]))
def gW.append{α β:Type}{R:α->β->Prop}{as a:List α}{bs b:List β}(h:gW R as bs)(c:gW R a b):gW R (as++a) (bs++b):=by
 induction h with
 |nil=>exact c|cons d _ ih=>exact .cons d ih
def gW.take{α β:Type}{R:α->β->Prop}{as:List α}{bs:List β}(h:gW R as bs)(n:Nat):gW R (as.take n) (bs.take n):=by
 induction h generalizing n with
 |nil=>simp;exact .nil|cons a _ ih=>cases n with
  |zero=>exact .nil|succ n=>exact .cons a (ih n)
def gW.drop{α β:Type}{R:α->β->Prop}{as:List α}{bs:List β}(h:gW R as bs)(n:Nat):gW R (as.drop n) (bs.drop n):=by
 induction h generalizing n with
 |nil=>simp;exact .nil|cons a b ih=>cases n with
  |zero=>exact .cons a b|succ n=>exact ih n
def gW.get{α β:Type}{R:α->β->Prop}{as:List α}{bs:List β}(h:gW R as bs){i:Nat}{a:α}(c:as[i]?=some a):∃b,bs[i]?=some b/\R a b:=by
 induction h generalizing i with
 |nil=>simp at c
 |cons d _ ih=>grind
def gW.mem{α β:Type}{R:α->β->Prop}{as:List α}{bs:List β}(h:gW R as bs){b:β}(c:b∈bs):∃a∈as,R a b:=by
 induction h with
 |nil=>simp at c
 |cons d _ ih=>grind
def gW.vZ{α α' β:Type}{R:α->β->Prop}{S:α'->β->Prop}{as:List α}{bs:List β}(f:α->α')(h:gW R as bs)(hs:∀a b,a∈as->R a b->S (f a) b):gW S (as.map f) bs:=by
 induction h with
 |nil=>exact .nil|cons c _ ih=>exact .cons (hs _ _ aaF c) (ih λa b d=>hs a b (by simp[d]))
abbrev kD:=Nat->Nat->Option Value
def kD.has(F:kD)(b o:Nat)(vs:List Value):Prop:=∀i v,vs[i]?=some v->F b (o+i)=some v
mutual
inductive gH (F:kD) (G:Nat->Nat) (n:Nat):AV->Value->Prop
 |undef {v}:v.oneCell'=true->gH F G n .undef v|sc {v}:yH v=true->gH F G n (.sc v) v|mh {x b o vs}:gV F G n x.cells vs->F.has b o vs->(∀c∈x.cells,c.gA=true)->gH F G n (.mh x) (.pointer (some ⟨b,o,none⟩))|eT {o off}:o<n->gH F G n (.eT o off) (.pointer (some ⟨G o,off,none⟩))|nB {o}:o<n->gH F G n (.nB o) (.map (some (G o)))|zy {o off len cap}:o<n->len<=cap->cap<=maxLen->gH F G n (.zy o off len cap) (.slice (some ⟨G o,off,none⟩) len cap)|slice {tag l vs b o base cap sz}:gV F G n (l.flatMap AV.cells) vs->F.has b o vs->(l≠[]->base=some ⟨b,o,none⟩)->(∀x∈l,x.cells.length=sz)->(∀c∈l.flatMap AV.cells,c.gA=true)->l.length<=cap->cap<=maxLen->tag=.gx\/tag=.full/\cap=l.length->gH F G n (.slice tag l) (.slice base l.length cap)|Mw {base}:gH F G n .Mw (.slice base 0 0)|agg {cs vs}:gV F G n cs vs->(∀c∈cs,c.gA=true)->gH F G n (.agg cs) (.agg vs.toArray)|tuple {cs vs}:gV F G n cs vs->gH F G n (.tuple cs) (.tuple vs.toArray)|func {fn f c vf vc}:gV F G n f vf->gV F G n c vc->gH F G n (.func fn f c) (.func fn vf.toArray vc.toArray)|iface {t x v}:gH F G n x v->gH F G n (.iface t x) (.iface t v)
inductive gV (F:kD) (G:Nat->Nat) (n:Nat):List AV->List Value->Prop
 |nil:gV F G n [] []|cons {x v xs vs}:gH F G n x v->gV F G n xs vs->gV F G n (x::xs) (v::vs)
end
section
variable{F F':kD} {G G':Nat->Nat} {n n':Nat}
def gV.rP{xs vs}(h:gV F G n xs vs):gW (gH F G n) xs vs:=by
 induction xs generalizing vs with
 |nil=>cases h;exact .nil
 |cons x xs ih=>cases h with|cons a b=>exact .cons a (ih b)
def gV.oQ{xs vs}(h:gW (gH F G n) xs vs):gV F G n xs vs:=by
 induction h with
 |nil=>exact .nil|cons a _ ih=>exact .cons a ih
structure G3 (F F':kD) (G G':Nat->Nat) (n n':Nat):Prop where
 mF:∀b o v,F b o=some v->F' b o=some v
 mn:n<=n'
 mG:∀o,o<n->G' o=G o
theorem G3.refl:G3 F F G G n n:=⟨λ_ _ _ h=>h,js _,λ_ _=>rfl⟩
def kD.has.grow{b o vs}(h:F.has b o vs)(hg:G3 F F' G G' n n'):F'.has b o vs:=λi v a=>hg.mF _ _ _ (h i v a)
mutual
def gH.grow(hg:G3 F F' G G' n n'):∀{x v},gH F G n x v->gH F' G' n' x v
 |_,_,.undef h=>.undef h|_,_,.sc h=>.sc h|_,_,.mh a b c=>.mh (a.grow hg) (b.grow hg) c|_,_,.eT (o:=o) (off:=off) h=>by
  rw[<-hg.mG o h];exact .eT (Sr h hg.mn)
 |_,_,.nB (o:=o) h=>by
  rw[<-hg.mG o h];exact .nB (Sr h hg.mn)
 |_,_,.zy (o:=o) h b c=>by
  rw[<-hg.mG o h];exact .zy (Sr h hg.mn) b c
 |_,_,.slice a b c d f i j k=>.slice (a.grow hg) (b.grow hg) c d f i j k|_,_,.Mw=>.Mw|_,_,.agg a b=>.agg (a.grow hg) b|_,_,.tuple a=>.tuple (a.grow hg)|_,_,.func a b=>.func (a.grow hg) (b.grow hg)|_,_,.iface a=>.iface (a.grow hg)
def gV.grow(hg:G3 F F' G G' n n'):∀{xs vs},gV F G n xs vs->gV F' G' n' xs vs
 |_,_,.nil=>.nil|_,_,.cons a b=>.cons (a.grow hg) (b.grow hg)
end
def gH.L5{x v}(h:gH F G n x v)(b:x.gA=true):v.oneCell'=true:=by
 cases h with
 |undef h=>exact h|sc h=>revert h;cases v<;>simp[yH,Value.oneCell']
 |agg a c=>grind[AV.gA]|tuple a=>grind[AV.gA]|_=>rfl
theorem gH.cells{x v}(h:gH F G n x v)(l:∀vs,x≠ .tuple vs):gV F G n x.cells v.cells.toList:=by
 cases h with
 |undef h=>cases v<;>first|exact .cons (.undef h) .nil|(simp[Value.oneCell'] at h;done)
 |sc h=>cases v<;>first|exact .cons (.sc h) .nil|(simp[yH] at h;done)
 |mh a b c=>exact .cons (.mh a b c) .nil|eT a=>exact .cons (.eT a) .nil|nB a=>exact .cons (.nB a) .nil|zy a b c=>exact .cons (.zy a b c) .nil|slice a b c d f i j k=>exact .cons (.slice a b c d f i j k) .nil|Mw=>exact .cons .Mw .nil|agg a b=>exact a|tuple a=>grind|func a b=>exact .cons (.func a b) .nil|iface a=>exact .cons (.iface a) .nil
end
structure Maps where
 G:Nat->Nat
 n:Nat
 L:Nat->Nat->Nat
 lg:Nat->Nat
 A:Nat->Nat->Option (Nat×Nat×Nat)
 ag:Nat->Nat
def ur(ρ:Maps)(k g:Nat)(l:List AV)(base:Option Addr)(cap:Nat):Prop:=
 match ρ.A k g with
 |none=>cap=l.length|some (b,c,sz)=>base=some ⟨b,0,none⟩/\cap=c/\∀x∈l,x.cells.length=sz
inductive jJ (F:kD) (ρ:Maps):AV->Value->Prop
 |p {x v}:gH F ρ.G ρ.n x v->jJ F ρ x v|hU {b g off}:g<=ρ.lg b->jJ F ρ (.hU b g off) (.pointer (some ⟨ρ.L b g,off,none⟩))|loc {k g l base cap}:gH F ρ.G ρ.n (.slice .gx l) (.slice base l.length cap)->g<=ρ.ag k->ur ρ k g l base cap->jJ F ρ (.slice (.loc k g) l) (.slice base l.length cap)|xb {b g len cap}:g<=ρ.lg b->len<=cap->cap<=maxLen->jJ F ρ (.xb b g len cap) (.slice (some ⟨ρ.L b g,0,none⟩) len cap)
inductive gr (F:kD) (ρ:Maps):AV->Value->Prop
 |cell {x v}:jJ F ρ x v->gr F ρ x v|agg {cs vs}:gW (jJ F ρ) cs vs->(∀c∈cs,c.gA=true)->gr F ρ (.agg cs) (.agg vs.toArray)
structure w8 (F F':kD) (ρ ρ':Maps):Prop where
 g:G3 F F' ρ.G ρ'.G ρ.n ρ'.n
 lg:∀b,ρ.lg b<=ρ'.lg b
 L:∀b g,g<=ρ.lg b->ρ'.L b g=ρ.L b g
 ag:∀k,ρ.ag k<=ρ'.ag k
 A:∀k g,g<=ρ.ag k->ρ'.A k g=ρ.A k g
section
variable{F F':kD} {ρ ρ':Maps}
def jJ.grow(hg:w8 F F' ρ ρ'){x v}(h:jJ F ρ x v):jJ F' ρ' x v:=by
 cases h with
 |p h=>exact .p (h.grow hg.g)|hU h=>
  rename_i b g off;rw[<-hg.L b g h];exact .hU (GV h (hg.lg b))
 |loc d a c=>
  refine .loc (d.grow hg.g) (GV a (hg.ag _)) ?_;unfold ur;rw[hg.A _ _ a];exact c
 |xb h a c=>
  rename_i b g len cap;rw[<-hg.L b g h];exact .xb (GV h (hg.lg b)) a c
def gr.grow(hg:w8 F F' ρ ρ'){x v}(h:gr F ρ x v):gr F' ρ' x v:=by
 cases h with
 |cell h=>exact .cell (h.grow hg)|agg a b=>exact .agg (a.mono λ_ _ _ h=>h.grow hg) b
def gr.p{x v}(h:gH F ρ.G ρ.n x v):gr F ρ x v:=.cell (.p h)
end
def AV.j9:AV->AV
 |.slice _ l=>.slice .gx l|.hU _ _ _=>.undef|.xb _ _ _ _=>.undef|x=>x
def AV.norm:AV->AV
 |.agg cs=>.agg (cs.map AV.j9)|x=>x.j9
section
variable{F F':kD} {ρ ρ':Maps}
def gH.gx{G:Nat->Nat}{n:Nat}{tag l v}(h:gH F G n (.slice tag l) v):gH F G n (.slice .gx l) v:=by
 cases h with
 |slice a b c d f i j k=>exact .slice a b c d f i j (.inl rfl)
def gH.j9{G:Nat->Nat}{n:Nat}{x v}(h:gH F G n x v):gH F G n x.j9 v:=by
 cases x with
 |slice tag l=>exact h.gx|hU b g off=>cases h
 |xb b g len cap=>cases h
 |_=>exact h
def jJ.j9{x v}(h:jJ F ρ x v):gH F ρ.G ρ.n x.j9 v:=by
 cases h with
 |p h=>exact h.j9|hU h=>exact .undef rfl|loc a b c=>exact a|xb a b c=>exact .undef rfl
theorem AV.Gb(x:AV):x.j9.gA=x.gA:=by cases x<;>rfl
def gr.norm{x v}(h:gr F ρ x v):gH F ρ.G ρ.n x.norm v:=by
 have d:∀{cs:List AV} {vs:List Value},gW (jJ F ρ) cs vs->(∀c∈cs,c.gA=true)->gH F ρ.G ρ.n (AV.agg cs).norm (.agg vs.toArray):=by
  intro cs vs f i;refine .agg (gV.oQ (f.vZ AV.j9 λa b _ h=>h.j9)) ?_
  grind[AV.Gb]
 cases h with
 |agg f i=>grind|cell h=>
  cases x with
  |agg cs=>
   cases h with
   |p h=>
    cases h with
    |agg f i=>exact d (f.rP.mono λ_ _ _ h=>.p h) i
  |_=>exact h.j9
theorem gr.cells{x v}(h:gr F ρ x v)(d:∀vs,x≠ .tuple vs):gW (jJ F ρ) x.cells v.cells.toList:=by
 cases h with
 |agg a b=>exact a|cell h=>
  cases h with
  |p h=>exact(h.cells d).rP.mono λ_ _ _ h=>.p h|hU h=>exact .cons (.hU h) .nil|loc a b c=>exact .cons (.loc a b c) .nil|xb a b c=>exact .cons (.xb a b c) .nil
def jJ.L5{x v}(h:jJ F ρ x v)(a:x.gA=true):v.oneCell'=true:=by
 cases h with
 |p h=>exact h.L5 a|hU h=>rfl|loc b c d=>rfl|xb b c d=>rfl
def gr.rT{x v}(h:gr F ρ x v)(f:∀vs,x≠ .tuple vs):∀c∈x.cells,c.gA=true:=by
 cases h with
 |agg b a=>exact a|cell h=>
  cases h with
  |p h=>
   cases h with
   |agg b a=>exact a|tuple b=>grind|_=>simp[AV.cells,AV.gA]
  |hU h=>simp[AV.cells,AV.gA]|loc b a d=>simp[AV.cells,AV.gA]|xb b a d=>simp[AV.cells,AV.gA]
end
end Go.kY
namespace Go.kY
open Go
abbrev dT:=List (List AV)
abbrev eH:=Nat->Option AV
structure Fr where
 env:Nat->AV
 box:Nat->Option (List AV)
 gen:Nat->Nat
 qh:Nat->Option Nat
 e8:Nat->Nat
def gz{α:Type}(f:Nat->α)(i:Nat)(x:α):Nat->α:=λj=>if j=i then x else f j
def Fr.put(fr:Fr)(d:Option Nat)(x:AV):Fr:=
 match d with
 |some d=>{fr with env:=gz fr.env d x}|none=>fr
section
variable(P:Program)
def fP(t:TypeId):Option (Bool×Nat):=
 match P.underlying t,P.info? t with
 |some d,some i=>some (match d with|.struct _|.array _ _=>true|_=>false,i.size)
 |_,_=>none
def zeroOf(t:TypeId):Option Value:=(P.info? t).bind (·.zero)
def eW(t i:Nat):Option (Nat×TypeId):=
 match P.underlying t with
 |some (.struct fs)=>(fs[i]?).map λf=>(f.offset,f.type)|_=>none
def M_(t:TypeId):Option (Nat×TypeId):=
 match P.underlying t with
 |some (.array n e)=>some (n,e)|_=>none
def mm(t:TypeId)(cs:List AV)(off:Nat):Option AV:=
 match fP P t with
 |some (true,n)=>if off+n<=cs.length then some (.agg ((cs.drop off).take n))else none|some (false,_)=>cs[off]?|none=>none
def uk(t:TypeId)(x:AV):Bool:=
 match fP P t,x with
 |some (true,n),.agg cs=>cs.length==n|some (false,_),.agg _=>false|some (false,_),.tuple _=>false|some (false,_),.tU _ _=>false|some (false,_),.mu _ _ _=>false|some (false,_),_=>true|_,_=>false
end
def setCells(cs:List AV)(off:Nat)(new:List AV):List AV:=cs.take off++new++cs.drop (off+new.length)
def qm:Value->AV
 |.slice none 0 0=>.slice .full []|.func fn f c=>if f.size=0/\c.size=0 then .func fn [] [] else .undef|.agg _=>.undef|.tuple _=>.undef|v=>if yH v then .sc v else .undef
def ofValue:Value->AV
 |.agg cs=>.agg (cs.toList.map qm)|.tuple cs=>.tuple (cs.toList.map qm)|v=>qm v
def y':Value->Bool
 |.agg cs=>cs.all (·.oneCell')|.tuple cs=>cs.all (·.oneCell')|_=>true
def y0(v:Value):(qm v).gA=true:=by
 unfold qm
 split<;>first|rfl|(split<;>rfl)
def Gg(F:kD)(G:Nat->Nat)(n:Nat)(v:Value)(h:v.oneCell'=true):gH F G n (qm v) v:=by
 unfold qm
 split
 ·exact .slice (l:=[]) (vs:=[]) (b:=0) (o:=0) (sz:=0) .nil (λ_ _ h=>by simp at h) aaF aaF aaF aaF (by simp[maxLen]) (.inr ⟨rfl,rfl⟩)
 ·rename_i fn f c
  split
  ·rename_i hs;obtain⟨a,d⟩:=hs;have i:f=#[]:=acB a;have j:c=#[]:=acB d;subst i;subst j;exact .func (vf:=[]) (vc:=[]) .nil .nil
  ·exact .undef rfl
 ·simp[Value.oneCell'] at h
 ·simp[Value.oneCell'] at h
 ·split
  ·exact .sc (by assumption)
  ·exact .undef h
def qF(F:kD)(G:Nat->Nat)(n:Nat):∀(vs:List Value),(∀v∈vs,v.oneCell'=true)->gV F G n (vs.map qm) vs
 |[],_=>.nil|v::vs,h=>.cons (Gg F G n v (h v aaF)) (qF F G n vs λu hu=>h u (by simp[hu]))
def F8{v:Value}(h:v.oneCell'=true):ofValue v=qm v:=by
 cases v<;>first|rfl|(simp[Value.oneCell'] at h)
def yA(F:kD)(G:Nat->Nat)(n:Nat)(v:Value)(h:y' v=true):gH F G n (ofValue v) v:=by
 cases v with
 |agg cs=>
  have b:∀v∈cs.toList,v.oneCell'=true:=λv d=>by
   have f:cs.all (·.oneCell')=true:=h
   exact JH.1 f v (yf.1 d)
  exact .agg (vs:=cs.toList) (qF F G n cs.toList b) (by
   intro c i;obtain⟨a,_,rfl⟩:=qv.1 i
   exact y0 a)
 |tuple cs=>
  have b:∀v∈cs.toList,v.oneCell'=true:=λv d=>by
   have f:cs.all (·.oneCell')=true:=h
   exact JH.1 f v (yf.1 d)
  exact .tuple (vs:=cs.toList) (qF F G n cs.toList b)
 |_=>(rw[F8 rfl];exact Gg F G n _ rfl)
section
variable(T:eH) (fr:Fr)
def ev:Operand->AV
 |.tmp t=>fr.env t|.const v=>ofValue v|.global g=>match T g with|some x=>.mh x|none=>.undef
 |.func f=>.func (.func f) [] []
def ja:Operand->Bool
 |.const v=>y' v|_=>true
end
def tg(F:kD)(ρ:Maps)(fr:Fr)(a:Act):Prop:=∀t,gr F ρ (fr.env t) (a.tmps.getD t undef)
def yM(T:eH)(F:kD)(ρ:Maps):Prop:=∀g x,T g=some x->gH F ρ.G ρ.n (.mh x) (.pointer (some ⟨g,0,none⟩))
def gq{T:eH}{fr:Fr}{F:kD}{ρ:Maps}{a:Act}(he:tg F ρ fr a)(b:yM T F ρ)(x:Operand)(c:ja x=true):gr F ρ (ev T fr x) (a.eval x):=by
 cases x with
 |tmp t=>exact he t|const v=>exact .p (yA _ _ _ v c)|global g=>
  show gr F ρ (match T g with|some x=>.mh x|none=>.undef) _;cases h:T g with
  |none=>exact .p (.undef rfl)|some x=>exact .p (b g x h)
 |func f=>exact .p (.func (vf:=[]) (vc:=[]) .nil .nil)
def qq(op:BinOp)(k:IntKind)(a b:Int):Option Value:=
 match op with
 |.add=>some (.int k (k.wrap (a+b)))|.sub=>some (.int k (k.wrap (a-b)))|.mul=>some (.int k (k.wrap (a*b)))|.quo=>if b=0 then none else some (.int k (k.wrap (a.tdiv b)))|.rem=>if b=0 then none else some (.int k (a.tmod b))|.and=>some (.int k (k.wrap (BitVec.ofInt k.bits a&&&BitVec.ofInt k.bits b).toNat))|.or=>some (.int k (k.wrap (BitVec.ofInt k.bits a|||BitVec.ofInt k.bits b).toNat))|.xor=>some (.int k (k.wrap (BitVec.ofInt k.bits a^^^BitVec.ofInt k.bits b).toNat))|.andNot=>some (.int k (k.wrap (BitVec.ofInt k.bits a&&&~~~BitVec.ofInt k.bits b).toNat))|.eql=>some (.bool (a==b))|.neq=>some (.bool (a !=b))|.lss=>some (.bool (a<b))|.leq=>some (.bool (a<=b))|.gtr=>some (.bool (a>b))|.geq=>some (.bool (a>=b))|_=>none
def LR(op:BinOp)(x y:ByteArray):Option Value:=
 match op with
 |.add=>if((x.size+y.size:Nat):Int)>IntKind.i64.max then none else some (.string (x++y))|.eql=>some (.bool (x.toList==y.toList))|.neq=>some (.bool !(x.toList==y.toList))|.lss=>some (.bool (Op.bytesLess x.toList y.toList))|.leq=>some (.bool (Op.bytesLess x.toList y.toList||x.toList==y.toList))|.gtr=>some (.bool !(Op.bytesLess x.toList y.toList||x.toList==y.toList))|.geq=>some (.bool !(Op.bytesLess x.toList y.toList))|_=>none
def DH:AV->Bool
 |.mh _|.hU _ _ _|.eT _ _=>true|_=>false
def uj(P:Program)(op:BinOp)(t:TypeId)(x y:AV):Option AV:=
 match op,x,y with
 |.shl,.sc (.int k a),.sc (.int _ b)=>if b<0 then none else some (.sc (.int k (k.wrap (a*2^min b.toNat k.bits))))|.shr,.sc (.int k a),.sc (.int _ b)=>if b<0 then none else some (.sc (.int k (a.fdiv (2^min b.toNat k.bits))))|op,.sc (.int k a),.sc (.int k' b)=>if k=k' then(qq op k a b).map .sc else none|op,.sc (.string a),.sc (.string b)=>(LR op a b).map .sc|.eql,.sc (.bool a),.sc (.bool b)=>match P.underlying t with|some .bool=>some (.sc (.bool (a==b)))|_=>none
 |.neq,.sc (.bool a),.sc (.bool b)=>match P.underlying t with|some .bool=>some (.sc (.bool (!(a==b))))|_=>none
 |.eql,x,.sc (.pointer none)=>match P.underlying t with
  |some (.pointer _)=>if DH x then some (.sc (.bool false))else(match x with|.sc (.pointer none)=>some (.sc (.bool true))|_=>none)
  |_=>none
 |.neq,x,.sc (.pointer none)=>match P.underlying t with
  |some (.pointer _)=>if DH x then some (.sc (.bool true))else(match x with|.sc (.pointer none)=>some (.sc (.bool false))|_=>none)
  |_=>none
 |.eql,.func _ _ _,.sc .nilFunc=>match P.underlying t with|some (.func ..)=>some (.sc (.bool false))|_=>none
 |.neq,.func _ _ _,.sc .nilFunc=>match P.underlying t with|some (.func ..)=>some (.sc (.bool true))|_=>none
 |.eql,.sc .nilFunc,.sc .nilFunc=>match P.underlying t with|some (.func ..)=>some (.sc (.bool true))|_=>none
 |.neq,.sc .nilFunc,.sc .nilFunc=>match P.underlying t with|some (.func ..)=>some (.sc (.bool false))|_=>none
 |_,_,_=>none
def unA(op:UnOp)(x:AV):Option AV:=
 match op,x with
 |.neg,.sc (.int k n)=>some (.sc (.int k (k.wrap (0-n))))|.not,.sc (.bool b)=>some (.sc (.bool !b))|_,_=>none
def fV{F:kD}{ρ:Maps}{u v:Value}(h:gr F ρ (.sc u) v):v=u:=by
 cases h with
 |cell h=>cases h with|p h=>cases h;rfl
def Ii(P:Program)(w:World){op:BinOp}{k:IntKind}{a b:Int}{v:Value}(t:TypeId)(h:qq op k a b=some v):(binOp op t (.int k a) (.int k b)).run P w=.ok v w/\yH v=true:=by
 cases op<;>simp only[qq] at h<;>(try(split at h))<;>
  (first
   |(cases h;refine⟨?_,rfl⟩;simp[binOp,Op.intArith,Op.intBits,Op.intCmp,Op.intDiv, *])
   |cases h)
def H0(P:Program)(w:World){op:BinOp}{a b:ByteArray}{v:Value}(t:TypeId)(h:LR op a b=some v):(binOp op t (.string a) (.string b)).run P w=.ok v w/\yH v=true:=by
 cases op<;>simp only[LR] at h<;>(try(split at h))<;>
  (first
   |(cases h;refine⟨?_,rfl⟩;simp_all [binOp,Op.stringOp])
   |cases h)
def Fx{F:kD}{ρ:Maps}{x:AV}{v:Value}(b:DH x=true)(h:gr F ρ x v):∃a,v=.pointer (some a):=by
 cases h with
 |agg c d=>grind[DH]|cell h=>
  cases h with
  |hU h=>grind|loc c d f=>simp[DH] at b
  |xb c d f=>simp[DH] at b
  |p h=>cases h<;>first|(simp[DH] at b;done)|exact⟨_,rfl⟩
def yD{P:Program}{t e:TypeId}(h:P.underlying t=some (.pointer e)):P.underlying t=some (.pointer (P.pointee t)):=by
 simp[Program.pointee,h]
def Bt{F:kD}{ρ:Maps}{fn:Fn}{f c:List AV}{v:Value}(h:gr F ρ (.func fn f c) v):∃vf vc:List Value,v=.func fn vf.toArray vc.toArray/\gW (gH F ρ.G ρ.n) f vf/\gW (gH F ρ.G ρ.n) c vc:=by
 cases h with
 |cell h=>cases h with
  |p h=>cases h with|func a b=>exact⟨_,_,rfl,a.rP,b.rP⟩
def Q_(P:Program)(w:World){t:TypeId}{a rs:Array TypeId}{b:Bool}(hu:P.underlying t=some (.func a rs b))(fn:Fn)(f c:Array Value):(binOp .eql t (.func fn f c) .nilFunc).run P w=.ok (.bool false) w/\(binOp .neq t (.func fn f c) .nilFunc).run P w=.ok (.bool true) w:=by
 have h:∀d,(Op.equalIn (d+1) t (.func fn f c) .nilFunc).run P w=.ok false w:=λd=>by simp[Op.equalIn,run_underlying hu]
 have i:binOp .eql t (.func fn f c) .nilFunc=(do pure (.bool (<-Op.equalIn (9999+1) t (.func fn f c) .nilFunc))):=rfl;have j:binOp .neq t (.func fn f c) .nilFunc=(do pure (.bool (!(<-Op.equalIn (9999+1) t (.func fn f c) .nilFunc)))):=rfl;rw[i,j,hR,hR,h 9999];exact⟨rfl,rfl⟩
def Qz(P:Program)(w:World){t:TypeId}{a rs:Array TypeId}{b:Bool}(hu:P.underlying t=some (.func a rs b)):(binOp .eql t .nilFunc .nilFunc).run P w=.ok (.bool true) w/\(binOp .neq t .nilFunc .nilFunc).run P w=.ok (.bool false) w:=by
 have h:∀d,(Op.equalIn (d+1) t .nilFunc .nilFunc).run P w=.ok true w:=λd=>by simp[Op.equalIn,run_underlying hu]
 have c:binOp .eql t .nilFunc .nilFunc=(do pure (.bool (<-Op.equalIn (9999+1) t .nilFunc .nilFunc))):=rfl;have f:binOp .neq t .nilFunc .nilFunc=(do pure (.bool (!(<-Op.equalIn (9999+1) t .nilFunc .nilFunc)))):=rfl;rw[c,f,hR,hR,h 9999];exact⟨rfl,rfl⟩
def L6:Value->Bool
 |.nilIface=>false|.agg _=>false|_=>true
def MG(P:Program)(w:World)(op:BinOp)(t:TypeId)(x y:Operand){u v:Value}(h:L6 u=true):(eqGuard op t x y u v).run P w=.ok () w:=by
 cases u<;>first|(simp[L6] at h;done)|(cases op<;>rfl)
def RV(P:Program)(w:World){F:kD}{ρ:Maps}{op:BinOp}{t:TypeId}{x y r:AV}{u v:Value}(h:uj P op t x y=some r)
  (b:gr F ρ x u) (c:gr F ρ y v):∃z,(binOp op t u v).run P w=.ok z w/\r=.sc z/\yH z=true/\L6 u=true:=by
 unfold uj at h
 split at h
 ·cases fV b;cases fV c
  split at h
  ·cases h
  ·rename_i d;cases h;exact⟨_,by simp[binOp,Op.shift,d],rfl,rfl,rfl⟩
 ·cases fV b;cases fV c
  split at h
  ·cases h
  ·rename_i d;cases h;exact⟨_,by simp[binOp,Op.shift,d],rfl,rfl,rfl⟩
 ·cases fV b;cases fV c
  split at h
  ·rename_i i;subst i;cases hi:qq op _ _ _ with
   |none=>rw[hi] at h;cases h
   |some z=>
    rw[hi] at h;cases h;exact⟨z,(Ii P w t hi).1,rfl,(Ii P w t hi).2,rfl⟩
  ·cases h
 ·cases fV b;cases fV c;cases hi:LR op _ _ with
  |none=>rw[hi] at h;cases h
  |some z=>
   rw[hi] at h;cases h;exact⟨z,(H0 P w t hi).1,rfl,(H0 P w t hi).2,rfl⟩
 ·cases fV b;cases fV c
  split at h
  ·rename_i hu;cases h;exact⟨_,run_eql_bool w t _ _ hu,rfl,rfl,rfl⟩
  ·cases h
 ·cases fV b;cases fV c
  split at h
  ·rename_i hu;cases h;exact⟨_,run_neq_bool w t _ _ hu,rfl,rfl,rfl⟩
  ·cases h
 ·cases fV c
  split at h
  ·rename_i hu
   split at h
   ·rename_i f;obtain⟨a,rfl⟩:=Fx f b;cases h;exact⟨_,run_eql_pointer_nil w t _ (yD hu),aaF,rfl,rfl⟩
   ·split at h
    ·cases fV b;cases h;exact⟨_,run_eql_pointer_nil w t _ (yD hu),aaF,rfl,rfl⟩
    ·cases h
  ·cases h
 ·cases fV c
  split at h
  ·rename_i hu
   split at h
   ·rename_i f;obtain⟨a,rfl⟩:=Fx f b;cases h;exact⟨_,run_neq_pointer_nil w t _ (yD hu),aaF,rfl,rfl⟩
   ·split at h
    ·cases fV b;cases h;exact⟨_,run_neq_pointer_nil w t _ (yD hu),aaF,rfl,rfl⟩
    ·cases h
  ·cases h
 ·cases fV c;obtain⟨vf,vc,rfl,_,_⟩:=Bt b
  split at h
  ·rename_i hu;cases h;exact⟨.bool false,(Q_ P w hu _ _ _).1,rfl,rfl,rfl⟩
  ·cases h
 ·cases fV c;obtain⟨vf,vc,rfl,_,_⟩:=Bt b
  split at h
  ·rename_i hu;cases h;exact⟨.bool true,(Q_ P w hu _ _ _).2,rfl,rfl,rfl⟩
  ·cases h
 ·cases fV b;cases fV c
  split at h
  ·rename_i hu;cases h;exact⟨.bool true,(Qz P w hu).1,rfl,rfl,rfl⟩
  ·cases h
 ·cases fV b;cases fV c
  split at h
  ·rename_i hu;cases h;exact⟨.bool false,(Qz P w hu).2,rfl,rfl,rfl⟩
  ·cases h
 ·cases h
end Go.kY
namespace Go.kY
open Go
def n8{l:List AV}{sz:Nat}(h:∀x∈l,x.cells.length=sz):(l.flatMap AV.cells).length=l.length*sz:=by
 induction l with
 |nil=>simp|cons x l ih=>grind
def Ei{l:List AV}{sz:Nat}(h:∀x∈l,x.cells.length=sz)(n:Nat):(l.take n).flatMap AV.cells=(l.flatMap AV.cells).take (n*sz):=by
 induction l generalizing n with
 |nil=>simp|cons x l ih=>
  cases n with
  |zero=>simp|succ n=>
   have a:=h x aaF
   rw[List.take_succ_cons,I1,I1,ih (λy b=>h y (by simp[b])),CL,X6,List.take_append,a,List.take_of_length_le (l:=x.cells) VW,ab9]
def yZ{l:List AV}{sz:Nat}(h:∀x∈l,x.cells.length=sz)(n:Nat):(l.drop n).flatMap AV.cells=(l.flatMap AV.cells).drop (n*sz):=by
 induction l generalizing n with
 |nil=>simp|cons x l ih=>
  cases n with
  |zero=>simp|succ n=>
   have a:=h x aaF
   rw[List.drop_succ_cons,I1,ih (λy b=>h y (by simp[b])),CL,X6,aa8,a,MH (as:=x.cells) VW,ab9,qc]
def ME{l:List AV}{sz:Nat}(h:∀x∈l,x.cells.length=sz){i:Nat}{x:AV}(hi:l[i]?=some x):((l.flatMap AV.cells).drop (i*sz)).take sz=x.cells:=by
 have b:=yZ h i;have a:i<l.length:=(ua.1 hi).1
 have c:l.drop i=x::l.drop (i+1):=by
  have:=NI a
  grind
 grind
def kD.has.drop{F:kD}{b o:Nat}{vs:List Value}(h:F.has b o vs)(n:Nat):F.has b (o+n) (vs.drop n):=by
 intro i v a;rw[R2] at a;have:=h _ v a
 grind
def kD.has.take{F:kD}{b o:Nat}{vs:List Value}(h:F.has b o vs)(n:Nat):F.has b o (vs.take n):=by
 intro i v a;rw[OS] at a
 split at a
 ·exact h i v a
 ·cases a
section
variable{F:kD} {G:Nat->Nat} {n:Nat}
def gV.drop{xs vs}(h:gV F G n xs vs)(k:Nat):gV F G n (xs.drop k) (vs.drop k):=.oQ (h.rP.drop k)
def gV.take{xs vs}(h:gV F G n xs vs)(k:Nat):gV F G n (xs.take k) (vs.take k):=.oQ (h.rP.take k)
def gV.get{xs vs}(h:gV F G n xs vs){i:Nat}{x:AV}(a:xs[i]?=some x):∃v,vs[i]?=some v/\gH F G n x v:=h.rP.get a
def gV.length{xs vs}(h:gV F G n xs vs):xs.length=vs.length:=h.rP.length
def gV.append{xs vs a vs'}(h:gV F G n xs vs)(b:gV F G n a vs'):gV F G n (xs++a) (vs++vs'):=.oQ (h.rP.append b.rP)
end
def AV.Bi{x:AV}(h:x.gA=true):x.cells=[x]:=by cases x<;>first|rfl|(simp[AV.gA] at h)
section
variable{P:Program}
def Gq{t:TypeId}{b:Bool}{n:Nat}(h:fP P t=some (b,n)):∃d i,P.underlying t=some d/\P.info? t=some i/\i.size=n/\(match d with|.struct _|.array _ _=>true|_=>false)=b:=by grind[fP]
def ky{t:TypeId}{b:Bool}{n:Nat}(h:fP P t=some (b,n))(w:World):(sizeOf t).run P w=.ok n w:=by
 obtain⟨d,i,a,hi,hn,_⟩:=Gq h;simp[sizeOf,typeInfo,hi,hn]
def yC{t:TypeId}{b:Bool}{n:Nat}(h:fP P t=some (b,n))(w:World):(isAgg t).run P w=.ok b w:=by
 obtain⟨d,i,a,hi,hn,c⟩:=Gq h;subst c;unfold isAgg;rw[hR,run_underlying a];cases d<;>rfl
def AP{t:TypeId}{cs:List AV}{off:Nat}{z:AV}(h:mm P t cs off=some z):(∃k,fP P t=some (true,k)/\off+k<=cs.length/\z=.agg ((cs.drop off).take k))\/(∃k,fP P t=some (false,k)/\cs[off]?=some z):=by grind[mm]
def zl{t:TypeId}{k:Nat}(h:fP P t=some (true,k))(w:World)(a:Addr)(vs:List Value)(b:vs.length=k)
  (c:∀j v,vs[j]?=some v->w.cell? (a.add j)=some v):(loadVar t a).run P w=.ok (.agg vs.toArray) w:=by
 unfold loadVar;rw[hR,yC h];simp only[j1,if_true];rw[hR,ky h,j1,hR,<-b,run_loadCells_list w a vs c];rfl
def zx{t:TypeId}{k:Nat}(h:fP P t=some (false,k))(w:World)(a:Addr)(v:Value)(b:w.cell? a=some v):(loadVar t a).run P w=.ok v w:=by
 unfold loadVar;rw[hR,yC h]
 simp_all
end
def sP(P:Program)(t:TypeId)(x:AV)(i:Nat):Option AV:=
 match eW P t i with
 |none=>none|some (off,a)=>
  match fP P a with
  |none=>none|some (_,n)=>
   if n=0 then none else
   match x with
   |.hU b g o=>some (.hU b g (o+off))|.eT o f=>some (.eT o (f+off))|.mh y=>(mm P a y.cells off).map .mh|_=>none
def CG(P:Program)(t:TypeId)(x:AV)(i:Nat):Option AV:=
 match eW P t i,x with
 |some (off,a),.agg cs=>mm P a cs off|_,_=>none
def gw(P:Program)(t:TypeId)(x i:AV):Option AV:=
 match i with
 |.sc (.int _ n)=>
  match P.underlying t,x with
  |some (.slice e),.slice _ l=>
   if 0<=n then
    match l[n.toNat]?,fP P e with
    |some y,some (_,sz)=>if y.cells.length=sz then some (.mh y)else none|_,_=>none
   else none
  |some (.slice e),.xb b g len _=>
   match fP P e with
   |some (_,sz)=>if 0<=n/\n<len then some (.hU b g (n.toNat*sz))else none|none=>none
  |some (.slice e),.zy b off len _=>
   match fP P e with
   |some (_,sz)=>if 0<=n/\n<len then some (.eT b (off+n.toNat*sz))else none|none=>none
  |some (.array len e),.hU b g o=>
   match fP P e with
   |some (_,sz)=>if 0<=n/\n<len then some (.hU b g (o+n.toNat*sz))else none|none=>none
  |some (.array len e),.eT a o=>
   match fP P e with
   |some (_,sz)=>if 0<=n/\n<len then some (.eT a (o+n.toNat*sz))else none|none=>none
  |some (.array len e),.mh y=>
   match fP P e with
   |some (_,sz)=>if 0<=n/\n<len then(mm P e y.cells (n.toNat*sz)).map .mh else none|none=>none
  |_,_=>none
 |_=>none
def OL(P:Program)(t:TypeId)(x i:AV):Option AV:=
 match i with
 |.sc (.int _ n)=>
  match P.underlying t,x with
  |some .string,.sc (.string s)=>if 0<=n then(s[n.toNat]?).map λb=>.sc (.int .u8 b.toNat)else none|some (.array len e),.agg cs=>
   match fP P e with
   |some (_,sz)=>if 0<=n/\n<len then mm P e cs (n.toNat*sz)else none|none=>none
  |_,_=>none
 |_=>none
section
variable{P:Program} {F:kD} {ρ:Maps}
def DF{cs:List AV}{v:Value}(h:gr F ρ (.agg cs) v):∃vs:List Value,v=.agg vs.toArray/\gW (jJ F ρ) cs vs/\∀c∈cs,c.gA=true:=by
 cases h with
 |agg a b=>grind|cell h=>cases h with
  |p h=>cases h with|agg a b=>exact⟨_,rfl,a.rP.mono λ_ _ _ h=>.p h,b⟩
def Pv{cs:List AV}{v:Value}(h:gr F ρ (.tuple cs) v):∃vs:List Value,v=.tuple vs.toArray/\gW (gH F ρ.G ρ.n) cs vs:=by
 cases h with
 |cell h=>cases h with
  |p h=>cases h with|tuple a=>exact⟨_,rfl,a.rP⟩
def vb{b g off:Nat}{v:Value}(h:gr F ρ (.hU b g off) v):v=.pointer (some ⟨ρ.L b g,off,none⟩)/\g<=ρ.lg b:=by
 cases h with
 |cell h=>cases h with
  |p h=>cases h
  |hU h=>grind
def vg{o off:Nat}{v:Value}(h:gr F ρ (.eT o off) v):v=.pointer (some ⟨ρ.G o,off,none⟩)/\o<ρ.n:=by
 cases h with
 |cell h=>cases h with
  |p h=>cases h with|eT h=>exact⟨rfl,h⟩
def Fy{x:AV}{v:Value}(h:gr F ρ (.mh x) v):∃b o vs,v=.pointer (some ⟨b,o,none⟩)/\gV F ρ.G ρ.n x.cells vs/\F.has b o vs/\∀c∈x.cells,c.gA=true:=by
 cases h with
 |cell h=>cases h with
  |p h=>cases h with|mh a d f=>exact⟨_,_,_,rfl,a,d,f⟩
def AK{b g len cap:Nat}{v:Value}(h:gr F ρ (.xb b g len cap) v):v=.slice (some ⟨ρ.L b g,0,none⟩) len cap/\g<=ρ.lg b/\len<=cap/\cap<=maxLen:=by
 cases h with
 |cell h=>cases h with
  |p h=>cases h
  |xb a c d=>grind
def HO{o off len cap:Nat}{v:Value}(h:gr F ρ (.zy o off len cap) v):v=.slice (some ⟨ρ.G o,off,none⟩) len cap/\o<ρ.n/\len<=cap/\cap<=maxLen:=by
 cases h with
 |cell h=>cases h with
  |p h=>cases h with|zy a b c=>exact⟨rfl,a,b,c⟩
structure X9 (F:kD) (ρ:Maps) (l:List AV) (base:Option Addr) (cap b o sz:Nat) (vs:List Value):Prop where
 cells:gV F ρ.G ρ.n (l.flatMap AV.cells) vs
 has:F.has b o vs
 base:l≠[]->base=some ⟨b,o,none⟩
 sz:∀x∈l,x.cells.length=sz
 rT:∀c∈l.flatMap AV.cells,c.gA=true
 BL:l.length<=cap
 Ez:cap<=maxLen
def gH.Kt{G:Nat->Nat}{n:Nat}{tag:Tag}{l:List AV}{v:Value}(h:gH F G n (.slice tag l) v):∃base cap b o sz vs,v=.slice base l.length cap/\gV F G n (l.flatMap AV.cells) vs/\F.has b o vs/\(l≠[]->base=some ⟨b,o,none⟩)/\(∀x∈l,x.cells.length=sz)/\(∀c∈l.flatMap AV.cells,c.gA=true)/\l.length<=cap/\cap<=maxLen/\(tag=.gx\/tag=.full/\cap=l.length):=by
 cases h with|slice a d f i j k q r=>exact⟨_,_,_,_,_,_,rfl,a,d,f,i,j,k,q,r⟩
def nu{tag:Tag}{l:List AV}{v:Value}(h:gr F ρ (.slice tag l) v):∃base cap b o sz vs,v=.slice base l.length cap/\X9 F ρ l base cap b o sz vs/\(tag=.full->cap=l.length)/\(∀k g,tag=.loc k g->g<=ρ.ag k/\ur ρ k g l base cap):=by
 cases h with
 |cell h=>cases h with
  |p h=>
   obtain⟨base,cap,b,o,sz,vs,rfl,a,q,r,c,d,f,i,s⟩:=h.Kt;refine⟨base,cap,b,o,sz,vs,rfl,⟨a,q,r,c,d,f,i⟩,?_,?_⟩
   all_goals grind
  |loc a q r=>
   obtain⟨base,cap,b,o,sz,vs,he,a,j,n,c,d,f,i,s⟩:=a.Kt;injection he with t w u;subst t;subst u;refine⟨_,_,b,o,sz,vs,rfl,⟨a,j,n,c,d,f,i⟩,(by intro h;cases h),?_⟩
   grind
def Kn{G:Nat->Nat}{n:Nat}{cs:List AV}{vs:List Value}{b o:Nat}{t:TypeId}{off:Nat}{z:AV}(f:gV F G n cs vs)(h:F.has b o vs)(j:∀c∈cs,c.gA=true)
  (l:mm P t cs off=some z):gH F G n (.mh z) (.pointer (some ⟨b,o+off,none⟩)):=by
 rcases AP l with⟨k,q,hle,rfl⟩|⟨k,q,d⟩
 ·exact .mh ((f.drop off).take k) ((h.drop off).take k) (λc d=>j c (Ij (CZ d)))
 ·obtain⟨v,r,s⟩:=f.get d;have a:=j z (IN d);refine .mh (vs:=[v]) (by rw[AV.Bi a];exact .cons s .nil) ?_ (by rw[AV.Bi a];simpa using a);intro i u hu;cases i with
  |zero=>simp at hu;subst hu;exact h off _ r
  |succ i=>simp at hu
def J2(w:World){t:TypeId}{x r:AV}{u:Value}{i:Nat}(h:sP P t x i=some r)(c:gr F ρ x u):∃v,(Instr.fieldAt t u i).run P w=.ok v w/\gr F ρ r v:=by
 unfold sP at h
 split at h
 ·cases h
 ·rename_i off k B
  split at h
  ·cases h
  ·rename_i agg n l
   split at h
   ·cases h
   ·rename_i hn
    have a:∃fs f,P.underlying t=some (.struct fs)/\fs[i]?=some f/\f.offset=off/\f.type=k:=by grind[eW]
    obtain⟨fs,f,hu,d,rfl,rfl⟩:=a
    have key:∀b o:Nat,(Instr.fieldAt t (.pointer (some ⟨b,o,none⟩)) i).run P w=.ok (.pointer (some ⟨b,o+f.offset,none⟩)) w:=by
     intro b o;unfold Instr.fieldAt;rw[hR,run_underlying hu,j1];simp only[d,Instr.sureAddr,hR,pn,j1,fieldPlace,ky l,hn,lG,Addr.add_lit]
    split at h
    ·rename_i b g o;cases h;obtain⟨rfl,hg⟩:=vb c;exact⟨_,key _ _,.cell (.hU hg)⟩
    ·rename_i o C;cases h;obtain⟨rfl,hg⟩:=vg c;exact⟨_,key _ _,.p (.eT hg)⟩
    ·rename_i y;obtain⟨b,o,vs,rfl,q,s,A⟩:=Fy c;cases j:mm P f.type y.cells f.offset with
     |none=>rw[j] at h;cases h
     |some z=>
      rw[j] at h;cases h;exact⟨_,key _ _,.p (Kn q s A j)⟩
    ·cases h
def Ey(w:World){t:TypeId}{cs:List AV}{vs:List Value}{off:Nat}{z:AV}(d:gW (jJ F ρ) cs vs)(f:∀c∈cs,c.gA=true)(h:mm P t cs off=some z):∃v,(part t vs.toArray off).run P w=.ok v w/\gr F ρ z v:=by
 rcases AP h with⟨k,a,hle,rfl⟩|⟨k,a,b⟩
 ·refine⟨.agg ((vs.drop off).take k).toArray,?_,.agg ((d.drop off).take k) (λc b=>f c (Ij (CZ b)))⟩;unfold part;rw[hR,yC a];simp only[j1,if_true,hR,ky a,pn]
  grind
 ·obtain⟨v,i,j⟩:=d.get b;refine⟨v,?_,.cell j⟩;unfold part;rw[hR,yC a];simp[i]
def Sn(w:World){t:TypeId}{x r:AV}{u:Value}{i:Nat}(h:CG P t x i=some r)(c:gr F ρ x u):∃v,(Instr.field t u i).run P w=.ok v w/\gr F ρ r v:=by
 unfold CG at h
 split at h
 ·rename_i off d cs o;obtain⟨vs,rfl,j,k⟩:=DF c
  have a:∃fs f,P.underlying t=some (.struct fs)/\fs[i]?=some f/\f.offset=off/\f.type=d:=by grind[eW]
  obtain⟨fs,f,hu,b,rfl,rfl⟩:=a;obtain⟨v,l,n⟩:=Ey w j k h;refine⟨v,?_,n⟩;unfold Instr.field;rw[hR,run_underlying hu];simp only[b,asAgg,hR,pn,j1,l]
 ·cases h
def J5(w:World){t:TypeId}{x i r:AV}{u j:Value}(h:gw P t x i=some r)(q:gr F ρ x u)(hi:gr F ρ i j):∃v,(Instr.indexAt t u j).run P w=.ok v w/\gr F ρ r v:=by
 unfold gw at h
 split at h
 ·rename_i k n;cases fV hi
  split at h
  ·rename_i e tag l hu
   split at h
   ·rename_i hn
    split at h
    ·rename_i y agg sz A a
     split at h
     ·rename_i B;cases h;obtain⟨base,cap,b,o,d,vs,rfl,hs,_,_⟩:=nu q;have C:n.toNat<l.length:=(ua.1 A).1
      have D:l≠[]:=by rintro rfl;simp at C
      have f:=IN A
      have s:d=sz:=by rw[<-hs.sz y f,B]
      subst s;rw[hs.base D];refine⟨.pointer (some ⟨b,o+n.toNat*d,none⟩),?_,.p (.mh (vs:=(vs.drop (n.toNat*d)).take d) ?_ ?_ ?_)⟩
      ·unfold Instr.indexAt;simp only[asIntOf,hR,pn,j1,run_underlying hu];rw[dO ⟨hn,VW⟩];simp only[hR,pn,j1,ky a,Addr.add_lit]
      ·rw[<-ME hs.sz A];exact(hs.cells.drop _).take _
      ·exact(hs.has.drop _).take _
      ·intro c I;exact hs.rT c (YY.2 ⟨y,f,I⟩)
     ·cases h
    ·cases h
   ·cases h
  ·rename_i e b g len cap hu
   split at h
   ·rename_i agg sz a
    split at h
    ·rename_i hn;cases h;obtain⟨rfl,hg,_,_⟩:=AK q;refine⟨.pointer (some ⟨ρ.L b g,n.toNat*sz,none⟩),?_,.cell (.hU hg)⟩;unfold Instr.indexAt;simp only[asIntOf,hR,pn,j1,run_underlying hu];rw[dO ⟨hn.1,VW⟩];simp only[hR,pn,j1,ky a,Addr.add_lit,xH]
    ·cases h
   ·cases h
  ·rename_i e b off len cap hu
   split at h
   ·rename_i agg sz a
    split at h
    ·rename_i hn;cases h;obtain⟨rfl,hg,_,_⟩:=HO q;refine⟨.pointer (some ⟨ρ.G b,off+n.toNat*sz,none⟩),?_,.p (.eT hg)⟩;unfold Instr.indexAt;simp only[asIntOf,hR,pn,j1,run_underlying hu];rw[dO ⟨hn.1,VW⟩];simp only[hR,pn,j1,ky a,Addr.add_lit]
    ·cases h
   ·cases h
  ·rename_i len e b g o hu
   split at h
   ·rename_i agg sz a
    split at h
    ·rename_i hn;cases h;obtain⟨rfl,hg⟩:=vb q;refine⟨.pointer (some ⟨ρ.L b g,o+n.toNat*sz,none⟩),?_,.cell (.hU hg)⟩;unfold Instr.indexAt;simp only[asIntOf,Instr.sureAddr,hR,pn,j1,run_underlying hu];rw[dO hn];simp only[hR,pn,j1,ky a,Addr.add_lit]
    ·cases h
   ·cases h
  ·rename_i len e J o hu
   split at h
   ·rename_i agg sz a
    split at h
    ·rename_i hn;cases h;obtain⟨rfl,hg⟩:=vg q;refine⟨.pointer (some ⟨ρ.G J,o+n.toNat*sz,none⟩),?_,.p (.eT hg)⟩;unfold Instr.indexAt;simp only[asIntOf,Instr.sureAddr,hR,pn,j1,run_underlying hu];rw[dO hn];simp only[hR,pn,j1,ky a,Addr.add_lit]
    ·cases h
   ·cases h
  ·rename_i len e y hu
   split at h
   ·rename_i agg sz a
    split at h
    ·rename_i hn;obtain⟨b,o,vs,rfl,K,M,N⟩:=Fy q;cases H:mm P e y.cells (n.toNat*sz)with
     |none=>rw[H] at h;cases h
     |some z=>
      rw[H] at h;cases h;refine⟨.pointer (some ⟨b,o+n.toNat*sz,none⟩),?_,.p (Kn K M N H)⟩;unfold Instr.indexAt;simp only[asIntOf,Instr.sureAddr,hR,pn,j1,run_underlying hu];rw[dO hn];simp only[hR,pn,j1,ky a,Addr.add_lit]
    ·cases h
   ·cases h
  ·cases h
 ·cases h
def SH(w:World){t:TypeId}{x i r:AV}{u j:Value}(h:OL P t x i=some r)(c:gr F ρ x u)(hi:gr F ρ i j):∃v,(Instr.index t u j).run P w=.ok v w/\gr F ρ r v:=by
 unfold OL at h
 split at h
 ·rename_i k n;cases fV hi
  split at h
  ·rename_i s hu;cases fV c
   split at h
   ·rename_i hn;cases a:s[n.toNat]?with
    |none=>rw[a] at h;cases h
    |some b=>
     rw[a] at h;cases h;refine⟨.int .u8 b.toNat,?_,.p (.sc rfl)⟩;unfold Instr.index;simp[asIntOf,run_underlying hu,hn,a]
   ·cases h
  ·rename_i len e cs hu
   split at h
   ·rename_i agg sz d
    split at h
    ·rename_i hn;obtain⟨vs,rfl,f,l⟩:=DF c;obtain⟨v,o,q⟩:=Ey w f l h;refine⟨v,?_,q⟩;unfold Instr.index;simp only[asIntOf,hR,pn,j1,run_underlying hu];rw[dO hn];simp only[hR,ky d,j1,o]
    ·cases h
   ·cases h
  ·cases h
 ·cases h
end
end Go.kY
