/- Part of the proof of KernelLifts, KernelPuts, KernelCuts: layer. -/
import Derived.Test.YtobcafblgapgfaaGreatDoorL7
set_option linter.all false
namespace Go.tq
open Go Go.eD
def Kc(P:Program)(t:TypeId)(s x:AV)(d:Nat)(K:Fr->dM->Prop)(fr:Fr)(H:dM):Prop:=
 match zb P t,s,x with
 |some (_,sz),.slice tag l,.slice _ m=>
  ui sz l=true/\ui sz m=true/\l.length+m.length<=uM/\(if xP fr tag l then K (grown fr d tag l m) H else m=[]/\K (fr.put (some d) (.slice .pw l)) H)
 |_,_,_=>False
def PF{P:Program}{T:fx}{x y:Operand}{t d:Nat}{K:Fr->dM->Prop}{fr:Fr}{H:dM}:uU P T {callee:=.builtin .append,args:=#[x,y],argTypes:=#[t,t]} (some d) K fr H=Kc P t (ev T fr x) (ev T fr y) d K fr H:=by
 unfold uU Kc;simp only;cases zb P t with
 |none=>rfl|some p=>grind[ev]
def WC(P:Program)(t:TypeId)(s x:AV)(d:Nat)(K:Fr->dM->Prop)(fr:Fr)(H:dM):Prop:=
 match zb P t,x with
 |some (e,sz),.slice _ m=>
  ui sz m=true/\(q_ P e).isSome=true/\0<m.length/\match s with
  |.slice .full l=>ui sz l=true/\l.length+m.length<=uM/\∀cap,l.length+m.length<=cap->K (HP fr d (l.flatMap AV.cells++m.flatMap AV.cells++NF ((cap-(l.length+m.length))*sz)) (l.length+m.length) cap) H|.FZ b g len cap=>g=fr.gen b/\len+m.length<=uM/\match fr.box b with
   |some cs=>cs.length=cap*sz/\(len+m.length<=cap->K {fr with env:=kQ fr.env d (.FZ b g (len+m.length) cap),box:=kQ fr.box b (some (setCells cs (len*sz) (m.flatMap AV.cells)))} H)/\(∀a,cap<len+m.length->len+m.length<=a->K (HP fr d (cs.take (len*sz)++m.flatMap AV.cells++NF ((a-(len+m.length))*sz)) (len+m.length) a) H)|none=>False
  |_=>False
 |_,_=>False
def UB{P:Program}{T:fx}{x y:Operand}{t d:Nat}{K:Fr->dM->Prop}{fr:Fr}{H:dM}:Mg P T {callee:=.builtin .append,args:=#[x,y],argTypes:=#[t,t]} (some d) K fr H=WC P t (ev T fr x) (ev T fr y) d K fr H:=by
 unfold Mg WC;simp only;cases zb P t with
 |none=>rfl|some p=>grind[ev]
def Bf(P:Program)(t:TypeId)(s x:AV)(d:Nat)(K:Fr->dM->Prop)(fr:Fr)(H:dM):Prop:=Kc P t s x d K fr H\/WC P t s x d K fr H
def Se{P:Program}{T:fx}{x y:Operand}{t d:Nat}{K:Fr->dM->Prop}{fr:Fr}{H:dM}:Lo P T {callee:=.builtin .append,args:=#[x,y],argTypes:=#[t,t]} (some d) K fr H=False:=by
 refine propext ⟨λh=>?_,False.elim⟩;unfold Lo at h;simp only at h
 split at h
 ·rename_i a b _ _;obtain⟨_,_,hu,_⟩:=xf a
  grind
 ·exact h
def kG(CX:Nat->Option Nat)(gN:Nat->Nat)(D:List Nat)(tag:Tag)(n:Nat):Prop:=
 tag=.full\/∃k g,k∈D/\tag=.loc k g/\g=gN k/\CX k=some n
def kG.full{CX:Nat->Option Nat}{gN:Nat->Nat}{D:List Nat}{n:Nat}:kG CX gN D .full n:=.inl rfl
def kG.new{CX:Nat->Option Nat}{gN:Nat->Nat}{D:List Nat}{n d:Nat}(h:d∈D):kG (kQ CX d (some n)) (kQ gN d (gN d+1)) D (.loc d (gN d+1)) n:=
 .inr ⟨d,_,h,rfl,by simp[kQ],by simp[kQ]⟩
def kG.other{CX:Nat->Option Nat}{gN:Nat->Nat}{D D':List Nat}{tag a:Tag}{n n' d:Nat}{x:Option Nat}{y:Nat}(h:kG CX gN D tag n)(i:kG CX gN D' a n')
  (j:∀k,k∈D->k∉D') (l:d∉D):kG (kQ (Dy a CX) d x) (kQ gN d y) D tag n:=by
 rcases h with h|⟨k,g,b,m,o,f⟩
 ·exact .inl h
 ·refine .inr ⟨k,g,b,m,?_,?_⟩
  ·grind[kQ]
  ·have c:k≠d:=by rintro rfl;exact l b
   simp only[kQ,c];rcases i with rfl|⟨k',p,e,rfl,_,_⟩
   ·exact f
   ·have:k≠k':=by rintro rfl;exact j k b e
    simp[Dy,kQ,this,f]
def kG.can{fr:Fr}{D:List Nat}{tag:Tag}{l:List AV}{n:Nat}(h:kG fr.CX fr.gN D tag n)(hn:n=l.length):xP fr tag l=true:=by
 rcases h with rfl|⟨k,g,_,rfl,a,b⟩
 all_goals grind[xP]
def Kc.own{P:Program}{t e sz d:Nat}{s x:AV}{K:Fr->dM->Prop}{fr:Fr}{H:dM}{α:Type}{f:α->AV}(l m:List α){D:List Nat}{tag b:Tag}
  (h:kG fr.CX fr.gN D tag l.length) (g:zb P t=some (e,sz)) (i:∀x,(f x).cells.length=sz) (hlen:eZ l m=true) (hs:s=.slice tag (l.map f)) (j:x=.slice b (m.map f))
  (n:K {fr with env:=kQ fr.env d (.slice (.loc d (fr.gN d+1)) ((fK l m).map f)),CX:=kQ (Dy tag fr.CX) d (some (fK l m).length),gN:=kQ fr.gN d (fr.gN d+1)} H):Kc P t s x d K fr H:=by
 subst hs;subst j;have k:=SX hlen
 have c:∀l:List α,ui sz (l.map f)=true:=λl=>by cases l with|nil=>rfl|cons a l=>simp[ui,i]
 unfold Kc;rw[g];refine⟨c l,c m,by simpa[uM,m0] using k,?_⟩;rw[cL (h.can aae)]
 grind[fK,grown]
def Bf.own{P:Program}{t e sz d:Nat}{s x:AV}{K:Fr->dM->Prop}{fr:Fr}{H:dM}{α:Type}{f:α->AV}(l m:List α){D:List Nat}{tag a:Tag}
  (h:kG fr.CX fr.gN D tag l.length) (b:zb P t=some (e,sz)) (c:∀x,(f x).cells.length=sz) (hlen:eZ l m=true) (hs:s=.slice tag (l.map f)) (g:x=.slice a (m.map f))
  (i:K {fr with env:=kQ fr.env d (.slice (.loc d (fr.gN d+1)) ((fK l m).map f)),CX:=kQ (Dy tag fr.CX) d (some (fK l m).length),gN:=kQ fr.gN d (fr.gN d+1)} H):Bf P t s x d K fr H:=
 .inl (Kc.own l m h b c hlen hs g i)
def sM(P:Program)(T:fx)(E:List Nat)(ops:Array Oper)(a:AV)(as:List AV)(d:Option Nat)(rest:List Oper)(K:Fr->dM->Prop)(fr:Fr)(H:dM):Prop:=
 BL P T a as H λr H'=>mZ P T E ops rest K (fr.put d r) H'
def LA(P:Program)(T:fx)(E:List Nat)(ops:Array Oper)(q:Bool)(a:AV)(as:List AV)(d:Option Nat)(rest:List Oper)(K:Fr->dM->Prop)(fr:Fr)(H:dM):Prop:=
 ∃r H',yt P T a as H r H'/\(q=true->H'=H)/\Bh P T E ops q rest K (fr.put d r) H'
section
variable{P:Program} {T:fx} {E:List Nat} {ops:Array Oper} {q:Bool} {rest:List Oper} {K:Fr->dM->Prop} {fr:Fr} {H H':dM} {d:Option Nat} {ty:TypeId} {pos:String} {after:Array Edge}
def sM.fn{g:FuncId}{as:List AV}{r:AV}(h:fg P T g as H r H')(a:mZ P T E ops rest K (fr.put d r) H'):sM P T E ops (.func (.func g) [] []) as d rest K fr H:=by
 unfold sM BL;simp only[Dn];exact h.post a
def sM.YA{g:FuncId}{b c as a:List AV}{r:AV}(e:b++as++c=a)(h:fg P T g a H r H')(f:mZ P T E ops rest K (fr.put d r) H'):sM P T E ops (.func (.func g) b c) as d rest K fr H:=by
 subst e;exact h.post f
def LA.fn{g:FuncId}{as:List AV}{r:AV}(h:fg P T g as H r H')(a:q=true->H'=H)(b:Bh P T E ops q rest K (fr.put d r) H'):LA P T E ops q (.func (.func g) [] []) as d rest K fr H:=by
 refine⟨r,H',?_,a,b⟩;unfold yt BL;simp only[Dn];exact h
@[simp] theorem acZ:mZ P T E ops [] K fr H=K fr H:=rfl
@[simp] theorem abI:Bh P T E ops q [] K fr H=K fr H:=rfl
@[simp] theorem abQ{x:Operand}:mZ P T E ops ({dst:=d,op:=.move x,type:=ty,pos:=pos,after:=after,guard:=none}::rest) K fr H=mZ P T E ops rest K (fr.put d (ev T fr x)) H:=rfl
@[simp] theorem Zj{x:Operand}:mZ P T E ops ({dst:=d,op:=.assign x,type:=ty,pos:=pos,after:=after,guard:=none}::rest) K fr H=mZ P T E ops rest K (fr.put d (ev T fr x)) H:=rfl
@[simp] theorem aa9{t:TypeId}:mZ P T E ops ({dst:=d,op:=.alloc t,type:=ty,pos:=pos,after:=after,guard:=none}::rest) K fr H=match q_ P t with|some z=>rG E d z (mZ P T E ops rest K) fr H|none=>False:=rfl
@[simp] theorem acY{t:TypeId}{x:Operand}:mZ P T E ops ({dst:=d,op:=.box t x,type:=ty,pos:=pos,after:=after,guard:=none}::rest) K fr H=(iu (ev T fr x)=true/\rG E d (ev T fr x).cells (mZ P T E ops rest K) fr H):=rfl
@[simp] theorem abK{t:TypeId}{x:Operand}:mZ P T E ops ({dst:=d,op:=.load t x,type:=ty,pos:=pos,after:=after,guard:=none}::rest) K fr H=match Ds P fr H t (ev T fr x)with|some v=>mZ P T E ops rest K (fr.put d v) H|none=>False:=rfl
@[simp] theorem aaB{t:TypeId}{x y:Operand}:mZ P T E ops ({dst:=none,op:=.store t x y,type:=ty,pos:=pos,after:=after,guard:=none}::rest) K fr H=uh P t (ev T fr x) (ev T fr y) (mZ P T E ops rest K) fr H:=by simp[mZ,LD,A9]
@[simp] theorem Wh{t n:Nat}{ps:Array (Nat×Operand)}:mZ P T E ops ({dst:=d,op:=.buildSlice t n ps,type:=ty,pos:=pos,after:=after,guard:=none}::rest) K fr H=match uL P t n (ps.toList.map λp=>(p.1,ev T fr p.2))with|some v=>Ok E d v (mZ P T E ops rest K) fr H|none=>False:=rfl
@[simp] theorem abo{E:List Nat}{d:Option Nat}{v:AV}{K:Fr->dM->Prop}{fr:Fr}{H:dM}:Ok E d v K fr H=if d.any E.contains then(match v with|.slice _ l=>K (fr.put d (.Iv H.length 0 l.length l.length)) (H++[l.flatMap AV.cells])|_=>False)else K (fr.put d v) H:=rfl
@[simp] theorem Zl{x y:Operand}{t d:Nat}:mZ P T E ops ({dst:=some d,op:=.call {callee:=.builtin .append,args:=#[x,y],argTypes:=#[t,t]},type:=ty,pos:=pos,after:=after,guard:=none}::rest) K fr H=Bf P t (ev T fr x) (ev T fr y) d (mZ P T E ops rest K) fr H:=by
 simp only[mZ,LD,A9];unfold Bf;rw[<-PF (T:=T),<-UB (T:=T),Se,kv]
@[simp] theorem abu{f:Operand}{as:Array Operand}{ts:Array TypeId}:mZ P T E ops ({dst:=d,op:=.call {callee:=.value f,args:=as,argTypes:=ts},type:=ty,pos:=pos,after:=after,guard:=none}::rest) K fr H=sM P T E ops (ev T fr f) (as.toList.map λx=>(ev T fr x).norm) d rest K fr H:=rfl
@[simp] theorem adj{as:Array Operand}{ts:Array TypeId}:mZ P T E ops ({dst:=d,op:=.call {callee:=.builtin .len,args:=as,argTypes:=ts},type:=ty,pos:=pos,after:=after,guard:=none}::rest) K fr H=match Fp P T fr {callee:=.builtin .len,args:=as,argTypes:=ts}with|some v=>mZ P T E ops rest K (fr.put d v) H|none=>False:=rfl
@[simp] theorem ab9{as:Array Operand}{ts:Array TypeId}:mZ P T E ops ({dst:=d,op:=.call {callee:=.builtin .max,args:=as,argTypes:=ts},type:=ty,pos:=pos,after:=after,guard:=none}::rest) K fr H=match Fp P T fr {callee:=.builtin .max,args:=as,argTypes:=ts}with|some v=>mZ P T E ops rest K (fr.put d v) H|none=>False:=rfl
@[simp] theorem abE{c a b:Operand}:mZ P T E ops ({dst:=d,op:=.pick c a b,type:=ty,pos:=pos,after:=after,guard:=none}::rest) K fr H=match Hx P T fr {dst:=d,op:=.pick c a b,type:=ty,pos:=pos,after:=after,guard:=none}with|some v=>mZ P T E ops rest K (fr.put d v) H|none=>False:=rfl
@[simp] theorem ZP{t:TypeId}{ps:Array (Nat×Operand)}:mZ P T E ops ({dst:=d,op:=.build t ps,type:=ty,pos:=pos,after:=after,guard:=none}::rest) K fr H=match MB P t (ps.toList.map λp=>(p.1,ev T fr p.2))with|some v=>mZ P T E ops rest K (fr.put d v) H|none=>False:=rfl
@[simp] theorem ZQ{o:BinOp}{t u:TypeId}{x y:Operand}:mZ P T E ops ({dst:=d,op:=.binOp o t x y u,type:=ty,pos:=pos,after:=after,guard:=none}::rest) K fr H=match RG P o t y (ev T fr x) (ev T fr y)with|some v=>mZ P T E ops rest K (fr.put d v) H|none=>False:=rfl
@[simp] theorem abl{o:UnOp}{t:TypeId}{x:Operand}:mZ P T E ops ({dst:=d,op:=.unOp o t x,type:=ty,pos:=pos,after:=after,guard:=none}::rest) K fr H=match unA o (ev T fr x)with|some v=>mZ P T E ops rest K (fr.put d v) H|none=>False:=rfl
@[simp] theorem X8{fn:Fn}{f c:Array Operand}:mZ P T E ops ({dst:=d,op:=.makeFunc fn f c,type:=ty,pos:=pos,after:=after,guard:=none}::rest) K fr H=mZ P T E ops rest K (fr.put d (.func fn (f.toList.map λx=>(ev T fr x).norm) (c.toList.map λx=>(ev T fr x).norm))) H:=rfl
@[simp] theorem X3{t i:Nat}{x:Operand}:mZ P T E ops ({dst:=d,op:=.fieldAddr t x i,type:=ty,pos:=pos,after:=after,guard:=none}::rest) K fr H=match Al P t (ev T fr x) i with|some v=>mZ P T E ops rest K (fr.put d v) H|none=>False:=rfl
@[simp] theorem Z0{t i:Nat}{x:Operand}:mZ P T E ops ({dst:=d,op:=.field t x i,type:=ty,pos:=pos,after:=after,guard:=none}::rest) K fr H=match Kt P t (ev T fr x) i with|some v=>mZ P T E ops rest K (fr.put d v) H|none=>False:=rfl
@[simp] theorem Wz{t:TypeId}{x i:Operand}:mZ P T E ops ({dst:=d,op:=.indexAddr t x i,type:=ty,pos:=pos,after:=after,guard:=none}::rest) K fr H=match jN P t (ev T fr x) (ev T fr i)with|some v=>mZ P T E ops rest K (fr.put d v) H|none=>False:=rfl
@[simp] theorem aaD{t:TypeId}{x:Operand}{lo hi a:Option Operand}:mZ P T E ops ({dst:=d,op:=.slice t x lo hi a,type:=ty,pos:=pos,after:=after,guard:=none}::rest) K fr H=match vp P t (ev T fr x) (lo.map (ev T fr)) (hi.map (ev T fr)) (a.map (ev T fr))with|some v=>mZ P T E ops rest K (fr.put d v) H|none=>False:=rfl
@[simp] theorem Yz{i:Nat}{x:Operand}:mZ P T E ops ({dst:=d,op:=.extract x i,type:=ty,pos:=pos,after:=after,guard:=none}::rest) K fr H=match Hx P T fr {dst:=d,op:=.extract x i,type:=ty,pos:=pos,after:=after,guard:=none}with|some v=>mZ P T E ops rest K (fr.put d v) H|none=>False:=rfl
@[simp] theorem X6{x:Operand}:mZ P T E ops ({dst:=d,op:=.nilCheck x,type:=ty,pos:=pos,after:=after,guard:=none}::rest) K fr H=match Hx P T fr {dst:=d,op:=.nilCheck x,type:=ty,pos:=pos,after:=after,guard:=none}with|some v=>mZ P T E ops rest K (fr.put d v) H|none=>False:=rfl
@[simp] theorem Yn{t:TypeId}:mZ P T E ops ({dst:=d,op:=.makeMap t none,type:=ty,pos:=pos,after:=after,guard:=none}::rest) K fr H=O2 d (mZ P T E ops rest K) fr H:=rfl
@[simp] theorem XS{t:TypeId}{x i y:Operand}:mZ P T E ops ({dst:=none,op:=.mapUpdate t x i y,type:=ty,pos:=pos,after:=after,guard:=none}::rest) K fr H=BR P t (ev T fr x) (ev T fr i) (ev T fr y) (mZ P T E ops rest K) fr H:=by simp[mZ,LD,A9]
@[simp] theorem Zi{t:TypeId}{x i y:Operand}:mZ P T E ops ({dst:=none,op:=.insert t x i y,type:=ty,pos:=pos,after:=after,guard:=none}::rest) K fr H=BR P t (ev T fr x) (ev T fr i) (ev T fr y) (mZ P T E ops rest K) fr H:=by simp[mZ,LD,A9]
@[simp] theorem ZL{t:TypeId}{x:Operand}:mZ P T E ops ({dst:=d,op:=.range t x,type:=ty,pos:=pos,after:=after,guard:=none}::rest) K fr H=OS P t (ev T fr x) d (mZ P T E ops rest K) fr H:=rfl
@[simp] theorem aaL{x:Operand}:mZ P T E ops ({dst:=d,op:=.entry x,type:=ty,pos:=pos,after:=after,guard:=none}::rest) K fr H=match MY (ev T fr x) H with|some v=>mZ P T E ops rest K (fr.put d v) H|none=>False:=rfl
@[simp] theorem VH{x:Operand}:mZ P T E ops ({dst:=d,op:=.next x false,type:=ty,pos:=pos,after:=after,guard:=none}::rest) K fr H=Rb (ev T fr x) d (mZ P T E ops rest K) fr H:=rfl
@[simp] theorem aaR{op:Op}{j:Nat}{want:Bool}:mZ P T E ops ({dst:=d,op:=op,type:=ty,pos:=pos,after:=after,guard:=some (j,want)}::rest) K fr H=match(ops[j]?).bind (·.dst)with
 |some g=>match fr.env g with
  |.sc (.bool b)=>if b=want then mZ P T E ops ({dst:=d,op:=op,type:=ty,pos:=pos,after:=after,guard:=none}::rest) K fr H else mZ P T E ops rest K (fr.put d (.tuple [])) H|.tuple _=>mZ P T E ops rest K (fr.put d (.tuple [])) H|_=>False
 |none=>False:=rfl
@[simp] theorem ZH{x:Operand}:Bh P T E ops q ({dst:=d,op:=.move x,type:=ty,pos:=pos,after:=after,guard:=none}::rest) K fr H=Bh P T E ops q rest K (fr.put d (ev T fr x)) H:=rfl
@[simp] theorem aaT{t:TypeId}{x:Operand}:Bh P T E ops q ({dst:=d,op:=.load t x,type:=ty,pos:=pos,after:=after,guard:=none}::rest) K fr H=if Ac ops.toList x (ev T fr x)&&(q||!Zw (ev T fr x))then(match Ds P fr H t (ev T fr x)with|some v=>Bh P T E ops q rest K (fr.put d v) H|none=>False)else False:=by
 simp only[Bh,uf,pk,lN,z_,YJ,QL]
 split
 ·rename_i v a
  split at a
  ·rename_i b;rw[cL b,a]
  ·cases a
 ·rename_i a
  split at a
  ·rename_i b;rw[cL b,a]
  ·rename_i b;rw[cJ b]
@[simp] theorem aah{f:Operand}{as:Array Operand}{ts:Array TypeId}:Bh P T E ops q ({dst:=d,op:=.call {callee:=.value f,args:=as,argTypes:=ts},type:=ty,pos:=pos,after:=after,guard:=none}::rest) K fr H=LA P T E ops q (ev T fr f) (as.toList.map λx=>(ev T fr x).norm) d rest K fr H:=by
 simp only[Bh,uf,pk,lN,Ys,LA]
@[simp] theorem Ze{o:BinOp}{t u:TypeId}{x y:Operand}:Bh P T E ops q ({dst:=d,op:=.binOp o t x y u,type:=ty,pos:=pos,after:=after,guard:=none}::rest) K fr H=match RG P o t y (ev T fr x) (ev T fr y)with|some v=>Bh P T E ops q rest K (fr.put d v) H|none=>False:=rfl
@[simp] theorem Wk{t i:Nat}{x:Operand}:Bh P T E ops q ({dst:=d,op:=.fieldAddr t x i,type:=ty,pos:=pos,after:=after,guard:=none}::rest) K fr H=match Al P t (ev T fr x) i with|some v=>Bh P T E ops q rest K (fr.put d v) H|none=>False:=rfl
@[simp] theorem Xc{x:Operand}:Bh P T E ops q ({dst:=d,op:=.nilCheck x,type:=ty,pos:=pos,after:=after,guard:=none}::rest) K fr H=match Hx P T fr {dst:=d,op:=.nilCheck x,type:=ty,pos:=pos,after:=after,guard:=none}with|some v=>Bh P T E ops q rest K (fr.put d v) H|none=>False:=rfl
end
@[simp] theorem Fr.adf(fr:Fr)(d:Nat)(x:AV):fr.put (some d) x={fr with env:=kQ fr.env d x}:=rfl
@[simp] theorem adM{α:Type}(f:Nat->α)(i:Nat)(x:α)(j:Nat):kQ f i x j=if j=i then x else f j:=rfl
@[simp] theorem ac1(v:Value):AV.cells (.sc v:AV)=[(.sc v:AV)]:=rfl
@[simp] theorem Y2(v:Value):iu (.sc v:AV)=true:=rfl
@[simp] theorem ac'(v:Value):AV.ra (.sc v:AV)=(.sc v:AV):=rfl
@[simp] theorem ad2(v:Value):AV.norm (.sc v:AV)=(.sc v:AV):=rfl
@[simp] theorem Yh(P:Program)(ty:TypeId)(v:Value):BJ P ty (.sc v:AV)=match jd P ty with|some (false,_)=>true|_=>false:=by
 unfold BJ;cases jd P ty with
 |none=>rfl|some p=>grind
@[simp] theorem abP(b g o c:Nat):AV.cells (.FZ b g o c:AV)=[(.FZ b g o c:AV)]:=rfl
@[simp] theorem Yf(b g o c:Nat):iu (.FZ b g o c:AV)=true:=rfl
@[simp] theorem Z6(o f:Nat):AV.cells (.gS o f:AV)=[(.gS o f:AV)]:=rfl
@[simp] theorem abA(o f:Nat):AV.norm (.gS o f:AV)=(.gS o f:AV):=rfl
@[simp] theorem Wc(P:Program)(ty:TypeId)(o f:Nat):BJ P ty (.gS o f:AV)=match jd P ty with|some (false,_)=>true|_=>false:=by
 unfold BJ;cases jd P ty with
 |none=>rfl|some p=>grind
@[simp] theorem aa_(o:Nat):AV.cells (.vu o:AV)=[(.vu o:AV)]:=rfl
@[simp] theorem X_(o:Nat):iu (.vu o:AV)=true:=rfl
@[simp] theorem aaM(o:Nat):AV.ra (.vu o:AV)=(.vu o:AV):=rfl
@[simp] theorem abw(o:Nat):AV.norm (.vu o:AV)=(.vu o:AV):=rfl
@[simp] theorem abL(o s l c:Nat):AV.cells (.Iv o s l c:AV)=[(.Iv o s l c:AV)]:=rfl
@[simp] theorem YM(o s l c:Nat):iu (.Iv o s l c:AV)=true:=rfl
@[simp] theorem abO(o s l c:Nat):AV.ra (.Iv o s l c:AV)=(.Iv o s l c:AV):=rfl
@[simp] theorem Xj{P:Program}{t:TypeId}{k:IntKind}{a:Int}{b s n c:Nat}:jN P t (.Iv b s n c) (.sc (.int k a))=match P.underlying t with
  |some (.slice e)=>match jd P e with
   |some (_,sz)=>if 0<=a/\a<(n:Int)then some (.gS b (s+a.toNat*sz))else none|none=>none
  |_=>none:=by
 unfold jN;cases P.underlying t with
 |none=>rfl|some y=>cases y<;>rfl
@[simp] theorem abv:Fe []=false:=rfl
@[simp] theorem abh(c:AV)(cs:List AV):Fe (c::cs)=c.k7:=rfl
@[simp] theorem acQ(v:Value):AV.k7 (.sc v)=true:=rfl
@[simp] theorem Zt(t:Tag)(l:List AV):AV.k7 (.slice t l)=true:=rfl
@[simp] theorem abi(f:Fn)(a c:List AV):AV.k7 (.func f a c)=true:=rfl
@[simp] theorem Y_(t:Tag)(l:List AV):AV.cells (.slice t l:AV)=[(.slice t l:AV)]:=rfl
@[simp] theorem WM(t:Tag)(l:List AV):iu (.slice t l:AV)=true:=rfl
@[simp] theorem Zu(t:Tag)(l:List AV):AV.ra (.slice t l:AV)=.slice .pw l:=rfl
@[simp] theorem ZM(t:Tag)(l:List AV):AV.norm (.slice t l:AV)=.slice .pw l:=rfl
@[simp] theorem aaO(P:Program)(ty:TypeId)(t:Tag)(l:List AV):BJ P ty (.slice t l:AV)=match jd P ty with|some (false,_)=>true|_=>false:=by
 unfold BJ;cases jd P ty with
 |none=>rfl|some p=>grind
@[simp] theorem abM(cs:List AV):AV.cells (.agg cs:AV)=cs:=rfl
@[simp] theorem YI(cs:List AV):iu (.agg cs:AV)=true:=rfl
@[simp] theorem acj(cs:List AV):AV.norm (.agg cs:AV)=.agg (cs.map AV.ra):=rfl
@[simp] theorem ET(P:Program)(ty:TypeId)(cs:List AV):BJ P ty (.agg cs)=match jd P ty with|some (true,n)=>cs.length==n|_=>false:=by
 unfold BJ;cases jd P ty with
 |none=>rfl|some p=>grind
@[simp] theorem ZX(f:Fn)(a c:List AV):AV.cells (.func f a c:AV)=[(.func f a c:AV)]:=rfl
@[simp] theorem X4(f:Fn)(a c:List AV):iu (.func f a c:AV)=true:=rfl
@[simp] theorem aal(f:Fn)(a c:List AV):AV.ra (.func f a c:AV)=(.func f a c:AV):=rfl
@[simp] theorem abz(f:Fn)(a c:List AV):AV.norm (.func f a c:AV)=(.func f a c:AV):=rfl
@[simp] theorem ZB(sz:Nat)(x:AV)(l:List AV):ui sz (x::l)=(x.cells.length==sz):=rfl
def iE(H:dM)(o:Nat)(c:List AV):dM:=H.set o c
@[simp] theorem abD{H:dM}{o:Nat}{x y:List AV}:iE (iE H o x) o y=iE H o y:=by simp[iE]
@[simp] theorem Zs{H:dM}{o:Nat}{x:List AV}:(iE H o x).length=H.length:=by simp[iE]
section
variable{P:Program} {t:TypeId} {k k':IntKind} {a b:Int} {u v:ByteArray} {p q:Bool}
@[simp] theorem adb{i:Nat}{u v:AV}{op:BinOp}:RG P op t (.tmp i) u v=wx P op t u v:=rfl
@[simp] theorem aci{i:Int}{u v:AV}{op:BinOp}:RG P op t (.const (.int k i)) u v=wx P op t u v:=rfl
@[simp] theorem adg{i:Option Addr}{u v:AV}{op:BinOp}:RG P op t (.const (.pointer i)) u v=wx P op t u v:=rfl
@[simp] theorem acw:wx P .add t (.sc (.int k a)) (.sc (.int k b))=some (.sc (.int k (ep k a b))):=by simp[wx,BO,zt,ep]
@[simp] theorem ac4:wx P .sub t (.sc (.int k a)) (.sc (.int k b))=some (.sc (.int k (eH k a b))):=by simp[wx,BO,zt,eH]
@[simp] theorem ab6:wx P .mul t (.sc (.int k a)) (.sc (.int k b))=some (.sc (.int k (HM k a b))):=by simp[wx,BO,zt,HM]
@[simp] theorem abX:wx P .rem t (.sc (.int k a)) (.sc (.int k b))=if Kb b then some (.sc (.int k (Uy k a b)))else none:=by grind[wx,BO,zt,Uy,Kb]
@[simp] theorem acV:wx P .and t (.sc (.int k a)) (.sc (.int k b))=some (.sc (.int k (pz k a b))):=by simp[wx,BO,zt,pz]
@[simp] theorem adZ:wx P .or t (.sc (.int k a)) (.sc (.int k b))=some (.sc (.int k (vw k a b))):=by simp[wx,BO,zt,vw]
@[simp] theorem acI:wx P .shl t (.sc (.int k a)) (.sc (.int k' b))=if H8 b then some (.sc (.int k (RC k a b)))else none:=by grind[wx,BO,RC,H8]
@[simp] theorem ads:wx P .shr t (.sc (.int k a)) (.sc (.int k' b))=if H8 b then some (.sc (.int k (Ss k a b)))else none:=by grind[wx,BO,Ss,H8]
@[simp] theorem acG:wx P .eql t (.sc (.int k a)) (.sc (.int k b))=some (.sc (.bool (dC a b))):=by simp[wx,BO,zt,dC]
@[simp] theorem ach:wx P .neq t (.sc (.int k a)) (.sc (.int k b))=some (.sc (.bool (dI a b))):=by simp[wx,BO,zt,dI]
@[simp] theorem ab3:wx P .lss t (.sc (.int k a)) (.sc (.int k b))=some (.sc (.bool (xT a b))):=by simp[wx,BO,zt,xT]
@[simp] theorem aco:wx P .leq t (.sc (.int k a)) (.sc (.int k b))=some (.sc (.bool (Mu a b))):=by simp[wx,BO,zt,Mu]
@[simp] theorem adn:wx P .gtr t (.sc (.int k a)) (.sc (.int k b))=some (.sc (.bool (pc a b))):=by simp[wx,BO,zt,pc]
@[simp] theorem ac8:wx P .geq t (.sc (.int k a)) (.sc (.int k b))=some (.sc (.bool (sS a b))):=by simp[wx,BO,zt,sS]
@[simp] theorem adT:unA .not (.sc (.bool p))=some (.sc (.bool (s_ p))):=by simp[unA,s_]
@[simp] theorem abF:U6 (.sc (.int k a)) (.sc (.int k' b))=some (.sc (.int k (imax a b))):=rfl
@[simp] theorem adC{α:Type}{f:α->AV}{tag:Tag}{l:List α}:Qu P t (.slice tag (l.map f))=match P.underlying t with|some (.slice _)=>some (.sc (.int .i64 (dT l)))|some (.array n _)=>some (.sc (.int .i64 n))|_=>none:=by
 unfold Qu dT;cases P.underlying t with
 |none=>rfl|some y=>grind
@[simp] theorem ack{tag:Tag}:Qu P t (.slice tag [])=match P.underlying t with|some (.slice _)=>some (.sc (.int .i64 0))|some (.array n _)=>some (.sc (.int .i64 n))|_=>none:=by
 unfold Qu;cases P.underlying t with
 |none=>rfl|some y=>grind
@[simp] theorem Xo{α:Type}{f:α->AV}{tag:Tag}{l:List α}:jN P t (.slice tag (l.map f)) (.sc (.int k a))=match P.underlying t with
  |some (.slice e)=>match du l a,jd P e with
   |some x,some (_,sz)=>if(f x).cells.length=sz then some (.tB (f x))else none|_,_=>none
  |_=>none:=by
 unfold jN du;cases P.underlying t with
 |none=>rfl|some y=>
  cases y<;>try rfl
  rename_i e;simp only[x_]
  by_cases h:0<=a
  ·rw[cL h,cL h];cases l[a.toNat]?with
   |none=>rfl|some x=>cases jd P e<;>rfl
  ·rw[cJ h,cJ h]
def O'{α:Type}{f:α->AV}{L:List α}{n e:Nat}(hu:P.underlying t=some (.array n e))(b:jd P e=some (false,1))(hn:L.length=n):jN P t (.tB (.agg (L.map f))) (.sc (.int k a))=(du L a).map λx=>.tB (f x):=by
 unfold jN du
 grind[tH,AV.cells]
end
attribute [simp] ev ofValue zp J_ rG O2 Ds tH Al Kt MB Nf uL setCells Md Rf Fp Hx
 Ac ME rootOf Zw isL Uc QG Ej PC
@[simp] theorem Zp{P:Program}{t:TypeId}{b g off:Nat}{v:AV}{K:Fr->dM->Prop}{fr:Fr}{H:dM}:uh P t (.mD b g off) v K fr H=match jd P t with
  |none=>False|some (_,n)=>match fr.box b with
   |some cs=>g=fr.gen b/\v.cells.length=n/\off+n<=cs.length/\iu v=true/\K {fr with box:=kQ fr.box b (some (setCells cs off v.cells))} H|none=>False:=by
 unfold uh;cases jd P t with
 |none=>rfl|some p=>rfl
@[simp] theorem YV{P:Program}{t:TypeId}{o off:Nat}{v:AV}{K:Fr->dM->Prop}{fr:Fr}{H:dM}:uh P t (.gS o off) v K fr H=match jd P t with
  |none=>False|some (_,n)=>match H[o]?with
   |some cs=>Fe cs=true/\v.cells.length=n/\off+n<=cs.length/\iu v=true/\K fr (H.set o (setCells cs off v.norm.cells))|none=>False:=by
 unfold uh;cases jd P t with
 |none=>rfl|some p=>rfl
def jF.TC{P:Program}{T:fx}{n:Nat}{Q:Exit->Fr->dM->Prop}{fr:Fr}{H:dM}{c:Code}(I:Nat->Fr->dM->Prop)(m:Nat)(b:I m fr H)
  (d:∀m fr H,I m fr H->∀K:Fr->dM->Prop,(∀fr' H' a,a<m->I a fr' H'->K fr' H')->jF P T n c (PC K Q) fr H):jF P T n (.loop c) Q fr H:=by
 refine jF.loop ?_
 have key:∀k fr H,I k fr H->ALp P T n c Q fr H:=by
  intro k
  induction k using Nat.strongRecOn with
  |_ k e=>grind[ALp.round,jF.mono]
 grind
def So(v:AV)(A B:Prop):Prop:=match v with|.sc (.bool t)=>if t then A else B|_=>False
@[simp] theorem Y7(t:Bool)(A B:Prop):So (.sc (.bool t)) A B=if t then A else B:=rfl
section
variable{P:Program} {T:fx} {n:Nat} {Q:Exit->Fr->dM->Prop} {fr:Fr} {H:dM}
def jF.Cq{c:Operand}{x y:Code}
  (h:∀A B:Fr->dM->Prop,(∀fr H,jF P T n x Q fr H->A fr H)->(∀fr H,jF P T n y Q fr H->B fr H)->So (ev T fr c) (A fr H) (B fr H)) (b:oX c=true:=by rfl):jF P T n (.cond c x y) Q fr H:=by
 have a:=h (jF P T n x Q) (jF P T n y Q) (λ_ _ h=>h) (λ_ _ h=>h);generalize d:ev T fr c=v at a;cases v with
 |sc w=>
  cases w with
  |bool t=>
   refine jF.cond d b (λe=>?_) (λe=>?_)
   all_goals simp_all
  |_=>exact a.elim
 |_=>exact a.elim
def jF.sr{id:Nat}{ops:Array Oper}{y:Code}(E:List Nat)(h:∀K:Fr->dM->Prop,(∀fr H,jF P T n y Q fr H->K fr H)->mZ P T E ops ops.toList K fr H)(a:HO n ops=true:=by decide+kernel):jF P T n (.seq (.region id ops false) y) Q fr H:=
 jF.Dh λK b=>jF.region E a (h K b)
def jF.ace{x y:Code}(R:Fr->dM->Prop)(b:∀K:Fr->dM->Prop,(∀fr H,R fr H->K fr H)->jF P T n x (PC K Q) fr H)(c:∀fr H,R fr H->jF P T n y Q fr H):jF P T n (.seq x y) Q fr H:=
 jF.seq ((b R λ_ _ h=>h).mono λe fr' H' a=>by cases e<;>first|exact c _ _ a|exact a)
end
@[simp] theorem range_one:List.range 1=[0]:=rfl
@[simp] theorem abS:List.range 2=[0,1]:=rfl
@[simp] theorem ab1:List.range 3=[0,1,2]:=rfl
section
variable{P:Program} {t e sz:Nat} {bl:Bool} {tag:Tag} {α:Type} {k k' k2:IntKind} {a b:Int} {u:ByteArray}
def Vc(h:0<=a):pA (some (.sc (.int k a)))=some (some a.toNat):=by simp[pA,h]
theorem UZ(h:¬0<=a):pA (some (.sc (.int k a)))=none:=by simp[pA,h]
theorem RZ{x:AV}{lo hi:Option AV}(h:pA lo=none):vp P t x lo hi none=none:=by unfold vp;rw[h]
def RV{x:AV}{lo hi:Option AV}{lo':Option Nat}(a:pA lo=some lo')(h:pA hi=none):vp P t x lo hi none=none:=by unfold vp;rw[a,h]
def Ng{lo hi:Option AV}{lo' hi':Option Nat}(a:pA lo=some lo')(b:pA hi=some hi')(f:α->AV)(l:List α)(hu:P.underlying t=some (.slice e))(c:jd P e=some (bl,sz))(d:∀x,(f x).cells.length=sz):vp P t (.slice tag (l.map f)) lo hi none=if hi'.getD l.length<=l.length/\lo'.getD 0<=hi'.getD l.length then some (.slice .pw (((l.take (hi'.getD l.length)).drop (lo'.getD 0)).map f))else none:=by
 have h:ui sz (l.map f)=true:=by
  cases l with
  |nil=>rfl|cons x l=>simp_all
 unfold vp;rw[a,b];simp only[pA,hu,c,h];simp
def T4(f:α->AV)(l:List α)(hu:P.underlying t=some (.slice e))(b:jd P e=some (bl,sz))(c:∀x,(f x).cells.length=sz):vp P t (.slice tag (l.map f)) (some (.sc (.int k a))) none none=(wO l a (dT l)).map λr=>.slice .pw (r.map f):=by
 unfold wO dT
 by_cases d:0<=a
 ·rw[Ng (Vc d) (hi:=none) (hi':=none) rfl f l hu b c]
  grind
 ·grind[RZ,UZ]
def T1(f:α->AV)(l:List α)(hu:P.underlying t=some (.slice e))(c:jd P e=some (bl,sz))(d:∀x,(f x).cells.length=sz):vp P t (.slice tag (l.map f)) none (some (.sc (.int k b))) none=(wO l 0 b).map λr=>.slice .pw (r.map f):=by
 unfold wO
 by_cases a:0<=b
 ·rw[Ng (lo:=none) (lo':=none) rfl (Vc a) f l hu c d]
  grind
 ·rw[RV (lo:=none) (lo':=none) rfl (UZ a),cJ (λh=>a h.2.1)];rfl
end
def HF{P:Program}{t e sz:Nat}{b:Bool}{tag:Tag}{α:Type}(f:α->AV)(l:List α)(hu:P.underlying t=some (.slice e))(a:jd P e=some (b,sz))(c:∀x,(f x).cells.length=sz):vp P t (.slice tag (l.map f)) none (some (.sc (.int .i64 (Go.eD.dT l)))) (some (.sc (.int .i64 (Go.eD.dT l))))=some (.slice .full (l.map f)):=by
 have h:ui sz (l.map f)=true:=by
  cases l with
  |nil=>rfl|cons x l=>simp_all
 simp[vp,pA,hu,a,h,Go.eD.dT,<-List.map_take]
def B3{α:Type}(f:α->AV)(l:List (Int×α)):AV:=.Dd (l.map λp=>Value.int .i64 p.1) (l.map λp=>f p.2)
@[simp] theorem acr{α:Type}(f:α->AV):B3 f []=.Dd [] []:=rfl
def WZ{α:Type}(l:List (Int×α))(k:Int):mapIdx (l.map λp=>Value.int .i64 p.1) (.int .i64 k)=l.findIdx? (λp=>p.1==k):=by
 unfold mapIdx;rw[List.findIdx?_map];rfl
def Vr{α:Type}(l:List (Int×α)):(l.map λp=>Value.int .i64 p.1).all (P7 (.int .i64))=true:=by
 rw[gR];intro x a;obtain⟨p,_,rfl⟩:=nj.1 a;rfl
def S_{α:Type}(f:α->AV):∀(l:List (Int×α)) (k:Int) (y:α),Mv (l.map λp=>Value.int .i64 p.1) (l.map λp=>f p.2) (.int .i64 k) (f y)=B3 f (qS l k y)
 |[],k,y=>rfl|p::l,k,y=>by
  have a:=S_ f l k y;unfold Mv at a|-;rw[WZ] at a|-;rw[aar];unfold qS
  by_cases h:p.1=k
  ·grind[B3]
  ·rw[cJ (by simpa using h),cJ h];cases hi:l.findIdx? (λp=>p.1==k)with
   |none=>
    rw[hi] at a;simp only[B3,AV.Dd.injEq] at a;simp[B3,<-a.1,<-a.2]
   |some j=>
    rw[hi] at a;simp only[B3,AV.Dd.injEq] at a;simp[B3,<-a.1,<-a.2]
section
variable{P:Program} {t kt e:TypeId} {o:Nat} {k:Int} {α:Type} {f:α->AV} {d:Option Nat} {K:Fr->dM->Prop} {fr:Fr} {H:dM}
def CO.i64(l:List (Int×α))(y:α){v:AV}(hu:P.underlying t=some (.map kt e))(a:P.underlying kt=some (.int .i64))(b:H[o]?=some [B3 f l])(c:v.norm=f y)(d:K fr (iE H o [B3 f (qS l k y)])):BR P t (.vu o) (.sc (.int .i64 k)) v K fr H:=by
 unfold BR;simp only[hu,a,b];refine⟨rfl,Vr l,?_⟩;rw[c,S_];exact d
end
end Go.tq
